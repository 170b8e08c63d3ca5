/- The layer of abstract runs, part 40. -/
import Derived.Test.YtonnakcgopcfnaaDoorJilZM
set_option linter.unusedSimpArgs false
set_option linter.unusedVariables false
set_option linter.all false

/- The domain of variables; covers, by tables. -/
namespace Go.AI
set_option maxRecDepth 20000
theorem inV_len : ∀ {l : List Vr} {v : List Int}, inV l v → v.length = l.length
  | [], [], _ => rfl
  | _ :: r, _ :: xs, h => by simp [inV_len h.2]
  | [], _ :: _, h => h.elim
  | _ :: _, [], h => h.elim
theorem inV_app : ∀ {l : List Vr} {v : List Int} {a : Vr} {n : Int}, v.length = l.length → (inV (l ++ [a]) (v ++ [n]) ↔ inV l v ∧ a.low ≤ n ∧ n ≤ a.high)
  | [], [], a, n, _ => by simp [inV]
  | b :: r, x :: xs, a, n, e => by
    have := inV_app (l := r) (v := xs) (a := a) (n := n) (by simpa using e)
    simp only [List.cons_append, inV, this]
    constructor
    · rintro ⟨h1, h2, h3⟩; exact ⟨⟨h1, h2⟩, h3⟩
    · rintro ⟨⟨h1, h2⟩, h3⟩; exact ⟨h1, h2, h3⟩
  | [], _ :: _, _, _, e => by cases e
  | _ :: _, [], _, _, e => by cases e
theorem mem_range {lo hi n : Int} : n ∈ rangeI lo hi ↔ lo ≤ n ∧ n ≤ hi := by
  unfold rangeI
  simp only [List.mem_map, List.mem_range]
  constructor
  · rintro ⟨k, hk, rfl⟩; omega
  · intro h; exact ⟨(n - lo).toNat, by omega, by omega⟩
theorem range_nodup (lo hi : Int) : (rangeI lo hi).Nodup := by
  unfold rangeI
  refine List.Pairwise.map _ ?_ List.nodup_range
  intro a b h e
  exact h (by omega)
/-- A list of values is the domain of variables. -/
structure DomOk (l : List Vr) (out : List (List Int)) : Prop where
  mem : ∀ v, v ∈ out ↔ inV l v
  nd : out.Nodup
theorem dom_step {l : List Vr} {out : List (List Int)} {a : Vr} (h : DomOk l out) : DomOk (l ++ [a]) (allStep out a) := by
  refine ⟨fun v => ?_, ?_⟩
  · unfold allStep
    simp only [List.mem_flatMap, List.mem_map]
    constructor
    · rintro ⟨w, hw, n, hn, rfl⟩
      have := (h.mem w).1 hw
      exact (inV_app (inV_len this)).2 ⟨this, mem_range.1 hn⟩
    · intro hv
      have hl := inV_len hv
      have hne : v ≠ [] := by intro e; subst e; simp at hl
      have e := List.dropLast_concat_getLast hne
      have hl2 : v.dropLast.length = l.length := by simp at hl ⊢; omega
      rw [← e] at hv
      obtain ⟨h1, h2⟩ := (inV_app hl2).1 hv
      exact ⟨_, (h.mem _).2 h1, _, mem_range.2 h2, e⟩
  · unfold allStep
    rw [List.nodup_iff_pairwise_ne, List.pairwise_flatMap]
    refine ⟨fun v _ => ?_, ?_⟩
    · refine List.Pairwise.map _ ?_ (List.nodup_iff_pairwise_ne.1 (range_nodup a.low a.high))
      intro x y hxy e
      exact hxy (by simpa using e)
    · refine List.Pairwise.imp ?_ (List.nodup_iff_pairwise_ne.1 h.nd)
      intro x y hxy u hu w hw e
      obtain ⟨n, _, rfl⟩ := List.mem_map.1 hu
      obtain ⟨k, _, rfl⟩ := List.mem_map.1 hw
      exact hxy (List.append_inj_left' e rfl)
theorem dom_fold : ∀ (r l : List Vr) (out : List (List Int)), DomOk l out → DomOk (l ++ r) (r.foldl allStep out)
  | [], l, out, h => by simpa using h
  | a :: r, l, out, h => by
    have := dom_fold r (l ++ [a]) (allStep out a) (dom_step h)
    simpa using this
theorem allV_dom (l : List Vr) : DomOk l (allV l) := by
  have := dom_fold l [] [[]] ⟨fun v => ?_, by simp⟩
  · simpa [allV] using this
  · cases v <;> simp [inV]
/-! Tables. -/
theorem neededR_mem : ∀ {all : List (List Int)} {t c : List Bool} {v : List Int}, v ∈ neededR all t c → ∃ i : Nat, all[i]? = some v ∧ t[i]? = some true ∧ c[i]? = some true
  | [], _, _, _, h => by simp [neededR] at h
  | d :: ds, [], _, _, h => by simp [neededR] at h
  | d :: ds, t :: ts, [], _, h => by simp [neededR] at h
  | d :: ds, t :: ts, c :: cs, v, h => by
    simp only [neededR] at h
    split at h
    · rename_i hc
      simp only [Bool.and_eq_true] at hc
      rcases List.mem_cons.1 h with rfl | h
      · exact ⟨0, rfl, by simp [hc.2], by simp [hc.1]⟩
      · obtain ⟨i, h1, h2, h3⟩ := neededR_mem h
        exact ⟨i + 1, by simpa using h1, by simpa using h2, by simpa using h3⟩
    · obtain ⟨i, h1, h2, h3⟩ := neededR_mem h
      exact ⟨i + 1, by simpa using h1, by simpa using h2, by simpa using h3⟩
theorem mem_neededR : ∀ {all : List (List Int)} {t c : List Bool} {v : List Int} {i : Nat}, all[i]? = some v → t[i]? = some true → c[i]? = some true → v ∈ neededR all t c
  | d :: ds, t :: ts, c :: cs, v, 0, h1, h2, h3 => by
    simp only [List.getElem?_cons_zero, Option.some.injEq] at h1 h2 h3
    subst h1 h2 h3
    simp [neededR]
  | d :: ds, t :: ts, c :: cs, v, i + 1, h1, h2, h3 => by
    have := mem_neededR (all := ds) (t := ts) (c := cs) (by simpa using h1) (by simpa using h2) (by simpa using h3)
    simp only [neededR]
    split
    · simp [this]
    · exact this
  | [], _, _, _, i, h1, _, _ => by simp at h1
  | _ :: _, [], _, _, i, _, h2, _ => by simp at h2
  | _ :: _, _ :: _, [], _, i, _, _, h3 => by simp at h3
theorem refusedR_mem : ∀ {all : List (List Int)} {t c : List Bool} {v : List Int}, v ∈ refusedR all t c → ∃ i : Nat, all[i]? = some v ∧ t[i]? = some false ∧ c[i]? = some true
  | [], _, _, _, h => by simp [refusedR] at h
  | d :: ds, [], _, _, h => by simp [refusedR] at h
  | d :: ds, t :: ts, [], _, h => by simp [refusedR] at h
  | d :: ds, t :: ts, c :: cs, v, h => by
    simp only [refusedR] at h
    split at h
    · rename_i hc
      simp only [Bool.and_eq_true, Bool.not_eq_true'] at hc
      rcases List.mem_cons.1 h with rfl | h
      · exact ⟨0, rfl, by simp [hc.2], by simp [hc.1]⟩
      · obtain ⟨i, h1, h2, h3⟩ := refusedR_mem h
        exact ⟨i + 1, by simpa using h1, by simpa using h2, by simpa using h3⟩
    · obtain ⟨i, h1, h2, h3⟩ := refusedR_mem h
      exact ⟨i + 1, by simpa using h1, by simpa using h2, by simpa using h3⟩
theorem mem_refusedR : ∀ {all : List (List Int)} {t c : List Bool} {v : List Int} {i : Nat}, all[i]? = some v → t[i]? = some false → c[i]? = some true → v ∈ refusedR all t c
  | d :: ds, t :: ts, c :: cs, v, 0, h1, h2, h3 => by
    simp only [List.getElem?_cons_zero, Option.some.injEq] at h1 h2 h3
    subst h1 h2 h3
    simp [refusedR]
  | d :: ds, t :: ts, c :: cs, v, i + 1, h1, h2, h3 => by
    have := mem_refusedR (all := ds) (t := ts) (c := cs) (by simpa using h1) (by simpa using h2) (by simpa using h3)
    simp only [refusedR]
    split
    · simp [this]
    · exact this
  | [], _, _, _, i, h1, _, _ => by simp at h1
  | _ :: _, [], _, _, i, _, h2, _ => by simp at h2
  | _ :: _, _ :: _, [], _, i, _, _, h3 => by simp at h3
theorem nodup_idx {α : Type} {l : List α} (h : l.Nodup) {i j : Nat} {v : α} (hi : l[i]? = some v) (hj : l[j]? = some v) : i = j := by
  obtain ⟨h1, e1⟩ := List.getElem?_eq_some_iff.1 hi
  obtain ⟨h2, e2⟩ := List.getElem?_eq_some_iff.1 hj
  exact (List.getElem_inj h).1 (e1.trans e2.symm)
/-- What the cover of a table over a domain is. -/
structure CovR (l : List Vr) (all : List (List Int)) (t c : List Bool) (R : List Bx) : Prop where
  low : ∀ b ∈ R, b.low.length = l.length
  high : ∀ b ∈ R, b.high.length = l.length
  say : ∀ (i : Nat) v b, all[i]? = some v → t[i]? = some b → c[i]? = some true → inBs R v = b
  own : ∀ k1 b k2, R = k1 ++ b :: k2 → ∃ (i : Nat) (v : List Int), all[i]? = some v ∧ c[i]? = some true ∧ b.has v = true ∧ inBs (k1 ++ k2) v = false
theorem coverR_ok {l : List Vr} {all : List (List Int)} {t c : List Bool} (hd : DomOk l all) : CovR l all t c (coverR l all t c) := by
  have hn : ∀ v ∈ neededR all t c, v.length = l.length ∧ freeR (refusedR all t c) ⟨v, v⟩ = true := by
    intro v hv
    obtain ⟨i, h1, h2, h3⟩ := neededR_mem hv
    have hin := (hd.mem v).1 (List.mem_of_getElem? h1)
    refine ⟨inV_len hin, ?_⟩
    unfold freeR
    cases hb : (refusedR all t c).any (Bx.mk v v).has with
    | false => rfl
    | true =>
      obtain ⟨w, hw, hh⟩ := List.any_eq_true.1 hb
      obtain ⟨j, g1, g2, g3⟩ := refusedR_mem hw
      have hw2 := (hd.mem w).1 (List.mem_of_getElem? g1)
      have e : w = v := contB_eq (by rw [inV_len hin, inV_len hw2]) hh
      subst e
      have := nodup_idx hd.nd h1 g1
      subst this
      rw [h2] at g2
      cases g2
  have h0 : CovOk l.length (refusedR all t c) [] := ⟨by simp, by simp, by simp⟩
  have h1 := coverL_ok (vars := l) hn h0
  have h2 := thin_ok (kept := []) (needed := neededR all t c) (by simpa using h1)
  have h3 := thin_covers (kept := []) (needed := neededR all t c) (rest := coverL (freeR (refusedR all t c)) l (neededR all t c) []) (by simpa using coverL_has (freeR (refusedR all t c)) l (needed := neededR all t c) (l := []))
  have h4 : Own1 (neededR all t c) (coverR l all t c) [] := thin_own (kept := []) fun k1 b k2 e => by simp at e
  refine ⟨h2.low, h2.high, fun i v b e1 e2 e3 => ?_, fun k1 b k2 e => ?_⟩
  · cases b with
    | true => exact h3 v (mem_neededR e1 e2 e3)
    | false =>
      cases hb : inBs (coverR l all t c) v with
      | false => rfl
      | true =>
        obtain ⟨b, hb1, hb2⟩ := List.any_eq_true.1 hb
        have := h2.free b hb1
        unfold freeR at this
        simp only [Bool.not_eq_true'] at this
        rw [List.any_eq_false] at this
        exact absurd hb2 (this v (mem_refusedR e1 e2 e3))
  · obtain ⟨v, hv, g1, g2⟩ := h4 k1 b k2 e
    obtain ⟨i, e1, e2, e3⟩ := neededR_mem hv
    exact ⟨i, v, e1, e3, g1, by simpa using g2⟩
end Go.AI


/- All, of any list of variables. -/
namespace Go.AI
open Go.Proofs
set_option maxRecDepth 20000
def Vr.w (v : Vr) : Int := v.high - v.low + 1
/-- The size of a domain, unless it is too large. -/
def cntR : List Vr → Int → Option Int
  | [], c => some c
  | v :: r, c => if c * v.w > 4096 then none else cntR r (c * v.w)
/-- All values, or the error. -/
def allG (l : List Vr) : List (List Int) × Int := if varsErr l ≠ 0 then ([], varsErr l) else match cntR l 1 with
  | none => ([], 3)
  | some _ => (allV l, 0)
theorem allStep_len' (out : List (List Int)) (v : Vr) (hw : v.low ≤ v.high) : ((allStep out v).length : Int) = out.length * v.w := by
  unfold allStep Vr.w
  induction out with
  | nil => simp
  | cons x r ih =>
    simp only [List.flatMap_cons, List.length_append, List.length_map, List.length_cons, Int.natCast_add, ih]
    have : (rangeI v.low v.high).length = (v.high - v.low + 1).toNat := by simp [rangeI]
    rw [this, Int.add_mul]
    omega
theorem cntR_len : ∀ {l : List Vr} {c : Int} {d : Int} {out : List (List Int)}, (∀ v ∈ l, v.low ≤ v.high) → cntR l c = some d → c ≤ 4096 → (out.length : Int) = c → ∀ j, ((l.take j).foldl allStep out).length ≤ 4096
  | [], c, d, out, _, h, hc, ho, j => by simp; omega
  | v :: r, c, d, out, hv, h, hc, ho, 0 => by simp; omega
  | v :: r, c, d, out, hv, h, hc, ho, j + 1 => by
    simp only [cntR] at h
    split at h
    · cases h
    · rename_i h2
      simp only [List.take_succ_cons, List.foldl_cons]
      refine cntR_len (fun w hw => hv w (by simp [hw])) h (by omega) ?_ j
      rw [allStep_len' out v (hv v (by simp)), ho]
theorem allG30 (O : List Heap) (l : List Vr) (hl : l.length ≤ max63) (hn : ∀ v ∈ l, v.name.size ≤ max63) : ASpec Tryd.prog 30 [vrs l] O (.tup [intss (allG l).1, ii (allG l).2]) [] O := by
  have hc := fun O => checkVars56' O l hl hn
  generalize hR : allG l = R
  unfold allG at hR
  refine aspec_stop [12, 200064] Tk Tryd.func30 rfl Tryd.call30 Tryd.ntmps30 (Nat.le_of_ble_eq_true rfl) fun E => ?_
  refine g_run Tk Tryd.func30 ?_
  first | refine g_call Tk Tryd.func30 (hc _) rfl rfl rfl rfl rfl ?_ | refine s_callq Tk (fun _ => hc _) rfl rfl rfl ?_
  first | refine g_cnd Tk Tryd.func30 rfl (fun h0 => ?_) (fun h0 => ?_) | refine g_know Tk Tryd.func30 rfl (fun h0 => ?_) (fun h0 => ?_) | refine s_know Tk (fun h0 => ?_) (fun h0 => ?_)
  · have h0 := bneT h0
    rw [if_pos h0] at hR
    subst hR
    refine g_ret_co Tk (r := _) rfl rfl rfl trivial rfl rfl ?_
    repeat' (first | refine coD_tup ?_ | refine coD_agg ?_ | refine coD_i ?_ | refine CoDL.cons ?_ ?_ | exact CoDL.nil | exact coI_nil | refine coI_sl ?_ | refine CoLL.cons ?_ ?_ | exact CoLL.nil | refine CoL.cons ?_ ?_ | exact CoL.nil | exact CoI.refl _ | exact CoL.refl _ | exact CoLL.refl _ | exact CoDL.refl _ | exact CoD.refl _)
  have he : varsErr l = 0 := bneF h0
  rw [if_neg (by simpa using he)] at hR
  have hv := vars_ok he
  have h16 := vars_len he
  clear hc h0
  refine g_loop ?_
  refine rch_loop2 (fun x : Nat × Int => [(0, vrs l), (5, ii x.2), (20, vrs l), (21, ii l.length), (22, ii x.1)]) (fun _ => []) (fun _ => O) 70
    (fun x => x.1 ≤ l.length ∧ 1 ≤ x.2 ∧ x.2 ≤ 4096 ∧ cntR l 1 = cntR (l.drop x.1) x.2) (fun x => l.length - x.1) (0, 1) ⟨Nat.zero_le _, by decide, by decide, rfl⟩ ⟨rfl, rfl, rfl, rfl, rfl, trivial⟩ rfl trivial rfl rfl ?_
  rintro ⟨j, c⟩ ⟨hj, hc1, hc2, hcn⟩ ih
  simp only at hj hc1 hc2 hcn
  refine g_run Tk Tryd.func30 ?_
  first | refine g_cnd Tk Tryd.func30 rfl (fun g1 => ?_) (fun g1 => ?_) | refine g_know Tk Tryd.func30 rfl (fun g1 => ?_) (fun g1 => ?_) | refine s_know Tk (fun g1 => ?_) (fun g1 => ?_)
  · have h1 : j < l.length := by simpa using g1
    clear g1
    have hg : (l.map vrI)[(j : Int).toNat]? = some (vrI l[j]) := get_mapZ h1
    have hvo := hv _ (List.getElem_mem h1)
    have hd : l.drop j = l[j] :: l.drop (j + 1) := List.drop_eq_getElem_cons h1
    rw [hd] at hcn
    simp only [cntR] at hcn
    generalize l[j] = v at *
    obtain ⟨⟨hlo, hhi⟩, hi1, hi2⟩ := hvo
    have hww : IntKind.i64.wrap (IntKind.i64.wrap (v.high - v.low) + 1) = v.w := by
      unfold Vr.w
      rw [w64 (n := v.high - v.low) (by omega) (by omega), w64 (by omega) (by omega)]
    have hwb : 1 ≤ v.w ∧ v.w ≤ 131073 := by unfold Vr.w; omega
    have hcw : 1 ≤ c * v.w ∧ c * v.w ≤ 4096 * 131073 := ⟨by have := Int.mul_le_mul hc1 hwb.1 (by decide) (by omega); omega, Int.mul_le_mul hc2 hwb.2 (by omega) (by decide)⟩
    have hcc : IntKind.i64.wrap (c * IntKind.i64.wrap (IntKind.i64.wrap (v.high - v.low) + 1)) = c * v.w := by
      rw [hww, w64 (by omega) (by omega)]
    first | refine g_need Tk Tryd.func30 (by exact ⟨by omega, by show (j : Int) < (l.length : Int); omega⟩) ?_ | refine s_need Tk (by exact ⟨by omega, by show (j : Int) < (l.length : Int); omega⟩) ?_
    first | refine g_elem Tk Tryd.func30 (hg) ?_ | refine s_elem Tk (hg) ?_
    first | refine g_cnd Tk Tryd.func30 rfl (fun h2 => ?_) (fun h2 => ?_) | refine g_know Tk Tryd.func30 rfl (fun h2 => ?_) (fun h2 => ?_) | refine s_know Tk (fun h2 => ?_) (fun h2 => ?_)
    · have h2 : 4096 < IntKind.i64.wrap (c * IntKind.i64.wrap (IntKind.i64.wrap (v.high - v.low) + 1)) := of_decide_eq_true h2
      rw [hcc] at h2
      rw [if_pos (by omega)] at hcn
      rw [hcn] at hR
      subst hR
      refine g_ret_co Tk (r := _) rfl rfl rfl trivial rfl rfl ?_
      repeat' (first | refine coD_tup ?_ | refine coD_agg ?_ | refine coD_i ?_ | refine CoDL.cons ?_ ?_ | exact CoDL.nil | exact coI_nil | refine coI_sl ?_ | refine CoLL.cons ?_ ?_ | exact CoLL.nil | refine CoL.cons ?_ ?_ | exact CoL.nil | exact CoI.refl _ | exact CoL.refl _ | exact CoLL.refl _ | exact CoDL.refl _ | exact CoD.refl _)
    have h2 : ¬ 4096 < IntKind.i64.wrap (c * IntKind.i64.wrap (IntKind.i64.wrap (v.high - v.low) + 1)) := of_decide_eq_false h2
    rw [hcc] at h2
    rw [if_neg (by omega)] at hcn
    refine g_loop ?_
    refine ih (j + 1, c * v.w) _ _ ⟨h1, hcw.1, by simp only; omega, hcn⟩ (by simp only; omega) ⟨rfl, congrArg ii hcc, rfl, rfl, congrArg ii (wsucc (n := 16) (by omega) (by decide)), trivial⟩ rfl trivial rfl rfl
  · have h1 : l.length ≤ j := by simpa using g1
    rw [List.drop_eq_nil_of_le h1] at hcn
    simp only [cntR] at hcn
    rw [hcn] at hR
    have hlh : ∀ v ∈ l, v.low ≤ v.high := fun v h => by have := hv v h; omega
    have hcl : ∀ j, (allV (l.take j)).length ≤ 4096 := cntR_len hlh hcn (by decide) (out := [[]]) rfl
    subst hR
    clear ih hc1 hc2 g1 h1 hj hcn
    refine g_stop ?_
    refine g_run Tk Tryd.func30 ?_
    refine g_go Tk Tryd.func30 ?_
    refine g_loop ?_
    have hco : CoD (.i (.sl 1 1 [[.v (.slice none 0 0)]])) (intss [[]]) := by
      show CoD _ (.i (.sl 1 1 [[.sl 1 0 []]]))
      repeat' (first | refine coD_tup ?_ | refine coD_agg ?_ | refine coD_i ?_ | refine CoDL.cons ?_ ?_ | exact CoDL.nil | exact coI_nil | refine coI_sl ?_ | refine CoLL.cons ?_ ?_ | exact CoLL.nil | refine CoL.cons ?_ ?_ | exact CoL.nil | exact CoI.refl _ | exact CoL.refl _ | exact CoLL.refl _ | exact CoDL.refl _ | exact CoD.refl _)
    refine rch_wk (wk_freeze 37 rfl rfl) ?_
    refine rch_wk (wk_imm rfl) ?_
    refine rch_wk (wk_co 8 (d := intss [[]]) (by exact hco)) ?_
    refine rch_loop2 (fun x : Nat × List (List Int) => [(0, vrs l), (8, intss x.2), (38, vrs l), (39, ii l.length), (40, ii x.1)]) (fun _ => []) (fun _ => O) 70
      (fun x => x.1 ≤ l.length ∧ x.2 = allV (l.take x.1) ∧ ∀ y ∈ x.2, y.length = x.1) (fun x => l.length - x.1) (0, [[]]) ⟨Nat.zero_le _, rfl, by simp⟩ ⟨rfl, rfl, rfl, rfl, rfl, trivial⟩ rfl trivial rfl rfl ?_
    rintro ⟨j, out⟩ ⟨hj, hout, hvals⟩ ih
    clear hco
    simp only at hj hout hvals
    have hlen : out.length ≤ 4096 := by rw [hout]; exact hcl j
    refine g_run Tk Tryd.func30 ?_
    first | refine g_cnd Tk Tryd.func30 rfl (fun g1 => ?_) (fun g1 => ?_) | refine g_know Tk Tryd.func30 rfl (fun g1 => ?_) (fun g1 => ?_) | refine s_know Tk (fun g1 => ?_) (fun g1 => ?_)
    · have h1 : j < l.length := by simpa using g1
      clear g1
      have hg : (l.map vrI)[(j : Int).toNat]? = some (vrI l[j]) := get_mapZ h1
      have hvo := hv _ (List.getElem_mem h1)
      have hnext : allStep out l[j] = allV (l.take (j + 1)) := by
        rw [hout]
        unfold allV
        rw [List.take_add_one, List.getElem?_eq_getElem h1, List.foldl_append]
        rfl
      have hsl : (allStep out l[j]).length ≤ 4096 := by rw [hnext]; exact hcl (j + 1)
      generalize l[j] = v at *
      obtain ⟨⟨hlo, hhi⟩, hi1, hi2⟩ := hvo
      have hpre : ∀ i, (allStep (out.take i) v).length ≤ 4096 := fun i => by
        have h1 := allStep_len' out v (by omega)
        have h2 := allStep_len' (out.take i) v (by omega)
        have h3 : (out.take i).length ≤ out.length := by simp only [List.length_take]; omega
        have h4 : ((out.take i).length : Int) * v.w ≤ out.length * v.w := Int.mul_le_mul_of_nonneg_right (by omega) (by unfold Vr.w; omega)
        omega
      have hsv := allStep_vals (out := out) (v := v) hvals
      first | refine g_need Tk Tryd.func30 (by exact ⟨by omega, by show (j : Int) < (l.length : Int); omega⟩) ?_ | refine s_need Tk (by exact ⟨by omega, by show (j : Int) < (l.length : Int); omega⟩) ?_
      first | refine g_elem Tk Tryd.func30 (hg) ?_ | refine s_elem Tk (hg) ?_
      refine g_loop ?_
      refine rch_wk (wk_nil 11 65 53 1 rfl rfl rfl) ?_
      refine rch_loop2 (fun x : Nat × List (List Int) => [(0, vrs l), (8, intss out), (38, vrs l), (39, ii l.length), (40, ii j), (10, .own 0 10 0 0), (11, .osl 0 65), (44, intss out), (45, ii out.length), (46, ii x.1)])
        (fun x => [(10, .box [.i (strI v.name), ii v.low, ii v.high, ii v.init]), (65, ointss x.2)]) (fun _ => O) 70
        (fun x => x.1 ≤ out.length ∧ x.2 = allStep (out.take x.1) v) (fun x => out.length - x.1) (0, []) ⟨Nat.zero_le _, rfl⟩ ⟨rfl, rfl, rfl, rfl, rfl, rfl, rfl, rfl, rfl, rfl, trivial⟩ rfl ⟨rfl, rfl, trivial⟩ rfl rfl ?_
      rintro ⟨i, acc⟩ ⟨hi, hacc⟩ ih2
      simp only at hi hacc
      refine g_run Tk Tryd.func30 ?_
      first | refine g_cnd Tk Tryd.func30 rfl (fun g2 => ?_) (fun g2 => ?_) | refine g_know Tk Tryd.func30 rfl (fun g2 => ?_) (fun g2 => ?_) | refine s_know Tk (fun g2 => ?_) (fun g2 => ?_)
      · have h2 : i < out.length := by simpa using g2
        clear g2
        have hgo : (out.map fun x => [intsI x])[(i : Int).toNat]? = some [intsI out[i]] := get_mapZ (f := fun x => [intsI x]) h2
        have hxl := hvals _ (List.getElem_mem h2)
        have hnx : allStep (out.take (i + 1)) v = acc ++ (rangeI v.low v.high).map fun n => out[i] ++ [n] := by
          rw [hacc]
          unfold allStep
          rw [List.take_add_one, List.getElem?_eq_getElem h2, List.flatMap_append]
          simp
        have hal : acc.length ≤ 4096 := by
          rw [hacc]
          exact hpre i
        generalize out[i] = vals at *
        first | refine g_need Tk Tryd.func30 (by exact ⟨by omega, by show (i : Int) < (out.length : Int); omega⟩) ?_ | refine s_need Tk (by exact ⟨by omega, by show (i : Int) < (out.length : Int); omega⟩) ?_
        first | refine g_elem Tk Tryd.func30 (hgo) ?_ | refine s_elem Tk (hgo) ?_
        have hk0 : rangeI v.low (v.low + ((0 : Nat) : Int) - 1) = [] := by
          unfold rangeI
          rw [show (v.low + ((0 : Nat) : Int) - 1 - v.low + 1).toNat = 0 by omega]
          rfl
        refine g_loop ?_
        refine rch_loop2 (fun k : Nat => [(0, vrs l), (8, intss out), (38, vrs l), (39, ii l.length), (40, ii j), (10, .own 0 10 0 0), (11, .osl 0 65), (44, intss out), (45, ii out.length), (46, ii i), (13, ints vals), (14, ii (v.low + k))])
          (fun k => [(10, .box [.i (strI v.name), ii v.low, ii v.high, ii v.init]), (65, ointss (acc ++ (rangeI v.low (v.low + k - 1)).map fun n => vals ++ [n]))]) (fun _ => O) 70
          (fun k => (k : Int) ≤ v.high - v.low + 1) (fun k => (v.high - v.low + 1).toNat - k) 0 (show ((0 : Nat) : Int) ≤ v.high - v.low + 1 by omega) ⟨rfl, rfl, rfl, rfl, rfl, rfl, rfl, rfl, rfl, rfl, rfl, congrArg ii (by simp), trivial⟩ rfl ⟨rfl, by show some (ointss acc) = some (ointss (acc ++ (rangeI v.low (v.low + ((0 : Nat) : Int) - 1)).map fun n => vals ++ [n])); rw [hk0]; simp, trivial⟩ rfl rfl ?_
        rintro k hk ih3
        have hk : (k : Int) ≤ v.high - v.low + 1 := hk
        have hks : (rangeI v.low (v.low + ((k + 1 : Nat) : Int) - 1)).map (fun n => vals ++ [n]) = (rangeI v.low (v.low + k - 1)).map (fun n => vals ++ [n]) ++ [vals ++ [v.low + k]] := by
          unfold rangeI
          rw [show (v.low + ((k + 1 : Nat) : Int) - 1 - v.low + 1).toNat = k + 1 by omega, show (v.low + (k : Int) - 1 - v.low + 1).toNat = k by omega, List.range_succ, List.map_append, List.map_append]
          rfl
        have hkl : ((rangeI v.low (v.low + k - 1)).map fun n => vals ++ [n]).length = k := by
          unfold rangeI
          simp
          omega
        have hke : (k : Int) = v.high - v.low + 1 → (rangeI v.low (v.low + k - 1)).map (fun n => vals ++ [n]) = (rangeI v.low v.high).map fun n => vals ++ [n] := fun e => by rw [e, show v.low + (v.high - v.low + 1) - 1 = v.high by omega]
        generalize (rangeI v.low (v.low + k - 1)).map (fun n => vals ++ [n]) = part at *
        refine g_run Tk Tryd.func30 ?_
        first | refine g_cnd Tk Tryd.func30 rfl (fun g3 => ?_) (fun g3 => ?_) | refine g_know Tk Tryd.func30 rfl (fun g3 => ?_) (fun g3 => ?_) | refine s_know Tk (fun g3 => ?_) (fun g3 => ?_)
        · have h3 : v.low + k ≤ v.high := of_decide_eq_true g3
          clear g3
          first | refine g_call Tk Tryd.func30 (clone57 60 _ vals (by simp only [big]; omega)) rfl rfl rfl rfl rfl ?_ | refine s_callq Tk (fun _ => clone57 60 _ vals (by simp only [big]; omega)) rfl rfl rfl ?_
          first | refine g_need Tk Tryd.func30 (by exact ⟨by show (vals.length + 1) * 8 ≤ 140737488355328; omega, by show vals.length + 1 ≤ 9223372036854775807; omega⟩) ?_ | refine s_need Tk (by exact ⟨by show (vals.length + 1) * 8 ≤ 140737488355328; omega, by show vals.length + 1 ≤ 9223372036854775807; omega⟩) ?_
          refine g_pause Tk Tryd.func30 rfl rfl (Wk.trans (wk_freeze 63 rfl rfl) (wk_imm rfl)) ?_
          first | refine g_need Tk Tryd.func30 (by exact ⟨by show ((acc ++ part).length + 1) * 24 ≤ 140737488355328; simp only [List.length_append]; omega, by show (acc ++ part).length + 1 ≤ 9223372036854775807; simp only [List.length_append]; omega⟩) ?_ | refine s_need Tk (by exact ⟨by show ((acc ++ part).length + 1) * 24 ≤ 140737488355328; simp only [List.length_append]; omega, by show (acc ++ part).length + 1 ≤ 9223372036854775807; simp only [List.length_append]; omega⟩) ?_
          refine g_loop ?_
          refine ih3 (k + 1) _ _ (show ((k + 1 : Nat) : Int) ≤ v.high - v.low + 1 by omega) (by omega) ⟨rfl, rfl, rfl, rfl, rfl, rfl, rfl, rfl, rfl, rfl, rfl, congrArg ii ?_, trivial⟩ rfl ⟨rfl, ?_, trivial⟩ rfl rfl
          · rw [w64 (by omega) (by omega)]; omega
          · rw [hks]
            have e : (vals ++ [v.low + (k : Int)]).map (fun x => [vi x]) = vals.map (fun x => [vi x]) ++ [[vi (v.low + k)]] := by simp
            show some (Ob.arr 53 1 ((acc ++ part).length + 1) ((acc ++ part).map (fun x => [intsI x]) ++ [[.sl 1 (vals.length + 1) (vals.map (fun x => [vi x]) ++ [[vi (v.low + k)]])]]) true) = some (ointss (acc ++ (part ++ [vals ++ [v.low + (k : Int)]])))
            rw [← List.append_assoc acc part]
            have e2 : vals.length + 1 = (vals ++ [v.low + (k : Int)]).length := by simp
            rw [← e, e2]
            exact congrArg some (ointss_app _ _)
        · have h3 : ¬ v.low + k ≤ v.high := of_decide_eq_false g3
          clear g3
          rw [hke (by omega)]
          refine g_loop ?_
          refine ih2 (i + 1, acc ++ (rangeI v.low v.high).map fun n => vals ++ [n]) _ _ ⟨h2, hnx.symm⟩ (by simp only; omega) ⟨rfl, rfl, rfl, rfl, rfl, rfl, rfl, rfl, rfl, congrArg ii (wsucc (n := 4096) (by omega) (by decide)), trivial⟩ rfl ⟨rfl, rfl, trivial⟩ rfl rfl
      · have h2 : out.length ≤ i := by simpa using g2
        clear g2
        rw [List.take_of_length_le h2] at hacc
        refine g_loop ?_
        refine rch_wk (wk_freeze 65 rfl rfl) ?_
        refine rch_wk (wk_imm rfl) ?_
        rw [hacc] at *
        refine ih (j + 1, allStep out v) _ _ ⟨h1, hnext, hsv⟩ (by simp only; omega) ⟨rfl, rfl, rfl, rfl, congrArg ii (wsucc (n := 16) (by omega) (by decide)), trivial⟩ rfl trivial rfl rfl
    · have h1 : l.length ≤ j := by simpa using g1
      rw [List.take_of_length_le h1] at hout
      subst hout
      refine g_ret Tk (r := .tup [intss (allV l), ii 0]) rfl rfl rfl trivial rfl rfl ?_
      rfl
end Go.AI


/- Tables of guards; boxes that contain values; equal lists. -/
namespace Go.AI
open Go.Proofs
set_option maxRecDepth 20000
abbrev bools (l : List Bool) : D := .i (.sl 1 l.length (l.map fun b => [.v (.bool b)]))
abbrev obools (l : List Bool) : Ob := .arr 4 1 l.length (l.map fun b => [.v (.bool b)]) true
theorem obools_app (l : List Bool) (x : Bool) : Ob.arr 4 1 (l.length + 1) ((l.map fun b => [I.v (.bool b)]) ++ [[.v (.bool x)]]) true = obools (l ++ [x]) := by simp
def tabL (x : Ex) : List (List Int) → List Bool → List Bool × Int
  | [], acc => (acc, 0)
  | v :: r, acc => if (evalX x v).2 ≠ 0 then ([], (evalX x v).2) else tabL x r (acc ++ [(evalX x v).1 == 1])
/-- table: the values of a guard over a domain, or the error. -/
def tableR (n : Int) (dom : List (List Int)) (x : Ex) : List Bool × Int :=
  if (checkX x n).2 ≠ 0 then ([], (checkX x n).2) else if (checkX x n).1 ≠ 2 then ([], 16) else tabL x dom []
theorem table75 (O : List Heap) (l : List Vr) (dom : List (List Int)) (x : Ex) (hok : exOk x) (hd : dom.length ≤ 4096) (hv : ∀ v ∈ dom, v.length ≤ max63) : ASpec Tryd.prog 75 [vrs l, intss dom, exA x] O (.tup [bools (tableR l.length dom x).1, ii (tableR l.length dom x).2]) [] O := by
  have hck := fun O => check67A O x l.length hok
  have hev := fun O v hl => evaluate51A O x v hok hl
  generalize hR : tableR l.length dom x = R
  unfold tableR at hR
  obtain ⟨op, xv, ix, args⟩ := x
  generalize checkX (.mk op xv ix args) l.length = K at *
  obtain ⟨kk, ke⟩ := K
  simp only at hck hR
  refine aspec_intro Tk Tryd.func75 rfl Tryd.call75 Tryd.ntmps75 (Nat.le_of_ble_eq_true rfl) fun E => ?_
  refine g_run Tk Tryd.func75 ?_
  first | refine g_call Tk Tryd.func75 (hck _) rfl rfl rfl rfl rfl ?_ | refine s_callq Tk (fun _ => hck _) rfl rfl rfl ?_
  first | refine g_cnd Tk Tryd.func75 rfl (fun h1 => ?_) (fun h1 => ?_) | refine g_know Tk Tryd.func75 rfl (fun h1 => ?_) (fun h1 => ?_) | refine s_know Tk (fun h1 => ?_) (fun h1 => ?_)
  · have h1 := bneT h1
    rw [if_pos h1] at hR
    subst hR
    refine g_ret_co Tk (r := _) rfl rfl rfl trivial rfl rfl ?_
    repeat' (first | refine coD_tup ?_ | refine coD_agg ?_ | refine coD_i ?_ | refine CoDL.cons ?_ ?_ | exact CoDL.nil | exact coI_nil | refine coI_sl ?_ | refine CoLL.cons ?_ ?_ | exact CoLL.nil | refine CoL.cons ?_ ?_ | exact CoL.nil | exact CoI.refl _ | exact CoL.refl _ | exact CoLL.refl _ | exact CoDL.refl _ | exact CoD.refl _)
  have h1 := bneF h1
  rw [if_neg (by simpa using h1)] at hR
  first | refine g_cnd Tk Tryd.func75 rfl (fun h2 => ?_) (fun h2 => ?_) | refine g_know Tk Tryd.func75 rfl (fun h2 => ?_) (fun h2 => ?_) | refine s_know Tk (fun h2 => ?_) (fun h2 => ?_)
  · have h2 := bneT h2
    rw [if_pos h2] at hR
    subst hR
    refine g_ret_co Tk (r := _) rfl rfl rfl trivial rfl rfl ?_
    repeat' (first | refine coD_tup ?_ | refine coD_agg ?_ | refine coD_i ?_ | refine CoDL.cons ?_ ?_ | exact CoDL.nil | exact coI_nil | refine coI_sl ?_ | refine CoLL.cons ?_ ?_ | exact CoLL.nil | refine CoL.cons ?_ ?_ | exact CoL.nil | exact CoI.refl _ | exact CoL.refl _ | exact CoLL.refl _ | exact CoDL.refl _ | exact CoD.refl _)
  have h2 := bneF h2
  rw [if_neg (by simpa using h2)] at hR
  clear h1 h2 hck
  refine g_loop ?_
  refine rch_wk (wk_nil 10 46 4 1 rfl rfl rfl) ?_
  refine rch_loop2 (fun x : Nat × List Bool => [(5, .own 0 5 0 0), (10, .osl 0 46), (27, intss dom), (28, ii dom.length), (29, ii x.1)]) (fun x => [(5, .box [ii op, ii xv, ii ix, exs args]), (46, obools x.2)]) (fun _ => O) 49
    (fun x => x.1 ≤ dom.length ∧ x.2.length ≤ x.1 ∧ tabL (.mk op xv ix args) (dom.drop x.1) x.2 = R) (fun x => dom.length - x.1) (0, []) ⟨Nat.zero_le _, by simp, hR⟩ ⟨rfl, rfl, rfl, rfl, rfl, trivial⟩ rfl ⟨rfl, rfl, trivial⟩ rfl rfl ?_
  rintro ⟨i, acc⟩ ⟨hi, hal, hno⟩ ih
  clear hR
  simp only at hi hal hno
  refine g_run Tk Tryd.func75 ?_
  first | refine g_cnd Tk Tryd.func75 rfl (fun g1 => ?_) (fun g1 => ?_) | refine g_know Tk Tryd.func75 rfl (fun g1 => ?_) (fun g1 => ?_) | refine s_know Tk (fun g1 => ?_) (fun g1 => ?_)
  · have h1 : i < dom.length := by simpa using g1
    clear g1
    have hdr : dom.drop i = dom[i] :: dom.drop (i + 1) := List.drop_eq_getElem_cons h1
    have hg : (dom.map fun x => [intsI x])[(i : Int).toNat]? = some [intsI dom[i]] := get_mapZ (f := fun x => [intsI x]) h1
    have hvl := hv _ (List.getElem_mem h1)
    rw [hdr] at hno
    simp only [tabL] at hno
    generalize dom[i] = v at *
    have hev := fun O => hev O v hvl
    generalize evalX (.mk op xv ix args) v = V at *
    obtain ⟨w, we⟩ := V
    simp only at hno hev
    first | refine g_need Tk Tryd.func75 (by omega) ?_ | refine s_need Tk (by omega) ?_
    first | refine g_elem Tk Tryd.func75 (hg) ?_ | refine s_elem Tk (hg) ?_
    first | refine g_call Tk Tryd.func75 (hev _) rfl rfl rfl rfl rfl ?_ | refine s_callq Tk (fun _ => hev _) rfl rfl rfl ?_
    first | refine g_cnd Tk Tryd.func75 rfl (fun h2 => ?_) (fun h2 => ?_) | refine g_know Tk Tryd.func75 rfl (fun h2 => ?_) (fun h2 => ?_) | refine s_know Tk (fun h2 => ?_) (fun h2 => ?_)
    · have h2 := bneT h2
      rw [if_pos h2] at hno
      subst hno
      refine g_ret_co Tk (r := _) rfl rfl rfl trivial rfl rfl ?_
      repeat' (first | refine coD_tup ?_ | refine coD_agg ?_ | refine coD_i ?_ | refine CoDL.cons ?_ ?_ | exact CoDL.nil | exact coI_nil | refine coI_sl ?_ | refine CoLL.cons ?_ ?_ | exact CoLL.nil | refine CoL.cons ?_ ?_ | exact CoL.nil | exact CoI.refl _ | exact CoL.refl _ | exact CoLL.refl _ | exact CoDL.refl _ | exact CoD.refl _)
    have h2 := bneF h2
    rw [if_neg (by simpa using h2)] at hno
    first | refine g_need Tk Tryd.func75 (by exact ⟨by show (acc.length + 1) * 1 ≤ 140737488355328; omega, by show acc.length + 1 ≤ 9223372036854775807; omega⟩) ?_ | refine s_need Tk (by exact ⟨by show (acc.length + 1) * 1 ≤ 140737488355328; omega, by show acc.length + 1 ≤ 9223372036854775807; omega⟩) ?_
    refine g_loop ?_
    refine ih (i + 1, acc ++ [w == 1]) _ _ ⟨h1, by simp only [List.length_append, List.length_cons, List.length_nil]; omega, hno⟩ (by simp only; omega) ⟨rfl, rfl, rfl, rfl, congrArg ii (wsucc (n := 4096) (by omega) (by decide)), trivial⟩ rfl ⟨rfl, congrArg some (obools_app acc (w == 1)), trivial⟩ rfl rfl
  · have h1 : dom.length ≤ i := by simpa using g1
    rw [List.drop_eq_nil_of_le h1] at hno
    simp only [tabL] at hno
    subst hno
    refine g_rwk (wk_freeze 46 rfl rfl) ?_
    refine g_rwk (wk_imm rfl) ?_
    refine g_ret_co Tk (r := _) rfl rfl rfl trivial rfl rfl ?_
    repeat' (first | refine coD_tup ?_ | refine coD_agg ?_ | refine coD_i ?_ | refine CoDL.cons ?_ ?_ | exact CoDL.nil | exact coI_nil | refine coI_sl ?_ | refine CoLL.cons ?_ ?_ | exact CoLL.nil | refine CoL.cons ?_ ?_ | exact CoL.nil | exact CoI.refl _ | exact CoL.refl _ | exact CoLL.refl _ | exact CoDL.refl _ | exact CoD.refl _)
/-- Table. -/
def tableG (l : List Vr) (x : Ex) : List Bool × Int := if (allG l).2 ≠ 0 then ([], (allG l).2) else tableR l.length (allG l).1 x
theorem allG_len (l : List Vr) : (allG l).1.length ≤ 4096 ∧ ∀ v ∈ (allG l).1, v.length ≤ max63 := by
  unfold allG
  by_cases h : varsErr l ≠ 0
  · rw [if_pos h]; exact ⟨by simp, by simp⟩
  rw [if_neg h]
  have hv := vars_ok (l := l) (by simpa using h)
  have hl := vars_len (l := l) (by simpa using h)
  cases hc : cntR l 1 with
  | none => exact ⟨by simp, by simp⟩
  | some d =>
    have h1 := cntR_len (fun v h => by have := hv v h; omega) hc (by decide) (out := [[]]) rfl l.length
    rw [List.take_length] at h1
    refine ⟨h1, fun v hv => ?_⟩
    have := inV_len ((allV_dom l).mem v |>.1 hv)
    simp only [max63]; omega
theorem table31 (O : List Heap) (l : List Vr) (x : Ex) (hl : l.length ≤ max63) (hn : ∀ v ∈ l, v.name.size ≤ max63) (hok : exOk x) : ASpec Tryd.prog 31 [vrs l, exA x] O (.tup [bools (tableG l x).1, ii (tableG l x).2]) [] O := by
  have ha := fun O => allG30 O l hl hn
  have hlen := allG_len l
  generalize hR : tableG l x = R
  unfold tableG at hR
  generalize allG l = A at *
  obtain ⟨dom, e⟩ := A
  simp only at ha hlen hR
  have ht := fun O => table75 O l dom x hok hlen.1 hlen.2
  obtain ⟨op, xv, ix, args⟩ := x
  refine aspec_intro Tk Tryd.func31 rfl Tryd.call31 Tryd.ntmps31 (Nat.le_of_ble_eq_true rfl) fun E => ?_
  refine g_run Tk Tryd.func31 ?_
  first | refine g_call Tk Tryd.func31 (ha _) rfl rfl rfl rfl rfl ?_ | refine s_callq Tk (fun _ => ha _) rfl rfl rfl ?_
  first | refine g_cnd Tk Tryd.func31 rfl (fun h1 => ?_) (fun h1 => ?_) | refine g_know Tk Tryd.func31 rfl (fun h1 => ?_) (fun h1 => ?_) | refine s_know Tk (fun h1 => ?_) (fun h1 => ?_)
  · have h1 := bneT h1
    rw [if_pos h1] at hR
    subst hR
    refine g_ret_co Tk (r := _) rfl rfl rfl trivial rfl rfl ?_
    repeat' (first | refine coD_tup ?_ | refine coD_agg ?_ | refine coD_i ?_ | refine CoDL.cons ?_ ?_ | exact CoDL.nil | exact coI_nil | refine coI_sl ?_ | refine CoLL.cons ?_ ?_ | exact CoLL.nil | refine CoL.cons ?_ ?_ | exact CoL.nil | exact CoI.refl _ | exact CoL.refl _ | exact CoLL.refl _ | exact CoDL.refl _ | exact CoD.refl _)
  have h1 := bneF h1
  rw [if_neg (by simpa using h1)] at hR
  rw [hR] at ht
  first | refine g_call Tk Tryd.func31 (ht _) rfl rfl rfl rfl rfl ?_ | refine s_callq Tk (fun _ => ht _) rfl rfl rfl ?_
  refine g_ret Tk (r := .tup [bools R.1, ii R.2]) rfl rfl rfl trivial rfl rfl ?_
  rfl
end Go.AI


/- Equal lists, boxes that contain values, searches in lists of boxes and of values. -/
namespace Go.AI
open Go.Proofs
set_option maxRecDepth 20000
abbrev bxI (b : Bx) : List I := [intsI b.low, intsI b.high]
abbrev bxD (b : Bx) : D := .agg [ints b.low, ints b.high]
abbrev bxs (l : List Bx) : D := .i (.sl 2 l.length (l.map bxI))
abbrev obxs (l : List Bx) : Ob := .arr 55 2 l.length (l.map bxI) true
theorem obxs_app (l : List Bx) (x : Bx) : Ob.arr 55 2 (l.length + 1) (l.map bxI ++ [bxI x]) true = obxs (l ++ [x]) := by simp
theorem sameInts36 (O : List Heap) (a b : List Int) (ha : a.length ≤ max63) : ASpec Tryd.prog 36 [ints a, ints b] O (bb (decide (a = b))) [] O := by
  refine aspec_intro Tk Tryd.func36 rfl Tryd.call36 Tryd.ntmps36 (Nat.le_of_ble_eq_true rfl) fun E => ?_
  refine g_run Tk Tryd.func36 ?_
  first | refine g_cnd Tk Tryd.func36 rfl (fun h1 => ?_) (fun h1 => ?_) | refine g_know Tk Tryd.func36 rfl (fun h1 => ?_) (fun h1 => ?_) | refine s_know Tk (fun h1 => ?_) (fun h1 => ?_)
  · have h1 := bneT h1
    rw [decide_eq_false fun e => h1 (by rw [e])]
    refine g_ret Tk (r := bb false) rfl rfl rfl trivial rfl rfl ?_
    rfl
  have h1 := bneF h1
  have hlen : a.length = b.length := by
    have : ((a.length : Nat) : Int) = b.length := by simpa using h1
    omega
  refine g_loop ?_
  refine rch_loop2 (fun i : Nat => [(0, ints a), (1, ints b), (5, ii i)]) (fun _ => []) (fun _ => O) 26
    (fun i => i ≤ a.length ∧ ∀ (j : Nat) (h : j < a.length), j < i → a[j] = b[j]'(by omega)) (fun i => a.length - i) 0 ⟨Nat.zero_le _, fun j _ h => by omega⟩ ⟨rfl, rfl, rfl, trivial⟩ rfl trivial rfl rfl ?_
  rintro i ⟨hi, hno⟩ ih
  refine g_run Tk Tryd.func36 ?_
  first | refine g_cnd Tk Tryd.func36 rfl (fun h2 => ?_) (fun h2 => ?_) | refine g_know Tk Tryd.func36 rfl (fun h2 => ?_) (fun h2 => ?_) | refine s_know Tk (fun h2 => ?_) (fun h2 => ?_)
  · have h2 : i < a.length := by simpa using h2
    have ga : (a.map fun x => [vi x])[(i : Int).toNat]? = some [(fun x => vi x) a[i]] := get_mapZ (f := fun x => [vi x]) h2
    have gb : (b.map fun x => [vi x])[(i : Int).toNat]? = some [(fun x => vi x) (b[i]'(by omega))] := get_mapZ (f := fun x => [vi x]) (by omega)
    have hne : a[i] ≠ b[i]'(by omega) → a ≠ b := fun h e => by subst e; exact h rfl
    have hstep : a[i] = b[i]'(by omega) → ∀ (j : Nat) (h : j < a.length), j < i + 1 → a[j] = b[j]'(by omega) := fun h j hj hji => by
      by_cases e : j = i
      · subst e; exact h
      · exact hno j hj (by omega)
    generalize a[i] = x at *
    generalize b[i]'(by omega) = y at *
    refine g_drawn Tk Tryd.func36 mixedT rfl ?_
    first | refine g_need Tk Tryd.func36 (by exact ⟨by omega, by show (i : Int) < (a.length : Int); omega⟩) ?_ | refine s_need Tk (by exact ⟨by omega, by show (i : Int) < (a.length : Int); omega⟩) ?_
    first | refine g_elem Tk Tryd.func36 (ga) ?_ | refine s_elem Tk (ga) ?_
    first | refine g_need Tk Tryd.func36 (by exact ⟨by omega, by show (i : Int) < (b.length : Int); omega⟩) ?_ | refine s_need Tk (by exact ⟨by omega, by show (i : Int) < (b.length : Int); omega⟩) ?_
    first | refine g_elem Tk Tryd.func36 (gb) ?_ | refine s_elem Tk (gb) ?_
    refine e_done Tk Tryd.func36 (by kernel_rfl) ?_
    first | refine g_cnd Tk Tryd.func36 rfl (fun h3 => ?_) (fun h3 => ?_) | refine g_know Tk Tryd.func36 rfl (fun h3 => ?_) (fun h3 => ?_) | refine s_know Tk (fun h3 => ?_) (fun h3 => ?_)
    · have h3 : x ≠ y := by simpa using h3
      rw [decide_eq_false (hne h3)]
      refine g_ret Tk (r := bb false) rfl rfl rfl trivial rfl rfl ?_
      rfl
    · have h3 : x = y := by simpa using h3
      refine g_loop ?_
      exact ih (i + 1) _ _ ⟨h2, hstep h3⟩ (by omega) ⟨rfl, rfl, congrArg ii (wsucc h2 ha), trivial⟩ rfl trivial rfl rfl
  · have h2 : a.length ≤ i := by simpa using h2
    have : a = b := List.ext_getElem hlen fun j h h' => hno j h (by omega)
    rw [decide_eq_true this]
    refine g_ret Tk (r := bb true) rfl rfl rfl trivial rfl rfl ?_
    rfl
theorem contains152 (O : List Heap) (b : Bx) (v : List Int) (h1 : v.length ≤ b.low.length) (h2 : v.length ≤ b.high.length) (hl : v.length ≤ max63) : ASpec Tryd.prog 152 [bxD b, ints v] O (bb (b.has v)) [] O := by
  obtain ⟨lo, hi⟩ := b
  unfold Bx.has
  simp only at h1 h2 ⊢
  generalize hR : contB v lo hi = R
  refine aspec_intro Tk Tryd.func152 rfl Tryd.call152 Tryd.ntmps152 (Nat.le_of_ble_eq_true rfl) fun E => ?_
  refine g_run Tk Tryd.func152 ?_
  refine g_loop ?_
  refine rch_loop2 (fun i : Nat => [(2, .own 0 2 0 0), (7, ints v), (8, ii v.length), (9, ii i)]) (fun i => [(2, .box [ints lo, ints hi])]) (fun _ => O) 31
    (fun i => i ≤ v.length ∧ contB (v.drop i) (lo.drop i) (hi.drop i) = R) (fun i => v.length - i) 0 ⟨Nat.zero_le _, hR⟩ ⟨rfl, rfl, rfl, rfl, trivial⟩ rfl ⟨rfl, trivial⟩ rfl rfl ?_
  rintro i ⟨hi', hno⟩ ih
  clear hR
  refine g_run Tk Tryd.func152 ?_
  first | refine g_cnd Tk Tryd.func152 rfl (fun g1 => ?_) (fun g1 => ?_) | refine g_know Tk Tryd.func152 rfl (fun g1 => ?_) (fun g1 => ?_) | refine s_know Tk (fun g1 => ?_) (fun g1 => ?_)
  · have h3 : i < v.length := by simpa using g1
    have gv : (v.map fun x => [vi x])[(i : Int).toNat]? = some [vi v[i]] := get_mapZ (f := fun x => [vi x]) h3
    have gl : (lo.map fun x => [vi x])[(i : Int).toNat]? = some [vi (lo[i]'(by omega))] := get_mapZ (f := fun x => [vi x]) (by omega)
    have gh : (hi.map fun x => [vi x])[(i : Int).toNat]? = some [vi (hi[i]'(by omega))] := get_mapZ (f := fun x => [vi x]) (by omega)
    have dv : v.drop i = v[i] :: v.drop (i + 1) := List.drop_eq_getElem_cons h3
    have dl : lo.drop i = (lo[i]'(by omega)) :: lo.drop (i + 1) := List.drop_eq_getElem_cons (by omega)
    have dh : hi.drop i = (hi[i]'(by omega)) :: hi.drop (i + 1) := List.drop_eq_getElem_cons (by omega)
    rw [dv, dl, dh] at hno
    simp only [contB] at hno
    clear dv dl dh
    generalize v[i] = x at *
    generalize lo[i]'(by omega) = a at *
    generalize hi[i]'(by omega) = c at *
    first | refine g_need Tk Tryd.func152 (by exact ⟨by omega, by show (i : Int) < (v.length : Int); omega⟩) ?_ | refine s_need Tk (by exact ⟨by omega, by show (i : Int) < (v.length : Int); omega⟩) ?_
    first | refine g_elem Tk Tryd.func152 (gv) ?_ | refine s_elem Tk (gv) ?_
    first | refine g_need Tk Tryd.func152 (by exact ⟨by omega, by show (i : Int) < (lo.length : Int); omega⟩) ?_ | refine s_need Tk (by exact ⟨by omega, by show (i : Int) < (lo.length : Int); omega⟩) ?_
    first | refine g_elem Tk Tryd.func152 (gl) ?_ | refine s_elem Tk (gl) ?_
    first | refine g_cnd Tk Tryd.func152 rfl (fun h4 => ?_) (fun h4 => ?_) | refine g_know Tk Tryd.func152 rfl (fun h4 => ?_) (fun h4 => ?_) | refine s_know Tk (fun h4 => ?_) (fun h4 => ?_)
    · have h4 : x < a := of_decide_eq_true h4
      have : R = false := by rw [← hno]; simp [h4]
      subst this
      repeat (first | refine g_cnd Tk Tryd.func152 rfl (fun _ => ?_) (fun h => absurd h (by decide)) | refine g_cnd Tk Tryd.func152 rfl (fun h => absurd h (by decide)) (fun _ => ?_) | refine g_know Tk Tryd.func152 rfl (fun _ => ?_) (fun h => absurd h (by decide)) | refine g_know Tk Tryd.func152 rfl (fun h => absurd h (by decide)) (fun _ => ?_) | refine s_know Tk (fun _ => ?_) (fun h => absurd h (by decide)) | refine s_know Tk (fun h => absurd h (by decide)) (fun _ => ?_))
      refine g_ret Tk (r := bb false) rfl rfl rfl trivial rfl rfl ?_
      rfl
    have h4 : ¬ x < a := of_decide_eq_false h4
    first | refine g_need Tk Tryd.func152 (by exact ⟨by omega, by show (i : Int) < (hi.length : Int); omega⟩) ?_ | refine s_need Tk (by exact ⟨by omega, by show (i : Int) < (hi.length : Int); omega⟩) ?_
    first | refine g_elem Tk Tryd.func152 (gh) ?_ | refine s_elem Tk (gh) ?_
    first | refine g_cnd Tk Tryd.func152 rfl (fun h5 => ?_) (fun h5 => ?_) | refine g_know Tk Tryd.func152 rfl (fun h5 => ?_) (fun h5 => ?_) | refine s_know Tk (fun h5 => ?_) (fun h5 => ?_)
    · have h5 : c < x := of_decide_eq_true h5
      have : R = false := by rw [← hno]; simp [h5]
      subst this
      refine g_ret Tk (r := bb false) rfl rfl rfl trivial rfl rfl ?_
      rfl
    have h5 : ¬ c < x := of_decide_eq_false h5
    have hno : contB (v.drop (i + 1)) (lo.drop (i + 1)) (hi.drop (i + 1)) = R := by rw [← hno]; simp [h4, h5]
    refine g_loop ?_
    exact ih (i + 1) _ _ ⟨h3, hno⟩ (by omega) ⟨rfl, rfl, rfl, congrArg ii (wsucc h3 hl), trivial⟩ rfl ⟨rfl, trivial⟩ rfl rfl
  · have h3 : v.length ≤ i := by simpa using g1
    rw [List.drop_eq_nil_of_le h3] at hno
    have : R = true := by rw [← hno]; cases lo.drop i <;> cases hi.drop i <;> rfl
    subst this
    refine g_ret Tk (r := bb true) rfl rfl rfl trivial rfl rfl ?_
    rfl
theorem contains152o (O : List Heap) (b : Bx) (v : List Int) (d n1 n2 : Nat) (ho1 : objAt O d n1 = some (oints b.low)) (ho2 : objAt O d n2 = some (oints b.high)) (h1 : v.length ≤ b.low.length) (h2 : v.length ≤ b.high.length) (hl : v.length ≤ max63) : ASpec Tryd.prog 152 [.agg [.osl d n1, .osl d n2], ints v] O (bb (b.has v)) [] O := by
  obtain ⟨lo, hi⟩ := b
  unfold Bx.has
  simp only at h1 h2 ho1 ho2 ⊢
  generalize hR : contB v lo hi = R
  refine aspec_intro Tk Tryd.func152 rfl Tryd.call152 Tryd.ntmps152 (Nat.le_of_ble_eq_true rfl) fun E => ?_
  refine g_run Tk Tryd.func152 ?_
  refine g_loop ?_
  refine rch_loop2 (fun i : Nat => [(2, .own 0 2 0 0), (7, ints v), (8, ii v.length), (9, ii i)]) (fun i => [(2, .box [.osl (d + 1) n1, .osl (d + 1) n2])]) (fun _ => O) 31
    (fun i => i ≤ v.length ∧ contB (v.drop i) (lo.drop i) (hi.drop i) = R) (fun i => v.length - i) 0 ⟨Nat.zero_le _, hR⟩ ⟨rfl, rfl, rfl, rfl, trivial⟩ rfl ⟨rfl, trivial⟩ rfl rfl ?_
  rintro i ⟨hi', hno⟩ ih
  clear hR
  refine g_run Tk Tryd.func152 ?_
  first | refine g_cnd Tk Tryd.func152 rfl (fun g1 => ?_) (fun g1 => ?_) | refine g_know Tk Tryd.func152 rfl (fun g1 => ?_) (fun g1 => ?_) | refine s_know Tk (fun g1 => ?_) (fun g1 => ?_)
  · have h3 : i < v.length := by simpa using g1
    have gv : (v.map fun x => [vi x])[(i : Int).toNat]? = some [vi v[i]] := get_mapZ (f := fun x => [vi x]) h3
    have gl : (lo.map fun x => [vi x])[(i : Int).toNat]? = some [vi (lo[i]'(by omega))] := get_mapZ (f := fun x => [vi x]) (by omega)
    have gh : (hi.map fun x => [vi x])[(i : Int).toNat]? = some [vi (hi[i]'(by omega))] := get_mapZ (f := fun x => [vi x]) (by omega)
    have dv : v.drop i = v[i] :: v.drop (i + 1) := List.drop_eq_getElem_cons h3
    have dl : lo.drop i = (lo[i]'(by omega)) :: lo.drop (i + 1) := List.drop_eq_getElem_cons (by omega)
    have dh : hi.drop i = (hi[i]'(by omega)) :: hi.drop (i + 1) := List.drop_eq_getElem_cons (by omega)
    rw [dv, dl, dh] at hno
    simp only [contB] at hno
    clear dv dl dh
    generalize v[i] = x at *
    generalize lo[i]'(by omega) = a at *
    generalize hi[i]'(by omega) = c at *
    first | refine g_need Tk Tryd.func152 (by exact ⟨by omega, by show (i : Int) < (v.length : Int); omega⟩) ?_ | refine s_need Tk (by exact ⟨by omega, by show (i : Int) < (v.length : Int); omega⟩) ?_
    first | refine g_elem Tk Tryd.func152 (gv) ?_ | refine s_elem Tk (gv) ?_
    first | refine g_obj Tk Tryd.func152 (up_obj ho1) ?_ | refine s_obj Tk (up_obj ho1) ?_
    first | refine g_need Tk Tryd.func152 (by exact ⟨by omega, by show (i : Int) < (lo.length : Int); omega⟩) ?_ | refine s_need Tk (by exact ⟨by omega, by show (i : Int) < (lo.length : Int); omega⟩) ?_
    first | refine g_obj Tk Tryd.func152 (up_obj ho1) ?_ | refine s_obj Tk (up_obj ho1) ?_
    first | refine g_elem Tk Tryd.func152 (gl) ?_ | refine s_elem Tk (gl) ?_
    first | refine g_cnd Tk Tryd.func152 rfl (fun h4 => ?_) (fun h4 => ?_) | refine g_know Tk Tryd.func152 rfl (fun h4 => ?_) (fun h4 => ?_) | refine s_know Tk (fun h4 => ?_) (fun h4 => ?_)
    · have h4 : x < a := of_decide_eq_true h4
      have : R = false := by rw [← hno]; simp [h4]
      subst this
      repeat (first | refine g_cnd Tk Tryd.func152 rfl (fun _ => ?_) (fun h => absurd h (by decide)) | refine g_cnd Tk Tryd.func152 rfl (fun h => absurd h (by decide)) (fun _ => ?_) | refine g_know Tk Tryd.func152 rfl (fun _ => ?_) (fun h => absurd h (by decide)) | refine g_know Tk Tryd.func152 rfl (fun h => absurd h (by decide)) (fun _ => ?_) | refine s_know Tk (fun _ => ?_) (fun h => absurd h (by decide)) | refine s_know Tk (fun h => absurd h (by decide)) (fun _ => ?_))
      refine g_ret Tk (r := bb false) rfl rfl rfl trivial rfl rfl ?_
      rfl
    have h4 : ¬ x < a := of_decide_eq_false h4
    first | refine g_obj Tk Tryd.func152 (up_obj ho2) ?_ | refine s_obj Tk (up_obj ho2) ?_
    first | refine g_need Tk Tryd.func152 (by exact ⟨by omega, by show (i : Int) < (hi.length : Int); omega⟩) ?_ | refine s_need Tk (by exact ⟨by omega, by show (i : Int) < (hi.length : Int); omega⟩) ?_
    first | refine g_obj Tk Tryd.func152 (up_obj ho2) ?_ | refine s_obj Tk (up_obj ho2) ?_
    first | refine g_elem Tk Tryd.func152 (gh) ?_ | refine s_elem Tk (gh) ?_
    first | refine g_cnd Tk Tryd.func152 rfl (fun h5 => ?_) (fun h5 => ?_) | refine g_know Tk Tryd.func152 rfl (fun h5 => ?_) (fun h5 => ?_) | refine s_know Tk (fun h5 => ?_) (fun h5 => ?_)
    · have h5 : c < x := of_decide_eq_true h5
      have : R = false := by rw [← hno]; simp [h5]
      subst this
      refine g_ret Tk (r := bb false) rfl rfl rfl trivial rfl rfl ?_
      rfl
    have h5 : ¬ c < x := of_decide_eq_false h5
    have hno : contB (v.drop (i + 1)) (lo.drop (i + 1)) (hi.drop (i + 1)) = R := by rw [← hno]; simp [h4, h5]
    refine g_loop ?_
    exact ih (i + 1) _ _ ⟨h3, hno⟩ (by omega) ⟨rfl, rfl, rfl, congrArg ii (wsucc h3 hl), trivial⟩ rfl ⟨rfl, trivial⟩ rfl rfl
  · have h3 : v.length ≤ i := by simpa using g1
    rw [List.drop_eq_nil_of_le h3] at hno
    have : R = true := by rw [← hno]; cases lo.drop i <;> cases hi.drop i <;> rfl
    subst this
    refine g_ret Tk (r := bb true) rfl rfl rfl trivial rfl rfl ?_
    rfl
end Go.AI


/- Searches with closures; whether a box is free. -/
namespace Go.AI
open Go.Proofs
set_option maxRecDepth 20000
theorem indexFunc187a (O : List Heap) (l : List (List Int)) (f : Nat) (d n1 n2 : Nat) (p : (List Int) → Bool) (hl : l.length ≤ max63) (hp : ∀ x ∈ l, ASpec Tryd.prog f [.agg [.osl (d + 1) n1, .osl (d + 1) n2], ints x] ([] :: O) (bb (p x)) [] ([] :: O)) :
    ASpec Tryd.prog 187 [intss l, .fn (.func f) [.agg [.osl d n1, .osl d n2]] []] O (ii (findIx p l 0)) [] O := by
  refine aspec_intro Tk Tryd.func187 rfl Tryd.call187 Tryd.ntmps187 (Nat.le_of_ble_eq_true rfl) fun E => ?_
  refine g_run Tk Tryd.func187 ?_
  refine g_loop ?_
  refine rch_loop2 (fun i : Nat => [(0, intss l), (1, .fn (.func f) [.agg [.osl (d + 1) n1, .osl (d + 1) n2]] []), (6, intss l), (7, ii l.length), (8, ii i)]) (fun _ => []) (fun _ => O) 19 (fun i => i ≤ l.length ∧ findIx p l 0 = findIx p (l.drop i) i) (fun i => l.length - i) 0 ⟨Nat.zero_le _, rfl⟩ ⟨rfl, rfl, rfl, rfl, rfl, trivial⟩ rfl trivial rfl rfl ?_
  intro i ⟨hi, hno⟩ ih
  rw [hno]
  rw [hno] at ih
  refine g_run Tk Tryd.func187 ?_
  first | refine g_cnd Tk Tryd.func187 rfl (fun h1 => ?_) (fun h1 => ?_) | refine g_know Tk Tryd.func187 rfl (fun h1 => ?_) (fun h1 => ?_) | refine s_know Tk (fun h1 => ?_) (fun h1 => ?_)
  · have h1 : i < l.length := by simpa using h1
    have hd : l.drop i = l[i] :: l.drop (i + 1) := (List.drop_eq_getElem_cons h1)
    first | refine g_need Tk Tryd.func187 (by omega) ?_ | refine s_need Tk (by omega) ?_
    first | refine g_elem Tk Tryd.func187 (get_mapZ (f := fun x => [intsI x]) h1) ?_ | refine s_elem Tk (get_mapZ (f := fun x => [intsI x]) h1) ?_
    first | refine g_call Tk Tryd.func187 (hp l[i] (List.getElem_mem h1)) rfl rfl rfl rfl rfl ?_ | refine s_callq Tk (fun _ => hp l[i] (List.getElem_mem h1)) rfl rfl rfl ?_
    first | refine g_cnd Tk Tryd.func187 rfl (fun h2 => ?_) (fun h2 => ?_) | refine g_know Tk Tryd.func187 rfl (fun h2 => ?_) (fun h2 => ?_) | refine s_know Tk (fun h2 => ?_) (fun h2 => ?_)
    · refine g_ret Tk (r := ii _) rfl rfl rfl trivial rfl rfl ?_
      rw [hd]
      simp only [findIx]
      rw [if_pos h2]
    · refine g_loop ?_
      refine ih (i + 1) _ _ ⟨h1, ?_⟩ (by omega) ⟨rfl, rfl, rfl, rfl, congrArg ii (wsucc h1 hl), trivial⟩ rfl trivial rfl rfl
      rw [hd]
      simp only [findIx]
      rw [if_neg (by rw [h2]; simp)]
  · have h1 : l.length ≤ i := by simpa using h1
    refine g_ret Tk (r := ii _) rfl rfl rfl trivial rfl rfl ?_
    rw [List.drop_eq_nil_of_le h1]
    rfl
theorem containsFunc170a (O : List Heap) (l : List (List Int)) (f : Nat) (d n1 n2 : Nat) (p : (List Int) → Bool) (hl : l.length ≤ max63) (hp : ∀ x ∈ l, ASpec Tryd.prog f [.agg [.osl (d + 2) n1, .osl (d + 2) n2], ints x] ([] :: [] :: O) (bb (p x)) [] ([] :: [] :: O)) :
    ASpec Tryd.prog 170 [intss l, .fn (.func f) [.agg [.osl d n1, .osl d n2]] []] O (bb (l.any p)) [] O := by
  refine aspec_intro Tk Tryd.func170 rfl Tryd.call170 Tryd.ntmps170 (Nat.le_of_ble_eq_true rfl) fun E => ?_
  refine g_run Tk Tryd.func170 ?_
  first | refine g_call Tk Tryd.func170 (indexFunc187a _ l f (d + 1) n1 n2 p hl hp) rfl rfl rfl rfl rfl ?_ | refine s_callq Tk (fun _ => indexFunc187a _ l f (d + 1) n1 n2 p hl hp) rfl rfl rfl ?_
  refine g_ret Tk (r := bb _) rfl rfl rfl trivial rfl rfl ?_
  exact congrArg bb (findIx_any p l 0)
theorem indexFunc187c (O : List Heap) (l : List (List Int)) (f : Nat) (d n1 n2 n3 : Nat) (p : (List Int) → Bool) (hl : l.length ≤ max63) (hp : ∀ x ∈ l, ASpec Tryd.prog f [ints x, .own (d + 1) n1 0 0, .own (d + 1) n2 0 0, .own (d + 1) n3 0 0] ([] :: O) (bb (p x)) [] ([] :: O)) :
    ASpec Tryd.prog 187 [intss l, .fn (.func f) [] [.own d n1 0 0, .own d n2 0 0, .own d n3 0 0]] O (ii (findIx p l 0)) [] O := by
  refine aspec_intro Tk Tryd.func187 rfl Tryd.call187 Tryd.ntmps187 (Nat.le_of_ble_eq_true rfl) fun E => ?_
  refine g_run Tk Tryd.func187 ?_
  refine g_loop ?_
  refine rch_loop2 (fun i : Nat => [(0, intss l), (1, .fn (.func f) [] [.own (d + 1) n1 0 0, .own (d + 1) n2 0 0, .own (d + 1) n3 0 0]), (6, intss l), (7, ii l.length), (8, ii i)]) (fun _ => []) (fun _ => O) 19 (fun i => i ≤ l.length ∧ findIx p l 0 = findIx p (l.drop i) i) (fun i => l.length - i) 0 ⟨Nat.zero_le _, rfl⟩ ⟨rfl, rfl, rfl, rfl, rfl, trivial⟩ rfl trivial rfl rfl ?_
  intro i ⟨hi, hno⟩ ih
  rw [hno]
  rw [hno] at ih
  refine g_run Tk Tryd.func187 ?_
  first | refine g_cnd Tk Tryd.func187 rfl (fun h1 => ?_) (fun h1 => ?_) | refine g_know Tk Tryd.func187 rfl (fun h1 => ?_) (fun h1 => ?_) | refine s_know Tk (fun h1 => ?_) (fun h1 => ?_)
  · have h1 : i < l.length := by simpa using h1
    have hd : l.drop i = l[i] :: l.drop (i + 1) := (List.drop_eq_getElem_cons h1)
    first | refine g_need Tk Tryd.func187 (by omega) ?_ | refine s_need Tk (by omega) ?_
    first | refine g_elem Tk Tryd.func187 (get_mapZ (f := fun x => [intsI x]) h1) ?_ | refine s_elem Tk (get_mapZ (f := fun x => [intsI x]) h1) ?_
    first | refine g_call Tk Tryd.func187 (hp l[i] (List.getElem_mem h1)) rfl rfl rfl rfl rfl ?_ | refine s_callq Tk (fun _ => hp l[i] (List.getElem_mem h1)) rfl rfl rfl ?_
    first | refine g_cnd Tk Tryd.func187 rfl (fun h2 => ?_) (fun h2 => ?_) | refine g_know Tk Tryd.func187 rfl (fun h2 => ?_) (fun h2 => ?_) | refine s_know Tk (fun h2 => ?_) (fun h2 => ?_)
    · refine g_ret Tk (r := ii _) rfl rfl rfl trivial rfl rfl ?_
      rw [hd]
      simp only [findIx]
      rw [if_pos h2]
    · refine g_loop ?_
      refine ih (i + 1) _ _ ⟨h1, ?_⟩ (by omega) ⟨rfl, rfl, rfl, rfl, congrArg ii (wsucc h1 hl), trivial⟩ rfl trivial rfl rfl
      rw [hd]
      simp only [findIx]
      rw [if_neg (by rw [h2]; simp)]
  · have h1 : l.length ≤ i := by simpa using h1
    refine g_ret Tk (r := ii _) rfl rfl rfl trivial rfl rfl ?_
    rw [List.drop_eq_nil_of_le h1]
    rfl
theorem containsFunc170c (O : List Heap) (l : List (List Int)) (f : Nat) (d n1 n2 n3 : Nat) (p : (List Int) → Bool) (hl : l.length ≤ max63) (hp : ∀ x ∈ l, ASpec Tryd.prog f [ints x, .own (d + 2) n1 0 0, .own (d + 2) n2 0 0, .own (d + 2) n3 0 0] ([] :: [] :: O) (bb (p x)) [] ([] :: [] :: O)) :
    ASpec Tryd.prog 170 [intss l, .fn (.func f) [] [.own d n1 0 0, .own d n2 0 0, .own d n3 0 0]] O (bb (l.any p)) [] O := by
  refine aspec_intro Tk Tryd.func170 rfl Tryd.call170 Tryd.ntmps170 (Nat.le_of_ble_eq_true rfl) fun E => ?_
  refine g_run Tk Tryd.func170 ?_
  first | refine g_call Tk Tryd.func170 (indexFunc187c _ l f (d + 1) n1 n2 n3 p hl hp) rfl rfl rfl rfl rfl ?_ | refine s_callq Tk (fun _ => indexFunc187c _ l f (d + 1) n1 n2 n3 p hl hp) rfl rfl rfl ?_
  refine g_ret Tk (r := bb _) rfl rfl rfl trivial rfl rfl ?_
  exact congrArg bb (findIx_any p l 0)
theorem indexFunc176 (O : List Heap) (l : List Bx) (f : Nat) (d nm : Nat) (p : Bx → Bool) (hl : l.length ≤ max63) (hp : ∀ x ∈ l, ASpec Tryd.prog f [bxD x, .own (d + 1) nm 0 0] ([] :: O) (bb (p x)) [] ([] :: O)) :
    ASpec Tryd.prog 176 [bxs l, .fn (.func f) [] [.own d nm 0 0]] O (ii (findIx p l 0)) [] O := by
  refine aspec_intro Tk Tryd.func176 rfl Tryd.call176 Tryd.ntmps176 (Nat.le_of_ble_eq_true rfl) fun E => ?_
  refine g_run Tk Tryd.func176 ?_
  refine g_loop ?_
  refine rch_loop2 (fun i : Nat => [(0, bxs l), (1, .fn (.func f) [] [.own (d + 1) nm 0 0]), (6, bxs l), (7, ii l.length), (8, ii i)]) (fun _ => []) (fun _ => O) 19 (fun i => i ≤ l.length ∧ findIx p l 0 = findIx p (l.drop i) i) (fun i => l.length - i) 0 ⟨Nat.zero_le _, rfl⟩ ⟨rfl, rfl, rfl, rfl, rfl, trivial⟩ rfl trivial rfl rfl ?_
  intro i ⟨hi, hno⟩ ih
  rw [hno]
  rw [hno] at ih
  refine g_run Tk Tryd.func176 ?_
  first | refine g_cnd Tk Tryd.func176 rfl (fun h1 => ?_) (fun h1 => ?_) | refine g_know Tk Tryd.func176 rfl (fun h1 => ?_) (fun h1 => ?_) | refine s_know Tk (fun h1 => ?_) (fun h1 => ?_)
  · have h1 : i < l.length := by simpa using h1
    have hd : l.drop i = l[i] :: l.drop (i + 1) := (List.drop_eq_getElem_cons h1)
    first | refine g_need Tk Tryd.func176 (by omega) ?_ | refine s_need Tk (by omega) ?_
    first | refine g_elem Tk Tryd.func176 (get_mapZ (f := bxI) h1) ?_ | refine s_elem Tk (get_mapZ (f := bxI) h1) ?_
    first | refine g_call Tk Tryd.func176 (hp l[i] (List.getElem_mem h1)) rfl rfl rfl rfl rfl ?_ | refine s_callq Tk (fun _ => hp l[i] (List.getElem_mem h1)) rfl rfl rfl ?_
    first | refine g_cnd Tk Tryd.func176 rfl (fun h2 => ?_) (fun h2 => ?_) | refine g_know Tk Tryd.func176 rfl (fun h2 => ?_) (fun h2 => ?_) | refine s_know Tk (fun h2 => ?_) (fun h2 => ?_)
    · refine g_ret Tk (r := ii _) rfl rfl rfl trivial rfl rfl ?_
      rw [hd]
      simp only [findIx]
      rw [if_pos h2]
    · refine g_loop ?_
      refine ih (i + 1) _ _ ⟨h1, ?_⟩ (by omega) ⟨rfl, rfl, rfl, rfl, congrArg ii (wsucc h1 hl), trivial⟩ rfl trivial rfl rfl
      rw [hd]
      simp only [findIx]
      rw [if_neg (by rw [h2]; simp)]
  · have h1 : l.length ≤ i := by simpa using h1
    refine g_ret Tk (r := ii _) rfl rfl rfl trivial rfl rfl ?_
    rw [List.drop_eq_nil_of_le h1]
    rfl
theorem containsFunc150 (O : List Heap) (l : List Bx) (f : Nat) (d nm : Nat) (p : Bx → Bool) (hl : l.length ≤ max63) (hp : ∀ x ∈ l, ASpec Tryd.prog f [bxD x, .own (d + 2) nm 0 0] ([] :: [] :: O) (bb (p x)) [] ([] :: [] :: O)) :
    ASpec Tryd.prog 150 [bxs l, .fn (.func f) [] [.own d nm 0 0]] O (bb (l.any p)) [] O := by
  refine aspec_intro Tk Tryd.func150 rfl Tryd.call150 Tryd.ntmps150 (Nat.le_of_ble_eq_true rfl) fun E => ?_
  refine g_run Tk Tryd.func150 ?_
  first | refine g_call Tk Tryd.func150 (indexFunc176 _ l f (d + 1) nm p hl hp) rfl rfl rfl rfl rfl ?_ | refine s_callq Tk (fun _ => indexFunc176 _ l f (d + 1) nm p hl hp) rfl rfl rfl ?_
  refine g_ret Tk (r := bb _) rfl rfl rfl trivial rfl rfl ?_
  exact congrArg bb (findIx_any p l 0)

theorem in151 (O : List Heap) (b : Bx) (v : List Int) (d nm : Nat) (ho : objAt O d nm = some (.box [ints v])) (h1 : v.length ≤ b.low.length) (h2 : v.length ≤ b.high.length) (hl : v.length ≤ max63) : ASpec Tryd.prog 151 [bxD b, .own d nm 0 0] O (bb (b.has v)) [] O := by
  refine aspec_intro Tk Tryd.func151 rfl Tryd.call151 Tryd.ntmps151 (Nat.le_of_ble_eq_true rfl) fun E => ?_
  refine g_run Tk Tryd.func151 ?_
  first | refine g_obj Tk Tryd.func151 (up_obj ho) ?_ | refine s_obj Tk (up_obj ho) ?_
  first | refine g_call Tk Tryd.func151 (contains152 _ b v h1 h2 hl) rfl rfl rfl rfl rfl ?_ | refine s_callq Tk (fun _ => contains152 _ b v h1 h2 hl) rfl rfl rfl ?_
  refine g_ret Tk (r := bb _) rfl rfl rfl trivial rfl rfl ?_
  rfl
theorem in94 (O : List Heap) (l : List Bx) (v : List Int) (hll : l.length ≤ max63) (hb : ∀ b ∈ l, v.length ≤ b.low.length ∧ v.length ≤ b.high.length) (hl : v.length ≤ max63) : ASpec Tryd.prog 94 [bxs l, ints v] O (bb (inBs l v)) [] O := by
  refine aspec_intro Tk Tryd.func94 rfl Tryd.call94 Tryd.ntmps94 (Nat.le_of_ble_eq_true rfl) fun E => ?_
  refine g_run Tk Tryd.func94 ?_
  first | refine g_call Tk Tryd.func94 (containsFunc150 _ l 151 0 3 (fun b => b.has v) hll (fun b hm => in151 _ b v 2 3 rfl (hb b hm).1 (hb b hm).2 hl)) rfl rfl rfl rfl rfl ?_ | refine s_callq Tk (fun _ => containsFunc150 _ l 151 0 3 (fun b => b.has v) hll (fun b hm => in151 _ b v 2 3 rfl (hb b hm).1 (hb b hm).2 hl)) rfl rfl rfl ?_
  refine g_ret Tk (r := bb _) rfl rfl rfl trivial rfl rfl ?_
  rfl
theorem free186 (O : List Heap) (l : List Vr) (dom needed refused : List (List Int)) (b : Bx) (d n1 n2 : Nat) (ho1 : objAt O d n1 = some (oints b.low)) (ho2 : objAt O d n2 = some (oints b.high)) (hr : refused.length ≤ max63) (hv : ∀ v ∈ refused, v.length ≤ b.low.length ∧ v.length ≤ b.high.length ∧ v.length ≤ max63) :
    ASpec Tryd.prog 186 [.agg [vrs l, intss dom, intss needed, intss refused], .agg [.osl d n1, .osl d n2]] O (bb (freeR refused b)) [] O := by
  refine aspec_intro Tk Tryd.func186 rfl Tryd.call186 Tryd.ntmps186 (Nat.le_of_ble_eq_true rfl) fun E => ?_
  refine g_run Tk Tryd.func186 ?_
  first | refine g_call Tk Tryd.func186 (containsFunc170a _ refused 152 (d + 1) n1 n2 (fun v => b.has v) hr (fun v hm => contains152o _ b v (d + 1 + 2) n1 n2 (up_obj (up_obj (up_obj ho1))) (up_obj (up_obj (up_obj ho2))) (hv v hm).1 (hv v hm).2.1 (hv v hm).2.2)) rfl rfl rfl rfl rfl ?_ | refine s_callq Tk (fun _ => containsFunc170a _ refused 152 (d + 1) n1 n2 (fun v => b.has v) hr (fun v hm => contains152o _ b v (d + 1 + 2) n1 n2 (up_obj (up_obj (up_obj ho1))) (up_obj (up_obj (up_obj ho2))) (hv v hm).1 (hv v hm).2.1 (hv v hm).2.2)) rfl rfl rfl ?_
  refine g_ret Tk (r := bb _) rfl rfl rfl trivial rfl rfl ?_
  rfl
end Go.AI


/- Growing a box. -/
namespace Go.AI
open Go.Proofs
set_option maxRecDepth 20000
theorem oints_set (l : List Int) (i : Nat) (x : Int) : Ob.arr 3 1 l.length ((l.map fun x => [vi x]).set i [vi x]) true = oints (l.set i x) := by simp [List.map_set]
set_option maxHeartbeats 4000000 in
theorem grow167 (O : List Heap) (l : List Vr) (dom needed refused : List (List Int)) (v : List Int) (hl : l.length ≤ 16) (hb : ∀ a ∈ l, -65536 ≤ a.low ∧ a.high ≤ 65536) (hvl : v.length = l.length) (hvb : ∀ j, -65536 ≤ v.getD j 0 ∧ v.getD j 0 ≤ 65536) (hr : refused.length ≤ max63) (hrl : ∀ w ∈ refused, w.length = l.length) :
    ASpec Tryd.prog 167 [.agg [vrs l, intss dom, intss needed, intss refused], ints v] O (bxD (growVs (freeR refused) l 0 ⟨v, v⟩)) [] O := by
  have hfree := fun (O : List Heap) (b : Bx) (d n1 n2 : Nat) (e1 : b.low.length = l.length) (e2 : b.high.length = l.length) (ho1 : objAt O d n1 = some (oints b.low)) (ho2 : objAt O d n2 = some (oints b.high)) => free186 O l dom needed refused b d n1 n2 ho1 ho2 hr (fun w hw => by have := hrl w hw; simp only [max63]; omega)
  have hR0 : growVs (freeR refused) l 0 ⟨v, v⟩ = growVs (freeR refused) (l.drop 0) 0 ⟨v, v⟩ := rfl
  generalize growVs (freeR refused) l 0 ⟨v, v⟩ = R at *
  refine aspec_stop [7, 11] Tk Tryd.func167 rfl Tryd.call167 Tryd.ntmps167 (Nat.le_of_ble_eq_true rfl) fun E => ?_
  refine g_run Tk Tryd.func167 ?_
  first | refine g_call Tk Tryd.func167 (clone57 9 _ v (by simp only [big]; omega)) rfl rfl rfl rfl rfl ?_ | refine s_callq Tk (fun _ => clone57 9 _ v (by simp only [big]; omega)) rfl rfl rfl ?_
  first | refine g_call Tk Tryd.func167 (clone57 11 _ v (by simp only [big]; omega)) rfl rfl rfl rfl rfl ?_ | refine s_callq Tk (fun _ => clone57 11 _ v (by simp only [big]; omega)) rfl rfl rfl ?_
  refine g_loop ?_
  refine rch_loop2 (fun x : Nat × Bx => [(2, .own 0 2 0 0), (4, .own 0 4 0 0), (5, .own 0 5 0 0), (14, vrs l), (15, ii l.length), (16, ii x.1)]) (fun x => [(2, .box [vrs l, intss dom, intss needed, intss refused]), (4, .box [.i (.v (.slice none 0 0)), .i (.v (.slice none 0 0))]), (5, .box [.osl 0 9, .osl 0 11]), (9, oints x.2.low), (11, oints x.2.high)]) (fun _ => O) 75
    (fun x => x.1 ≤ l.length ∧ x.2.low.length = l.length ∧ x.2.high.length = l.length ∧ (∀ j, -65536 ≤ x.2.low.getD j 0 ∧ x.2.low.getD j 0 ≤ 65536) ∧ (∀ j, -65536 ≤ x.2.high.getD j 0 ∧ x.2.high.getD j 0 ≤ 65536) ∧ R = growVs (freeR refused) (l.drop x.1) x.1 x.2) (fun x => l.length - x.1) (0, ⟨v, v⟩)
    ⟨Nat.zero_le _, hvl, hvl, hvb, hvb, hR0⟩ ⟨rfl, rfl, rfl, rfl, rfl, rfl, trivial⟩ rfl ⟨rfl, rfl, rfl, rfl, rfl, trivial⟩ rfl rfl ?_
  clear hR0
  rintro ⟨i, ⟨lo, hi⟩⟩ ⟨hi', hlo, hhi, hbl, hbh, hno⟩ ih
  simp only at hi' hlo hhi hbl hbh hno
  refine g_run Tk Tryd.func167 ?_
  first | refine g_cnd Tk Tryd.func167 rfl (fun g1 => ?_) (fun g1 => ?_) | refine g_know Tk Tryd.func167 rfl (fun g1 => ?_) (fun g1 => ?_) | refine s_know Tk (fun g1 => ?_) (fun g1 => ?_)
  · have h1 : i < l.length := by simpa using g1
    clear g1
    have hg : (l.map vrI)[(i : Int).toNat]? = some (vrI l[i]) := get_mapZ h1
    have hd : l.drop i = l[i] :: l.drop (i + 1) := List.drop_eq_getElem_cons h1
    have hbi := hb _ (List.getElem_mem h1)
    rw [hd] at hno
    simp only [growVs, growV] at hno
    generalize l[i] = va at *
    obtain ⟨nm, vl, vh, vi'⟩ := va
    simp only at hno hbi
    first | refine g_need Tk Tryd.func167 (by exact ⟨by omega, by show (i : Int) < (l.length : Int); omega⟩) ?_ | refine s_need Tk (by exact ⟨by omega, by show (i : Int) < (l.length : Int); omega⟩) ?_
    first | refine g_elem Tk Tryd.func167 (hg) ?_ | refine s_elem Tk (hg) ?_
    let n0 := (lo.getD i 0 - vl).toNat
    apply join_q (P := fun b : Bx => b.low.length = l.length ∧ b.high.length = l.length ∧ (∀ j, -65536 ≤ b.low.getD j 0 ∧ b.low.getD j 0 ≤ 65536) ∧ (∀ j, -65536 ≤ b.high.getD j 0 ∧ b.high.getD j 0 ≤ 65536) ∧ R = growVs (freeR refused) (l.drop (i + 1)) (i + 1) (upR (freeR refused) i vh (vh - b.high.getD i 0).toNat b))
      (s6 := fun b : Bx => { σ := [(2, .own 0 2 0 0), (4, .own 0 4 0 0), (5, .own 0 5 0 0), (14, vrs l), (15, ii l.length), (16, ii i), (6, ii i), (7, .own 0 7 0 0)], S := [(2, .box [vrs l, intss dom, intss needed, intss refused]), (4, .box [.i (.v (.slice none 0 0)), .i (.v (.slice none 0 0))]), (5, .box [.osl 0 9, .osl 0 11]), (9, oints b.low), (11, oints b.high), (7, .box [.i (strI nm), ii vl, ii vh, ii vi'])] :: O, n := 75 })
    · intro J
      refine g_loop ?_
      refine rch_loop2 (fun b : Bx => [(2, .own 0 2 0 0), (4, .own 0 4 0 0), (5, .own 0 5 0 0), (14, vrs l), (15, ii l.length), (16, ii i), (6, ii i), (7, .own 0 7 0 0)]) (fun b => [(2, .box [vrs l, intss dom, intss needed, intss refused]), (4, .box [.i (.v (.slice none 0 0)), .i (.v (.slice none 0 0))]), (5, .box [.osl 0 9, .osl 0 11]), (9, oints b.low), (11, oints b.high), (7, .box [.i (strI nm), ii vl, ii vh, ii vi'])]) (fun _ => O) 75
        (fun b => b.low.length = l.length ∧ b.high.length = l.length ∧ (∀ j, -65536 ≤ b.low.getD j 0 ∧ b.low.getD j 0 ≤ 65536) ∧ (∀ j, -65536 ≤ b.high.getD j 0 ∧ b.high.getD j 0 ≤ 65536) ∧ downR (freeR refused) i vl n0 ⟨lo, hi⟩ = downR (freeR refused) i vl (b.low.getD i 0 - vl).toNat b) (fun b => (b.low.getD i 0 - vl).toNat) ⟨lo, hi⟩
        ⟨hlo, hhi, hbl, hbh, rfl⟩ ⟨rfl, rfl, rfl, rfl, rfl, rfl, rfl, rfl, trivial⟩ rfl ⟨rfl, rfl, rfl, rfl, rfl, rfl, trivial⟩ rfl rfl ?_
      rintro ⟨lo', hi2⟩ ⟨hlo, hhi, hbl, hbh, hdn⟩ ih2
      simp only at hlo hhi hbl hbh hdn
      have hgl : (lo'.map fun x => [vi x])[(i : Int).toNat]? = some [vi (lo'.getD i 0)] := by
        rw [get_mapZ (f := fun x => [vi x]) (show i < lo'.length by omega), List.getD_eq_getElem?_getD, List.getElem?_eq_getElem (show i < lo'.length by omega)]; rfl
      have hxb := hbl i
      generalize hx : lo'.getD i 0 = x at *
      refine g_run Tk Tryd.func167 ?_
      refine g_drawn Tk Tryd.func167 mixedT rfl ?_
      first | refine g_need Tk Tryd.func167 (by exact ⟨by omega, by show (i : Int) < (lo'.length : Int); omega⟩) ?_ | refine s_need Tk (by exact ⟨by omega, by show (i : Int) < (lo'.length : Int); omega⟩) ?_
      first | refine g_elem Tk Tryd.func167 (hgl) ?_ | refine s_elem Tk (hgl) ?_
      refine e_done Tk Tryd.func167 (by kernel_rfl) ?_
      first | refine g_cnd Tk Tryd.func167 rfl (fun g2 => ?_) (fun g2 => ?_) | refine g_know Tk Tryd.func167 rfl (fun g2 => ?_) (fun g2 => ?_) | refine s_know Tk (fun g2 => ?_) (fun g2 => ?_)
      · have h2 : vl < x := of_decide_eq_true g2
        clear g2
        rw [show (x - vl).toNat = (x - 1 - vl).toNat + 1 by omega] at hdn
        simp only [downR, hx] at hdn
        rw [if_pos (by omega)] at hdn
        have hw : IntKind.i64.wrap (x - 1) = x - 1 := w64 (by omega) (by omega)
        first | refine g_need Tk Tryd.func167 (by exact ⟨by omega, by show (i : Int) < (lo'.length : Int); omega⟩) ?_ | refine s_need Tk (by exact ⟨by omega, by show (i : Int) < (lo'.length : Int); omega⟩) ?_
        first | refine g_elem Tk Tryd.func167 (hgl) ?_ | refine s_elem Tk (hgl) ?_
        first | refine g_need Tk Tryd.func167 (by exact ⟨by omega, by show (i : Int) < (lo'.length : Int); omega⟩) ?_ | refine s_need Tk (by exact ⟨by omega, by show (i : Int) < (lo'.length : Int); omega⟩) ?_
        refine g_stop ?_
        refine rch_meet (l := [(2, .own 0 2 0 0), (4, .own 0 4 0 0), (5, .own 0 5 0 0), (14, vrs l), (15, ii l.length), (16, ii i), (6, ii i), (7, .own 0 7 0 0)]) (Hv := [(2, .box [vrs l, intss dom, intss needed, intss refused]), (4, .box [.i (.v (.slice none 0 0)), .i (.v (.slice none 0 0))]), (5, .box [.osl 0 9, .osl 0 11]), (9, oints (lo'.set i (x - 1))), (11, oints hi2), (7, .box [.i (strI nm), ii vl, ii vh, ii vi'])]) (n := 75) ?_ ⟨rfl, rfl, rfl, rfl, rfl, rfl, rfl, rfl, trivial⟩ rfl ⟨rfl, rfl, rfl, by rw [hw]; exact congrArg some (oints_set lo' i (x - 1)), rfl, rfl, trivial⟩ rfl rfl
        refine g_run Tk Tryd.func167 ?_
        refine g_go Tk Tryd.func167 ?_
        first | refine g_call Tk Tryd.func167 (hfree _ ⟨lo'.set i (x - 1), hi2⟩ 0 9 11 (by simpa using hlo) hhi rfl rfl) rfl rfl rfl rfl rfl ?_ | refine s_callq Tk (fun _ => hfree _ ⟨lo'.set i (x - 1), hi2⟩ 0 9 11 (by simpa using hlo) hhi rfl rfl) rfl rfl rfl ?_
        have hlo2 : (lo'.set i (x - 1)).length = l.length := by simpa using hlo
        have hbl2 : ∀ j, -65536 ≤ (lo'.set i (x - 1)).getD j 0 ∧ (lo'.set i (x - 1)).getD j 0 ≤ 65536 := fun j => by
          rw [getD_set]
          split
          · omega
          · exact hbl j
        have hgx : (lo'.set i (x - 1)).getD i 0 = x - 1 := by rw [getD_set, if_pos ⟨rfl, by omega⟩]
        first | refine g_cnd Tk Tryd.func167 rfl (fun g3 => ?_) (fun g3 => ?_) | refine g_know Tk Tryd.func167 rfl (fun g3 => ?_) (fun g3 => ?_) | refine s_know Tk (fun g3 => ?_) (fun g3 => ?_)
        · have h3 : freeR refused ⟨lo'.set i (x - 1), hi2⟩ = false := notT g3
          rw [if_neg (by rw [h3]; simp)] at hdn
          have hw2 : IntKind.i64.wrap (x - 1 + 1) = x := by rw [w64 (by omega) (by omega)]; omega
          have hgl2 : ((lo'.set i (x - 1)).map fun x => [vi x])[(i : Int).toNat]? = some [vi (x - 1)] := by
            rw [get_mapZ (f := fun x => [vi x]) (show i < (lo'.set i (x - 1)).length by omega)]; simp
          have hback : (lo'.set i (x - 1)).set i x = lo' := by
            rw [List.set_set]
            apply List.ext_getElem? 
            intro j
            rw [List.getElem?_set]
            split
            · rename_i e
              subst e
              rw [if_pos (by omega), ← hx, List.getD_eq_getElem?_getD, List.getElem?_eq_getElem (show i < lo'.length by omega)]
              rfl
            · rfl
          first | refine g_need Tk Tryd.func167 (by exact ⟨by omega, by show (i : Int) < ((lo'.set i (x - 1)).length : Int); omega⟩) ?_ | refine s_need Tk (by exact ⟨by omega, by show (i : Int) < ((lo'.set i (x - 1)).length : Int); omega⟩) ?_
          first | refine g_elem Tk Tryd.func167 (hgl2) ?_ | refine s_elem Tk (hgl2) ?_
          first | refine g_need Tk Tryd.func167 (by exact ⟨by omega, by show (i : Int) < ((lo'.set i (x - 1)).length : Int); omega⟩) ?_ | refine s_need Tk (by exact ⟨by omega, by show (i : Int) < ((lo'.set i (x - 1)).length : Int); omega⟩) ?_
          refine g_loop ?_
          refine rch_meet (J ⟨lo', hi2⟩ ⟨hlo, hhi, hbl, hbh, ?_⟩) ⟨rfl, rfl, rfl, rfl, rfl, rfl, rfl, rfl, trivial⟩ rfl ⟨rfl, rfl, rfl, by rw [hw2]; exact congrArg some ((oints_set (lo'.set i (x - 1)) i x).trans (congrArg oints hback)), rfl, rfl, trivial⟩ rfl rfl
          rw [hno, hdn]
        · have h3 : freeR refused ⟨lo'.set i (x - 1), hi2⟩ = true := notF g3
          rw [if_pos h3] at hdn
          refine g_loop ?_
          refine ih2 ⟨lo'.set i (x - 1), hi2⟩ _ _ ⟨hlo2, hhi, hbl2, hbh, by simp only [hgx]; exact hdn⟩ (by simp only [hgx, hx]; omega) ⟨rfl, rfl, rfl, rfl, rfl, rfl, rfl, rfl, trivial⟩ rfl ⟨rfl, rfl, rfl, rfl, rfl, rfl, trivial⟩ rfl rfl
      · have h2 : ¬ vl < x := of_decide_eq_false g2
        rw [show (x - vl).toNat = 0 by omega] at hdn
        simp only [downR] at hdn
        refine g_loop ?_
        refine rch_meet (J ⟨lo', hi2⟩ ⟨hlo, hhi, hbl, hbh, ?_⟩) ⟨rfl, rfl, rfl, rfl, rfl, rfl, rfl, rfl, trivial⟩ rfl ⟨rfl, rfl, rfl, rfl, rfl, rfl, trivial⟩ rfl rfl
        rw [hno, hdn]
    rintro ⟨lo1, hi1⟩ ⟨hlo, hhi, hbl, hbh, hno⟩
    simp only at hlo hhi hbl hbh hno
    refine rch_loop2 (fun b : Bx => [(2, .own 0 2 0 0), (4, .own 0 4 0 0), (5, .own 0 5 0 0), (14, vrs l), (15, ii l.length), (16, ii i), (6, ii i), (7, .own 0 7 0 0)]) (fun b => [(2, .box [vrs l, intss dom, intss needed, intss refused]), (4, .box [.i (.v (.slice none 0 0)), .i (.v (.slice none 0 0))]), (5, .box [.osl 0 9, .osl 0 11]), (9, oints b.low), (11, oints b.high), (7, .box [.i (strI nm), ii vl, ii vh, ii vi'])]) (fun _ => O) 75
        (fun b => b.low.length = l.length ∧ b.high.length = l.length ∧ (∀ j, -65536 ≤ b.low.getD j 0 ∧ b.low.getD j 0 ≤ 65536) ∧ (∀ j, -65536 ≤ b.high.getD j 0 ∧ b.high.getD j 0 ≤ 65536) ∧ upR (freeR refused) i vh (vh - hi1.getD i 0).toNat ⟨lo1, hi1⟩ = upR (freeR refused) i vh (vh - b.high.getD i 0).toNat b) (fun b => (vh - b.high.getD i 0).toNat) ⟨lo1, hi1⟩
        ⟨hlo, hhi, hbl, hbh, rfl⟩ ⟨rfl, rfl, rfl, rfl, rfl, rfl, rfl, rfl, trivial⟩ rfl ⟨rfl, rfl, rfl, rfl, rfl, rfl, trivial⟩ rfl rfl ?_
    rintro ⟨lo2, hi'⟩ ⟨hlo, hhi, hbl, hbh, hdn⟩ ih2
    simp only at hlo hhi hbl hbh hdn
    have hgl : (hi'.map fun x => [vi x])[(i : Int).toNat]? = some [vi (hi'.getD i 0)] := by
      rw [get_mapZ (f := fun x => [vi x]) (show i < hi'.length by omega), List.getD_eq_getElem?_getD, List.getElem?_eq_getElem (show i < hi'.length by omega)]; rfl
    have hxb := hbh i
    generalize hx : hi'.getD i 0 = x at *
    refine g_run Tk Tryd.func167 ?_
    refine g_drawn Tk Tryd.func167 mixedT rfl ?_
    first | refine g_need Tk Tryd.func167 (by exact ⟨by omega, by show (i : Int) < (hi'.length : Int); omega⟩) ?_ | refine s_need Tk (by exact ⟨by omega, by show (i : Int) < (hi'.length : Int); omega⟩) ?_
    first | refine g_elem Tk Tryd.func167 (hgl) ?_ | refine s_elem Tk (hgl) ?_
    refine e_done Tk Tryd.func167 (by kernel_rfl) ?_
    first | refine g_cnd Tk Tryd.func167 rfl (fun g2 => ?_) (fun g2 => ?_) | refine g_know Tk Tryd.func167 rfl (fun g2 => ?_) (fun g2 => ?_) | refine s_know Tk (fun g2 => ?_) (fun g2 => ?_)
    · have h2 : x < vh := of_decide_eq_true g2
      clear g2
      rw [show (vh - x).toNat = (vh - (x + 1)).toNat + 1 by omega] at hdn
      simp only [upR, hx] at hdn
      rw [if_pos (by omega)] at hdn
      have hw : IntKind.i64.wrap (x + 1) = x + 1 := w64 (by omega) (by omega)
      first | refine g_need Tk Tryd.func167 (by exact ⟨by omega, by show (i : Int) < (hi'.length : Int); omega⟩) ?_ | refine s_need Tk (by exact ⟨by omega, by show (i : Int) < (hi'.length : Int); omega⟩) ?_
      first | refine g_elem Tk Tryd.func167 (hgl) ?_ | refine s_elem Tk (hgl) ?_
      first | refine g_need Tk Tryd.func167 (by exact ⟨by omega, by show (i : Int) < (hi'.length : Int); omega⟩) ?_ | refine s_need Tk (by exact ⟨by omega, by show (i : Int) < (hi'.length : Int); omega⟩) ?_
      refine g_stop ?_
      refine rch_meet (l := [(2, .own 0 2 0 0), (4, .own 0 4 0 0), (5, .own 0 5 0 0), (14, vrs l), (15, ii l.length), (16, ii i), (6, ii i), (7, .own 0 7 0 0)]) (Hv := [(2, .box [vrs l, intss dom, intss needed, intss refused]), (4, .box [.i (.v (.slice none 0 0)), .i (.v (.slice none 0 0))]), (5, .box [.osl 0 9, .osl 0 11]), (9, oints lo2), (11, oints (hi'.set i (x + 1))), (7, .box [.i (strI nm), ii vl, ii vh, ii vi'])]) (n := 75) ?_ ⟨rfl, rfl, rfl, rfl, rfl, rfl, rfl, rfl, trivial⟩ rfl ⟨rfl, rfl, rfl, rfl, by rw [hw]; exact congrArg some (oints_set hi' i (x + 1)), rfl, trivial⟩ rfl rfl
      refine g_run Tk Tryd.func167 ?_
      refine g_go Tk Tryd.func167 ?_
      first | refine g_call Tk Tryd.func167 (hfree _ ⟨lo2, hi'.set i (x + 1)⟩ 0 9 11 hlo (by simpa using hhi) rfl rfl) rfl rfl rfl rfl rfl ?_ | refine s_callq Tk (fun _ => hfree _ ⟨lo2, hi'.set i (x + 1)⟩ 0 9 11 hlo (by simpa using hhi) rfl rfl) rfl rfl rfl ?_
      have hhi2 : (hi'.set i (x + 1)).length = l.length := by simpa using hhi
      have hbh2 : ∀ j, -65536 ≤ (hi'.set i (x + 1)).getD j 0 ∧ (hi'.set i (x + 1)).getD j 0 ≤ 65536 := fun j => by
        rw [getD_set]
        split
        · omega
        · exact hbh j
      have hgx : (hi'.set i (x + 1)).getD i 0 = x + 1 := by rw [getD_set, if_pos ⟨rfl, by omega⟩]
      first | refine g_cnd Tk Tryd.func167 rfl (fun g3 => ?_) (fun g3 => ?_) | refine g_know Tk Tryd.func167 rfl (fun g3 => ?_) (fun g3 => ?_) | refine s_know Tk (fun g3 => ?_) (fun g3 => ?_)
      · have h3 : freeR refused ⟨lo2, hi'.set i (x + 1)⟩ = false := notT g3
        rw [if_neg (by rw [h3]; simp)] at hdn
        have hw2 : IntKind.i64.wrap (x + 1 - 1) = x := by rw [w64 (by omega) (by omega)]; omega
        have hgl2 : ((hi'.set i (x + 1)).map fun x => [vi x])[(i : Int).toNat]? = some [vi (x + 1)] := by
          rw [get_mapZ (f := fun x => [vi x]) (show i < (hi'.set i (x + 1)).length by omega)]; simp
        have hback : (hi'.set i (x + 1)).set i x = hi' := by
          rw [List.set_set]
          apply List.ext_getElem?
          intro j
          rw [List.getElem?_set]
          split
          · rename_i e
            subst e
            rw [if_pos (by omega), ← hx, List.getD_eq_getElem?_getD, List.getElem?_eq_getElem (show i < hi'.length by omega)]
            rfl
          · rfl
        first | refine g_need Tk Tryd.func167 (by exact ⟨by omega, by show (i : Int) < ((hi'.set i (x + 1)).length : Int); omega⟩) ?_ | refine s_need Tk (by exact ⟨by omega, by show (i : Int) < ((hi'.set i (x + 1)).length : Int); omega⟩) ?_
        first | refine g_elem Tk Tryd.func167 (hgl2) ?_ | refine s_elem Tk (hgl2) ?_
        first | refine g_need Tk Tryd.func167 (by exact ⟨by omega, by show (i : Int) < ((hi'.set i (x + 1)).length : Int); omega⟩) ?_ | refine s_need Tk (by exact ⟨by omega, by show (i : Int) < ((hi'.set i (x + 1)).length : Int); omega⟩) ?_
        refine g_loop ?_
        refine ih (i + 1, ⟨lo2, hi'⟩) _ _ ⟨h1, hlo, hhi, hbl, hbh, ?_⟩ (by simp only; omega) ⟨rfl, rfl, rfl, rfl, rfl, congrArg ii (wsucc (n := 16) (by omega) (by decide)), trivial⟩ rfl ⟨rfl, rfl, rfl, rfl, by rw [hw2]; exact congrArg some ((oints_set (hi'.set i (x + 1)) i x).trans (congrArg oints hback)), trivial⟩ rfl rfl
        rw [hno, hdn]
      · have h3 : freeR refused ⟨lo2, hi'.set i (x + 1)⟩ = true := notF g3
        rw [if_pos h3] at hdn
        refine g_loop ?_
        refine ih2 ⟨lo2, hi'.set i (x + 1)⟩ _ _ ⟨hlo, hhi2, hbl, hbh2, by simp only [hgx]; exact hdn⟩ (by simp only [hgx, hx]; omega) ⟨rfl, rfl, rfl, rfl, rfl, rfl, rfl, rfl, trivial⟩ rfl ⟨rfl, rfl, rfl, rfl, rfl, rfl, trivial⟩ rfl rfl
    · have h2 : ¬ x < vh := of_decide_eq_false g2
      rw [show (vh - x).toNat = 0 by omega] at hdn
      simp only [upR] at hdn
      refine g_loop ?_
      refine ih (i + 1, ⟨lo2, hi'⟩) _ _ ⟨h1, hlo, hhi, hbl, hbh, ?_⟩ (by simp only; omega) ⟨rfl, rfl, rfl, rfl, rfl, congrArg ii (wsucc (n := 16) (by omega) (by decide)), trivial⟩ rfl ⟨rfl, rfl, rfl, rfl, rfl, trivial⟩ rfl rfl
      rw [hno, hdn]
  · have h1 : l.length ≤ i := by simpa using g1
    rw [List.drop_eq_nil_of_le h1] at hno
    simp only [growVs] at hno
    subst hno
    refine g_rwk (wk_freeze 9 rfl rfl) ?_
    refine g_rwk (wk_freeze 11 rfl rfl) ?_
    refine g_rwk (wk_imm rfl) ?_
    refine g_ret Tk (r := bxD ⟨lo, hi⟩) rfl rfl rfl trivial rfl rfl ?_
    rfl
end Go.AI


/- The law's own: within, permitted, grow. -/
namespace Go.AI
open Go.Proofs
set_option maxRecDepth 20000
theorem within28 (O : List Heap) (b : Bx) (v : List Int) (h1 : v.length ≤ b.low.length) (h2 : v.length ≤ b.high.length) (hl : v.length ≤ max63) : ASpec Tryd.prog 28 [bxD b, ints v] O (bb (b.has v)) [] O := by
  obtain ⟨lo, hi⟩ := b
  unfold Bx.has
  simp only at h1 h2 ⊢
  generalize hR : contB v lo hi = R
  refine aspec_intro Tk Tryd.func28 rfl Tryd.call28 Tryd.ntmps28 (Nat.le_of_ble_eq_true rfl) fun E => ?_
  refine g_run Tk Tryd.func28 ?_
  refine g_loop ?_
  refine rch_loop2 (fun i : Nat => [(1, ints v), (2, .own 0 2 0 0), (5, ii i)]) (fun i => [(2, .box [ints lo, ints hi])]) (fun _ => O) 34
    (fun i => i ≤ v.length ∧ contB (v.drop i) (lo.drop i) (hi.drop i) = R) (fun i => v.length - i) 0 ⟨Nat.zero_le _, hR⟩ ⟨rfl, rfl, rfl, trivial⟩ rfl ⟨rfl, trivial⟩ rfl rfl ?_
  rintro i ⟨hi', hno⟩ ih
  clear hR
  refine g_run Tk Tryd.func28 ?_
  first | refine g_cnd Tk Tryd.func28 rfl (fun g1 => ?_) (fun g1 => ?_) | refine g_know Tk Tryd.func28 rfl (fun g1 => ?_) (fun g1 => ?_) | refine s_know Tk (fun g1 => ?_) (fun g1 => ?_)
  · have h3 : i < v.length := by simpa using g1
    have gv : (v.map fun x => [vi x])[(i : Int).toNat]? = some [vi v[i]] := get_mapZ (f := fun x => [vi x]) h3
    have gl : (lo.map fun x => [vi x])[(i : Int).toNat]? = some [vi (lo[i]'(by omega))] := get_mapZ (f := fun x => [vi x]) (by omega)
    have gh : (hi.map fun x => [vi x])[(i : Int).toNat]? = some [vi (hi[i]'(by omega))] := get_mapZ (f := fun x => [vi x]) (by omega)
    have dv : v.drop i = v[i] :: v.drop (i + 1) := List.drop_eq_getElem_cons h3
    have dl : lo.drop i = (lo[i]'(by omega)) :: lo.drop (i + 1) := List.drop_eq_getElem_cons (by omega)
    have dh : hi.drop i = (hi[i]'(by omega)) :: hi.drop (i + 1) := List.drop_eq_getElem_cons (by omega)
    rw [dv, dl, dh] at hno
    simp only [contB] at hno
    clear dv dl dh
    generalize v[i] = x at *
    generalize lo[i]'(by omega) = a at *
    generalize hi[i]'(by omega) = c at *
    refine g_drawn Tk Tryd.func28 mixedT rfl ?_
    first | refine g_need Tk Tryd.func28 (by exact ⟨by omega, by show (i : Int) < (v.length : Int); omega⟩) ?_ | refine s_need Tk (by exact ⟨by omega, by show (i : Int) < (v.length : Int); omega⟩) ?_
    first | refine g_elem Tk Tryd.func28 (gv) ?_ | refine s_elem Tk (gv) ?_
    first | refine g_need Tk Tryd.func28 (by exact ⟨by omega, by show (i : Int) < (lo.length : Int); omega⟩) ?_ | refine s_need Tk (by exact ⟨by omega, by show (i : Int) < (lo.length : Int); omega⟩) ?_
    first | refine g_elem Tk Tryd.func28 (gl) ?_ | refine s_elem Tk (gl) ?_
    first | refine g_cnd Tk Tryd.func28 rfl (fun h4 => ?_) (fun h4 => ?_) | refine g_know Tk Tryd.func28 rfl (fun h4 => ?_) (fun h4 => ?_) | refine s_know Tk (fun h4 => ?_) (fun h4 => ?_)
    · have h4 : x < a := of_decide_eq_true h4
      have : R = false := by rw [← hno]; simp [h4]
      subst this
      refine e_done Tk Tryd.func28 (by kernel_rfl) ?_
      repeat (first | refine g_cnd Tk Tryd.func28 rfl (fun _ => ?_) (fun h => absurd h (by decide)) | refine g_cnd Tk Tryd.func28 rfl (fun h => absurd h (by decide)) (fun _ => ?_) | refine g_know Tk Tryd.func28 rfl (fun _ => ?_) (fun h => absurd h (by decide)) | refine g_know Tk Tryd.func28 rfl (fun h => absurd h (by decide)) (fun _ => ?_) | refine s_know Tk (fun _ => ?_) (fun h => absurd h (by decide)) | refine s_know Tk (fun h => absurd h (by decide)) (fun _ => ?_))
      refine g_ret Tk (r := bb false) rfl rfl rfl trivial rfl rfl ?_
      rfl
    have h4 : ¬ x < a := of_decide_eq_false h4
    first | refine g_need Tk Tryd.func28 (by exact ⟨by omega, by show (i : Int) < (v.length : Int); omega⟩) ?_ | refine s_need Tk (by exact ⟨by omega, by show (i : Int) < (v.length : Int); omega⟩) ?_
    first | refine g_elem Tk Tryd.func28 (gv) ?_ | refine s_elem Tk (gv) ?_
    first | refine g_need Tk Tryd.func28 (by exact ⟨by omega, by show (i : Int) < (hi.length : Int); omega⟩) ?_ | refine s_need Tk (by exact ⟨by omega, by show (i : Int) < (hi.length : Int); omega⟩) ?_
    first | refine g_elem Tk Tryd.func28 (gh) ?_ | refine s_elem Tk (gh) ?_
    refine e_done Tk Tryd.func28 (by kernel_rfl) ?_
    first | refine g_cnd Tk Tryd.func28 rfl (fun h5 => ?_) (fun h5 => ?_) | refine g_know Tk Tryd.func28 rfl (fun h5 => ?_) (fun h5 => ?_) | refine s_know Tk (fun h5 => ?_) (fun h5 => ?_)
    · have h5 : c < x := of_decide_eq_true h5
      have : R = false := by rw [← hno]; simp [h5]
      subst this
      refine g_ret Tk (r := bb false) rfl rfl rfl trivial rfl rfl ?_
      rfl
    have h5 : ¬ c < x := of_decide_eq_false h5
    have hno : contB (v.drop (i + 1)) (lo.drop (i + 1)) (hi.drop (i + 1)) = R := by rw [← hno]; simp [h4, h5]
    refine g_loop ?_
    exact ih (i + 1) _ _ ⟨h3, hno⟩ (by omega) ⟨rfl, rfl, congrArg ii (wsucc h3 hl), trivial⟩ rfl ⟨rfl, trivial⟩ rfl rfl
  · have h3 : v.length ≤ i := by simpa using g1
    rw [List.drop_eq_nil_of_le h3] at hno
    have : R = true := by rw [← hno]; cases lo.drop i <;> cases hi.drop i <;> rfl
    subst this
    refine g_ret Tk (r := bb true) rfl rfl rfl trivial rfl rfl ?_
    rfl
end Go.AI


/- The law's domain, table, bits. -/
namespace Go.AI
open Go.Proofs
set_option maxRecDepth 20000
theorem domain17 (O : List Heap) (l : List Vr) (hl : l.length ≤ 16) (hv : ∀ v ∈ l, (-65536 ≤ v.low ∧ v.high ≤ 65536) ∧ v.low ≤ v.high) (hcl : ∀ j, (allV (l.take j)).length ≤ 4096) : ASpec Tryd.prog 17 [vrs l] O (intss (allV l)) [] O := by
  refine aspec_stop [200045] Tk Tryd.func17 rfl Tryd.call17 Tryd.ntmps17 (Nat.le_of_ble_eq_true rfl) fun E => ?_
  refine g_run Tk Tryd.func17 ?_
  refine g_loop ?_
  have hco : CoD (.i (.sl 1 1 [[.v (.slice none 0 0)]])) (intss [[]]) := by
    show CoD _ (.i (.sl 1 1 [[.sl 1 0 []]]))
    repeat' (first | refine coD_tup ?_ | refine coD_agg ?_ | refine coD_i ?_ | refine CoDL.cons ?_ ?_ | exact CoDL.nil | exact coI_nil | refine coI_sl ?_ | refine CoLL.cons ?_ ?_ | exact CoLL.nil | refine CoL.cons ?_ ?_ | exact CoL.nil | exact CoI.refl _ | exact CoL.refl _ | exact CoLL.refl _ | exact CoDL.refl _ | exact CoD.refl _)
  refine rch_wk (wk_freeze 8 rfl rfl) ?_
  refine rch_wk (wk_imm rfl) ?_
  refine rch_wk (wk_co 3 (d := intss [[]]) (by exact hco)) ?_
  clear hco
  refine rch_loop2 (fun x : Nat × List (List Int) => [(0, vrs l), (3, intss x.2), (4, ii x.1)]) (fun _ => []) (fun _ => O) 49
    (fun x => x.1 ≤ l.length ∧ x.2 = allV (l.take x.1) ∧ ∀ y ∈ x.2, y.length = x.1) (fun x => l.length - x.1) (0, [[]]) ⟨Nat.zero_le _, rfl, by simp⟩ ⟨rfl, rfl, rfl, trivial⟩ rfl trivial rfl rfl ?_
  rintro ⟨j, out⟩ ⟨hj, hout, hvals⟩ ih
  simp only at hj hout hvals
  have hlen : out.length ≤ 4096 := by rw [hout]; exact hcl j
  refine g_run Tk Tryd.func17 ?_
  first | refine g_cnd Tk Tryd.func17 rfl (fun g1 => ?_) (fun g1 => ?_) | refine g_know Tk Tryd.func17 rfl (fun g1 => ?_) (fun g1 => ?_) | refine s_know Tk (fun g1 => ?_) (fun g1 => ?_)
  · have h1 : j < l.length := by simpa using g1
    clear g1
    have hg : (l.map vrI)[(j : Int).toNat]? = some (vrI l[j]) := get_mapZ h1
    have hvo := hv _ (List.getElem_mem h1)
    have hnext : allStep out l[j] = allV (l.take (j + 1)) := by
      rw [hout]
      unfold allV
      rw [List.take_add_one, List.getElem?_eq_getElem h1, List.foldl_append]
      rfl
    have hsl : (allStep out l[j]).length ≤ 4096 := by rw [hnext]; exact hcl (j + 1)
    generalize l[j] = v at *
    obtain ⟨⟨hlo, hhi⟩, hlh⟩ := hvo
    have hpre : ∀ i, (allStep (out.take i) v).length ≤ 4096 := fun i => by
      have h1 := allStep_len' out v (by omega)
      have h2 := allStep_len' (out.take i) v (by omega)
      have h3 : (out.take i).length ≤ out.length := by simp only [List.length_take]; omega
      have h4 : ((out.take i).length : Int) * v.w ≤ out.length * v.w := Int.mul_le_mul_of_nonneg_right (by omega) (by unfold Vr.w; omega)
      omega
    have hsv := allStep_vals (out := out) (v := v) hvals
    refine g_loop ?_
    refine rch_wk (wk_nil 5 46 53 1 rfl rfl rfl) ?_
    refine rch_loop2 (fun x : Nat × List (List Int) => [(0, vrs l), (3, intss out), (4, ii j), (5, .osl 0 46), (6, ii x.1)]) (fun x => [(46, ointss x.2)]) (fun _ => O) 49
      (fun x => x.1 ≤ out.length ∧ x.2 = allStep (out.take x.1) v) (fun x => out.length - x.1) (0, []) ⟨Nat.zero_le _, rfl⟩ ⟨rfl, rfl, rfl, rfl, rfl, trivial⟩ rfl ⟨rfl, trivial⟩ rfl rfl ?_
    rintro ⟨i, acc⟩ ⟨hi, hacc⟩ ih2
    simp only at hi hacc
    refine g_run Tk Tryd.func17 ?_
    first | refine g_cnd Tk Tryd.func17 rfl (fun g2 => ?_) (fun g2 => ?_) | refine g_know Tk Tryd.func17 rfl (fun g2 => ?_) (fun g2 => ?_) | refine s_know Tk (fun g2 => ?_) (fun g2 => ?_)
    · have h2 : i < out.length := by simpa using g2
      clear g2
      have hgo : (out.map fun x => [intsI x])[(i : Int).toNat]? = some [intsI out[i]] := get_mapZ (f := fun x => [intsI x]) h2
      have hxl := hvals _ (List.getElem_mem h2)
      have hnx : allStep (out.take (i + 1)) v = acc ++ (rangeI v.low v.high).map fun n => out[i] ++ [n] := by
        rw [hacc]
        unfold allStep
        rw [List.take_add_one, List.getElem?_eq_getElem h2, List.flatMap_append]
        simp
      have hal : acc.length ≤ 4096 := by
        rw [hacc]
        exact hpre i
      generalize out[i] = vals at *
      have hk0 : rangeI v.low (v.low + ((0 : Nat) : Int) - 1) = [] := by
        unfold rangeI
        rw [show (v.low + ((0 : Nat) : Int) - 1 - v.low + 1).toNat = 0 by omega]
        rfl
      have hjb : 0 ≤ (j : Int) ∧ (j : Int) < (l.length : Int) := by omega
      first | refine g_need Tk Tryd.func17 (by exact hjb) ?_ | refine s_need Tk (by exact hjb) ?_
      first | refine g_elem Tk Tryd.func17 (hg) ?_ | refine s_elem Tk (hg) ?_
      refine g_loop ?_
      refine rch_loop2 (fun k : Nat => [(0, vrs l), (3, intss out), (4, ii j), (5, .osl 0 46), (6, ii i), (7, ii (v.low + k))])
        (fun k => [(46, ointss (acc ++ (rangeI v.low (v.low + k - 1)).map fun n => vals ++ [n]))]) (fun _ => O) 49
        (fun k => (k : Int) ≤ v.high - v.low + 1) (fun k => (v.high - v.low + 1).toNat - k) 0 (show ((0 : Nat) : Int) ≤ v.high - v.low + 1 by omega) ⟨rfl, rfl, rfl, rfl, rfl, congrArg ii (by simp), trivial⟩ rfl ⟨by show some (ointss acc) = some (ointss (acc ++ (rangeI v.low (v.low + ((0 : Nat) : Int) - 1)).map fun n => vals ++ [n])); rw [hk0]; simp, trivial⟩ rfl rfl ?_
      rintro k hk ih3
      have hk : (k : Int) ≤ v.high - v.low + 1 := hk
      have hks : (rangeI v.low (v.low + ((k + 1 : Nat) : Int) - 1)).map (fun n => vals ++ [n]) = (rangeI v.low (v.low + k - 1)).map (fun n => vals ++ [n]) ++ [vals ++ [v.low + k]] := by
        unfold rangeI
        rw [show (v.low + ((k + 1 : Nat) : Int) - 1 - v.low + 1).toNat = k + 1 by omega, show (v.low + (k : Int) - 1 - v.low + 1).toNat = k by omega, List.range_succ, List.map_append, List.map_append]
        rfl
      have hkl : ((rangeI v.low (v.low + k - 1)).map fun n => vals ++ [n]).length = k := by
        unfold rangeI
        simp
        omega
      have hke : (k : Int) = v.high - v.low + 1 → (rangeI v.low (v.low + k - 1)).map (fun n => vals ++ [n]) = (rangeI v.low v.high).map fun n => vals ++ [n] := fun e => by rw [e, show v.low + (v.high - v.low + 1) - 1 = v.high by omega]
      generalize (rangeI v.low (v.low + k - 1)).map (fun n => vals ++ [n]) = part at *
      refine g_run Tk Tryd.func17 ?_
      first | refine g_need Tk Tryd.func17 (by exact hjb) ?_ | refine s_need Tk (by exact hjb) ?_
      first | refine g_elem Tk Tryd.func17 (hg) ?_ | refine s_elem Tk (hg) ?_
      first | refine g_cnd Tk Tryd.func17 rfl (fun g3 => ?_) (fun g3 => ?_) | refine g_know Tk Tryd.func17 rfl (fun g3 => ?_) (fun g3 => ?_) | refine s_know Tk (fun g3 => ?_) (fun g3 => ?_)
      · have h3 : v.low + k ≤ v.high := of_decide_eq_true g3
        clear g3
        first | refine g_need Tk Tryd.func17 (by exact ⟨by omega, by show (i : Int) < (out.length : Int); omega⟩) ?_ | refine s_need Tk (by exact ⟨by omega, by show (i : Int) < (out.length : Int); omega⟩) ?_
        first | refine g_elem Tk Tryd.func17 (hgo) ?_ | refine s_elem Tk (hgo) ?_
        first | refine g_need Tk Tryd.func17 (by exact ⟨by show (0 + vals.length) * 8 ≤ 140737488355328; omega, by show 0 + vals.length ≤ 9223372036854775807; omega⟩) ?_ | refine s_need Tk (by exact ⟨by show (0 + vals.length) * 8 ≤ 140737488355328; omega, by show 0 + vals.length ≤ 9223372036854775807; omega⟩) ?_
        first | refine g_need Tk Tryd.func17 (by exact ⟨by show (0 + vals.length + 1) * 8 ≤ 140737488355328; omega, by show 0 + vals.length + 1 ≤ 9223372036854775807; omega⟩) ?_ | refine s_need Tk (by exact ⟨by show (0 + vals.length + 1) * 8 ≤ 140737488355328; omega, by show 0 + vals.length + 1 ≤ 9223372036854775807; omega⟩) ?_
        refine g_pause Tk Tryd.func17 rfl rfl (Wk.trans (wk_freeze 44 rfl rfl) (wk_imm rfl)) ?_
        first | refine g_need Tk Tryd.func17 (by exact ⟨by show ((acc ++ part).length + 1) * 24 ≤ 140737488355328; simp only [List.length_append]; omega, by show (acc ++ part).length + 1 ≤ 9223372036854775807; simp only [List.length_append]; omega⟩) ?_ | refine s_need Tk (by exact ⟨by show ((acc ++ part).length + 1) * 24 ≤ 140737488355328; simp only [List.length_append]; omega, by show (acc ++ part).length + 1 ≤ 9223372036854775807; simp only [List.length_append]; omega⟩) ?_
        refine g_loop ?_
        refine ih3 (k + 1) _ _ (show ((k + 1 : Nat) : Int) ≤ v.high - v.low + 1 by omega) (by omega) ⟨rfl, rfl, rfl, rfl, rfl, congrArg ii ?_, trivial⟩ rfl ⟨?_, trivial⟩ rfl rfl
        · rw [w64 (by omega) (by omega)]; omega
        · rw [hks]
          have e : (vals ++ [v.low + (k : Int)]).map (fun x => [vi x]) = [] ++ vals.map (fun x => [vi x]) ++ [[vi (v.low + k)]] := by simp
          show some (Ob.arr 53 1 ((acc ++ part).length + 1) ((acc ++ part).map (fun x => [intsI x]) ++ [[.sl 1 (0 + vals.length + 1) ([] ++ vals.map (fun x => [vi x]) ++ [[vi (v.low + k)]])]]) true) = some (ointss (acc ++ (part ++ [vals ++ [v.low + (k : Int)]])))
          rw [← List.append_assoc acc part]
          have e2 : 0 + vals.length + 1 = (vals ++ [v.low + (k : Int)]).length := by simp
          rw [← e, e2]
          exact congrArg some (ointss_app _ _)
      · have h3 : ¬ v.low + k ≤ v.high := of_decide_eq_false g3
        clear g3
        rw [hke (by omega)]
        refine g_loop ?_
        refine ih2 (i + 1, acc ++ (rangeI v.low v.high).map fun n => vals ++ [n]) _ _ ⟨h2, hnx.symm⟩ (by simp only; omega) ⟨rfl, rfl, rfl, rfl, congrArg ii (wsucc (n := 4096) (by omega) (by decide)), trivial⟩ rfl ⟨rfl, trivial⟩ rfl rfl
    · have h2 : out.length ≤ i := by simpa using g2
      clear g2
      rw [List.take_of_length_le h2] at hacc
      refine g_loop ?_
      refine rch_wk (wk_freeze 46 rfl rfl) ?_
      refine rch_wk (wk_imm rfl) ?_
      rw [hacc] at *
      refine ih (j + 1, allStep out v) _ _ ⟨h1, hnext, hsv⟩ (by simp only; omega) ⟨rfl, rfl, congrArg ii (wsucc (n := 16) (by omega) (by decide)), trivial⟩ rfl trivial rfl rfl
  · have h1 : l.length ≤ j := by simpa using g1
    rw [List.take_of_length_le h1] at hout
    subst hout
    refine g_ret Tk (r := intss (allV l)) rfl rfl rfl trivial rfl rfl ?_
    rfl
end Go.AI


/- The law's table, bits, covered. -/
namespace Go.AI
open Go.Proofs
set_option maxRecDepth 20000
/-- What the law asks of variables. -/
structure domOk (l : List Vr) : Prop where
  len : l.length ≤ 16
  b : ∀ v ∈ l, (-65536 ≤ v.low ∧ v.high ≤ 65536) ∧ v.low ≤ v.high
  cnt : ∀ j, (allV (l.take j)).length ≤ 4096
theorem domOk.all {l : List Vr} (h : domOk l) : (allV l).length ≤ 4096 := by have := h.cnt l.length; rwa [List.take_length] at this
theorem allV_mem_len {l : List Vr} {v : List Int} (h : v ∈ allV l) : v.length = l.length := inV_len ((allV_dom l).mem v |>.1 h)
end Go.AI


/- The law's covered and cover. -/
namespace Go.AI
open Go.Proofs
set_option maxRecDepth 20000
end Go.AI


/- The law's cover. -/
namespace Go.AI
open Go.Proofs
set_option maxRecDepth 20000
theorem coverL_len (free : Bx → Bool) (vars : List Vr) : ∀ (n : List (List Int)) (l : List Bx), (coverL free vars n l).length ≤ l.length + n.length
  | [], l => by simp [coverL]
  | v :: r, l => by
    simp only [coverL]
    split
    · have := coverL_len free vars r l; simp only [List.length_cons]; omega
    · have := coverL_len free vars r (l ++ [growVs free vars 0 ⟨v, v⟩]); simp only [List.length_append, List.length_cons, List.length_nil] at this ⊢; omega
theorem neededR_len : ∀ (all : List (List Int)) (t c : List Bool), (neededR all t c).length ≤ all.length
  | [], _, _ => by simp [neededR]
  | _ :: _, [], _ => by simp [neededR]
  | _ :: _, _ :: _, [] => by simp [neededR]
  | d :: ds, t :: ts, c :: cs => by
    have := neededR_len ds ts cs
    simp only [neededR, List.length_cons]
    split
    · simp only [List.length_cons]; omega
    · omega
theorem dom_bounds {l : List Vr} (h : domOk l) {v : List Int} (hv : v ∈ allV l) : ∀ j, -65536 ≤ v.getD j 0 ∧ v.getD j 0 ≤ 65536 := by
  have h1 := (allV_dom l).mem v |>.1 hv
  have hb := h.b
  clear h hv
  induction l generalizing v with
  | nil => cases v with
    | nil => intro j; simp
    | cons x xs => exact h1.elim
  | cons a r ih =>
    cases v with
    | nil => exact h1.elim
    | cons x xs =>
      intro j
      cases j with
      | zero => have := hb a (by simp); have := h1.1; simp only [List.getD_cons_zero]; omega
      | succ j => simpa using ih (v := xs) h1.2 (fun v hv => hb v (by simp [hv])) j
end Go.AI
