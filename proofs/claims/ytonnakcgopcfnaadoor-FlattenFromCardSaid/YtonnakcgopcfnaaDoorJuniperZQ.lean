/- The layer of abstract runs, part 43. -/
import Derived.Test.YtonnakcgopcfnaaDoorJuniperZP
import Derived.KernelRfl
set_option linter.unusedSimpArgs false
set_option linter.unusedVariables false
set_option linter.all false

/- overseerref03.Canonical. -/
namespace Go.AI
open Go.Proofs
set_option maxRecDepth 20000
def cOf (es : List Edg) (F : List Int) (k : Nat) (s ev : Int) : Option Edg := if 0 ≤ stp3 es s ev then some ((k : Int), ev, idxI (stp3 es s ev) F 0) else none
def cMk (F marked : List Int) (i : Nat) : List Int := ((List.range i).filter fun k => match F[k]? with
  | none => false
  | some s => decide (s ∈ marked)).map fun (k : Nat) => (k : Int)
def cEd (es : List Edg) (F al : List Int) (i : Nat) : List Edg := (List.range i).flatMap fun k => match F[k]? with
  | none => []
  | some s => al.filterMap (cOf es F k s)
def canR (a : Aut) (F : List Int) : Aut := ⟨a.alpha, F.length, cMk F a.marked F.length, cEd a.edges F a.alpha F.length⟩
theorem cMk_succ {F marked : List Int} {i : Nat} {s : Int} (h : F[i]? = some s) : cMk F marked (i + 1) = cMk F marked i ++ (if s ∈ marked then [(i : Int)] else []) := by
  unfold cMk
  rw [List.range_succ, List.filter_append, List.map_append]
  congr 1
  simp only [List.filter_cons, List.filter_nil, h]
  by_cases hm : s ∈ marked <;> simp [hm]
theorem cEd_succ {es : List Edg} {F al : List Int} {i : Nat} {s : Int} (h : F[i]? = some s) : cEd es F al (i + 1) = cEd es F al i ++ al.filterMap (cOf es F i s) := by
  unfold cEd
  rw [List.range_succ, List.flatMap_append]
  simp only [List.flatMap_cons, List.flatMap_nil, List.append_nil, h]
theorem flat_lenN {α β : Type} {f : α → List β} {N : Nat} : ∀ {l : List α}, (∀ x ∈ l, (f x).length ≤ N) → (l.flatMap f).length ≤ N * l.length
  | [], _ => by simp
  | x :: r, h => by
    have h1 := h x (by simp)
    have h2 := flat_lenN (l := r) fun y hy => h y (by simp [hy])
    simp only [List.flatMap_cons, List.length_append, List.length_cons, Nat.mul_succ]
    omega
theorem cEd_len {es : List Edg} {F al : List Int} {i : Nat} (h : al.length ≤ 32) : (cEd es F al i).length ≤ 32 * i := by
  unfold cEd
  refine Nat.le_trans (flat_lenN (N := 32) fun k _ => ?_) (by rw [List.length_range]; exact Nat.le_refl _)
  split
  · simp
  · exact Nat.le_trans (List.length_filterMap_le _ _) h
theorem cMk_len {F marked : List Int} {i : Nat} : (cMk F marked i).length ≤ i := by
  unfold cMk
  rw [List.length_map]
  exact Nat.le_trans (List.length_filter_le _ _) (by simp)
set_option maxHeartbeats 4000000 in
theorem canonical58 (O : List Heap) (a : Aut) (ha : autOk a) (h1 : 1 ≤ a.states) (F : List Int) (hF : foundR a = F) (hFl : F.length ≤ 4096) : ASpec Tryd.prog 58 [autD a] O (autD (canR a F)) [] O := by
  obtain ⟨c1, c2, c3, c4⟩ := chk_parts ha.chk
  have hed := ha.ed
  have hmk := ha.mkd
  have hal := checkSet_len (by decide) c1
  have hal : a.alpha.length ≤ 32 := by omega
  have hst := fun O s ev => step121 O a s ev (by simp only [max63]; omega)
  have hfo := fun O => found119 O a ha h1
  rw [hF] at hfo
  have hem := fun O => empty120 O a.alpha (by omega)
  have hho := fun O x => has118 O a.marked x (by simp only [max63]; omega)
  have hix := fun O x => index122 O F x (by simp only [max63]; omega)
  have hR : canR a F = ⟨a.alpha, F.length, cMk F a.marked F.length, cEd a.edges F a.alpha F.length⟩ := rfl
  rw [hR]
  clear hR c1 c2 c3 c4 hF
  obtain ⟨al, n, mk, es⟩ := a
  simp only at *
  refine aspec_stop [9, 14] Tk Tryd.func58 rfl Tryd.call58 Tryd.ntmps58 (Nat.le_of_ble_eq_true rfl) fun E => ?_
  refine g_run Tk Tryd.func58 ?_
  first | refine g_call Tk Tryd.func58 (hfo _) rfl rfl rfl rfl rfl ?_ | refine s_callq Tk (fun _ => hfo _) rfl rfl rfl ?_
  first | refine g_call Tk Tryd.func58 (hem _) rfl rfl rfl rfl rfl ?_ | refine s_callq Tk (fun _ => hem _) rfl rfl rfl ?_
  refine g_loop ?_
  refine rch_wk (wk_nilbox2 4 33 3 1 (pre := [ints al, ii F.length]) (post := [.i (.v (.slice none 0 0))]) rfl rfl rfl) ?_
  refine rch_wk (wk_nilbox2 4 68 124 3 (pre := [ints al, ii F.length, .osl 0 33]) (post := []) rfl rfl rfl) ?_
  refine rch_loop2 (fun i : Nat => [(1, .own 0 1 0 0), (2, .own 0 2 0 0), (3, ints F), (4, .own 0 4 0 0), (5, ii i)]) (fun i => [(1, .box [ints al, ii n, ints mk, edgs es]), (2, zBox), (4, .box [ints al, ii F.length, .osl 0 33, .osl 0 68]), (33, oints (cMk F mk i)), (68, oedgs (cEd es F al i))]) (fun _ => O) 71
    (fun i => i ≤ F.length) (fun i => F.length - i) 0 (Nat.zero_le _) ⟨rfl, rfl, rfl, rfl, rfl, trivial⟩ rfl ⟨rfl, rfl, rfl, rfl, rfl, trivial⟩ rfl rfl ?_
  intro i hi ih
  refine g_run Tk Tryd.func58 ?_
  first | refine g_cnd Tk Tryd.func58 rfl (fun g1 => ?_) (fun g1 => ?_) | refine g_know Tk Tryd.func58 rfl (fun g1 => ?_) (fun g1 => ?_) | refine s_know Tk (fun g1 => ?_) (fun g1 => ?_)
  · have h2 : i < F.length := by simpa using g1
    clear g1
    have hs0 : F[i]? = some F[i] := List.getElem?_eq_getElem h2
    have gs : (F.map fun x => [vi x])[(i : Int).toNat]? = some [vi F[i]] := get_mapZ (f := fun x => [vi x]) h2
    generalize F[i] = s at *
    have hm3 := cMk_succ (marked := mk) hs0
    have hml := cMk_len (F := F) (marked := mk) (i := i)
    have n1 : 0 ≤ (i : Int) ∧ (i : Int) < (F.length : Int) := by omega
    have hh1 := fun O => hho O s
    refine g_drawn Tk Tryd.func58 mixedT rfl ?_
    first | refine g_need Tk Tryd.func58 (by exact n1) ?_ | refine s_need Tk (by exact n1) ?_
    first | refine g_elem Tk Tryd.func58 (gs) ?_ | refine s_elem Tk (gs) ?_
    first | refine g_call Tk Tryd.func58 (hh1 _) rfl rfl rfl rfl rfl ?_ | refine s_callq Tk (fun _ => hh1 _) rfl rfl rfl ?_
    refine e_done Tk Tryd.func58 (by kernel_rfl) ?_
    apply join_p (P := True) (s6 := { σ := [(1, .own 0 1 0 0), (2, .own 0 2 0 0), (3, ints F), (4, .own 0 4 0 0), (5, ii i)], S := [(1, .box [ints al, ii n, ints mk, edgs es]), (2, zBox), (4, .box [ints al, ii F.length, .osl 0 33, .osl 0 68]), (33, oints (cMk F mk (i + 1))), (68, oedgs (cEd es F al i))] :: O, n := 71 })
    · intro J
      first | refine g_cnd Tk Tryd.func58 rfl (fun d1 => ?_) (fun d1 => ?_) | refine g_know Tk Tryd.func58 rfl (fun d1 => ?_) (fun d1 => ?_) | refine s_know Tk (fun d1 => ?_) (fun d1 => ?_)
      · have d1 : s ∈ mk := of_decide_eq_true d1
        rw [if_pos d1] at hm3
        first | refine g_need Tk Tryd.func58 (by exact ⟨by show ((cMk F mk i).length + 1) * 8 ≤ 140737488355328; omega, by show (cMk F mk i).length + 1 ≤ 9223372036854775807; omega⟩) ?_ | refine s_need Tk (by exact ⟨by show ((cMk F mk i).length + 1) * 8 ≤ 140737488355328; omega, by show (cMk F mk i).length + 1 ≤ 9223372036854775807; omega⟩) ?_
        refine g_stop ?_
        refine rch_meet (J trivial) ⟨rfl, rfl, rfl, rfl, rfl, trivial⟩ rfl ⟨rfl, rfl, rfl, ?_, rfl, trivial⟩ rfl rfl
        rw [hm3]
        exact congrArg some (oints_app (cMk F mk i) (i : Int))
      · have d1 : s ∉ mk := of_decide_eq_false d1
        rw [if_neg d1, List.append_nil] at hm3
        refine g_stop ?_
        refine rch_meet (J trivial) ⟨rfl, rfl, rfl, rfl, rfl, trivial⟩ rfl ⟨rfl, rfl, rfl, by rw [hm3]; rfl, rfl, trivial⟩ rfl rfl
    · intro _
      clear hm3 hml hh1
      have hE := cEd_succ (es := es) (al := al) hs0
      have hEl := cEd_len (es := es) (F := F) (i := i) hal
      have hst1 := fun O ev => hst O s ev
      refine g_run Tk Tryd.func58 ?_
      refine g_go Tk Tryd.func58 ?_
      refine g_loop ?_
      refine rch_loop2 (fun j : Nat => [(1, .own 0 1 0 0), (2, .own 0 2 0 0), (3, ints F), (4, .own 0 4 0 0), (5, ii i), (6, ii j)]) (fun j => [(1, .box [ints al, ii n, ints mk, edgs es]), (2, zBox), (4, .box [ints al, ii F.length, .osl 0 33, .osl 0 68]), (33, oints (cMk F mk (i + 1))), (68, oedgs (cEd es F al i ++ (al.take j).filterMap (cOf es F i s)))]) (fun _ => O) 71
        (fun j => j ≤ al.length) (fun j => al.length - j) 0 (Nat.zero_le _) ⟨rfl, rfl, rfl, rfl, rfl, rfl, trivial⟩ rfl ⟨rfl, rfl, rfl, rfl, by show some (oedgs (cEd es F al i)) = some (oedgs (cEd es F al i ++ [])); rw [List.append_nil], trivial⟩ rfl rfl ?_
      intro j hj ih2
      refine g_run Tk Tryd.func58 ?_
      first | refine g_cnd Tk Tryd.func58 rfl (fun g2 => ?_) (fun g2 => ?_) | refine g_know Tk Tryd.func58 rfl (fun g2 => ?_) (fun g2 => ?_) | refine s_know Tk (fun g2 => ?_) (fun g2 => ?_)
      · have h3 : j < al.length := by simpa using g2
        clear g2
        have ga : (al.map fun x => [vi x])[(j : Int).toNat]? = some [vi al[j]] := get_mapZ (f := fun x => [vi x]) h3
        have htk : (al.take (j + 1)).filterMap (cOf es F i s) = (al.take j).filterMap (cOf es F i s) ++ [al[j]].filterMap (cOf es F i s) := by
          rw [List.take_succ_eq_append_getElem h3, List.filterMap_append]
        have hpl : ((al.take j).filterMap (cOf es F i s)).length ≤ 32 := Nat.le_trans (List.length_filterMap_le _ _) (by rw [List.length_take]; omega)
        have n2 : 0 ≤ (j : Int) ∧ (j : Int) < (al.length : Int) := by omega
        have hj1 : ii (IntKind.i64.wrap ((j : Int) + 1)) = ii ((j + 1 : Nat) : Int) := congrArg ii (wsucc (n := 1000001) (by omega) (by decide))
        generalize al[j] = ev at *
        have hst2 := fun O => hst1 O ev
        have hco : [ev].filterMap (cOf es F i s) = if 0 ≤ stp3 es s ev then [((i : Int), ev, idxI (stp3 es s ev) F 0)] else [] := by
          unfold cOf
          by_cases h : 0 ≤ stp3 es s ev <;> simp [h]
        rw [hco] at htk
        clear hco
        have hix1 := fun O => hix O (stp3 es s ev)
        generalize stp3 es s ev = t at *
        refine g_drawn Tk Tryd.func58 mixedT rfl ?_
        first | refine g_need Tk Tryd.func58 (by exact n1) ?_ | refine s_need Tk (by exact n1) ?_
        first | refine g_elem Tk Tryd.func58 (gs) ?_ | refine s_elem Tk (gs) ?_
        first | refine g_need Tk Tryd.func58 (by exact n2) ?_ | refine s_need Tk (by exact n2) ?_
        first | refine g_elem Tk Tryd.func58 (ga) ?_ | refine s_elem Tk (ga) ?_
        first | refine g_call Tk Tryd.func58 (hst2 _) rfl rfl rfl rfl rfl ?_ | refine s_callq Tk (fun _ => hst2 _) rfl rfl rfl ?_
        refine e_done Tk Tryd.func58 (by kernel_rfl) ?_
        first | refine g_cnd Tk Tryd.func58 rfl (fun d1 => ?_) (fun d1 => ?_) | refine g_know Tk Tryd.func58 rfl (fun d1 => ?_) (fun d1 => ?_) | refine s_know Tk (fun d1 => ?_) (fun d1 => ?_)
        · have d1 : t ≥ 0 := of_decide_eq_true d1
          rw [if_pos d1] at htk
          refine g_stop ?_
          refine g_run Tk Tryd.func58 ?_
          refine g_go Tk Tryd.func58 ?_
          refine g_drawn Tk Tryd.func58 mixedT rfl ?_
          first | refine g_need Tk Tryd.func58 (by exact n2) ?_ | refine s_need Tk (by exact n2) ?_
          first | refine g_elem Tk Tryd.func58 (ga) ?_ | refine s_elem Tk (ga) ?_
          first | refine g_call Tk Tryd.func58 (hix1 _) rfl rfl rfl rfl rfl ?_ | refine s_callq Tk (fun _ => hix1 _) rfl rfl rfl ?_
          refine e_tail Tk Tryd.func58 ([13, 14, 15]) (by kernel_rfl) (by kernel_rfl) ?_
          first | refine g_need Tk Tryd.func58 (by exact ⟨by show ((cEd es F al i ++ (al.take j).filterMap (cOf es F i s)).length + 1) * 24 ≤ 140737488355328; rw [List.length_append]; omega, by show (cEd es F al i ++ (al.take j).filterMap (cOf es F i s)).length + 1 ≤ 9223372036854775807; rw [List.length_append]; omega⟩) ?_ | refine s_need Tk (by exact ⟨by show ((cEd es F al i ++ (al.take j).filterMap (cOf es F i s)).length + 1) * 24 ≤ 140737488355328; rw [List.length_append]; omega, by show (cEd es F al i ++ (al.take j).filterMap (cOf es F i s)).length + 1 ≤ 9223372036854775807; rw [List.length_append]; omega⟩) ?_
          refine g_loop ?_
          refine ih2 (j + 1) _ _ h3 (by omega) ⟨rfl, rfl, rfl, rfl, rfl, hj1, trivial⟩ rfl ⟨rfl, rfl, rfl, rfl, ?_, trivial⟩ rfl rfl
          rw [htk, ← List.append_assoc]
          exact congrArg some (oedgs_app (cEd es F al i ++ (al.take j).filterMap (cOf es F i s)) ((i : Int), ev, idxI t F 0))
        · have d1 : ¬ t ≥ 0 := of_decide_eq_false d1
          rw [if_neg d1, List.append_nil] at htk
          refine g_loop ?_
          refine ih2 (j + 1) _ _ h3 (by omega) ⟨rfl, rfl, rfl, rfl, rfl, hj1, trivial⟩ rfl ⟨rfl, rfl, rfl, rfl, by rw [htk]; rfl, trivial⟩ rfl rfl
      · have h3 : al.length ≤ j := by simpa using g2
        refine g_loop ?_
        refine ih (i + 1) _ _ h2 (by omega) ⟨rfl, rfl, rfl, rfl, congrArg ii (wsucc (n := 5000) (by omega) (by decide)), trivial⟩ rfl ⟨rfl, rfl, rfl, rfl, ?_, trivial⟩ rfl rfl
        show some (oedgs (cEd es F al i ++ (al.take j).filterMap (cOf es F i s))) = _
        rw [List.take_of_length_le h3, hE]
  · have h2 : F.length ≤ i := by simpa using g1
    obtain rfl : i = F.length := by omega
    refine g_rwk (wk_freeze 33 rfl rfl) ?_
    refine g_rwk (wk_freeze 68 rfl rfl) ?_
    refine g_rwk (wk_imm rfl) ?_
    refine g_ret Tk (r := autD ⟨al, F.length, cMk F mk F.length, cEd es F al F.length⟩) rfl rfl rfl trivial rfl rfl ?_
    rfl
end Go.AI


/- FlattenRuns. -/
namespace Go.AI
open Go.Proofs
set_option maxRecDepth 20000
/- The search of extended and the unfolding, side by side. -/
end Go.AI


/- What From makes, unfolded: the canonical form. Plain. -/
namespace Go.AI
set_option maxRecDepth 20000
theorem evTrue : evalX trueE [] = (1, 0) := by decide
theorem chs_none {s ev : Int} : ∀ {l : List Edg} {i : Nat} {out : Option Nat}, (∀ x ∈ l, ¬ (x.1 = s ∧ x.2.1 = ev)) → chs ⟨s, []⟩ ev (l.map mvE) i out false = (out, 0)
  | [], _, _, _ => rfl
  | x :: r, i, out, h => by
    have hx := h x (by simp)
    simp only [List.map_cons, chs]
    rw [if_pos (by
      show x.1 ≠ s ∨ x.2.1 ≠ ev
      by_cases h1 : x.1 = s
      · exact .inr fun h2 => hx ⟨h1, h2⟩
      · exact .inl h1)]
    exact chs_none fun y hy => h y (by simp [hy])
theorem chs_from {s ev : Int} : ∀ {l : List Edg} {i : Nat}, l.Pairwise ltE →
    (stp3 l s ev = -1 ∧ chs ⟨s, []⟩ ev (l.map mvE) i none false = (none, 0)) ∨ ∃ k x, l[k]? = some x ∧ stp3 l s ev = x.2.2 ∧ chs ⟨s, []⟩ ev (l.map mvE) i none false = (some (i + k), 0)
  | [], _, _ => .inl ⟨rfl, rfl⟩
  | x :: r, i, h => by
    rw [List.pairwise_cons] at h
    by_cases hx : x.1 = s ∧ x.2.1 = ev
    · refine .inr ⟨0, x, rfl, by simp only [stp3]; rw [if_pos hx], ?_⟩
      simp only [List.map_cons, chs]
      rw [if_neg (by
        show ¬ (x.1 ≠ s ∨ x.2.1 ≠ ev)
        rintro (h1 | h1)
        · exact h1 hx.1
        · exact h1 hx.2)]
      have hg : (mvE x).g = trueE := rfl
      rw [hg, evTrue, if_neg (by simp), if_pos rfl]
      have := chs_none (s := s) (ev := ev) (l := r) (i := i + 1) (out := some i) (fun y hy hc => by
        have hlt := h.1 y hy
        unfold ltE at hlt
        omega)
      simpa using this
    · simp only [List.map_cons, chs, stp3]
      rw [if_neg hx, if_pos (by
        show x.1 ≠ s ∨ x.2.1 ≠ ev
        by_cases h1 : x.1 = s
        · exact .inr fun h2 => hx ⟨h1, h2⟩
        · exact .inl h1)]
      rcases chs_from (i := i + 1) h.2 with ⟨h1, h2⟩ | ⟨k, y, h1, h2, h3⟩
      · exact .inl ⟨h1, h2⟩
      · exact .inr ⟨k + 1, y, by simpa using h1, h2, by rw [h3]; simp; omega⟩
structure frOk (a : Aut) : Prop extends autOk a where
  n1 : 1 ≤ a.states
  n2 : a.states ≤ 64
  e2 : a.edges.length ≤ 256
theorem fr_mvs {al : List Int} {n : Int} {m : Ext} (ha : m.alpha = al) (hn : m.locs = n) (hv : m.vars = []) : ∀ {l : List Edg} {p : Option Edg}, l.Pairwise ltE → (∀ x ∈ l, (0 ≤ x.1 ∧ x.1 < n) ∧ (0 ≤ x.2.2 ∧ x.2.2 < n) ∧ x.2.1 ∈ al) → (∀ y, p = some y → ∀ x ∈ l, ltE y x) → mvsErr m (p.map mvE) (l.map mvE) = 0
  | [], _, _, _, _ => rfl
  | x :: r, p, hp, hb, hy => by
    rw [List.pairwise_cons] at hp
    have hx := hb x (by simp)
    have h0 : mvErr m (p.map mvE) (mvE x) = 0 := by
      unfold mvErr
      rw [if_neg (by show ¬ (x.1 < 0 ∨ x.1 ≥ m.locs ∨ x.2.2 < 0 ∨ x.2.2 ≥ m.locs); omega), if_neg (by show ¬ x.2.1 ∉ m.alpha; rw [ha]; simpa using hx.2.2)]
      rw [if_neg (by
        cases p with
        | none => simp
        | some y =>
          have h := hy y rfl x (by simp)
          unfold ltE at h
          simp only [Option.map_some, Option.any_some, decide_eq_true_eq]
          show ¬ (x.1 < y.1 ∨ x.1 = y.1 ∧ x.2.1 < y.2.1)
          omega)]
      have ht : typedX (mvE x).g m.vars.length 2 = 0 := by rw [hv]; show typedX trueE 0 2 = 0; decide
      rw [if_neg (by rw [ht]; simp)]
      rfl
    simp only [List.map_cons, mvsErr]
    rw [h0]
    simp only [ne_eq, not_true_eq_false, if_false]
    exact fr_mvs (p := some x) ha hn hv hp.2 (fun z hz => hb z (by simp [hz])) (fun y e z hz => by cases e; exact hp.1 z hz)
theorem fr_chk {a : Aut} (h : frOk a) : chk (fromE a) = 0 := by
  obtain ⟨c1, c2, c3, c4⟩ := chk_parts h.chk
  obtain ⟨es1, eb, _⟩ := chkEds_sorted c4
  have n1 := h.n1
  have n2 := h.n2
  have e2 := h.e2
  have hm : mvsErr (fromE a) none (fromE a).moves = 0 := fr_mvs (al := a.alpha) (n := a.states) (p := none) rfl rfl rfl es1 eb (fun y h => by cases h)
  unfold chk
  rw [if_neg (by show ¬ checkSet 32 a.alpha none ≠ 0; rw [c1]; simp), if_neg (by show ¬ (a.states < 1 ∨ a.states > 64 ∨ (0 : Int) < 0 ∨ (0 : Int) ≥ a.states); omega), if_neg (by show ¬ checkSet a.states a.marked none ≠ 0; rw [c3]; simp), if_neg (by show ¬ varsErr [] ≠ 0; decide)]
  rw [if_neg (by show ¬ (a.edges.map mvE).length > 256; rw [List.length_map]; omega)]
  exact hm
theorem fr_ok {a : Aut} (h : frOk a) : extOk (fromE a) := by
  have := h.ed
  have := h.al
  have := h.mkd
  refine ⟨by show a.alpha.length ≤ max63; simp only [max63]; omega, by show a.marked.length ≤ max63; simp only [max63]; omega, Nat.zero_le _, (fun v hv => by cases hv), by show (a.edges.map mvE).length ≤ max63; rw [List.length_map]; simp only [max63]; omega, fun x hx => ?_⟩
  obtain ⟨e, _, rfl⟩ := List.mem_map.1 hx
  exact ⟨⟨by simp [max63], ⟨Nat.zero_le _, trivial⟩, ⟨Nat.zero_le _, trivial⟩, trivial⟩, Nat.zero_le _, fun u hu => by cases hu⟩
def sg (t : Int) : Sta := ⟨t, []⟩
theorem fr_step {a : Aut} (h : frOk a) {s ev : Int} (hs : 0 ≤ s ∧ s < a.states) : stpR (fromE a) (sg s) ev = if ev ∉ a.alpha then (zeroS, false, 9) else if 0 ≤ stp3 a.edges s ev then (sg (stp3 a.edges s ev), true, 0) else (zeroS, false, 0) := by
  obtain ⟨c1, c2, c3, c4⟩ := chk_parts h.chk
  obtain ⟨es1, eb, _⟩ := chkEds_sorted c4
  have hck : ckS (fromE a) (sg s) = 0 := by
    unfold ckS
    rw [fr_chk h, if_neg (by simp), if_neg (by show ¬ (s < 0 ∨ s ≥ a.states); omega), if_neg (by show ¬ (0 : Nat) ≠ 0; simp), if_neg (by show ¬ within [] [] = false; decide)]
  unfold stpR
  rw [hck, if_neg (by simp)]
  show (if ev ∉ a.alpha then _ else _) = _
  split
  · rfl
  unfold stepR
  have hc : chs (sg s) ev (fromE a).moves 0 none false = chs ⟨s, []⟩ ev (a.edges.map mvE) 0 none false := rfl
  rcases chs_from (s := s) (ev := ev) (i := 0) es1 with ⟨h1, h2⟩ | ⟨k, x, h1, h2, h3⟩
  · rw [hc, h2, h1]
    rfl
  · rw [hc, h3, h2]
    have hx := (eb x (List.mem_of_getElem? h1)).2.1
    have hk : (fromE a).moves[0 + k]? = some (mvE x) := by
      show (a.edges.map mvE)[0 + k]? = _
      rw [Nat.zero_add, List.getElem?_map, h1]
      rfl
    rw [if_pos hx.1]
    simp only [hk]
    rfl
theorem sg_inj {s t : Int} (h : sg s = sg t) : s = t := congrArg Sta.loc h
theorem sg_keys : ((List.range 64).all fun t => decide (decK (fkey (sg (t : Int))) = sg (t : Int))) = true := by kernel_rfl
def frP (n : Int) (s : Sta) : Prop := ∃ t : Int, (0 ≤ t ∧ t < n) ∧ s = sg t
theorem fr_few {n : Int} (hn : n ≤ 64) {l : List Sta} (h : ∀ s ∈ l, frP n s) (hd : l.Nodup) : l.length ≤ 64 := by
  have h1 := nodup_bound (n := 64) (l := l.map fun s => s.loc.toNat) ?_ ?_
  · rwa [List.length_map] at h1
  · unfold List.Nodup
    rw [List.pairwise_map]
    refine hd.imp_of_mem fun {a b} ha hb hne e => hne ?_
    obtain ⟨t, ht, rfl⟩ := h a ha
    obtain ⟨u, hu, rfl⟩ := h b hb
    have e : t.toNat = u.toNat := e
    rw [show t = u by omega]
  · intro y hy
    obtain ⟨s, hs, rfl⟩ := List.mem_map.1 hy
    obtain ⟨t, ht, rfl⟩ := h s hs
    show t.toNat < 64
    omega
theorem fr_keq {n : Int} (hn : n ≤ 64) {s t : Sta} (hs : frP n s) (ht : frP n t) : keq s t = eqB s t := by
  obtain ⟨x, hx, rfl⟩ := hs
  obtain ⟨y, hy, rfl⟩ := ht
  have key : ∀ z : Int, 0 ≤ z → z < 64 → decK (fkey (sg z)) = sg z := fun z h1 h2 => by
    have h := of_decide_eq_true (List.all_eq_true.1 sg_keys z.toNat (List.mem_range.2 (by omega)))
    rwa [show ((z.toNat : Nat) : Int) = z by omega] at h
  have h1 := key x (by omega) (by omega)
  have h2 := key y (by omega) (by omega)
  by_cases h : sg x = sg y
  · rw [h]
    have : keq (sg y) (sg y) = true := beq_bytes.2 rfl
    rw [this]; simp [eqB]
  · have : keq (sg x) (sg y) = false := by
      cases hk : keq (sg x) (sg y) with
      | false => rfl
      | true =>
        have e : fkey (sg x) = fkey (sg y) := beq_bytes.1 hk
        exact absurd (by rw [← h1, ← h2, e]) h
    rw [this]; simp [eqB, h]
theorem fr_next {a : Aut} (h : frOk a) {s : Sta} {ev : Int} (hs : frP a.states s) (hp : (stpR (fromE a) s ev).2.1 = true) : frP a.states (stpR (fromE a) s ev).1 := by
  obtain ⟨t, ht, rfl⟩ := hs
  obtain ⟨c1, c2, c3, c4⟩ := chk_parts h.chk
  obtain ⟨_, eb, _⟩ := chkEds_sorted c4
  rw [fr_step h ht] at hp ⊢
  split at hp
  · cases hp
  rename_i h1
  rw [if_neg h1]
  split at hp
  · rename_i h2
    rw [if_pos h2]
    rcases stp3_b (n := a.states) (es := a.edges) (s := t) (ev := ev) (fun x hx => (eb x hx).2.1) with h3 | h3
    · omega
    · exact ⟨_, h3, rfl⟩
  · cases hp
theorem fr_fin {a : Aut} (h : frOk a) : Fin1 (stpR (fromE a)) keq true (frP a.states) :=
  ⟨fun s ev hs hp => fr_next h hs hp, fun s t hs ht => fr_keq h.n2 hs ht, fun _ l h1 h2 => by have := fr_few h.n2 h1 h2; omega⟩
theorem fr_fin2 {a : Aut} (h : frOk a) : Fin1 (stpR (fromE a)) eqB false (frP a.states) :=
  ⟨fun s ev hs hp => fr_next h hs hp, fun _ _ _ _ => rfl, fun h => by cases h⟩
theorem fr_zero {a : Aut} (h : frOk a) : frP a.states (startR (fromE a)) := ⟨0, by have := h.n1; omega, rfl⟩
theorem fr_unf {a : Aut} (h : frOk a) : ∃ V, unfoldR (fromE a) = .ok V ∧ UAt (mkdM (fromE a)) a.alpha (frP a.states) (stpR (fromE a)) V.sts.length V := by
  unfold unfoldR
  rw [fr_chk h, if_neg (by simp)]
  rcases unfR_spec (mkdM (fromE a)) (fr_fin h) (alpha := a.alpha) (fr_zero h) (B := 64) (fun l h1 h2 => fr_few h.n2 h1 h2) (by decide) with ⟨e, _, h0, s, hs, ev, hev, he⟩ | ⟨V, h1, h2⟩
  · exfalso
    obtain ⟨t, ht, rfl⟩ := hs
    rw [fr_step h ht, if_neg (by simpa using hev)] at he
    split at he <;> exact h0 he.symm
  · exact ⟨V, h1, h2⟩
theorem sg_idx (t : Int) : ∀ (out : List Int), (out.map sg).findIdx (eqB (sg t)) = out.findIdx (fun x => decide (t = x))
  | [] => rfl
  | x :: r => by
    simp only [List.map_cons, List.findIdx_cons]
    have e : eqB (sg t) (sg x) = decide (t = x) := by
      simp only [eqB]
      exact decide_eq_decide.2 ⟨sg_inj, fun e => by rw [e]⟩
    rw [e, sg_idx t r]
theorem fr_visits {a : Aut} (h : frOk a) {i : Nat} {s : Int} (hs : 0 ≤ s ∧ s < a.states) : ∀ (l : List Int) {U : Unf Sta} {out : List Int}, (∀ e ∈ l, e ∈ a.alpha) → U.sts = out.map sg →
    ∃ V, uvisits eqB false (stpR (fromE a)) i (sg s) l U = .ok V ∧ V.sts = (fvis a.edges s l out).map sg
  | [], U, out, _, hU => ⟨U, rfl, hU⟩
  | ev :: l, U, out, hl, hU => by
    have hst : stpR (fromE a) (sg s) ev = if 0 ≤ stp3 a.edges s ev then (sg (stp3 a.edges s ev), true, 0) else (zeroS, false, 0) := by
      rw [fr_step h hs, if_neg (by simpa using hl ev (by simp))]
    have hv : ∃ W, uvisit eqB false (stpR (fromE a)) i (sg s) ev U = .ok W ∧ W.sts = (if 0 ≤ stp3 a.edges s ev ∧ stp3 a.edges s ev ∉ out then out ++ [stp3 a.edges s ev] else out).map sg := by
      unfold uvisit
      rw [hst]
      by_cases hp : 0 ≤ stp3 a.edges s ev
      · rw [if_pos hp]
        simp only [ne_eq, not_true_eq_false, if_false, Bool.true_eq_false]
        rw [hU, sg_idx]
        by_cases hm : stp3 a.edges s ev ∈ out
        · have hlt : out.findIdx (fun x => decide (stp3 a.edges s ev = x)) < (out.map sg).length := by
            rw [List.length_map]
            exact findIdx_lt ⟨_, hm, by simp⟩
          rw [if_pos hlt, if_neg (fun h => h.2 hm)]
          exact ⟨_, rfl, rfl⟩
        · have hno : out.findIdx (fun x => decide (stp3 a.edges s ev = x)) = out.length := findIdx_none fun x hx => by
            simp only [decide_eq_false_iff_not]
            exact fun e => hm (e ▸ hx)
          rw [hno, if_neg (by rw [List.length_map]; omega), if_neg (by simp), if_pos ⟨hp, hm⟩]
          exact ⟨_, rfl, by simp⟩
      · rw [if_neg hp]
        simp only [ne_eq, not_true_eq_false, if_false, if_true]
        rw [if_neg (fun h => hp h.1)]
        exact ⟨U, rfl, hU⟩
    obtain ⟨W, h1, h2⟩ := hv
    obtain ⟨V, h3, h4⟩ := fr_visits h hs l (fun e he => hl e (by simp [he])) h2
    refine ⟨V, ?_, h4⟩
    simp only [uvisits, h1]
    exact h3
theorem fr_loop {a : Aut} (h : frOk a) : ∀ (f i : Nat) {U V : Unf Sta} {out : List Int}, U.sts = out.map sg → (∀ x ∈ out, 0 ≤ x ∧ x < a.states) → uloop eqB false (stpR (fromE a)) (mkdM (fromE a)) a.alpha f i U = .ok V → V.sts = (fndL a.edges a.alpha f i out).map sg
  | 0, i, U, V, out, hU, _, hV => by
    simp only [uloop, Except.ok.injEq] at hV
    subst hV
    exact hU
  | f + 1, i, U, V, out, hU, hb, hV => by
    simp only [uloop] at hV
    simp only [fndL]
    rw [hU, List.getElem?_map] at hV
    cases hs : out[i]? with
    | none =>
      rw [hs] at hV
      simp only [Option.map_none, Except.ok.injEq] at hV
      subst hV
      exact hU
    | some s =>
      rw [hs] at hV
      simp only [Option.map_some] at hV
      have hsb := hb s (List.mem_of_getElem? hs)
      obtain ⟨m1, _⟩ := umark_sts (mkdM (fromE a)) i (sg s) U
      obtain ⟨W, h1, h2⟩ := fr_visits h (i := i) hsb a.alpha (U := umark (mkdM (fromE a)) i (sg s) U) (fun _ h => h) (by rw [m1]; exact hU)
      rw [h1] at hV
      simp only at hV
      refine fr_loop h f (i + 1) h2 ?_ hV
      obtain ⟨c1, c2, c3, c4⟩ := chk_parts h.chk
      obtain ⟨_, eb, _⟩ := chkEds_sorted c4
      have : ∀ (l : List Int) (out : List Int), (∀ x ∈ out, 0 ≤ x ∧ x < a.states) → ∀ x ∈ fvis a.edges s l out, 0 ≤ x ∧ x < a.states := by
        intro l
        induction l with
        | nil => intro out ho; exact ho
        | cons ev l ih =>
          intro out ho
          simp only [fvis]
          refine ih _ ?_
          split
          · rename_i hc
            intro x hx
            rcases List.mem_append.1 hx with hx | hx
            · exact ho x hx
            · rw [List.mem_singleton] at hx
              subst hx
              rcases stp3_b (n := a.states) (es := a.edges) (s := s) (ev := ev) (fun x hx => (eb x hx).2.1) with h3 | h3
              · omega
              · exact h3
          · exact ho
      exact this a.alpha out hb
theorem idxI_at {t : Int} : ∀ {l : List Int} {i : Nat}, t ∈ l → idxI t l i = ((i + l.findIdx (fun x => decide (t = x)) : Nat) : Int)
  | [], _, h => by cases h
  | x :: r, i, h => by
    simp only [idxI, List.findIdx_cons]
    by_cases e : t = x
    · rw [if_pos e, decide_eq_true e]
      simp
    · rw [if_neg e, decide_eq_false e]
      rcases List.mem_cons.1 h with h | h
      · exact absurd h e
      · rw [idxI_at h]
        simp only [cond_false]
        congr 1
        omega
/-- The unfolding of what From makes is the canonical form. -/
theorem fr_canon {a : Aut} (h : frOk a) : ∃ V, unfoldR (fromE a) = .ok V ∧ autU a.alpha V = canR a (foundR a) ∧ V.sts.length ≤ 64 ∧ (foundR a).length = V.sts.length := by
  obtain ⟨V, hV, hA⟩ := fr_unf h
  have hl64 := fr_few h.n2 hA.ok hA.nd
  have n1 := h.n1
  have hs : V.sts = (foundR a).map sg := by
    have h1 : unfoldR (fromE a) = unfR eqB false (stpR (fromE a)) (mkdM (fromE a)) a.alpha (startR (fromE a)) := by
      unfold unfoldR
      rw [fr_chk h, if_neg (by simp)]
      exact unfR_same (mkdM (fromE a)) (fr_fin h) (fr_fin2 h) (fr_zero h)
    rw [h1] at hV
    exact fr_loop h 4097 0 (U := unf0 (startR (fromE a))) (out := [0]) rfl (fun x hx => by rw [List.mem_singleton] at hx; subst hx; omega) hV
  have hlen : (foundR a).length = V.sts.length := by rw [hs, List.length_map]
  have hget : ∀ k, V.sts[k]? = ((foundR a)[k]?).map sg := fun k => by rw [hs, List.getElem?_map]
  refine ⟨V, hV, ?_, hl64, hlen⟩
  have hb : ∀ k s, (foundR a)[k]? = some s → 0 ≤ s ∧ s < a.states := fun k s hk => by
    have h2 := hget k
    rw [hk] at h2
    obtain ⟨t, ht, he⟩ := hA.ok (sg s) (List.mem_of_getElem? h2)
    rw [sg_inj he]
    exact ht
  unfold autU canR
  rw [hlen]
  congr 1
  · rw [hA.mkl]
    unfold cMk
    congr 1
    apply filter_congr'
    intro k hk
    rw [hget k]
    cases (foundR a)[k]? with
    | none => rfl
    | some s => rfl
  · rw [hA.eds]
    unfold cEd
    apply flatMap_congr'
    intro k hk
    have hgk := hget k
    rw [hgk]
    cases hk2 : (foundR a)[k]? with
    | none => rfl
    | some s =>
      rw [hk2] at hgk
      simp only [Option.map_some]
      apply filterMap_congr'
      intro ev hev
      have hsb := hb k s hk2
      have hfine := hA.fine k (sg s) (List.mem_range.1 hk) hgk ev hev
      unfold eOf cOf
      have hst := fr_step h hsb (ev := ev)
      rw [if_neg (show ¬ ev ∉ a.alpha by simpa using hev)] at hst
      rw [hst] at hfine ⊢
      by_cases hp : 0 ≤ stp3 a.edges s ev
      · simp only [if_pos hp] at hfine ⊢
        simp only [if_true]
        have hmem := hfine.2 trivial
        rw [hs] at hmem ⊢
        obtain ⟨t, ht, he⟩ := List.mem_map.1 hmem
        have he := sg_inj he
        rw [sg_idx, idxI_at (he ▸ ht)]
        simp
      · simp only [if_neg hp]
        simp
end Go.AI


/- FlattenFrom. -/
namespace Go.AI
open Go.Proofs
set_option maxRecDepth 20000
set_option maxHeartbeats 4000000 in
theorem from12 {g : Nat} (hg : IsTab g) {ty : TypeId} {fr : Nat × Nat} (O : List Heap) (a : Aut) (hl : a.edges.length ≤ max63) (hal : a.alpha.length ≤ max63) (hmk : a.marked.length ≤ max63) : ASpecT g (ptab ty fr) Tryd.prog 12 [autD a] O (bb true) [] O := by
  have hkn := fun O => known48 hg (ty := ty) (fr := fr) O
  have hck := fun O => check55 O a hl hal hmk
  by_cases hbig : a.alpha.length > 12 ∨ a.marked.length > 12 ∨ a.edges.length > 12 ∨ a.states > 80
  · clear hck
    obtain ⟨al, n, mk, es⟩ := a
    simp only at hbig hl hal hmk
    refine aspecT_stop [] Tk Tryd.func12 rfl Tryd.call12 Tryd.ntmps12 (Nat.le_of_ble_eq_true rfl) fun E hE => ?_
    refine g_run Tk Tryd.func12 ?_
    refine g_callT Tk Tryd.func12 hE (hkn _) rfl rfl rfl rfl rfl rfl ?_
    repeat (first | refine g_cnd Tk Tryd.func12 rfl (fun _ => ?_) (fun h => absurd h (by decide)) | refine g_know Tk Tryd.func12 rfl (fun _ => ?_) (fun h => absurd h (by decide)) | refine s_know Tk (fun _ => ?_) (fun h => absurd h (by decide)) | refine g_cnd Tk Tryd.func12 rfl (fun h => absurd h (by decide)) (fun _ => ?_) | refine g_know Tk Tryd.func12 rfl (fun h => absurd h (by decide)) (fun _ => ?_) | refine s_know Tk (fun h => absurd h (by decide)) (fun _ => ?_) | refine g_cnd Tk Tryd.func12 rfl (fun _ => ?_) (fun h => absurd (show true = false from h) (by decide)) | refine g_know Tk Tryd.func12 rfl (fun _ => ?_) (fun h => absurd (show true = false from h) (by decide)) | refine s_know Tk (fun _ => ?_) (fun h => absurd (show true = false from h) (by decide)) | refine g_cnd Tk Tryd.func12 rfl (fun h => absurd (show false = true from h) (by decide)) (fun _ => ?_) | refine g_know Tk Tryd.func12 rfl (fun h => absurd (show false = true from h) (by decide)) (fun _ => ?_) | refine s_know Tk (fun h => absurd (show false = true from h) (by decide)) (fun _ => ?_))
    first | refine g_cnd Tk Tryd.func12 rfl (fun g1 => ?_) (fun g1 => ?_) | refine g_know Tk Tryd.func12 rfl (fun g1 => ?_) (fun g1 => ?_) | refine s_know Tk (fun g1 => ?_) (fun g1 => ?_)
    · repeat (first | refine g_cnd Tk Tryd.func12 rfl (fun _ => ?_) (fun h => absurd h (by decide)) | refine g_know Tk Tryd.func12 rfl (fun _ => ?_) (fun h => absurd h (by decide)) | refine s_know Tk (fun _ => ?_) (fun h => absurd h (by decide)) | refine g_cnd Tk Tryd.func12 rfl (fun h => absurd h (by decide)) (fun _ => ?_) | refine g_know Tk Tryd.func12 rfl (fun h => absurd h (by decide)) (fun _ => ?_) | refine s_know Tk (fun h => absurd h (by decide)) (fun _ => ?_) | refine g_cnd Tk Tryd.func12 rfl (fun _ => ?_) (fun h => absurd (show true = false from h) (by decide)) | refine g_know Tk Tryd.func12 rfl (fun _ => ?_) (fun h => absurd (show true = false from h) (by decide)) | refine s_know Tk (fun _ => ?_) (fun h => absurd (show true = false from h) (by decide)) | refine g_cnd Tk Tryd.func12 rfl (fun h => absurd (show false = true from h) (by decide)) (fun _ => ?_) | refine g_know Tk Tryd.func12 rfl (fun h => absurd (show false = true from h) (by decide)) (fun _ => ?_) | refine s_know Tk (fun h => absurd (show false = true from h) (by decide)) (fun _ => ?_))
      refine g_callT Tk Tryd.func12 hE (hkn _) rfl rfl rfl rfl rfl rfl ?_
      refine g_ret Tk (r := bb true) rfl rfl rfl trivial rfl rfl ?_
      rfl
    have g1 : ¬ ((al.length : Nat) : Int) > 12 := of_decide_eq_false g1
    first | refine g_cnd Tk Tryd.func12 rfl (fun g2 => ?_) (fun g2 => ?_) | refine g_know Tk Tryd.func12 rfl (fun g2 => ?_) (fun g2 => ?_) | refine s_know Tk (fun g2 => ?_) (fun g2 => ?_)
    · repeat (first | refine g_cnd Tk Tryd.func12 rfl (fun _ => ?_) (fun h => absurd h (by decide)) | refine g_know Tk Tryd.func12 rfl (fun _ => ?_) (fun h => absurd h (by decide)) | refine s_know Tk (fun _ => ?_) (fun h => absurd h (by decide)) | refine g_cnd Tk Tryd.func12 rfl (fun h => absurd h (by decide)) (fun _ => ?_) | refine g_know Tk Tryd.func12 rfl (fun h => absurd h (by decide)) (fun _ => ?_) | refine s_know Tk (fun h => absurd h (by decide)) (fun _ => ?_) | refine g_cnd Tk Tryd.func12 rfl (fun _ => ?_) (fun h => absurd (show true = false from h) (by decide)) | refine g_know Tk Tryd.func12 rfl (fun _ => ?_) (fun h => absurd (show true = false from h) (by decide)) | refine s_know Tk (fun _ => ?_) (fun h => absurd (show true = false from h) (by decide)) | refine g_cnd Tk Tryd.func12 rfl (fun h => absurd (show false = true from h) (by decide)) (fun _ => ?_) | refine g_know Tk Tryd.func12 rfl (fun h => absurd (show false = true from h) (by decide)) (fun _ => ?_) | refine s_know Tk (fun h => absurd (show false = true from h) (by decide)) (fun _ => ?_))
      refine g_callT Tk Tryd.func12 hE (hkn _) rfl rfl rfl rfl rfl rfl ?_
      refine g_ret Tk (r := bb true) rfl rfl rfl trivial rfl rfl ?_
      rfl
    have g2 : ¬ ((mk.length : Nat) : Int) > 12 := of_decide_eq_false g2
    first | refine g_cnd Tk Tryd.func12 rfl (fun g3 => ?_) (fun g3 => ?_) | refine g_know Tk Tryd.func12 rfl (fun g3 => ?_) (fun g3 => ?_) | refine s_know Tk (fun g3 => ?_) (fun g3 => ?_)
    · repeat (first | refine g_cnd Tk Tryd.func12 rfl (fun _ => ?_) (fun h => absurd h (by decide)) | refine g_know Tk Tryd.func12 rfl (fun _ => ?_) (fun h => absurd h (by decide)) | refine s_know Tk (fun _ => ?_) (fun h => absurd h (by decide)) | refine g_cnd Tk Tryd.func12 rfl (fun h => absurd h (by decide)) (fun _ => ?_) | refine g_know Tk Tryd.func12 rfl (fun h => absurd h (by decide)) (fun _ => ?_) | refine s_know Tk (fun h => absurd h (by decide)) (fun _ => ?_) | refine g_cnd Tk Tryd.func12 rfl (fun _ => ?_) (fun h => absurd (show true = false from h) (by decide)) | refine g_know Tk Tryd.func12 rfl (fun _ => ?_) (fun h => absurd (show true = false from h) (by decide)) | refine s_know Tk (fun _ => ?_) (fun h => absurd (show true = false from h) (by decide)) | refine g_cnd Tk Tryd.func12 rfl (fun h => absurd (show false = true from h) (by decide)) (fun _ => ?_) | refine g_know Tk Tryd.func12 rfl (fun h => absurd (show false = true from h) (by decide)) (fun _ => ?_) | refine s_know Tk (fun h => absurd (show false = true from h) (by decide)) (fun _ => ?_))
      refine g_callT Tk Tryd.func12 hE (hkn _) rfl rfl rfl rfl rfl rfl ?_
      refine g_ret Tk (r := bb true) rfl rfl rfl trivial rfl rfl ?_
      rfl
    have g3 : ¬ ((es.length : Nat) : Int) > 12 := of_decide_eq_false g3
    first | refine g_cnd Tk Tryd.func12 rfl (fun g4 => ?_) (fun g4 => ?_) | refine g_know Tk Tryd.func12 rfl (fun g4 => ?_) (fun g4 => ?_) | refine s_know Tk (fun g4 => ?_) (fun g4 => ?_)
    · refine g_callT Tk Tryd.func12 hE (hkn _) rfl rfl rfl rfl rfl rfl ?_
      refine g_ret Tk (r := bb true) rfl rfl rfl trivial rfl rfl ?_
      rfl
    have g4 : ¬ n > 80 := of_decide_eq_false g4
    omega
  have hb : a.alpha.length ≤ 12 ∧ a.marked.length ≤ 12 ∧ a.edges.length ≤ 12 ∧ a.states ≤ 80 := by omega
  clear hbig
  have hfrm := fun O => from54 O a (by omega) (by omega) (by omega)
  unfold fromR at hfrm
  by_cases hW : chkA a ≠ 0 ∨ a.states = 0 ∨ a.states > 64
  · have hZ : ∃ w : Int, w ≠ 0 ∧ (∀ O, ASpec Tryd.prog 54 [autD a] O (.tup [extD zeroX, ii w]) [] O) ∧ ((chkA a ≠ 0 ∧ w = chkA a) ∨ (chkA a = 0 ∧ a.states = 0 ∧ w = 12) ∨ (chkA a = 0 ∧ a.states > 64 ∧ w = 3)) := by
      by_cases h1 : chkA a ≠ 0
      · refine ⟨chkA a, h1, fun O => ?_, .inl ⟨h1, rfl⟩⟩
        have h := hfrm O
        rwa [if_pos h1] at h
      have h1 : chkA a = 0 := Classical.byContradiction h1
      by_cases h2 : a.states = 0
      · refine ⟨12, by decide, fun O => ?_, .inr (.inl ⟨h1, h2, rfl⟩)⟩
        have h := hfrm O
        rwa [if_neg (by rw [h1]; simp), if_pos h2] at h
      · have h3 : a.states > 64 := by
          rcases hW with h | h | h
          · exact absurd h1 h
          · exact absurd h h2
          · exact h
        refine ⟨3, by decide, fun O => ?_, .inr (.inr ⟨h1, h3, rfl⟩)⟩
        have h := hfrm O
        rwa [if_neg (by rw [h1]; simp), if_neg h2, if_pos (.inl h3)] at h
    obtain ⟨w, hw0, hZ, hcase⟩ := hZ
    clear hfrm hW
    generalize chkA a = e at *
    obtain ⟨al, n, mk, es⟩ := a
    simp only at hb hcase
    refine aspecT_stop [] Tk Tryd.func12 rfl Tryd.call12 Tryd.ntmps12 (Nat.le_of_ble_eq_true rfl) fun E hE => ?_
    refine g_run Tk Tryd.func12 ?_
    refine g_callT Tk Tryd.func12 hE (hkn _) rfl rfl rfl rfl rfl rfl ?_
    repeat (first | refine g_cnd Tk Tryd.func12 rfl (fun _ => ?_) (fun h => absurd h (by decide)) | refine g_know Tk Tryd.func12 rfl (fun _ => ?_) (fun h => absurd h (by decide)) | refine s_know Tk (fun _ => ?_) (fun h => absurd h (by decide)) | refine g_cnd Tk Tryd.func12 rfl (fun h => absurd h (by decide)) (fun _ => ?_) | refine g_know Tk Tryd.func12 rfl (fun h => absurd h (by decide)) (fun _ => ?_) | refine s_know Tk (fun h => absurd h (by decide)) (fun _ => ?_) | refine g_cnd Tk Tryd.func12 rfl (fun _ => ?_) (fun h => absurd (show true = false from h) (by decide)) | refine g_know Tk Tryd.func12 rfl (fun _ => ?_) (fun h => absurd (show true = false from h) (by decide)) | refine s_know Tk (fun _ => ?_) (fun h => absurd (show true = false from h) (by decide)) | refine g_cnd Tk Tryd.func12 rfl (fun h => absurd (show false = true from h) (by decide)) (fun _ => ?_) | refine g_know Tk Tryd.func12 rfl (fun h => absurd (show false = true from h) (by decide)) (fun _ => ?_) | refine s_know Tk (fun h => absurd (show false = true from h) (by decide)) (fun _ => ?_))
    first | refine g_cnd Tk Tryd.func12 rfl (fun g1 => ?_) (fun g1 => ?_) | refine g_know Tk Tryd.func12 rfl (fun g1 => ?_) (fun g1 => ?_) | refine s_know Tk (fun g1 => ?_) (fun g1 => ?_)
    · have g1 : ((al.length : Nat) : Int) > 12 := of_decide_eq_true g1
      omega
    first | refine g_cnd Tk Tryd.func12 rfl (fun g2 => ?_) (fun g2 => ?_) | refine g_know Tk Tryd.func12 rfl (fun g2 => ?_) (fun g2 => ?_) | refine s_know Tk (fun g2 => ?_) (fun g2 => ?_)
    · have g2 : ((mk.length : Nat) : Int) > 12 := of_decide_eq_true g2
      omega
    first | refine g_cnd Tk Tryd.func12 rfl (fun g3 => ?_) (fun g3 => ?_) | refine g_know Tk Tryd.func12 rfl (fun g3 => ?_) (fun g3 => ?_) | refine s_know Tk (fun g3 => ?_) (fun g3 => ?_)
    · have g3 : ((es.length : Nat) : Int) > 12 := of_decide_eq_true g3
      omega
    first | refine g_cnd Tk Tryd.func12 rfl (fun g4 => ?_) (fun g4 => ?_) | refine g_know Tk Tryd.func12 rfl (fun g4 => ?_) (fun g4 => ?_) | refine s_know Tk (fun g4 => ?_) (fun g4 => ?_)
    · have g4 : n > 80 := of_decide_eq_true g4
      omega
    first | refine g_call Tk Tryd.func12 (hZ _) rfl rfl rfl rfl rfl ?_ | refine s_callq Tk (fun _ => hZ _) rfl rfl rfl ?_
    first | refine g_call Tk Tryd.func12 (hck _) rfl rfl rfl rfl rfl ?_ | refine s_callq Tk (fun _ => hck _) rfl rfl rfl ?_
    rcases hcase with ⟨h1, rfl⟩ | ⟨rfl, rfl, rfl⟩ | ⟨rfl, h2, rfl⟩
    · first | refine g_cnd Tk Tryd.func12 rfl (fun c1 => ?_) (fun c1 => ?_) | refine g_know Tk Tryd.func12 rfl (fun c1 => ?_) (fun c1 => ?_) | refine s_know Tk (fun c1 => ?_) (fun c1 => ?_)
      · exact absurd (beqT c1) h1
      repeat (first | refine g_cnd Tk Tryd.func12 rfl (fun _ => ?_) (fun h => absurd h (by decide)) | refine g_know Tk Tryd.func12 rfl (fun _ => ?_) (fun h => absurd h (by decide)) | refine s_know Tk (fun _ => ?_) (fun h => absurd h (by decide)) | refine g_cnd Tk Tryd.func12 rfl (fun h => absurd h (by decide)) (fun _ => ?_) | refine g_know Tk Tryd.func12 rfl (fun h => absurd h (by decide)) (fun _ => ?_) | refine s_know Tk (fun h => absurd h (by decide)) (fun _ => ?_) | refine g_cnd Tk Tryd.func12 rfl (fun _ => ?_) (fun h => absurd (show true = false from h) (by decide)) | refine g_know Tk Tryd.func12 rfl (fun _ => ?_) (fun h => absurd (show true = false from h) (by decide)) | refine s_know Tk (fun _ => ?_) (fun h => absurd (show true = false from h) (by decide)) | refine g_cnd Tk Tryd.func12 rfl (fun h => absurd (show false = true from h) (by decide)) (fun _ => ?_) | refine g_know Tk Tryd.func12 rfl (fun h => absurd (show false = true from h) (by decide)) (fun _ => ?_) | refine s_know Tk (fun h => absurd (show false = true from h) (by decide)) (fun _ => ?_))
      first | refine g_cnd Tk Tryd.func12 rfl (fun c2 => ?_) (fun c2 => ?_) | refine g_know Tk Tryd.func12 rfl (fun c2 => ?_) (fun c2 => ?_) | refine s_know Tk (fun c2 => ?_) (fun c2 => ?_)
      · exact absurd (beqT c2) h1
      repeat (first | refine g_cnd Tk Tryd.func12 rfl (fun _ => ?_) (fun h => absurd h (by decide)) | refine g_know Tk Tryd.func12 rfl (fun _ => ?_) (fun h => absurd h (by decide)) | refine s_know Tk (fun _ => ?_) (fun h => absurd h (by decide)) | refine g_cnd Tk Tryd.func12 rfl (fun h => absurd h (by decide)) (fun _ => ?_) | refine g_know Tk Tryd.func12 rfl (fun h => absurd h (by decide)) (fun _ => ?_) | refine s_know Tk (fun h => absurd h (by decide)) (fun _ => ?_) | refine g_cnd Tk Tryd.func12 rfl (fun _ => ?_) (fun h => absurd (show true = false from h) (by decide)) | refine g_know Tk Tryd.func12 rfl (fun _ => ?_) (fun h => absurd (show true = false from h) (by decide)) | refine s_know Tk (fun _ => ?_) (fun h => absurd (show true = false from h) (by decide)) | refine g_cnd Tk Tryd.func12 rfl (fun h => absurd (show false = true from h) (by decide)) (fun _ => ?_) | refine g_know Tk Tryd.func12 rfl (fun h => absurd (show false = true from h) (by decide)) (fun _ => ?_) | refine s_know Tk (fun h => absurd (show false = true from h) (by decide)) (fun _ => ?_))
      first | refine g_cnd Tk Tryd.func12 rfl (fun c3 => ?_) (fun c3 => ?_) | refine g_know Tk Tryd.func12 rfl (fun c3 => ?_) (fun c3 => ?_) | refine s_know Tk (fun c3 => ?_) (fun c3 => ?_)
      rotate_left
      · exact absurd (bneF c3) h1
      repeat (first | refine g_cnd Tk Tryd.func12 rfl (fun _ => ?_) (fun h => absurd h (by decide)) | refine g_know Tk Tryd.func12 rfl (fun _ => ?_) (fun h => absurd h (by decide)) | refine s_know Tk (fun _ => ?_) (fun h => absurd h (by decide)) | refine g_cnd Tk Tryd.func12 rfl (fun h => absurd h (by decide)) (fun _ => ?_) | refine g_know Tk Tryd.func12 rfl (fun h => absurd h (by decide)) (fun _ => ?_) | refine s_know Tk (fun h => absurd h (by decide)) (fun _ => ?_) | refine g_cnd Tk Tryd.func12 rfl (fun _ => ?_) (fun h => absurd (show true = false from h) (by decide)) | refine g_know Tk Tryd.func12 rfl (fun _ => ?_) (fun h => absurd (show true = false from h) (by decide)) | refine s_know Tk (fun _ => ?_) (fun h => absurd (show true = false from h) (by decide)) | refine g_cnd Tk Tryd.func12 rfl (fun h => absurd (show false = true from h) (by decide)) (fun _ => ?_) | refine g_know Tk Tryd.func12 rfl (fun h => absurd (show false = true from h) (by decide)) (fun _ => ?_) | refine s_know Tk (fun h => absurd (show false = true from h) (by decide)) (fun _ => ?_))
      refine g_ret Tk (r := bb (w == w)) rfl rfl rfl trivial rfl rfl ?_
      simp
    · repeat (first | refine g_cnd Tk Tryd.func12 rfl (fun _ => ?_) (fun h => absurd h (by decide)) | refine g_know Tk Tryd.func12 rfl (fun _ => ?_) (fun h => absurd h (by decide)) | refine s_know Tk (fun _ => ?_) (fun h => absurd h (by decide)) | refine g_cnd Tk Tryd.func12 rfl (fun h => absurd h (by decide)) (fun _ => ?_) | refine g_know Tk Tryd.func12 rfl (fun h => absurd h (by decide)) (fun _ => ?_) | refine s_know Tk (fun h => absurd h (by decide)) (fun _ => ?_) | refine g_cnd Tk Tryd.func12 rfl (fun _ => ?_) (fun h => absurd (show true = false from h) (by decide)) | refine g_know Tk Tryd.func12 rfl (fun _ => ?_) (fun h => absurd (show true = false from h) (by decide)) | refine s_know Tk (fun _ => ?_) (fun h => absurd (show true = false from h) (by decide)) | refine g_cnd Tk Tryd.func12 rfl (fun h => absurd (show false = true from h) (by decide)) (fun _ => ?_) | refine g_know Tk Tryd.func12 rfl (fun h => absurd (show false = true from h) (by decide)) (fun _ => ?_) | refine s_know Tk (fun h => absurd (show false = true from h) (by decide)) (fun _ => ?_))
      refine g_ret Tk (r := bb true) rfl rfl rfl trivial rfl rfl ?_
      rfl
    · repeat (first | refine g_cnd Tk Tryd.func12 rfl (fun _ => ?_) (fun h => absurd h (by decide)) | refine g_know Tk Tryd.func12 rfl (fun _ => ?_) (fun h => absurd h (by decide)) | refine s_know Tk (fun _ => ?_) (fun h => absurd h (by decide)) | refine g_cnd Tk Tryd.func12 rfl (fun h => absurd h (by decide)) (fun _ => ?_) | refine g_know Tk Tryd.func12 rfl (fun h => absurd h (by decide)) (fun _ => ?_) | refine s_know Tk (fun h => absurd h (by decide)) (fun _ => ?_) | refine g_cnd Tk Tryd.func12 rfl (fun _ => ?_) (fun h => absurd (show true = false from h) (by decide)) | refine g_know Tk Tryd.func12 rfl (fun _ => ?_) (fun h => absurd (show true = false from h) (by decide)) | refine s_know Tk (fun _ => ?_) (fun h => absurd (show true = false from h) (by decide)) | refine g_cnd Tk Tryd.func12 rfl (fun h => absurd (show false = true from h) (by decide)) (fun _ => ?_) | refine g_know Tk Tryd.func12 rfl (fun h => absurd (show false = true from h) (by decide)) (fun _ => ?_) | refine s_know Tk (fun h => absurd (show false = true from h) (by decide)) (fun _ => ?_))
      first | refine g_cnd Tk Tryd.func12 rfl (fun c1 => ?_) (fun c1 => ?_) | refine g_know Tk Tryd.func12 rfl (fun c1 => ?_) (fun c1 => ?_) | refine s_know Tk (fun c1 => ?_) (fun c1 => ?_)
      · have c1 : n = 0 := beqT c1
        omega
      repeat (first | refine g_cnd Tk Tryd.func12 rfl (fun _ => ?_) (fun h => absurd h (by decide)) | refine g_know Tk Tryd.func12 rfl (fun _ => ?_) (fun h => absurd h (by decide)) | refine s_know Tk (fun _ => ?_) (fun h => absurd h (by decide)) | refine g_cnd Tk Tryd.func12 rfl (fun h => absurd h (by decide)) (fun _ => ?_) | refine g_know Tk Tryd.func12 rfl (fun h => absurd h (by decide)) (fun _ => ?_) | refine s_know Tk (fun h => absurd h (by decide)) (fun _ => ?_) | refine g_cnd Tk Tryd.func12 rfl (fun _ => ?_) (fun h => absurd (show true = false from h) (by decide)) | refine g_know Tk Tryd.func12 rfl (fun _ => ?_) (fun h => absurd (show true = false from h) (by decide)) | refine s_know Tk (fun _ => ?_) (fun h => absurd (show true = false from h) (by decide)) | refine g_cnd Tk Tryd.func12 rfl (fun h => absurd (show false = true from h) (by decide)) (fun _ => ?_) | refine g_know Tk Tryd.func12 rfl (fun h => absurd (show false = true from h) (by decide)) (fun _ => ?_) | refine s_know Tk (fun h => absurd (show false = true from h) (by decide)) (fun _ => ?_))
      first | refine g_cnd Tk Tryd.func12 rfl (fun c2 => ?_) (fun c2 => ?_) | refine g_know Tk Tryd.func12 rfl (fun c2 => ?_) (fun c2 => ?_) | refine s_know Tk (fun c2 => ?_) (fun c2 => ?_)
      rotate_left
      · have c2 : ¬ n > 64 := of_decide_eq_false c2
        omega
      repeat (first | refine g_cnd Tk Tryd.func12 rfl (fun _ => ?_) (fun h => absurd h (by decide)) | refine g_know Tk Tryd.func12 rfl (fun _ => ?_) (fun h => absurd h (by decide)) | refine s_know Tk (fun _ => ?_) (fun h => absurd h (by decide)) | refine g_cnd Tk Tryd.func12 rfl (fun h => absurd h (by decide)) (fun _ => ?_) | refine g_know Tk Tryd.func12 rfl (fun h => absurd h (by decide)) (fun _ => ?_) | refine s_know Tk (fun h => absurd h (by decide)) (fun _ => ?_) | refine g_cnd Tk Tryd.func12 rfl (fun _ => ?_) (fun h => absurd (show true = false from h) (by decide)) | refine g_know Tk Tryd.func12 rfl (fun _ => ?_) (fun h => absurd (show true = false from h) (by decide)) | refine s_know Tk (fun _ => ?_) (fun h => absurd (show true = false from h) (by decide)) | refine g_cnd Tk Tryd.func12 rfl (fun h => absurd (show false = true from h) (by decide)) (fun _ => ?_) | refine g_know Tk Tryd.func12 rfl (fun h => absurd (show false = true from h) (by decide)) (fun _ => ?_) | refine s_know Tk (fun h => absurd (show false = true from h) (by decide)) (fun _ => ?_))
      refine g_ret Tk (r := bb true) rfl rfl rfl trivial rfl rfl ?_
      rfl
  · have h0 : chkA a = 0 := by omega
    have hp := (chk_parts h0).2.1
    have hn : 1 ≤ a.states ∧ a.states ≤ 64 := by omega
    have hfo : frOk a := ⟨⟨by omega, by omega, by omega, h0⟩, by omega, by omega, by omega⟩
    have hfrm : ∀ O, ASpec Tryd.prog 54 [autD a] O (.tup [extD (fromE a), ii 0]) [] O := fun O => by
      have h := hfrm O
      rwa [if_neg (by rw [h0]; simp), if_neg (by omega), if_neg (by omega)] at h
    rw [h0] at hck
    obtain ⟨V, hV, hVc, h64, hFl⟩ := fr_canon hfo
    have hun := fun O => Unfold50 hg (ty := ty) (fr := fr) O (fromE a) (fr_ok hfo)
    rw [hV] at hun
    have hcan := fun O => canonical58 O a hfo.toautOk (by omega) (foundR a) rfl (by omega)
    have hun : ∀ O, ASpecT g (ptab ty fr) Tryd.prog 50 [extD (fromE a)] O (.tup [autD (canR a (foundR a)), stasD V.sts, ii 0]) [] O := fun O => by
      rw [← hVc]
      exact hun O
    have hcl : (canR a (foundR a)).alpha.length ≤ max63 ∧ (canR a (foundR a)).marked.length ≤ max63 ∧ (canR a (foundR a)).edges.length ≤ max63 := by
      have h1 := cMk_len (F := foundR a) (marked := a.marked) (i := (foundR a).length)
      have h2 := cEd_len (es := a.edges) (F := foundR a) (al := a.alpha) (i := (foundR a).length) (by omega)
      refine ⟨by show a.alpha.length ≤ max63; exact hal, ?_, ?_⟩
      · show (cMk (foundR a) a.marked (foundR a).length).length ≤ max63
        simp only [max63]; omega
      · show (cEd a.edges (foundR a) a.alpha (foundR a).length).length ≤ max63
        simp only [max63]; omega
    have hsm := fun O => same57 O (canR a (foundR a)) hcl.1 hcl.2.1 hcl.2.2
    have ht := fun O => true42 O
    have hex := fun O => equal41 (SizeOf.sizeOf trueE + 1) trueE trueE (by omega) (exOk_two (exOk_leaf _ _ _) (exOk_leaf _ _ _)) O
    have hs1 := fun O => sameInts_refl O a.alpha hal
    have hs2 := fun O => sameInts_refl O a.marked hmk
    clear hVc hV hcl hfo hp h0 hW
    generalize canR a (foundR a) = A at *
    obtain ⟨Aa, An, Am, Ae⟩ := A
    obtain ⟨al, n, mk, es⟩ := a
    simp only at hb hs1 hs2 hn
    have hml : (es.map mvE).length = es.length := List.length_map ..
    refine aspecT_stop [] Tk Tryd.func12 rfl Tryd.call12 Tryd.ntmps12 (Nat.le_of_ble_eq_true rfl) fun E hE => ?_
    refine g_run Tk Tryd.func12 ?_
    refine g_callT Tk Tryd.func12 hE (hkn _) rfl rfl rfl rfl rfl rfl ?_
    repeat (first | refine g_cnd Tk Tryd.func12 rfl (fun _ => ?_) (fun h => absurd h (by decide)) | refine g_know Tk Tryd.func12 rfl (fun _ => ?_) (fun h => absurd h (by decide)) | refine s_know Tk (fun _ => ?_) (fun h => absurd h (by decide)) | refine g_cnd Tk Tryd.func12 rfl (fun h => absurd h (by decide)) (fun _ => ?_) | refine g_know Tk Tryd.func12 rfl (fun h => absurd h (by decide)) (fun _ => ?_) | refine s_know Tk (fun h => absurd h (by decide)) (fun _ => ?_) | refine g_cnd Tk Tryd.func12 rfl (fun _ => ?_) (fun h => absurd (show true = false from h) (by decide)) | refine g_know Tk Tryd.func12 rfl (fun _ => ?_) (fun h => absurd (show true = false from h) (by decide)) | refine s_know Tk (fun _ => ?_) (fun h => absurd (show true = false from h) (by decide)) | refine g_cnd Tk Tryd.func12 rfl (fun h => absurd (show false = true from h) (by decide)) (fun _ => ?_) | refine g_know Tk Tryd.func12 rfl (fun h => absurd (show false = true from h) (by decide)) (fun _ => ?_) | refine s_know Tk (fun h => absurd (show false = true from h) (by decide)) (fun _ => ?_))
    first | refine g_cnd Tk Tryd.func12 rfl (fun g1 => ?_) (fun g1 => ?_) | refine g_know Tk Tryd.func12 rfl (fun g1 => ?_) (fun g1 => ?_) | refine s_know Tk (fun g1 => ?_) (fun g1 => ?_)
    · have g1 : ((al.length : Nat) : Int) > 12 := of_decide_eq_true g1
      omega
    first | refine g_cnd Tk Tryd.func12 rfl (fun g2 => ?_) (fun g2 => ?_) | refine g_know Tk Tryd.func12 rfl (fun g2 => ?_) (fun g2 => ?_) | refine s_know Tk (fun g2 => ?_) (fun g2 => ?_)
    · have g2 : ((mk.length : Nat) : Int) > 12 := of_decide_eq_true g2
      omega
    first | refine g_cnd Tk Tryd.func12 rfl (fun g3 => ?_) (fun g3 => ?_) | refine g_know Tk Tryd.func12 rfl (fun g3 => ?_) (fun g3 => ?_) | refine s_know Tk (fun g3 => ?_) (fun g3 => ?_)
    · have g3 : ((es.length : Nat) : Int) > 12 := of_decide_eq_true g3
      omega
    first | refine g_cnd Tk Tryd.func12 rfl (fun g4 => ?_) (fun g4 => ?_) | refine g_know Tk Tryd.func12 rfl (fun g4 => ?_) (fun g4 => ?_) | refine s_know Tk (fun g4 => ?_) (fun g4 => ?_)
    · have g4 : n > 80 := of_decide_eq_true g4
      omega
    first | refine g_call Tk Tryd.func12 (hfrm _) rfl rfl rfl rfl rfl ?_ | refine s_callq Tk (fun _ => hfrm _) rfl rfl rfl ?_
    first | refine g_call Tk Tryd.func12 (hck _) rfl rfl rfl rfl rfl ?_ | refine s_callq Tk (fun _ => hck _) rfl rfl rfl ?_
    repeat (first | refine g_cnd Tk Tryd.func12 rfl (fun _ => ?_) (fun h => absurd h (by decide)) | refine g_know Tk Tryd.func12 rfl (fun _ => ?_) (fun h => absurd h (by decide)) | refine s_know Tk (fun _ => ?_) (fun h => absurd h (by decide)) | refine g_cnd Tk Tryd.func12 rfl (fun h => absurd h (by decide)) (fun _ => ?_) | refine g_know Tk Tryd.func12 rfl (fun h => absurd h (by decide)) (fun _ => ?_) | refine s_know Tk (fun h => absurd h (by decide)) (fun _ => ?_) | refine g_cnd Tk Tryd.func12 rfl (fun _ => ?_) (fun h => absurd (show true = false from h) (by decide)) | refine g_know Tk Tryd.func12 rfl (fun _ => ?_) (fun h => absurd (show true = false from h) (by decide)) | refine s_know Tk (fun _ => ?_) (fun h => absurd (show true = false from h) (by decide)) | refine g_cnd Tk Tryd.func12 rfl (fun h => absurd (show false = true from h) (by decide)) (fun _ => ?_) | refine g_know Tk Tryd.func12 rfl (fun h => absurd (show false = true from h) (by decide)) (fun _ => ?_) | refine s_know Tk (fun h => absurd (show false = true from h) (by decide)) (fun _ => ?_))
    first | refine g_cnd Tk Tryd.func12 rfl (fun c1 => ?_) (fun c1 => ?_) | refine g_know Tk Tryd.func12 rfl (fun c1 => ?_) (fun c1 => ?_) | refine s_know Tk (fun c1 => ?_) (fun c1 => ?_)
    · have c1 : n = 0 := beqT c1
      omega
    repeat (first | refine g_cnd Tk Tryd.func12 rfl (fun _ => ?_) (fun h => absurd h (by decide)) | refine g_know Tk Tryd.func12 rfl (fun _ => ?_) (fun h => absurd h (by decide)) | refine s_know Tk (fun _ => ?_) (fun h => absurd h (by decide)) | refine g_cnd Tk Tryd.func12 rfl (fun h => absurd h (by decide)) (fun _ => ?_) | refine g_know Tk Tryd.func12 rfl (fun h => absurd h (by decide)) (fun _ => ?_) | refine s_know Tk (fun h => absurd h (by decide)) (fun _ => ?_) | refine g_cnd Tk Tryd.func12 rfl (fun _ => ?_) (fun h => absurd (show true = false from h) (by decide)) | refine g_know Tk Tryd.func12 rfl (fun _ => ?_) (fun h => absurd (show true = false from h) (by decide)) | refine s_know Tk (fun _ => ?_) (fun h => absurd (show true = false from h) (by decide)) | refine g_cnd Tk Tryd.func12 rfl (fun h => absurd (show false = true from h) (by decide)) (fun _ => ?_) | refine g_know Tk Tryd.func12 rfl (fun h => absurd (show false = true from h) (by decide)) (fun _ => ?_) | refine s_know Tk (fun h => absurd (show false = true from h) (by decide)) (fun _ => ?_))
    first | refine g_cnd Tk Tryd.func12 rfl (fun c2 => ?_) (fun c2 => ?_) | refine g_know Tk Tryd.func12 rfl (fun c2 => ?_) (fun c2 => ?_) | refine s_know Tk (fun c2 => ?_) (fun c2 => ?_)
    · have c2 : n > 64 := of_decide_eq_true c2
      omega
    repeat (first | refine g_cnd Tk Tryd.func12 rfl (fun _ => ?_) (fun h => absurd h (by decide)) | refine g_know Tk Tryd.func12 rfl (fun _ => ?_) (fun h => absurd h (by decide)) | refine s_know Tk (fun _ => ?_) (fun h => absurd h (by decide)) | refine g_cnd Tk Tryd.func12 rfl (fun h => absurd h (by decide)) (fun _ => ?_) | refine g_know Tk Tryd.func12 rfl (fun h => absurd h (by decide)) (fun _ => ?_) | refine s_know Tk (fun h => absurd h (by decide)) (fun _ => ?_) | refine g_cnd Tk Tryd.func12 rfl (fun _ => ?_) (fun h => absurd (show true = false from h) (by decide)) | refine g_know Tk Tryd.func12 rfl (fun _ => ?_) (fun h => absurd (show true = false from h) (by decide)) | refine s_know Tk (fun _ => ?_) (fun h => absurd (show true = false from h) (by decide)) | refine g_cnd Tk Tryd.func12 rfl (fun h => absurd (show false = true from h) (by decide)) (fun _ => ?_) | refine g_know Tk Tryd.func12 rfl (fun h => absurd (show false = true from h) (by decide)) (fun _ => ?_) | refine s_know Tk (fun h => absurd (show false = true from h) (by decide)) (fun _ => ?_))
    first | refine g_call Tk Tryd.func12 (hs1 _) rfl rfl rfl rfl rfl ?_ | refine s_callq Tk (fun _ => hs1 _) rfl rfl rfl ?_
    repeat (first | refine g_cnd Tk Tryd.func12 rfl (fun _ => ?_) (fun h => absurd h (by decide)) | refine g_know Tk Tryd.func12 rfl (fun _ => ?_) (fun h => absurd h (by decide)) | refine s_know Tk (fun _ => ?_) (fun h => absurd h (by decide)) | refine g_cnd Tk Tryd.func12 rfl (fun h => absurd h (by decide)) (fun _ => ?_) | refine g_know Tk Tryd.func12 rfl (fun h => absurd h (by decide)) (fun _ => ?_) | refine s_know Tk (fun h => absurd h (by decide)) (fun _ => ?_) | refine g_cnd Tk Tryd.func12 rfl (fun _ => ?_) (fun h => absurd (show true = false from h) (by decide)) | refine g_know Tk Tryd.func12 rfl (fun _ => ?_) (fun h => absurd (show true = false from h) (by decide)) | refine s_know Tk (fun _ => ?_) (fun h => absurd (show true = false from h) (by decide)) | refine g_cnd Tk Tryd.func12 rfl (fun h => absurd (show false = true from h) (by decide)) (fun _ => ?_) | refine g_know Tk Tryd.func12 rfl (fun h => absurd (show false = true from h) (by decide)) (fun _ => ?_) | refine s_know Tk (fun h => absurd (show false = true from h) (by decide)) (fun _ => ?_))
    first | refine g_cnd Tk Tryd.func12 rfl (fun c3 => ?_) (fun c3 => ?_) | refine g_know Tk Tryd.func12 rfl (fun c3 => ?_) (fun c3 => ?_) | refine s_know Tk (fun c3 => ?_) (fun c3 => ?_)
    · exact absurd rfl (bneT c3)
    repeat (first | refine g_cnd Tk Tryd.func12 rfl (fun _ => ?_) (fun h => absurd h (by decide)) | refine g_know Tk Tryd.func12 rfl (fun _ => ?_) (fun h => absurd h (by decide)) | refine s_know Tk (fun _ => ?_) (fun h => absurd h (by decide)) | refine g_cnd Tk Tryd.func12 rfl (fun h => absurd h (by decide)) (fun _ => ?_) | refine g_know Tk Tryd.func12 rfl (fun h => absurd h (by decide)) (fun _ => ?_) | refine s_know Tk (fun h => absurd h (by decide)) (fun _ => ?_) | refine g_cnd Tk Tryd.func12 rfl (fun _ => ?_) (fun h => absurd (show true = false from h) (by decide)) | refine g_know Tk Tryd.func12 rfl (fun _ => ?_) (fun h => absurd (show true = false from h) (by decide)) | refine s_know Tk (fun _ => ?_) (fun h => absurd (show true = false from h) (by decide)) | refine g_cnd Tk Tryd.func12 rfl (fun h => absurd (show false = true from h) (by decide)) (fun _ => ?_) | refine g_know Tk Tryd.func12 rfl (fun h => absurd (show false = true from h) (by decide)) (fun _ => ?_) | refine s_know Tk (fun h => absurd (show false = true from h) (by decide)) (fun _ => ?_))
    first | refine g_call Tk Tryd.func12 (hs2 _) rfl rfl rfl rfl rfl ?_ | refine s_callq Tk (fun _ => hs2 _) rfl rfl rfl ?_
    repeat (first | refine g_cnd Tk Tryd.func12 rfl (fun _ => ?_) (fun h => absurd h (by decide)) | refine g_know Tk Tryd.func12 rfl (fun _ => ?_) (fun h => absurd h (by decide)) | refine s_know Tk (fun _ => ?_) (fun h => absurd h (by decide)) | refine g_cnd Tk Tryd.func12 rfl (fun h => absurd h (by decide)) (fun _ => ?_) | refine g_know Tk Tryd.func12 rfl (fun h => absurd h (by decide)) (fun _ => ?_) | refine s_know Tk (fun h => absurd h (by decide)) (fun _ => ?_) | refine g_cnd Tk Tryd.func12 rfl (fun _ => ?_) (fun h => absurd (show true = false from h) (by decide)) | refine g_know Tk Tryd.func12 rfl (fun _ => ?_) (fun h => absurd (show true = false from h) (by decide)) | refine s_know Tk (fun _ => ?_) (fun h => absurd (show true = false from h) (by decide)) | refine g_cnd Tk Tryd.func12 rfl (fun h => absurd (show false = true from h) (by decide)) (fun _ => ?_) | refine g_know Tk Tryd.func12 rfl (fun h => absurd (show false = true from h) (by decide)) (fun _ => ?_) | refine s_know Tk (fun h => absurd (show false = true from h) (by decide)) (fun _ => ?_))
    first | refine g_cnd Tk Tryd.func12 rfl (fun c4 => ?_) (fun c4 => ?_) | refine g_know Tk Tryd.func12 rfl (fun c4 => ?_) (fun c4 => ?_) | refine s_know Tk (fun c4 => ?_) (fun c4 => ?_)
    · exact absurd (congrArg Int.ofNat hml) (bneT c4)
    refine g_loop ?_
    refine rch_loop2 (fun i : Nat => [(1, .own 0 1 0 0), (3, .own 0 3 0 0), (6, ii i)]) (fun _ => [(1, .box [ints al, ii n, ints mk, edgs es]), (3, .box (extC (fromE ⟨al, n, mk, es⟩)))]) (fun _ => O) 173
      (fun i => i ≤ es.length) (fun i => es.length - i) 0 (Nat.zero_le _) ⟨rfl, rfl, rfl, trivial⟩ rfl ⟨rfl, rfl, trivial⟩ rfl rfl ?_
    intro i hi ih
    refine g_run Tk Tryd.func12 ?_
    first | refine g_cnd Tk Tryd.func12 rfl (fun d1 => ?_) (fun d1 => ?_) | refine g_know Tk Tryd.func12 rfl (fun d1 => ?_) (fun d1 => ?_) | refine s_know Tk (fun d1 => ?_) (fun d1 => ?_)
    · have h1 : i < es.length := by
        have : (i : Int) < (((es.map mvE).length : Nat) : Int) := of_decide_eq_true d1
        omega
      have ge : (es.map edgI)[(i : Int).toNat]? = some (edgI es[i]) := get_mapZ h1
      have gm : ((es.map mvE).map mvI)[(i : Int).toNat]? = some (mvI (mvE es[i])) := by
        rw [List.getElem?_map, show (i : Int).toNat = i by omega, List.getElem?_map, List.getElem?_eq_getElem h1]
        rfl
      generalize es[i] = x at *
      obtain ⟨xf, xe, xt⟩ := x
      first | refine g_need Tk Tryd.func12 (by exact ⟨by omega, by show (i : Int) < (((es.map mvE).length : Nat) : Int); omega⟩) ?_ | refine s_need Tk (by exact ⟨by omega, by show (i : Int) < (((es.map mvE).length : Nat) : Int); omega⟩) ?_
      first | refine g_elem Tk Tryd.func12 (gm) ?_ | refine s_elem Tk (gm) ?_
      refine g_drawn Tk Tryd.func12 mixedT rfl ?_
      first | refine g_need Tk Tryd.func12 (by exact ⟨by omega, by show (i : Int) < (es.length : Int); omega⟩) ?_ | refine s_need Tk (by exact ⟨by omega, by show (i : Int) < (es.length : Int); omega⟩) ?_
      first | refine g_elem Tk Tryd.func12 (ge) ?_ | refine s_elem Tk (ge) ?_
      first | refine g_cnd Tk Tryd.func12 rfl (fun d2 => ?_) (fun d2 => ?_) | refine g_know Tk Tryd.func12 rfl (fun d2 => ?_) (fun d2 => ?_) | refine s_know Tk (fun d2 => ?_) (fun d2 => ?_)
      · simp [mvE] at d2
      first | refine g_call Tk Tryd.func12 (ht _) rfl rfl rfl rfl rfl ?_ | refine s_callq Tk (fun _ => ht _) rfl rfl rfl ?_
      first | refine g_call Tk Tryd.func12 (hex _) rfl rfl rfl rfl rfl ?_ | refine s_callq Tk (fun _ => hex _) rfl rfl rfl ?_
      repeat (first | refine g_cnd Tk Tryd.func12 rfl (fun _ => ?_) (fun h => absurd h (by decide)) | refine g_know Tk Tryd.func12 rfl (fun _ => ?_) (fun h => absurd h (by decide)) | refine s_know Tk (fun _ => ?_) (fun h => absurd h (by decide)) | refine g_cnd Tk Tryd.func12 rfl (fun h => absurd h (by decide)) (fun _ => ?_) | refine g_know Tk Tryd.func12 rfl (fun h => absurd h (by decide)) (fun _ => ?_) | refine s_know Tk (fun h => absurd h (by decide)) (fun _ => ?_) | refine g_cnd Tk Tryd.func12 rfl (fun _ => ?_) (fun h => absurd (show true = false from h) (by decide)) | refine g_know Tk Tryd.func12 rfl (fun _ => ?_) (fun h => absurd (show true = false from h) (by decide)) | refine s_know Tk (fun _ => ?_) (fun h => absurd (show true = false from h) (by decide)) | refine g_cnd Tk Tryd.func12 rfl (fun h => absurd (show false = true from h) (by decide)) (fun _ => ?_) | refine g_know Tk Tryd.func12 rfl (fun h => absurd (show false = true from h) (by decide)) (fun _ => ?_) | refine s_know Tk (fun h => absurd (show false = true from h) (by decide)) (fun _ => ?_))
      refine e_done Tk Tryd.func12 (by kernel_rfl) ?_
      repeat (first | refine g_cnd Tk Tryd.func12 rfl (fun _ => ?_) (fun h => absurd h (by decide)) | refine g_know Tk Tryd.func12 rfl (fun _ => ?_) (fun h => absurd h (by decide)) | refine s_know Tk (fun _ => ?_) (fun h => absurd h (by decide)) | refine g_cnd Tk Tryd.func12 rfl (fun h => absurd h (by decide)) (fun _ => ?_) | refine g_know Tk Tryd.func12 rfl (fun h => absurd h (by decide)) (fun _ => ?_) | refine s_know Tk (fun h => absurd h (by decide)) (fun _ => ?_) | refine g_cnd Tk Tryd.func12 rfl (fun _ => ?_) (fun h => absurd (show true = false from h) (by decide)) | refine g_know Tk Tryd.func12 rfl (fun _ => ?_) (fun h => absurd (show true = false from h) (by decide)) | refine s_know Tk (fun _ => ?_) (fun h => absurd (show true = false from h) (by decide)) | refine g_cnd Tk Tryd.func12 rfl (fun h => absurd (show false = true from h) (by decide)) (fun _ => ?_) | refine g_know Tk Tryd.func12 rfl (fun h => absurd (show false = true from h) (by decide)) (fun _ => ?_) | refine s_know Tk (fun h => absurd (show false = true from h) (by decide)) (fun _ => ?_))
      refine g_loop ?_
      exact ih (i + 1) _ _ h1 (by omega) ⟨rfl, rfl, congrArg ii (wsucc (n := 4096) (by omega) (by decide)), trivial⟩ rfl ⟨rfl, rfl, trivial⟩ rfl rfl
    · refine g_callT Tk Tryd.func12 hE (hun _) rfl rfl rfl rfl rfl rfl ?_
      refine g_drawn Tk Tryd.func12 mixedT rfl ?_
      repeat (first | refine g_cnd Tk Tryd.func12 rfl (fun _ => ?_) (fun h => absurd h (by decide)) | refine g_know Tk Tryd.func12 rfl (fun _ => ?_) (fun h => absurd h (by decide)) | refine s_know Tk (fun _ => ?_) (fun h => absurd h (by decide)) | refine g_cnd Tk Tryd.func12 rfl (fun h => absurd h (by decide)) (fun _ => ?_) | refine g_know Tk Tryd.func12 rfl (fun h => absurd h (by decide)) (fun _ => ?_) | refine s_know Tk (fun h => absurd h (by decide)) (fun _ => ?_) | refine g_cnd Tk Tryd.func12 rfl (fun _ => ?_) (fun h => absurd (show true = false from h) (by decide)) | refine g_know Tk Tryd.func12 rfl (fun _ => ?_) (fun h => absurd (show true = false from h) (by decide)) | refine s_know Tk (fun _ => ?_) (fun h => absurd (show true = false from h) (by decide)) | refine g_cnd Tk Tryd.func12 rfl (fun h => absurd (show false = true from h) (by decide)) (fun _ => ?_) | refine g_know Tk Tryd.func12 rfl (fun h => absurd (show false = true from h) (by decide)) (fun _ => ?_) | refine s_know Tk (fun h => absurd (show false = true from h) (by decide)) (fun _ => ?_))
      first | refine g_call Tk Tryd.func12 (hcan _) rfl rfl rfl rfl rfl ?_ | refine s_callq Tk (fun _ => hcan _) rfl rfl rfl ?_
      first | refine g_call Tk Tryd.func12 (hsm _) rfl rfl rfl rfl rfl ?_ | refine s_callq Tk (fun _ => hsm _) rfl rfl rfl ?_
      refine e_done Tk Tryd.func12 (by kernel_rfl) ?_
      refine g_ret Tk (r := bb true) rfl rfl rfl trivial rfl rfl ?_
      rfl
end Go.AI
