/- The layer of abstract runs, part 47. -/
import Derived.Test.YtmhllkmceipdcaaGreatDoorYewZT
import Derived.KernelRfl
import Derived.Lib.SliceRun
set_option linter.unusedSimpArgs false
set_option linter.unusedVariables false
set_option linter.all false

namespace Go.AI
open Go.Proofs
set_option maxRecDepth 20000
abbrev oedgs (l : List Edg) : Ob := .arr 79 3 l.length (l.map edgI) true
theorem oedgs_app (l : List Edg) (e : Edg) : Ob.arr 79 3 (l.length + 1) (l.map edgI ++ [edgI e]) true = oedgs (l ++ [e]) := by simp
abbrev orows (l : List (List Int)) : Ob := .arr 29 1 l.length (l.map fun r => [intsI r]) true
theorem orows_app (l : List (List Int)) (r : List Int) : Ob.arr 29 1 (l.length + 1) ((l.map fun r => [intsI r]) ++ [[intsI r]]) true = orows (l ++ [r]) := by simp
def subs : Nat → List (List Int)
  | 0 => [[]]
  | n + 1 => subs n ++ (subs n).map (· ++ [(n : Int)])
theorem subs_len : ∀ n, (subs n).length = 2 ^ n
  | 0 => rfl
  | n + 1 => by simp only [subs, List.length_append, List.length_map, subs_len n]; omega
theorem sorted_subs (l : List Int) : ∀ n, sortedBelow l n ∈ subs n
  | 0 => by simp [subs, sortedBelow]
  | n + 1 => by
    rw [sortedBelow_succ, subs, List.mem_append]
    by_cases h : (n : Int) ∈ l
    · rw [if_pos h]
      exact .inr (List.mem_map.2 ⟨_, sorted_subs l n, rfl⟩)
    · rw [if_neg h, List.append_nil]
      exact .inl (sorted_subs l n)
theorem nodup_sub {α : Type} [DecidableEq α] : ∀ {l m : List α}, l.Nodup → (∀ x ∈ l, x ∈ m) → l.length ≤ m.length
  | [], _, _, _ => Nat.zero_le _
  | a :: l, m, h, hs => by
    have ha := hs a (by simp)
    unfold List.Nodup at h
    rw [List.pairwise_cons] at h
    have h1 := nodup_sub (l := l) (m := m.erase a) h.2 fun x hx => (List.mem_erase_of_ne (fun e => h.1 x hx e.symm)).2 (hs x (by simp [hx]))
    rw [List.length_erase_of_mem ha] at h1
    have := List.length_pos_of_mem ha
    simp only [List.length_cons]
    omega
structure estsOk (n : Nat) (sts : List (List Int)) : Prop where
  nd : sts.Nodup
  el : ∀ s ∈ sts, s ∈ subs n ∧ s ≠ [] ∧ s.length ≤ n ∧ ∀ x ∈ s, 0 ≤ x ∧ x < (n : Int)
theorem estsOk_len {n : Nat} {sts : List (List Int)} (hn : n ≤ 12) (h : estsOk n sts) : sts.length ≤ 4096 := by
  have h1 := nodup_sub h.nd fun s hs => (h.el s hs).1
  rw [subs_len] at h1
  have : 2 ^ n ≤ 2 ^ 12 := Nat.pow_le_pow_right (by decide) hn
  omega
theorem estsOk_app {n : Nat} {sts : List (List Int)} (h : estsOk n sts) {l : List Int} (h1 : sortedBelow l n ≠ []) (h2 : sortedBelow l n ∉ sts) : estsOk n (sts ++ [sortedBelow l n]) := by
  refine ⟨?_, fun s hs => ?_⟩
  · unfold List.Nodup
    rw [List.pairwise_append]
    refine ⟨h.nd, List.pairwise_singleton _ _, fun a ha b hb => ?_⟩
    rw [List.mem_singleton] at hb
    subst hb
    exact fun e => h2 (e ▸ ha)
  · rcases List.mem_append.1 hs with hs | hs
    · exact h.el s hs
    · rw [List.mem_singleton] at hs
      subst hs
      exact ⟨sorted_subs l n, h1, sortedBelow_len l n, fun x hx => (mem_sortedBelow.1 hx).1⟩
theorem ba_refl (a : ByteArray) : (a == a) = true := (ba_eq a a).2 rfl
theorem mhas_mset {α : Type} (k : ByteArray) (x : α) : ∀ (es : List (Value × α)), mhas (mset es (.string k) x) (.string k) = true
  | [] => by
    unfold mset mhas mlook
    rw [show keyB (.string k) (.string k) = true from ba_refl k]
    rfl
  | (k', y) :: r => by
    unfold mset
    cases h : keyB (.string k) k' with
    | true =>
      rw [cond_true]
      unfold mhas mlook
      rw [show keyB (.string k) (.string k) = true from ba_refl k]
      rfl
    | false =>
      have ih := mhas_mset k x r
      unfold mhas at ih ⊢
      simp only [cond_false, mlook, h]
      exact ih
theorem mhas_mono {α : Type} (k : ByteArray) (k' : ByteArray) (x : α) : ∀ (es : List (Value × α)), mhas es (.string k') = true → mhas (mset es (.string k) x) (.string k') = true
  | [], h => by simp [mhas, mlook] at h
  | (c, y) :: r, h => by
    unfold mset
    cases h1 : keyB (.string k) c with
    | true =>
      rw [cond_true]
      unfold mhas at h ⊢
      simp only [mlook] at h ⊢
      cases h2 : keyB (.string k') (.string k) with
      | true => rfl
      | false =>
        rw [cond_false]
        cases h3 : keyB (.string k') c with
        | true =>
          cases c with
          | string s =>
            have e1 : k = s := (ba_eq _ _).1 h1
            have e3 : k' = s := (ba_eq _ _).1 h3
            have h2 : (k' == k) = false := h2
            rw [e1, e3, ba_refl] at h2
            cases h2
          | _ => simp [keyB] at h1
        | false =>
          rw [h3, cond_false] at h
          exact h
    | false =>
      rw [cond_false]
      unfold mhas at h ⊢
      simp only [mlook] at h ⊢
      cases h3 : keyB (.string k') c with
      | true => rfl
      | false =>
        rw [h3, cond_false] at h
        rw [cond_false]
        exact mhas_mono k k' x r h
def hasKeys (km : List (Value × Int)) (sts : List (List Int)) : Prop := ∀ s ∈ sts, mhas km (.string (rkeyB s)) = true
theorem hasKeys_app {km : List (Value × Int)} {sts : List (List Int)} (h : hasKeys km sts) (s : List Int) (x : Int) : hasKeys (mset km (.string (rkeyB s)) x) (sts ++ [s]) := by
  intro t ht
  rcases List.mem_append.1 ht with ht | ht
  · exact mhas_mono _ _ _ _ (h t ht)
  · rw [List.mem_singleton] at ht
    subst ht
    exact mhas_mset _ _ _
abbrev rowsS (l : List (List Int)) : I := .sl 1 l.length (l.map fun r => [intsI r])
abbrev keptR (a : Aut) (on : List Int) : List Int := a.alpha.filter fun x => decide (x ∈ on)
set_option maxHeartbeats 8000000 in
theorem project82 (O : List Heap) (a : Aut) (on : List Int) (n : Nat) (hst : a.states = n) (hn : n ≤ 12) (hed : a.edges.length ≤ 1000000) (hal : a.alpha.length ≤ 1000000) (hmk : a.marked.length ≤ 1000000) (hon : on.length ≤ max63) (hf : ∀ e ∈ a.edges, 0 ≤ e.1 ∧ e.1 < (n : Int)) (hes : ∀ e ∈ a.edges, 0 ≤ e.2.2 ∧ e.2.2 < (n : Int))
    (hc : chkA a = 0) (hcs : checkSet 32 on none = 0) : ASpecX Tryz.prog 82 [autD a, ints on] O (fun _ : Aut × List (List Int) => True) (fun r => .tup [autD r.1, .i (rowsS r.2), ii 0]) O := by
  have h1 : ∀ O, ASpec Tryz.prog 106 [autD a, ints on] O (ii 0) [] O := fun O => by
    have := pcheck106 O a on (by simp only [max63]; omega) (by simp only [max63]; omega) (by simp only [max63]; omega) hon
    rwa [hc, hcs, if_neg (by decide)] at this
  have h2 := fun O => observe107 O a on (by omega) (by omega) (by rw [hst]; exact hf) hed hal hon
  obtain ⟨al, st, mk, es⟩ := a
  simp only at hst
  subst hst
  simp only [obsD, Int.toNat_natCast] at *
  have hkl : (al.filter fun x => decide (x ∈ on)).length ≤ 1000000 := Nat.le_trans (List.length_filter_le _ _) hal
  have hel : (al.filter fun x => !decide (x ∈ on)).length ≤ max63 := Nat.le_trans (List.length_filter_le _ _) (by simp only [max63]; omega)
  generalize hKP : (al.filter fun x => decide (x ∈ on)) = kp at *
  generalize hER : (al.filter fun x => !decide (x ∈ on)) = er at *
  refine aspecX_stop (fun _ : Aut × List (List Int) => True) (fun r => .tup [autD r.1, .i (rowsS r.2), ii 0]) [15, 25, 29] Tk Tryz.func82 rfl Tryz.call82 Tryz.ntmps82 (Nat.le_of_ble_eq_true rfl) fun E => ?_
  refine g_run Tk Tryz.func82 ?_
  first | refine g_call Tk Tryz.func82 (h1 _) rfl rfl rfl rfl rfl ?_ | refine s_callq Tk (fun _ => h1 _) rfl rfl rfl ?_
  repeat (first | refine gcT Tk Tryz.func82 rfl ?_ | refine gkT Tk Tryz.func82 rfl ?_ | refine skT Tk ?_ | refine gcF Tk Tryz.func82 rfl ?_ | refine gkF Tk Tryz.func82 rfl ?_ | refine skF Tk ?_)
  first | refine g_call Tk Tryz.func82 (h2 _) rfl rfl rfl rfl rfl ?_ | refine s_callq Tk (fun _ => h2 _) rfl rfl rfl ?_
  first | refine g_cnd Tk Tryz.func82 rfl (fun g1 => ?_) (fun g1 => ?_) | refine g_know Tk Tryz.func82 rfl (fun g1 => ?_) (fun g1 => ?_) | refine s_know Tk (fun g1 => ?_) (fun g1 => ?_)
  · have g1 : (n : Int) = 0 := beqT g1
    refine g_retX Tk (r := .tup [.agg [ints kp, ii 0, .i (.v (.slice none 0 0)), .i (.v (.slice none 0 0))], .i (.v (.slice none 0 0)), ii 0]) ((⟨kp, 0, [], []⟩, []) : Aut × List (List Int)) trivial rfl rfl rfl rfl rfl ?_
    repeat' (first | refine coD_tup ?_ | refine coD_agg ?_ | refine coD_i ?_ | refine CoDL.cons ?_ ?_ | exact CoDL.nil | exact coI_nil | refine coI_sl ?_ | refine CoLL.cons ?_ ?_ | exact CoLL.nil | refine CoL.cons ?_ ?_ | exact CoL.nil | exact CoI.refl _ | exact CoL.refl _ | exact CoLL.refl _ | exact CoDL.refl _ | exact CoD.refl _)
  have hn0 : 0 < n := by
    have : ¬ (n : Int) = 0 := beqF g1
    omega
  clear g1 h1 h2 hc hcs hf
  have h3 := fun O => start108 O es n kp er mk (by omega) hn0 hes hed hel
  have h4 : ∀ l, l ≠ [] → l.length ≤ n → (∀ x ∈ l, 0 ≤ x ∧ x < (n : Int)) → ∀ O, ASpec Tryz.prog 109 [ints l] O (.i (.v (.string (rkeyB l)))) [] O := fun l h0 h1 h2 O => key109 O l h0 (by omega) fun x hx => by have := h2 x hx; omega
  have hst0 : estsOk n [clo es (fun x => decide (x ∈ er)) n [0]] := by
    refine estsOk_app (n := n) (sts := []) ⟨by simp, by simp⟩ (l := reachB es (fun x => decide (x ∈ er)) n [0]) ?_ (by simp)
    · intro e
      have h0 : (0 : Int) ∈ clo es (fun x => decide (x ∈ er)) n [0] := (mem_clo hes).2 ⟨by omega, .base (by simp)⟩
      unfold clo at h0
      rw [e] at h0
      simp at h0
  generalize clo es (fun x => decide (x ∈ er)) n [0] = s0 at *
  obtain ⟨_, e1, e2, e3⟩ := hst0.el s0 (by simp)
  first | refine g_call Tk Tryz.func82 (h3 _) rfl rfl rfl rfl rfl ?_ | refine s_callq Tk (fun _ => h3 _) rfl rfl rfl ?_
  first | refine g_need Tk Tryz.func82 (by exact ⟨by decide, by decide⟩) ?_ | refine s_need Tk (by exact ⟨by decide, by decide⟩) ?_
  first | refine g_elem Tk Tryz.func82 (rfl) ?_ | refine s_elem Tk (rfl) ?_
  first | refine g_call Tk Tryz.func82 (h4 s0 e1 e2 e3 _) rfl rfl rfl rfl rfl ?_ | refine s_callq Tk (fun _ => h4 s0 e1 e2 e3 _) rfl rfl rfl ?_
  have hkm0 : hasKeys (mset [] (.string (rkeyB s0)) 0) [s0] := hasKeys_app (km := []) (sts := []) (by simp [hasKeys]) s0 0
  refine g_loop ?_
  refine rch_wk (wk_ren 37 97 rfl rfl rfl) ?_
  refine rch_wk (wk_nilbox2 9 60 3 1 (pre := [ints kp, ii 0]) (post := [.i (.v (.slice none 0 0))]) rfl rfl rfl) ?_
  refine rch_wk (wk_nilbox2 9 105 79 3 (pre := [ints kp, ii 0, .osl 0 60]) (post := []) rfl rfl rfl) ?_
  refine rch_loop2 (fun x : Nat × List (List Int) × List Int × List Edg × List (Value × Int) => [(4, .own 0 4 0 0), (8, .own 0 8 0 0), (9, .own 0 9 0 0), (10, .osl 0 97), (11, .osl 0 38), (12, ii x.1)])
    (fun x => [(4, .box [.i (.v (.slice none 0 0)), ii 0, .i (.v (.slice none 0 0)), .i (.v (.slice none 0 0))]), (8, .box [.i (rowsI (outOf n es)), ints kp, ints er, ints mk]), (9, .box [ints kp, ii 0, .osl 0 60, .osl 0 105]), (97, orows x.2.1), (60, oints x.2.2.1), (105, oedgs x.2.2.2.1), (38, .mp .str (.i .i64 x.2.2.2.2))]) (fun _ => O) 117
    (fun x => x.1 ≤ x.2.1.length ∧ estsOk n x.2.1 ∧ hasKeys x.2.2.2.2 x.2.1 ∧ x.2.2.1.length ≤ x.1 ∧ x.2.2.2.1.length ≤ x.1 * 1000000) (fun x => 4097 - x.1) (0, [s0], [], [], mset [] (.string (rkeyB s0)) 0)
    ⟨Nat.zero_le _, hst0, hkm0, Nat.le_refl _, Nat.zero_le _⟩ ⟨rfl, rfl, rfl, rfl, rfl, rfl, trivial⟩ rfl ⟨rfl, rfl, rfl, rfl, rfl, rfl, rfl, trivial⟩ rfl rfl ?_
  clear hst0 hkm0 h3 e1 e2 e3
  rintro ⟨i, sts, mkl, eds, km⟩ ⟨hi, hgd, hkm, hml, hdl⟩ ih
  simp only at hi hgd hkm hml hdl
  have hle := estsOk_len hn hgd
  refine g_run Tk Tryz.func82 ?_
  first | refine g_cnd Tk Tryz.func82 rfl (fun g1 => ?_) (fun g1 => ?_) | refine g_know Tk Tryz.func82 rfl (fun g1 => ?_) (fun g1 => ?_) | refine s_know Tk (fun g1 => ?_) (fun g1 => ?_)
  · have h1 : i < sts.length := by simpa using g1
    clear g1
    have hsi : sts[i]? = some sts[i] := List.getElem?_eq_getElem h1
    have gs : (sts.map fun r => [intsI r])[(i : Int).toNat]? = some [intsI sts[i]] := get_mapZ (f := fun r => [intsI r]) h1
    obtain ⟨_, e1, e2, e3⟩ := hgd.el _ (List.getElem_mem h1)
    generalize sts[i] = s at *
    have hmk' := fun O => isMarked110 O (outOf n es) kp er mk s (by simp only [max63]; omega) (by simp only [max63]; omega)
    refine g_drawn Tk Tryz.func82 mixedT rfl ?_
    first | refine g_need Tk Tryz.func82 (by exact ⟨by omega, by show (i : Int) < (sts.length : Int); omega⟩) ?_ | refine s_need Tk (by exact ⟨by omega, by show (i : Int) < (sts.length : Int); omega⟩) ?_
    first | refine g_elem Tk Tryz.func82 (gs) ?_ | refine s_elem Tk (gs) ?_
    first | refine g_call Tk Tryz.func82 (hmk' _) rfl rfl rfl rfl rfl ?_ | refine s_callq Tk (fun _ => hmk' _) rfl rfl rfl ?_
    refine e_done Tk Tryz.func82 (by kernel_rfl) ?_
    apply join_q (α := List Int) (P := fun m => m.length ≤ i + 1) (s6 := fun m => { σ := [(4, .own 0 4 0 0), (8, .own 0 8 0 0), (9, .own 0 9 0 0), (10, .osl 0 97), (11, .osl 0 38), (12, ii i)], S := [(4, .box [.i (.v (.slice none 0 0)), ii 0, .i (.v (.slice none 0 0)), .i (.v (.slice none 0 0))]), (8, .box [.i (rowsI (outOf n es)), ints kp, ints er, ints mk]), (9, .box [ints kp, ii 0, .osl 0 60, .osl 0 105]), (97, orows sts), (60, oints m), (105, oedgs eds), (38, .mp .str (.i .i64 km))] :: O, n := 117 })
    · intro J
      first | refine g_cnd Tk Tryz.func82 rfl (fun c1 => ?_) (fun c1 => ?_) | refine g_know Tk Tryz.func82 rfl (fun c1 => ?_) (fun c1 => ?_) | refine s_know Tk (fun c1 => ?_) (fun c1 => ?_)
      · first | refine g_need Tk Tryz.func82 (by exact ⟨by show (mkl.length + 1) * 8 ≤ 140737488355328; omega, by show mkl.length + 1 ≤ 9223372036854775807; omega⟩) ?_ | refine s_need Tk (by exact ⟨by show (mkl.length + 1) * 8 ≤ 140737488355328; omega, by show mkl.length + 1 ≤ 9223372036854775807; omega⟩) ?_
        refine g_stop ?_
        refine rch_meet (J (mkl ++ [(i : Int)]) (by rw [List.length_append, List.length_singleton]; omega)) ⟨rfl, rfl, rfl, rfl, rfl, rfl, trivial⟩ rfl ⟨rfl, rfl, rfl, rfl, congrArg some (oints_app mkl (i : Int)), rfl, rfl, trivial⟩ rfl rfl
      · refine g_stop ?_
        refine rch_meet (J mkl (by omega)) ⟨rfl, rfl, rfl, rfl, rfl, rfl, trivial⟩ rfl ⟨rfl, rfl, rfl, rfl, rfl, rfl, rfl, trivial⟩ rfl rfl
    clear hml hmk' gs
    intro mk2 hml
    refine g_run Tk Tryz.func82 ?_
    refine g_go Tk Tryz.func82 ?_
    refine g_loop ?_
    refine rch_loop2 (fun x : Nat × List (List Int) × List Edg × List (Value × Int) => [(4, .own 0 4 0 0), (8, .own 0 8 0 0), (9, .own 0 9 0 0), (10, .osl 0 97), (11, .osl 0 38), (12, ii i), (63, ints kp), (64, ii kp.length), (65, ii x.1)])
      (fun x => [(4, .box [.i (.v (.slice none 0 0)), ii 0, .i (.v (.slice none 0 0)), .i (.v (.slice none 0 0))]), (8, .box [.i (rowsI (outOf n es)), ints kp, ints er, ints mk]), (9, .box [ints kp, ii 0, .osl 0 60, .osl 0 105]), (97, orows x.2.1), (60, oints mk2), (105, oedgs x.2.2.1), (38, .mp .str (.i .i64 x.2.2.2))]) (fun _ => O) 117
      (fun x => x.1 ≤ kp.length ∧ i < x.2.1.length ∧ x.2.1[i]? = some s ∧ estsOk n x.2.1 ∧ hasKeys x.2.2.2 x.2.1 ∧ x.2.2.1.length ≤ i * 1000000 + x.1) (fun x => kp.length - x.1) (0, sts, eds, km)
      ⟨Nat.zero_le _, h1, hsi, hgd, hkm, Nat.le_trans hdl (Nat.le_add_right _ _)⟩ ⟨rfl, rfl, rfl, rfl, rfl, rfl, rfl, rfl, rfl, trivial⟩ rfl ⟨rfl, rfl, rfl, rfl, rfl, rfl, rfl, trivial⟩ rfl rfl ?_
    clear hgd hkm hdl h1 hsi hle hi
    rintro ⟨j, sts, eds, km⟩ ⟨hj, h1, hsi, hgd, hkm, hdl⟩ ih2
    simp only at hj h1 hsi hgd hkm hdl
    have hle := estsOk_len hn hgd
    have hj1 : ii (IntKind.i64.wrap ((j : Int) + 1)) = ii ((j + 1 : Nat) : Int) := congrArg ii (wsucc (n := 1000001) (by omega) (by decide))
    refine g_run Tk Tryz.func82 ?_
    first | refine g_cnd Tk Tryz.func82 rfl (fun g2 => ?_) (fun g2 => ?_) | refine g_know Tk Tryz.func82 rfl (fun g2 => ?_) (fun g2 => ?_) | refine s_know Tk (fun g2 => ?_) (fun g2 => ?_)
    · have h2 : j < kp.length := by simpa using g2
      clear g2
      have gk : (kp.map fun x => [vi x])[(j : Int).toNat]? = some [vi kp[j]] := get_mapZ (f := fun x => [vi x]) h2
      have gs : (sts.map fun r => [intsI r])[(i : Int).toNat]? = some [intsI s] := by rw [Int.toNat_natCast, List.getElem?_map, hsi]; rfl
      generalize kp[j] = ev at *
      have h5 := fun O => next111 O es n kp er mk s ev (by omega) hes hed e3 (by omega) hel
      have hnx : nxt es (fun x => decide (x ∈ er)) n s ev = sortedBelow (reachB es (fun x => decide (x ∈ er)) n (tgtE es s ev)) n := rfl
      generalize reachB es (fun x => decide (x ∈ er)) n (tgtE es s ev) = rl at *
      generalize nxt es (fun x => decide (x ∈ er)) n s ev = nx at *
      first | refine g_need Tk Tryz.func82 (by exact ⟨by omega, by show (j : Int) < (kp.length : Int); omega⟩) ?_ | refine s_need Tk (by exact ⟨by omega, by show (j : Int) < (kp.length : Int); omega⟩) ?_
      first | refine g_elem Tk Tryz.func82 (gk) ?_ | refine s_elem Tk (gk) ?_
      refine g_drawn Tk Tryz.func82 mixedT rfl ?_
      first | refine g_need Tk Tryz.func82 (by exact ⟨by omega, by show (i : Int) < (sts.length : Int); omega⟩) ?_ | refine s_need Tk (by exact ⟨by omega, by show (i : Int) < (sts.length : Int); omega⟩) ?_
      first | refine g_elem Tk Tryz.func82 (gs) ?_ | refine s_elem Tk (gs) ?_
      first | refine g_call Tk Tryz.func82 (h5 _) rfl rfl rfl rfl rfl ?_ | refine s_callq Tk (fun _ => h5 _) rfl rfl rfl ?_
      refine e_done Tk Tryz.func82 (by kernel_rfl) ?_
      first | refine g_cnd Tk Tryz.func82 rfl (fun c3 => ?_) (fun c3 => ?_) | refine g_know Tk Tryz.func82 rfl (fun c3 => ?_) (fun c3 => ?_) | refine s_know Tk (fun c3 => ?_) (fun c3 => ?_)
      · have c3 : (nx.length : Int) = 0 := beqT c3
        refine g_loop ?_
        exact ih2 (j + 1, sts, eds, km) _ _ ⟨h2, h1, hsi, hgd, hkm, by simp only; omega⟩ (by simp only; omega) ⟨rfl, rfl, rfl, rfl, rfl, rfl, rfl, rfl, hj1, trivial⟩ rfl ⟨rfl, rfl, rfl, rfl, rfl, rfl, rfl, trivial⟩ rfl rfl
      have c3 : ¬ (nx.length : Int) = 0 := beqF c3
      have hne : nx ≠ [] := by
        rintro rfl
        exact c3 rfl
      have hnl : nx.length ≤ n := by rw [hnx]; exact sortedBelow_len _ _
      have hnb : ∀ x ∈ nx, 0 ≤ x ∧ x < (n : Int) := fun x hx => by rw [hnx] at hx; exact (mem_sortedBelow.1 hx).1
      first | refine g_call Tk Tryz.func82 (h4 nx hne hnl hnb _) rfl rfl rfl rfl rfl ?_ | refine s_callq Tk (fun _ => h4 nx hne hnl hnb _) rfl rfl rfl ?_
      apply join_q (α := List (List Int) × List (Value × Int) × Int) (P := fun y => i < y.1.length ∧ y.1[i]? = some s ∧ estsOk n y.1 ∧ hasKeys y.2.1 y.1) (s6 := fun y => { σ := [(4, .own 0 4 0 0), (8, .own 0 8 0 0), (9, .own 0 9 0 0), (10, .osl 0 97), (11, .osl 0 38), (12, ii i), (63, ints kp), (64, ii kp.length), (65, ii j), (14, ii ev), (16, ii y.2.2)], S := [(4, .box [.i (.v (.slice none 0 0)), ii 0, .i (.v (.slice none 0 0)), .i (.v (.slice none 0 0))]), (8, .box [.i (rowsI (outOf n es)), ints kp, ints er, ints mk]), (9, .box [ints kp, ii 0, .osl 0 60, .osl 0 105]), (97, orows y.1), (60, oints mk2), (105, oedgs eds), (38, .mp .str (.i .i64 y.2.1))] :: O, n := 117 })
      · intro J
        first | refine g_cnd Tk Tryz.func82 rfl (fun c4 => ?_) (fun c4 => ?_) | refine g_know Tk Tryz.func82 rfl (fun c4 => ?_) (fun c4 => ?_) | refine s_know Tk (fun c4 => ?_) (fun c4 => ?_)
        · have c4 : mhas km (.string (rkeyB nx)) = false := by simpa using c4
          have hnin : nx ∉ sts := fun h => by rw [hkm nx h] at c4; cases c4
          first | refine g_call Tk Tryz.func82 (h4 nx hne hnl hnb _) rfl rfl rfl rfl rfl ?_ | refine s_callq Tk (fun _ => h4 nx hne hnl hnb _) rfl rfl rfl ?_
          first | refine g_need Tk Tryz.func82 (by exact ⟨by show (sts.length + 1) * 24 ≤ 140737488355328; omega, by show sts.length + 1 ≤ 9223372036854775807; omega⟩) ?_ | refine s_need Tk (by exact ⟨by show (sts.length + 1) * 24 ≤ 140737488355328; omega, by show sts.length + 1 ≤ 9223372036854775807; omega⟩) ?_
          refine g_stop ?_
          refine rch_meet (J (sts ++ [nx], mset km (.string (rkeyB nx)) sts.length, (sts.length : Int)) ⟨by rw [List.length_append]; omega, by rw [List.getElem?_append_left h1]; exact hsi, by rw [hnx] at hne hnin ⊢; exact estsOk_app hgd hne hnin, hasKeys_app hkm nx _⟩) ⟨rfl, rfl, rfl, rfl, rfl, rfl, rfl, rfl, rfl, rfl, rfl, trivial⟩ rfl ⟨rfl, rfl, rfl, congrArg some (orows_app sts nx), rfl, rfl, rfl, trivial⟩ rfl rfl
        · refine g_stop ?_
          refine rch_meet (J (sts, km, mgetI km (.string (rkeyB nx))) ⟨h1, hsi, hgd, hkm⟩) ⟨rfl, rfl, rfl, rfl, rfl, rfl, rfl, rfl, rfl, rfl, rfl, trivial⟩ rfl ⟨rfl, rfl, rfl, rfl, rfl, rfl, rfl, trivial⟩ rfl rfl
      rintro ⟨sts2, km2, t⟩ ⟨h1, hsi, hgd, hkm⟩
      simp only at h1 hsi hgd hkm
      have hle := estsOk_len hn hgd
      refine g_run Tk Tryz.func82 ?_
      refine g_go Tk Tryz.func82 ?_
      first | refine g_need Tk Tryz.func82 (by exact ⟨by show (eds.length + 1) * 24 ≤ 140737488355328; omega, by show eds.length + 1 ≤ 9223372036854775807; omega⟩) ?_ | refine s_need Tk (by exact ⟨by show (eds.length + 1) * 24 ≤ 140737488355328; omega, by show eds.length + 1 ≤ 9223372036854775807; omega⟩) ?_
      refine g_loop ?_
      exact ih2 (j + 1, sts2, eds ++ [((i : Int), ev, t)], km2) _ _ ⟨h2, h1, hsi, hgd, hkm, by simp only [List.length_append, List.length_singleton]; omega⟩ (by simp only; omega) ⟨rfl, rfl, rfl, rfl, rfl, rfl, rfl, rfl, hj1, trivial⟩ rfl ⟨rfl, rfl, rfl, rfl, rfl, congrArg some (oedgs_app eds ((i : Int), ev, t)), rfl, trivial⟩ rfl rfl
    · have h2 : kp.length ≤ j := by simpa using g2
      first | refine g_cnd Tk Tryz.func82 rfl (fun c3 => ?_) (fun c3 => ?_) | refine g_know Tk Tryz.func82 rfl (fun c3 => ?_) (fun c3 => ?_) | refine s_know Tk (fun c3 => ?_) (fun c3 => ?_)
      · have c3 : ((sts.length : Nat) : Int) > 4096 := of_decide_eq_true c3
        omega
      refine g_loop ?_
      exact ih (i + 1, sts, mk2, eds, km) _ _ ⟨h1, hgd, hkm, hml, by simp only; omega⟩ (by simp only; omega) ⟨rfl, rfl, rfl, rfl, rfl, congrArg ii (wsucc (n := 5000) (by omega) (by decide)), trivial⟩ rfl ⟨rfl, rfl, rfl, rfl, rfl, rfl, rfl, trivial⟩ rfl rfl
  · have h1 : sts.length ≤ i := by simpa using g1
    refine g_stop ?_
    refine rch_wk (wk_freeze 60 rfl rfl) ?_
    refine rch_wk (wk_freeze 105 rfl rfl) ?_
    refine g_run Tk Tryz.func82 ?_
    refine g_go Tk Tryz.func82 ?_
    refine g_rwk (wk_freeze 97 rfl rfl) ?_
    refine g_rwk (wk_imm rfl) ?_
    refine g_retX Tk (r := .tup [.agg [ints kp, ii sts.length, ints mkl, edgs eds], .i (rowsS sts), ii 0]) ((⟨kp, sts.length, mkl, eds⟩, sts) : Aut × List (List Int)) trivial rfl rfl rfl rfl rfl ?_
    repeat' (first | refine coD_tup ?_ | refine coD_agg ?_ | refine coD_i ?_ | refine CoDL.cons ?_ ?_ | exact CoDL.nil | exact coI_nil | refine coI_sl ?_ | refine CoLL.cons ?_ ?_ | exact CoLL.nil | refine CoL.cons ?_ ?_ | exact CoL.nil | exact CoI.refl _ | exact CoL.refl _ | exact CoLL.refl _ | exact CoDL.refl _ | exact CoD.refl _)
end Go.AI


namespace Go.AI
open Go.Proofs
set_option maxRecDepth 20000
def opE (a : Aut) (on un : List Int) : Int := if chkA a ≠ 0 then chkA a else if checkSet 32 on none ≠ 0 then checkSet 32 on none else checkSet 32 un none
structure smallA (a : Aut) : Prop where
  ed : a.edges.length ≤ 1000000
  al : a.alpha.length ≤ 1000000
  mkd : a.marked.length ≤ 1000000
theorem chk_rng {a : Aut} (h : chkA a = 0) : (∀ e ∈ a.edges, 0 ≤ e.1 ∧ e.1 < a.states) ∧ (∀ e ∈ a.edges, 0 ≤ e.2.2 ∧ e.2.2 < a.states) ∧ ∀ e ∈ a.edges, e.2.1 ∈ a.alpha := by
  obtain ⟨_, _, _, c4⟩ := chk_parts h
  obtain ⟨_, eb, _⟩ := chkEds_sorted c4
  exact ⟨fun e he => (eb e he).1, fun e he => (eb e he).2.1, fun e he => (eb e he).2.2⟩
abbrev nilV : D := .i (.v (.pointer none))
set_option maxHeartbeats 4000000 in
theorem opened42e (O : List Heap) (a : Aut) (on un : List Int) (h : smallA a) (hon : on.length ≤ max63) (hun : un.length ≤ max63) (he : opE a on un ≠ 0) : ASpec Tryz.prog 42 [autD a, ints on, ints un] O (.tup [nilV, ii (opE a on un)]) [] O := by
  have h1 := fun O => check116 O a (by have := h.ed; simp only [max63]; omega) (by have := h.al; simp only [max63]; omega) (by have := h.mkd; simp only [max63]; omega)
  have h2 := fun O => checkSet59 O on 32 hon
  have h3 := fun O => checkSet59 O un 32 hun
  generalize hR : opE a on un = R at *
  unfold opE at hR
  generalize chkA a = e1 at *
  generalize checkSet 32 on none = e2 at *
  generalize checkSet 32 un none = e3 at *
  obtain ⟨al, st, mk, es⟩ := a
  refine aspec_intro Tk Tryz.func42 rfl Tryz.call42 Tryz.ntmps42 (Nat.le_of_ble_eq_true rfl) fun E => ?_
  refine g_run Tk Tryz.func42 ?_
  first | refine g_call Tk Tryz.func42 (h1 _) rfl rfl rfl rfl rfl ?_ | refine s_callq Tk (fun _ => h1 _) rfl rfl rfl ?_
  first | refine g_cnd Tk Tryz.func42 rfl (fun c1 => ?_) (fun c1 => ?_) | refine g_know Tk Tryz.func42 rfl (fun c1 => ?_) (fun c1 => ?_) | refine s_know Tk (fun c1 => ?_) (fun c1 => ?_)
  · have c1 : e1 ≠ 0 := bneT c1
    rw [if_pos c1] at hR
    subst hR
    refine g_ret Tk (r := .tup [nilV, ii e1]) rfl rfl rfl trivial rfl rfl ?_
    rfl
  have c1 : e1 = 0 := bneF c1
  rw [if_neg (fun h => h c1)] at hR
  refine g_loop ?_
  refine g_run Tk Tryz.func42 ?_
  first | refine gcT Tk Tryz.func42 rfl ?_ | refine gkT Tk Tryz.func42 rfl ?_ | refine skT Tk ?_
  first | refine g_need Tk Tryz.func42 (by exact ⟨by decide, by decide⟩) ?_ | refine s_need Tk (by exact ⟨by decide, by decide⟩) ?_
  first | refine g_elem Tk Tryz.func42 (rfl) ?_ | refine s_elem Tk (rfl) ?_
  first | refine g_call Tk Tryz.func42 (h2 _) rfl rfl rfl rfl rfl ?_ | refine s_callq Tk (fun _ => h2 _) rfl rfl rfl ?_
  first | refine g_cnd Tk Tryz.func42 rfl (fun c2 => ?_) (fun c2 => ?_) | refine g_know Tk Tryz.func42 rfl (fun c2 => ?_) (fun c2 => ?_) | refine s_know Tk (fun c2 => ?_) (fun c2 => ?_)
  · have c2 : e2 ≠ 0 := bneT c2
    rw [if_pos c2] at hR
    subst hR
    refine g_ret Tk (r := .tup [nilV, ii e2]) rfl rfl rfl trivial rfl rfl ?_
    rfl
  have c2 : e2 = 0 := bneF c2
  rw [if_neg (fun h => h c2)] at hR
  subst hR
  refine g_loop ?_
  refine g_run Tk Tryz.func42 ?_
  first | refine gcT Tk Tryz.func42 rfl ?_ | refine gkT Tk Tryz.func42 rfl ?_ | refine skT Tk ?_
  first | refine g_need Tk Tryz.func42 (by exact ⟨by decide, by decide⟩) ?_ | refine s_need Tk (by exact ⟨by decide, by decide⟩) ?_
  first | refine g_elem Tk Tryz.func42 (rfl) ?_ | refine s_elem Tk (rfl) ?_
  first | refine g_call Tk Tryz.func42 (h3 _) rfl rfl rfl rfl rfl ?_ | refine s_callq Tk (fun _ => h3 _) rfl rfl rfl ?_
  first | refine g_cnd Tk Tryz.func42 rfl (fun c3 => ?_) (fun c3 => ?_) | refine g_know Tk Tryz.func42 rfl (fun c3 => ?_) (fun c3 => ?_) | refine s_know Tk (fun c3 => ?_) (fun c3 => ?_)
  · refine g_ret Tk (r := .tup [nilV, ii e3]) rfl rfl rfl trivial rfl rfl ?_
    rfl
  have c3 : e3 = 0 := bneF c3
  exact absurd c3 he
set_option maxHeartbeats 4000000 in
theorem opened42 (O : List Heap) (a : Aut) (on un : List Int) (n : Nat) (hst : a.states = n) (hn : n ≤ 12) (h : smallA a) (hon : on.length ≤ max63) (hun : un.length ≤ max63) (he : opE a on un = 0) : ASpec Tryz.prog 42 [autD a, ints on, ints un] O (.tup [viewD a on un, ii 0]) [] O := by
  have h1 := fun O => check116 O a (by have := h.ed; simp only [max63]; omega) (by have := h.al; simp only [max63]; omega) (by have := h.mkd; simp only [max63]; omega)
  have h2 := fun O => checkSet59 O on 32 hon
  have h3 := fun O => checkSet59 O un 32 hun
  unfold opE at he
  have c1 : chkA a = 0 := by
    by_cases c : chkA a = 0
    · exact c
    · rw [if_pos c] at he; exact he
  rw [if_neg (fun h => h c1)] at he
  have c2 : checkSet 32 on none = 0 := by
    by_cases c : checkSet 32 on none = 0
    · exact c
    · rw [if_pos c] at he; exact he
  rw [if_neg (fun h => h c2)] at he
  obtain ⟨r1, r2, _⟩ := chk_rng c1
  rw [hst] at r1 r2
  have h4 := fun O => project82 O a on n hst hn h.ed h.al h.mkd hon r1 r2 c1 c2
  have h5 := fun O => see83 O a on un (by omega) (by omega) (by rw [hst]; exact r1) h.ed
  rw [c1] at h1
  rw [c2] at h2
  rw [he] at h3
  show ASpec Tryz.prog 42 [autD a, ints on, ints un] O (.tup [.i (.ptr 7 [viewI a on un] 0 0), ii 0]) [] O
  have h5 : ∀ O, ASpec Tryz.prog 83 [autD a, ints on, ints un] O (.i (.ptr 7 [viewI a on un] 0 0)) [] O := h5
  generalize [viewI a on un] = V at *
  obtain ⟨al, st, mk, es⟩ := a
  refine aspec_intro Tk Tryz.func42 rfl Tryz.call42 Tryz.ntmps42 (Nat.le_of_ble_eq_true rfl) fun E => ?_
  refine g_run Tk Tryz.func42 ?_
  first | refine g_call Tk Tryz.func42 (h1 _) rfl rfl rfl rfl rfl ?_ | refine s_callq Tk (fun _ => h1 _) rfl rfl rfl ?_
  first | refine gcF Tk Tryz.func42 rfl ?_ | refine gkF Tk Tryz.func42 rfl ?_ | refine skF Tk ?_
  refine g_loop ?_
  refine g_run Tk Tryz.func42 ?_
  first | refine gcT Tk Tryz.func42 rfl ?_ | refine gkT Tk Tryz.func42 rfl ?_ | refine skT Tk ?_
  first | refine g_need Tk Tryz.func42 (by exact ⟨by decide, by decide⟩) ?_ | refine s_need Tk (by exact ⟨by decide, by decide⟩) ?_
  first | refine g_elem Tk Tryz.func42 (rfl) ?_ | refine s_elem Tk (rfl) ?_
  first | refine g_call Tk Tryz.func42 (h2 _) rfl rfl rfl rfl rfl ?_ | refine s_callq Tk (fun _ => h2 _) rfl rfl rfl ?_
  first | refine gcF Tk Tryz.func42 rfl ?_ | refine gkF Tk Tryz.func42 rfl ?_ | refine skF Tk ?_
  refine g_loop ?_
  refine g_run Tk Tryz.func42 ?_
  first | refine gcT Tk Tryz.func42 rfl ?_ | refine gkT Tk Tryz.func42 rfl ?_ | refine skT Tk ?_
  first | refine g_need Tk Tryz.func42 (by exact ⟨by decide, by decide⟩) ?_ | refine s_need Tk (by exact ⟨by decide, by decide⟩) ?_
  first | refine g_elem Tk Tryz.func42 (rfl) ?_ | refine s_elem Tk (rfl) ?_
  first | refine g_call Tk Tryz.func42 (h3 _) rfl rfl rfl rfl rfl ?_ | refine s_callq Tk (fun _ => h3 _) rfl rfl rfl ?_
  first | refine gcF Tk Tryz.func42 rfl ?_ | refine gkF Tk Tryz.func42 rfl ?_ | refine skF Tk ?_
  refine g_loop ?_
  refine g_run Tk Tryz.func42 ?_
  first | refine gcF Tk Tryz.func42 rfl ?_ | refine gkF Tk Tryz.func42 rfl ?_ | refine skF Tk ?_
  refine g_callX Tk Tryz.func42 (h4 _) rfl rfl rfl rfl fun r _ => ?_
  obtain ⟨⟨al2, st2, mk2, es2⟩, sts2⟩ := r
  first | refine gcF Tk Tryz.func42 rfl ?_ | refine gkF Tk Tryz.func42 rfl ?_ | refine skF Tk ?_
  first | refine g_call Tk Tryz.func42 (h5 _) rfl rfl rfl rfl rfl ?_ | refine s_callq Tk (fun _ => h5 _) rfl rfl rfl ?_
  refine g_ret Tk (r := .tup [.i (.ptr 7 V 0 0), ii 0]) rfl rfl rfl trivial rfl rfl ?_
  rfl
end Go.AI


namespace Go.AI
open Go.Proofs
open Go.Shelf Go.RowKit Go.Lib Go.Sort
theorem compact_le (l : List Int) : (Lib.compact l).length ≤ l.length := Lib.compact_length_le l
set_option maxRecDepth 20000 in
set_option maxHeartbeats 1000000 in
theorem does_compact {c : Cx} (hP : c.P = Tryz.prog) {s : St} {o : Oper} {t nm : Nat} {l : List Int} {H : Heap} {O : List Heap} (hpos : 0 < l.length) (ht : o.dst = some t) (hn : t < s.n) (hS : s.S = H :: O) (ha : look H nm = some (oints l)) :
    Wp c o s 93 [.osl 0 nm] { σ := (t, .osl 0 nm) :: killσ nm s.σ, S := ((nm, oints (Lib.compact l)) :: killH nm H) :: O, n := s.n } := by
  intro K ρ a w hinv ⟨vs, hrun, hrep⟩ next Qe hnext
  have hh := hinv.h
  rw [hS] at hh hrep
  have hoa : objAt (H :: O) 0 nm = some (oints l) := by simpa [objAt] using ha
  have e0 : (fun d n => ρ (0 + d) n) = ρ := by funext d n; rw [Nat.zero_add]
  have s0 : ∀ S : List Heap, shape (S.drop 0) = shape S := fun S => by rw [List.drop_zero]
  have hwa := hh.own _ _ _ hoa
  rw [e0, s0] at hwa
  have hsha : shape (H :: O) 0 nm = some (.arr 1 l.length) := by simp [shape, hoa, Ob.sh]
  obtain ⟨rfl⟩ : vs = [.slice (ρ 0 nm).base l.length (ρ 0 nm).cap] := by
    cases hrep with
    | cons h1 h2 => cases h2; rw [inv_osl h1 hsha]
  obtain ⟨h1, h2, h3, h4, h5⟩ := hwa
  rcases h5 with ⟨h5, _⟩ | ⟨h5, cur, h6, h7, h8, h9, h10, h11⟩
  · omega
  rw [h5, hP] at hrun
  have hent : (callFunc 93 #[.slice (some ⟨(ρ 0 nm).block, 0, none⟩) l.length (ρ 0 nm).cap]).run Tryz.prog w = .ok (.enter 93 #[.slice (some ⟨(ρ 0 nm).block, 0, none⟩) l.length (ρ 0 nm).cap]) w := Tryz.call93 _ _
  simp only [Oper.wp, hP, hrun, hent, Oper.upon]
  have h4' : (ρ 0 nm).cap ≤ 9223372036854775807 := h4
  have hcl : cur.toList.take l.length = l.map (Value.int .i64) := by
    rw [Nat.mul_one] at h8
    exact repL_ints h8
  have hsz : l.length ≤ cur.size := by rw [h7, Nat.mul_one]; exact h3
  have hle := compact_le l
  refine (Tryz.slices_Compact_int_cells (ρ 0 nm).block 0 l.length (ρ 0 nm).cap l w (Nat.le_refl _) (by omega) h3 (fun j hj => ?_) (fun j hj => ?_)).mono ?_
  · rw [Nat.zero_add, Go.AI.cell_of_heap h6]
    have : (cur.toList.take l.length)[j]? = some (.int .i64 (l.getD j 0)) := by
      rw [hcl, List.getElem?_map, List.getElem?_eq_getElem hj, List.getD_eq_getElem?_getD, List.getElem?_eq_getElem hj]
      rfl
    rw [List.getElem?_take] at this
    rw [if_pos hj] at this
    simpa using this
  · simp [World.frozen?, h6]
  rintro e w' ⟨rfl, q, rfl⟩
  rw [List.take_length]
  generalize hL : Lib.compact l = L at *
  generalize hV : (L ++ List.replicate (l.length - L.length) 0).map (Value.int .i64) = V
  have hVl : V.length = l.length := by rw [← hV]; simp; omega
  have hgd : (w.drewN q).heap[(ρ 0 nm).block]? = some (.cells cur 3 (0, 0)) := h6
  obtain ⟨a1, a2, a3, a4, a5, a6⟩ := setCells_heap V 0 (w.drewN q) cur 3 (0, 0) hgd
  have hap : Apnd K w ((w.drewN q).setCells (ρ 0 nm).block 0 V) (ρ 0 nm) (ρ 0 nm) := by
    refine ⟨Nat.le_of_eq a3.symm, fun b _ hne => ?_, ⟨a4, a5, a6⟩, fun e => .inr ⟨e, rfl⟩⟩
    have hb : b ≠ (ρ 0 nm).block := hne (by rw [h5]; simp)
    exact a2 b hb
  have hrow : RepL K ((over cur 0 V).toList.take (L.length * 1)) (L.map fun x => [vi x]).flatten := by
    have e1 : (over cur 0 V).toList.take (L.length * 1) = L.map (Value.int .i64) := by
      apply List.ext_getElem?
      intro j
      rw [List.getElem?_take, Nat.mul_one]
      by_cases hj : j < L.length
      · rw [if_pos hj, Array.getElem?_toList, over_get _ _ _ _ (by rw [hVl]; omega), if_pos (by omega), ← hV, Nat.sub_zero, List.map_append, List.getElem?_append_left (by simpa using hj)]
      · rw [if_neg hj, List.getElem?_eq_none (by simpa using hj)]
    rw [e1]
    exact ints_repL _
  have hown : ∀ (ρ' : Nat → Nat → Loc) (sh' : Nat → Nat → Option Sh), OwnAt K ρ' sh' ((w.drewN q).setCells (ρ 0 nm).block 0 V) (ρ 0 nm) (oints L) := fun ρ' sh' =>
    ⟨fun d hd => by obtain ⟨x, _, rfl⟩ := List.mem_map.1 hd; rfl, by simp, by omega, h4, .inr ⟨h5, _, a1, by rw [over_size, h7], hrow, fun _ => h9 rfl, fun o ho => h9 rfl o, fun e => by cases e⟩⟩
  obtain ⟨hI3, hbut⟩ := hh.renew (nm := nm) (dst := nm) ha (by rw [look_killH]; simp) hap Iff.rfl (ob' := oints L) Iff.rfl (fun _ => h9 rfl) hown
  have hsh3 : shape (((nm, oints L) :: killH nm H) :: O) 0 nm = some (.arr 1 L.length) := by simp [shape, objAt, look_cons, Ob.sh]
  refine hnext _ _ K (upd ρ nm (ρ 0 nm)) ?_
  rw [ht]
  refine ⟨hI3, hinv.defers, by simp [Act.put]; exact hinv.size, fun t' d' e' => ?_⟩
  rw [tmps_put (by rw [hinv.size]; exact hn)]
  simp only [look_cons] at e'
  split at e'
  · rename_i e2
    simp only [Option.some.injEq] at e'
    subst e'
    rw [if_pos e2]
    have g2 := RepD.osl (K := K) (ρ := upd ρ nm (ρ 0 nm)) hsh3
    rw [upd_same, h5] at g2
    exact g2
  · rename_i e2
    rw [if_neg e2]
    rw [look_killσ] at e'
    cases hls : look s.σ t' with
    | none => simp [hls] at e'
    | some d0 =>
      simp only [hls, Option.map_some, Option.some.injEq] at e'
      subst e'
      have hr := hinv.slots _ _ hls
      rw [hS] at hr
      exact hr.kill hbut
end Go.AI


namespace Go.AI
open Go.Proofs
set_option maxRecDepth 20000
def lowP (on un : List Int) (only : Bool) (ev : Int) : Bool := !decide (ev ∈ on) && (!only || decide (ev ∈ un))
theorem mgetB_mset (x y : Int) : ∀ (es : List (Value × Bool)), mgetB (mset es (.int .i64 x) true) (.int .i64 y) = (decide (y = x) || mgetB es (.int .i64 y))
  | [] => by
    unfold mset mgetB mlook mlook
    have e : keyB (.int .i64 y) (.int .i64 x) = decide (y = x) := by show (y == x) = _; by_cases h : y = x <;> simp [h]
    rw [e]
    cases decide (y = x) <;> rfl
  | (c, b) :: r => by
    have ih := mgetB_mset x y r
    have e : keyB (.int .i64 y) (.int .i64 x) = decide (y = x) := by show (y == x) = _; by_cases h : y = x <;> simp [h]
    unfold mset
    cases h1 : keyB (.int .i64 x) c with
    | true =>
      rw [cond_true]
      unfold mgetB at ih ⊢
      simp only [mlook, e]
      cases h2 : decide (y = x) with
      | true => rfl
      | false =>
        have h3 : keyB (.int .i64 y) c = false := by
          cases c with
          | int k z =>
            have e1 : x = z := by simpa [keyB] using h1
            subst e1
            rw [show keyB (.int .i64 y) (.int k x) = keyB (.int .i64 y) (.int .i64 x) from rfl, e, h2]
          | _ => simp [keyB] at h1
        rw [h3]
        rfl
    | false =>
      rw [cond_false]
      unfold mgetB at ih ⊢
      simp only [mlook]
      cases h3 : keyB (.int .i64 y) c with
      | true => cases h4 : decide (y = x) with
        | true =>
          have e1 : y = x := of_decide_eq_true h4
          rw [e1, h1] at h3
          cases h3
        | false => rfl
      | false => exact ih
def mapOk (km : List (Value × Bool)) (l : List Int) : Prop := ∀ x, mgetB km (.int .i64 x) = decide (x ∈ l)
theorem mapOk_nil : mapOk [] [] := fun x => by simp [mgetB, mlook]
theorem mapOk_app {km : List (Value × Bool)} {l : List Int} (h : mapOk km l) (x : Int) : mapOk (mset km (.int .i64 x) true) (l ++ [x]) := fun y => by
  rw [mgetB_mset, h y]
  by_cases h1 : y = x
  · simp [h1]
  · simp [h1]
theorem compact93e (O : List Heap) : ASpec Tryz.prog 93 [ints []] O (ints []) [] O := by
  refine aspec_intro Tk Tryz.func93 rfl Tryz.call93 Tryz.ntmps93 (Nat.le_of_ble_eq_true rfl) fun E => ?_
  refine g_run Tk Tryz.func93 ?_
  repeat (first | refine gcT Tk Tryz.func93 rfl ?_ | refine gkT Tk Tryz.func93 rfl ?_ | refine skT Tk ?_ | refine gcF Tk Tryz.func93 rfl ?_ | refine gkF Tk Tryz.func93 rfl ?_ | refine skF Tk ?_)
  refine g_ret Tk (r := ints []) rfl rfl rfl trivial rfl rfl ?_
  rfl
set_option maxHeartbeats 8000000 in
theorem closure62 (O : List Heap) (a : Aut) (on un set : List Int) (only : Bool) (n : Nat) (hn : n ≤ 4096) (hes : ∀ x ∈ a.edges, 0 ≤ x.2.2 ∧ x.2.2 < (n : Int)) (hed : a.edges.length ≤ 1000000) (hset : ∀ x ∈ set, 0 ≤ x ∧ x < (n : Int)) (hsl : set.length ≤ 1000000000000) (hon : on.length ≤ max63) (hun : un.length ≤ max63) :
    ASpec Tryz.prog 62 [.i (vptr a on un (outOf n a.edges)), ints set, bb only] O (ints (clo a.edges (lowP on un only) n set)) [] O := by
  refine aspec_stop [200084, 18] Tk Tryz.func62 rfl Tryz.call62 Tryz.ntmps62 (Nat.le_of_ble_eq_true rfl) fun E => ?_
  refine g_run Tk Tryz.func62 ?_
  first | refine g_call Tk Tryz.func62 (clone57 79 _ set (by simp only [big]; omega)) rfl rfl rfl rfl rfl ?_ | refine s_callq Tk (fun _ => clone57 79 _ set (by simp only [big]; omega)) rfl rfl rfl ?_
  refine g_loop ?_
  refine rch_loop2 (fun x : Nat × List (Value × Bool) => [(0, .i (vptr a on un (outOf n a.edges))), (2, bb only), (7, .osl 0 79), (8, .osl 0 16), (17, .osl 0 79), (18, ii set.length), (19, ii x.1)])
    (fun x => [(79, oints set), (16, .mp (.int .i64) (.b x.2))]) (fun _ => O) 85
    (fun x => x.1 ≤ set.length ∧ mapOk x.2 (set.take x.1)) (fun x => set.length - x.1) (0, [])
    ⟨Nat.zero_le _, by rw [List.take_zero]; exact mapOk_nil⟩ ⟨rfl, rfl, rfl, rfl, rfl, rfl, rfl, trivial⟩ rfl ⟨rfl, rfl, trivial⟩ rfl rfl ?_
  rintro ⟨j, km⟩ ⟨hj, hkm⟩ ih
  simp only at hj hkm
  refine g_run Tk Tryz.func62 ?_
  first | refine g_cnd Tk Tryz.func62 rfl (fun g1 => ?_) (fun g1 => ?_) | refine g_know Tk Tryz.func62 rfl (fun g1 => ?_) (fun g1 => ?_) | refine s_know Tk (fun g1 => ?_) (fun g1 => ?_)
  · have h1 : j < set.length := by simpa using g1
    have gf : (set.map fun x => [vi x])[(j : Int).toNat]? = some [vi set[j]] := get_mapZ (f := fun x => [vi x]) h1
    have htk : set.take (j + 1) = set.take j ++ [set[j]] := by rw [List.take_add_one, List.getElem?_eq_getElem h1]; rfl
    generalize set[j] = y at *
    first | refine g_need Tk Tryz.func62 (by exact ⟨by omega, by show (j : Int) < (set.length : Int); omega⟩) ?_ | refine s_need Tk (by exact ⟨by omega, by show (j : Int) < (set.length : Int); omega⟩) ?_
    first | refine g_elem Tk Tryz.func62 (gf) ?_ | refine s_elem Tk (gf) ?_
    refine g_loop ?_
    refine ih (j + 1, mset km (.int .i64 y) true) _ _ ⟨h1, by rw [htk]; exact mapOk_app hkm y⟩ (by simp only; omega) ⟨rfl, rfl, rfl, rfl, rfl, rfl, congrArg ii (wsucc (n := 1000000000001) (by omega) (by decide)), trivial⟩ rfl ⟨rfl, rfl, trivial⟩ rfl rfl
  · have h1 : set.length ≤ j := by simpa using g1
    rw [List.take_of_length_le h1] at hkm
    clear ih h1 hj g1
    have hres : clo a.edges (lowP on un only) n set = Lib.compact (sortI (reachB a.edges (lowP on un only) n set)) := (compact_below (reachB_in hes hset)).symm
    rw [hres]
    unfold reachB
    generalize hK : rlB a.edges (lowP on un only) (set.length + n) 0 set = KK
    refine g_loop ?_
    refine rch_loop2 (fun x : Nat × Nat × List (Value × Bool) × List Int => [(0, .i (vptr a on un (outOf n a.edges))), (2, bb only), (7, .osl 0 79), (8, .osl 0 16), (11, ii x.1)])
      (fun x => [(79, oints x.2.2.2), (16, .mp (.int .i64) (.b x.2.2.1))]) (fun _ => O) 85
      (fun x => x.1 ≤ x.2.2.2.length ∧ grOk n set x.2.2.2 ∧ (∀ y ∈ x.2.2.2, 0 ≤ y ∧ y < (n : Int)) ∧ mapOk x.2.2.1 x.2.2.2 ∧ x.2.1 + x.1 = set.length + n ∧ rlB a.edges (lowP on un only) x.2.1 x.1 x.2.2.2 = KK) (fun x => x.2.1) (0, set.length + n, km, set)
      ⟨Nat.zero_le _, grOk_refl n set, hset, hkm, rfl, hK⟩ ⟨rfl, rfl, rfl, rfl, rfl, trivial⟩ rfl ⟨rfl, rfl, trivial⟩ rfl rfl ?_
    clear hkm hK hres
    rintro ⟨i, f, km, m⟩ ⟨hi, hg, hmb, hkm, hf, hno⟩ ih
    simp only at hi hg hmb hkm hf hno
    have hml := (grOk_len hg).2
    refine g_run Tk Tryz.func62 ?_
    first | refine g_cnd Tk Tryz.func62 rfl (fun g1 => ?_) (fun g1 => ?_) | refine g_know Tk Tryz.func62 rfl (fun g1 => ?_) (fun g1 => ?_) | refine s_know Tk (fun g1 => ?_) (fun g1 => ?_)
    · have h1 : i < m.length := by simpa using g1
      obtain ⟨f, rfl⟩ : ∃ f', f = f' + 1 := ⟨f - 1, by omega⟩
      have hgi : m[i]? = some m[i] := List.getElem?_eq_getElem h1
      have hsb := hmb _ (List.getElem_mem h1)
      simp only [rlB, hgi] at hno
      generalize m[i] = s at *
      obtain ⟨s, rfl⟩ : ∃ x : Nat, s = x := ⟨s.toNat, by omega⟩
      have hsn' : s < n := by omega
      have gs : (m.map fun x => [vi x])[(i : Int).toNat]? = some [vi (s : Int)] := by rw [Int.toNat_natCast, List.getElem?_map, hgi]; rfl
      have gr : ((outOf n a.edges).map fun r => [I.sl 3 r.length (r.map edgI)])[(s : Int).toNat]? = some [I.sl 3 (a.edges.filter fun e => e.1 == (s : Int)).length ((a.edges.filter fun e => e.1 == (s : Int)).map edgI)] := by rw [Int.toNat_natCast, List.getElem?_map, outOf_get hsn']; rfl
      have hrb : ∀ x ∈ a.edges.filter (fun e => e.1 == (s : Int)), 0 ≤ x.2.2 ∧ x.2.2 < (n : Int) := fun x hx => hes x (List.mem_filter.1 hx).1
      have hrs : ∀ x ∈ a.edges.filter (fun e => e.1 == (s : Int)), x.1 = (s : Int) := fun x hx => by simpa using (List.mem_filter.1 hx).2
      have hrl : (a.edges.filter fun e => e.1 == (s : Int)).length ≤ 1000000 := Nat.le_trans (List.length_filter_le _ _) hed
      rw [← rvB_filter] at hno
      generalize (a.edges.filter fun e => e.1 == (s : Int)) = row at *
      refine g_drawn Tk Tryz.func62 mixedT rfl ?_
      first | refine g_elem Tk Tryz.func62 (rfl) ?_ | refine s_elem Tk (rfl) ?_
      first | refine g_need Tk Tryz.func62 (by exact ⟨by omega, by show (i : Int) < (m.length : Int); omega⟩) ?_ | refine s_need Tk (by exact ⟨by omega, by show (i : Int) < (m.length : Int); omega⟩) ?_
      first | refine g_elem Tk Tryz.func62 (gs) ?_ | refine s_elem Tk (gs) ?_
      first | refine g_need Tk Tryz.func62 (by exact ⟨by omega, by show (s : Int) < ((outOf n a.edges).length : Int); rw [outOf_len]; omega⟩) ?_ | refine s_need Tk (by exact ⟨by omega, by show (s : Int) < ((outOf n a.edges).length : Int); rw [outOf_len]; omega⟩) ?_
      first | refine g_elem Tk Tryz.func62 (gr) ?_ | refine s_elem Tk (gr) ?_
      refine e_done Tk Tryz.func62 (by kernel_rfl) ?_
      refine g_loop ?_
      refine rch_loop2 (fun x : Nat × List (Value × Bool) × List Int => [(0, .i (vptr a on un (outOf n a.edges))), (2, bb only), (7, .osl 0 79), (8, .osl 0 16), (11, ii i), (41, edgs row), (42, ii row.length), (43, ii x.1)])
        (fun x => [(79, oints x.2.2), (16, .mp (.int .i64) (.b x.2.1))]) (fun _ => O) 85
        (fun x => x.1 ≤ row.length ∧ grOk n set x.2.2 ∧ (∀ y ∈ x.2.2, 0 ≤ y ∧ y < (n : Int)) ∧ mapOk x.2.1 x.2.2 ∧ i < x.2.2.length ∧ rlB a.edges (lowP on un only) f (i + 1) (rvB (lowP on un only) s (row.drop x.1) x.2.2) = KK) (fun x => row.length - x.1) (0, km, m)
        ⟨Nat.zero_le _, hg, hmb, hkm, h1, by simpa using hno⟩ ⟨rfl, rfl, rfl, rfl, rfl, rfl, rfl, rfl, trivial⟩ rfl ⟨rfl, rfl, trivial⟩ rfl rfl ?_
      clear hg hmb hkm hno hml hgi gs gr h1 hi
      rintro ⟨k, km, m⟩ ⟨hk, hg, hmb, hkm, him, hno⟩ ih2
      simp only at hk hg hmb hkm him hno
      have hml := (grOk_len hg).2
      have hk1 : ii (IntKind.i64.wrap ((k : Int) + 1)) = ii ((k + 1 : Nat) : Int) := congrArg ii (wsucc (n := 1000001) (by omega) (by decide))
      refine g_run Tk Tryz.func62 ?_
      first | refine g_cnd Tk Tryz.func62 rfl (fun g2 => ?_) (fun g2 => ?_) | refine g_know Tk Tryz.func62 rfl (fun g2 => ?_) (fun g2 => ?_) | refine s_know Tk (fun g2 => ?_) (fun g2 => ?_)
      · have h2 : k < row.length := by simpa using g2
        have ge : (row.map edgI)[(k : Int).toNat]? = some (edgI row[k]) := get_mapZ h2
        have hte := hrb _ (List.getElem_mem h2)
        rw [List.drop_eq_getElem_cons h2] at hno
        simp only [rvB] at hno
        have hef : row[k].1 = (s : Int) := hrs _ (List.getElem_mem h2)
        generalize row[k] = e at *
        obtain ⟨ef, ee, et⟩ := e
        simp only at hno hte hef
        subst hef
        have hkx := hkm et
        first | refine g_need Tk Tryz.func62 (by exact ⟨by omega, by show (k : Int) < (row.length : Int); omega⟩) ?_ | refine s_need Tk (by exact ⟨by omega, by show (k : Int) < (row.length : Int); omega⟩) ?_
        first | refine g_elem Tk Tryz.func62 (ge) ?_ | refine s_elem Tk (ge) ?_
        refine g_drawn Tk Tryz.func62 mixedT rfl ?_
        first | refine g_call Tk Tryz.func62 (high86 _ a on un (outOf n a.edges) ee hon) rfl rfl rfl rfl rfl ?_ | refine s_callq Tk (fun _ => high86 _ a on un (outOf n a.edges) ee hon) rfl rfl rfl ?_
        have hmb2 : ∀ y ∈ m ++ [et], 0 ≤ y ∧ y < (n : Int) := fun y hy => by
          rcases List.mem_append.1 hy with hy | hy
          · exact hmb y hy
          · rw [List.mem_singleton] at hy; rw [hy]; exact hte
        have hlow : lowP on un only ee = (!decide (ee ∈ on) && (!only || decide (ee ∈ un))) := rfl
        first | refine g_cnd Tk Tryz.func62 rfl (fun c1 => ?_) (fun c1 => ?_) | refine g_know Tk Tryz.func62 rfl (fun c1 => ?_) (fun c1 => ?_) | refine s_know Tk (fun c1 => ?_) (fun c1 => ?_)
        · have c1 : ee ∉ on := of_decide_eq_false (notT c1)
          rw [decide_eq_false c1] at hlow
          first | refine g_cnd Tk Tryz.func62 rfl (fun c2 => ?_) (fun c2 => ?_) | refine g_know Tk Tryz.func62 rfl (fun c2 => ?_) (fun c2 => ?_) | refine s_know Tk (fun c2 => ?_) (fun c2 => ?_)
          · have c2 : et ∉ m := by
              have : (!mgetB km (.int .i64 et)) = true := c2
              rw [hkx] at this
              exact of_decide_eq_false (notT this)
            first | refine g_cnd Tk Tryz.func62 rfl (fun c3 => ?_) (fun c3 => ?_) | refine g_know Tk Tryz.func62 rfl (fun c3 => ?_) (fun c3 => ?_) | refine s_know Tk (fun c3 => ?_) (fun c3 => ?_)
            · have c3 : only = false := notT c3
              subst c3
              have hl : lowP on un false ee = true := by rw [hlow]; rfl
              rw [if_pos ⟨rfl, hl, c2⟩] at hno
              refine e_done Tk Tryz.func62 (by kernel_rfl) ?_
              repeat (first | refine gcT Tk Tryz.func62 rfl ?_ | refine gkT Tk Tryz.func62 rfl ?_ | refine skT Tk ?_ | refine gcF Tk Tryz.func62 rfl ?_ | refine gkF Tk Tryz.func62 rfl ?_ | refine skF Tk ?_)
              first | refine g_need Tk Tryz.func62 (by exact ⟨by show (m.length + 1) * 8 ≤ 140737488355328; omega, by show m.length + 1 ≤ 9223372036854775807; omega⟩) ?_ | refine s_need Tk (by exact ⟨by show (m.length + 1) * 8 ≤ 140737488355328; omega, by show m.length + 1 ≤ 9223372036854775807; omega⟩) ?_
              refine g_loop ?_
              refine ih2 (k + 1, mset km (.int .i64 et) true, m ++ [et]) _ _ ⟨h2, grOk_app hg hte c2, hmb2, mapOk_app hkm et, by rw [List.length_append]; omega, hno⟩ (by simp only; omega) ⟨rfl, rfl, rfl, rfl, rfl, rfl, rfl, hk1, trivial⟩ rfl ⟨congrArg some (oints_app m et), rfl, trivial⟩ rfl rfl
            · have c3 : only = true := notF c3
              subst c3
              first | refine g_elem Tk Tryz.func62 (rfl) ?_ | refine s_elem Tk (rfl) ?_
              first | refine g_call Tk Tryz.func62 (contains110 _ un ee hun) rfl rfl rfl rfl rfl ?_ | refine s_callq Tk (fun _ => contains110 _ un ee hun) rfl rfl rfl ?_
              refine e_done Tk Tryz.func62 (by kernel_rfl) ?_
              first | refine g_cnd Tk Tryz.func62 rfl (fun c4 => ?_) (fun c4 => ?_) | refine g_know Tk Tryz.func62 rfl (fun c4 => ?_) (fun c4 => ?_) | refine s_know Tk (fun c4 => ?_) (fun c4 => ?_)
              · have c4 : ee ∈ un := of_decide_eq_true c4
                have hl : lowP on un true ee = true := by rw [hlow, decide_eq_true c4]; rfl
                rw [if_pos ⟨rfl, hl, c2⟩] at hno
                first | refine g_need Tk Tryz.func62 (by exact ⟨by show (m.length + 1) * 8 ≤ 140737488355328; omega, by show m.length + 1 ≤ 9223372036854775807; omega⟩) ?_ | refine s_need Tk (by exact ⟨by show (m.length + 1) * 8 ≤ 140737488355328; omega, by show m.length + 1 ≤ 9223372036854775807; omega⟩) ?_
                refine g_loop ?_
                refine ih2 (k + 1, mset km (.int .i64 et) true, m ++ [et]) _ _ ⟨h2, grOk_app hg hte c2, hmb2, mapOk_app hkm et, by rw [List.length_append]; omega, hno⟩ (by simp only; omega) ⟨rfl, rfl, rfl, rfl, rfl, rfl, rfl, hk1, trivial⟩ rfl ⟨congrArg some (oints_app m et), rfl, trivial⟩ rfl rfl
              · have c4 : ee ∉ un := of_decide_eq_false c4
                have hl : lowP on un true ee = false := by rw [hlow, decide_eq_false c4]; rfl
                rw [if_neg (fun h => by rw [hl] at h; exact absurd h.2.1 (by decide))] at hno
                refine g_loop ?_
                exact ih2 (k + 1, km, m) _ _ ⟨h2, hg, hmb, hkm, him, hno⟩ (by simp only; omega) ⟨rfl, rfl, rfl, rfl, rfl, rfl, rfl, hk1, trivial⟩ rfl ⟨rfl, rfl, trivial⟩ rfl rfl
          · have c2 : et ∈ m := by
              have : (!mgetB km (.int .i64 et)) = false := c2
              rw [hkx] at this
              exact of_decide_eq_true (notF this)
            rw [if_neg (fun h => h.2.2 c2)] at hno
            refine e_done Tk Tryz.func62 (by kernel_rfl) ?_
            repeat (first | refine gcT Tk Tryz.func62 rfl ?_ | refine gkT Tk Tryz.func62 rfl ?_ | refine skT Tk ?_ | refine gcF Tk Tryz.func62 rfl ?_ | refine gkF Tk Tryz.func62 rfl ?_ | refine skF Tk ?_)
            refine g_loop ?_
            exact ih2 (k + 1, km, m) _ _ ⟨h2, hg, hmb, hkm, him, hno⟩ (by simp only; omega) ⟨rfl, rfl, rfl, rfl, rfl, rfl, rfl, hk1, trivial⟩ rfl ⟨rfl, rfl, trivial⟩ rfl rfl
        · have c1 : ee ∈ on := of_decide_eq_true (notF c1)
          rw [decide_eq_true c1] at hlow
          have hl : lowP on un only ee = false := by rw [hlow]; rfl
          rw [if_neg (fun h => by rw [hl] at h; exact absurd h.2.1 (by decide))] at hno
          repeat (first | refine gcT Tk Tryz.func62 rfl ?_ | refine gkT Tk Tryz.func62 rfl ?_ | refine skT Tk ?_ | refine gcF Tk Tryz.func62 rfl ?_ | refine gkF Tk Tryz.func62 rfl ?_ | refine skF Tk ?_)
          refine e_done Tk Tryz.func62 (by kernel_rfl) ?_
          repeat (first | refine gcT Tk Tryz.func62 rfl ?_ | refine gkT Tk Tryz.func62 rfl ?_ | refine skT Tk ?_ | refine gcF Tk Tryz.func62 rfl ?_ | refine gkF Tk Tryz.func62 rfl ?_ | refine skF Tk ?_)
          refine g_loop ?_
          exact ih2 (k + 1, km, m) _ _ ⟨h2, hg, hmb, hkm, him, hno⟩ (by simp only; omega) ⟨rfl, rfl, rfl, rfl, rfl, rfl, rfl, hk1, trivial⟩ rfl ⟨rfl, rfl, trivial⟩ rfl rfl
      · have h2 : row.length ≤ k := by simpa using g2
        rw [List.drop_eq_nil_of_le h2] at hno
        simp only [rvB] at hno
        refine g_loop ?_
        exact ih (i + 1, f, km, m) _ _ ⟨him, hg, hmb, hkm, by simp only; omega, hno⟩ (by simp only; omega) ⟨rfl, rfl, rfl, rfl, congrArg ii (wsucc (n := 2000000000000) (by omega) (by decide)), trivial⟩ rfl ⟨rfl, rfl, trivial⟩ rfl rfl
    · have h1 : m.length ≤ i := by simpa using g1
      rw [rlB_done h1] at hno
      subst hno
      refine g_stop ?_
      by_cases h0 : m = []
      · subst h0
        refine rch_wk (wk_freeze 79 rfl rfl) ?_
        refine g_run Tk Tryz.func62 ?_
        refine g_go Tk Tryz.func62 ?_
        first | refine g_call Tk Tryz.func62 (sort48e _) rfl rfl rfl rfl rfl ?_ | refine s_callq Tk (fun _ => sort48e _) rfl rfl rfl ?_
        refine g_pause Tk Tryz.func62 rfl rfl (fun K ρ a w h => ⟨K, ρ, h⟩) ?_
        refine g_call Tk Tryz.func62 (compact93e _) rfl rfl rfl rfl rfl ?_
        refine g_ret Tk (r := ints []) rfl rfl rfl trivial rfl rfl ?_
        simp [sortI, Lib.compact, Lib.compactUpTo]
      · have hpos : 0 < m.length := List.length_pos_iff.2 h0
        refine g_run Tk Tryz.func62 ?_
        refine g_go Tk Tryz.func62 ?_
        refine g_call Tk Tryz.func62 (sort48 _ 0 79 m hpos (by omega) rfl) rfl rfl rfl (shape_over (ob := oints m) rfl (by simp [Ob.sh, sortI_len])) rfl ?_
        refine g_callP Tk Tryz.func62 rfl rfl rfl rfl (does_compact rfl (by rw [sortI_len]; exact hpos) rfl (show 84 < 85 by decide) rfl rfl) ?_
        refine g_rwk (wk_freeze 79 rfl rfl) ?_
        refine g_ret Tk (r := ints (Lib.compact (sortI m))) rfl rfl rfl trivial rfl rfl ?_
        rfl
end Go.AI


namespace Go.AI
open Go.Proofs
set_option maxRecDepth 20000
section
variable {c : Cx} {s : St} {k : List Item} {ops : Array Oper} {rest : List Nat} {o : Oper} {E0 : Env} {H0 H1 H : Heap} {O : List Heap}
theorem rg_clearOut (hT : TOk c.P c.T) {i j td t ty nm n i0 : Nat} {x lo : Operand} {kd : IntKind} {o2 : Oper} {ti1 ti2 : TI} {xs : List (List I)} {z : Value} {cl : Call} (hi0 : i0 < n)
    (ho : ops[i]? = some o) (hg : o.guard = none) (hd : o.dst = some td) (hop : o.op = .slice t x (some lo) none none) (h1 : look c.T t = some ti1) (hk1 : ti1.k = .slice ty) (h2 : look c.T ty = some ti2) (hz1 : ti2.size = 1) (hzz : ti2.zero = [z])
    (hzv : ∀ w, (zeroValue ty).run c.P w = .ok z w) (hzc : z.cells = #[z]) (hz : z.oneCell' = true)
    (ho2 : ops[j]? = some o2) (hg2 : o2.guard = none) (hd2 : o2.dst = none) (hop2 : o2.op = .call cl) (hc1 : cl.callee = .builtin .clear) (hc2 : cl.args = #[.tmp td]) (hc3 : cl.argTypes = #[t])
    (hx : evD s x = .osl 1 nm) (hlo : evD s lo = .i (.v (.int kd i0))) (hS : s.S = H0 :: H1 :: O) (hl : look H1 nm = some (.arr ty 1 n xs true)) (hn : Nat.ble (td + 1) s.n = true)
    (h : RG c ops rest { σ := (td, .dead) :: s.σ, S := H0 :: ((nm, .arr ty 1 n (xs.take i0 ++ List.replicate (n - i0) [.v z]) true) :: H1) :: O, n := s.n } k) : RG c ops (i :: j :: rest) s k := by
  intro K ρ a w hi
  simp only [wpOps, ho, wanted_of hi (show wantedD ops s o = some true by unfold wantedD; rw [hg]), if_true]
  refine .inl ?_
  have hok1 := hT _ _ h1
  have hok2 := hT _ _ h2
  have hu : c.P.underlying t = some (.slice ty) := by have := hok1.kind; rw [hk1] at this; exact this
  have hh := hi.h
  have hob : objAt s.S 1 nm = some (.arr ty 1 n xs true) := by rw [hS]; simpa [objAt] using hl
  have hsh : shape s.S 1 nm = some (.arr 1 n) := by simp [shape, hob, Ob.sh]
  have hrx := hi.ev x
  rw [hx] at hrx
  have hxv := inv_osl hrx hsh
  have hrl := hi.ev lo
  rw [hlo] at hrl
  have hlv := inv_v hrl
  obtain ⟨h3, h4, h5, h6, h7⟩ := own_at hh hob
  rcases h7 with ⟨h7, _⟩ | ⟨h7, cur, h8, h9, h10, h11, h12, h13⟩
  · exfalso; omega
  have hib : (0 : Int) ≤ (i0 : Int) ∧ (i0 : Int) ≤ (n : Int) := by omega
  have hrun := run_sl (P := c.P) (w := w) t ty ti2 hu hok2 (ρ 1 nm).base n (ρ 1 nm).cap (some (.int kd i0)) none none i0 n (ρ 1 nm).cap (by simp [Instr.sliceBounds, bound_ok hib])
  have hexec : (execOp a.eval o).run c.P w = .ok (.value (.slice (if (ρ 1 nm).cap = i0 then (ρ 1 nm).base else (ρ 1 nm).base.map (·.add (i0 * ti2.size))) (n - i0) ((ρ 1 nm).cap - i0))) w := by
    simp only [execOp, hop, hxv, Option.map_some, Option.map_none, hlv, Sem.run_bind, hrun, Result.andThen_ok, Sem.run_pure]
  have hadr : (if (ρ 1 nm).cap = i0 then (ρ 1 nm).base else (ρ 1 nm).base.map (·.add (i0 * ti2.size))) = some ⟨(ρ 1 nm).block, i0, none⟩ := by
    rw [if_neg (by omega), h7, hz1]
    simp [Addr.add]
    exact fun e => e.symm
  rw [hadr] at hexec
  simp only [Oper.wp, hexec, Oper.upon]
  generalize hv : Value.slice (some ⟨(ρ 1 nm).block, i0, none⟩) (n - i0) ((ρ 1 nm).cap - i0) = vs
  have hsz : n ≤ cur.size := by rw [h9, Nat.mul_one]; exact h5
  have hil : td < a.tmps.size := by rw [hi.size]; exact Nat.le_of_ble_eq_true hn
  have hrun2 := Lib.run_clear_slice (P := c.P) w t ty o2.type z hu hzv hzc hz (ρ 1 nm).block i0 (n - i0) ((ρ 1 nm).cap - i0) (by omega)
    (fun j hj => by rw [cell_of_heap h8, Array.getElem?_eq_getElem (by omega)]; rfl) (fun j hj => by simp [World.frozen?, h8])
  have hev : (a.put o.dst vs).eval (.tmp td) = vs := by
    rw [hd]
    show (a.put (some td) vs).tmps.getD td undef = vs
    rw [tmps_put hil, if_pos rfl]
  have hi2 : Inv c.E K ρ { σ := (td, .dead) :: s.σ, S := s.S, n := s.n } (a.put o.dst vs) w := by
    rw [hd]
    exact inv_set hi (Nat.le_of_ble_eq_true hn) hi.h (Stays.refl _ _ _) (.dead _)
  have hexec2 : (execOp (a.put o.dst vs).eval o2).run c.P w = .ok (.value (.tuple #[])) (w.setCells (ρ 1 nm).block i0 (List.replicate (n - i0) z)) := by
    unfold execOp
    simp only [hop2, hc1, hc2, hc3, resolve, invoke, builtin, Sem.run_bind, Sem.run_pure, Result.andThen_ok, List.map_toArray, List.map_cons, List.map_nil, hev]
    rw [← hv, hrun2]
    rfl
  simp only [wpOps, ho2, wanted_of hi2 (show wantedD ops _ o2 = some true by unfold wantedD; rw [hg2]), if_true]
  refine .inl ?_
  simp only [Oper.wp, hexec2, Oper.upon]
  obtain ⟨a1, a2, a3, a4, a5, a6⟩ := setCells_heap (List.replicate (n - i0) z) i0 w cur ty (0, 0) h8
  generalize w.setCells (ρ 1 nm).block i0 (List.replicate (n - i0) z) = w2 at *
  have hxl : xs.length = n := h4
  have hput : HInv c.E K ρ (setAt s.S 1 nm (.arr ty 1 n (xs.take i0 ++ List.replicate (n - i0) [.v z]) true)) w2 := by
    refine hh.put hob rfl (by show _ ≠ none; rw [h7]; simp) (by show _ ≠ none; rw [h7]; simp) a3 a2 ⟨a4, a5, a6⟩ (fun o' x' hx' => by rw [h11 rfl] at hx'; cases hx') ?_
    refine ⟨fun d hdm => ?_, by rw [List.length_append, List.length_take, List.length_replicate]; omega, h5, h6, .inr ⟨h7, _, a1, by rw [over_size, h9], ?_, fun _ => h11 rfl, fun o ho => h11 rfl o, fun e => by cases e⟩⟩
    · rcases List.mem_append.1 hdm with hdm | hdm
      · exact h3 d (List.mem_of_mem_take hdm)
      · rw [List.eq_of_mem_replicate hdm]; rfl
    · have e1 : (over cur i0 (List.replicate (n - i0) z)).toList.take (n * 1) = cur.toList.take i0 ++ List.replicate (n - i0) z := by
        apply List.ext_getElem?
        intro j
        rw [List.getElem?_take, Nat.mul_one]
        by_cases hj : j < n
        · rw [if_pos hj, Array.getElem?_toList, over_get _ _ _ _ (by rw [List.length_replicate]; omega), List.length_replicate]
          by_cases hji : i0 ≤ j
          · rw [if_pos (by omega), List.getElem?_append_right (by rw [List.length_take, Array.length_toList]; omega), List.length_take, Array.length_toList, Nat.min_eq_left (by omega)]
          · rw [if_neg (by omega), List.getElem?_append_left (by rw [List.length_take, Array.length_toList]; omega), List.getElem?_take, if_pos (by omega), Array.getElem?_toList]
        · rw [if_neg hj, List.getElem?_eq_none (by rw [List.length_append, List.length_take, List.length_replicate, Array.length_toList]; omega)]
      rw [e1, List.flatten_append]
      refine RepL.append ?_ ?_
      · have h10' : RepL K (cur.toList.take (n * 1)) xs.flatten := h10
        have e2 : xs.flatten.take (i0 * 1) = (xs.take i0).flatten := flat_take i0 h3 (by omega)
        rw [← e2]
        have e3 : cur.toList.take i0 = (cur.toList.take (n * 1)).take (i0 * 1) := by rw [List.take_take]; congr 1; omega
        rw [e3]
        exact h10'.take _
      · have : ∀ m, RepL K (List.replicate m z) (List.replicate m [I.v z]).flatten := by
          intro m
          induction m with
          | zero => exact .nil
          | succ m ih => exact .cons (.v hz) ih
        exact this _
  have hI := inv_S hi2 hput (shape_setAt hob rfl)
  have hSe : setAt s.S 1 nm (.arr ty 1 n (xs.take i0 ++ List.replicate (n - i0) [.v z]) true) = H0 :: ((nm, .arr ty 1 n (xs.take i0 ++ List.replicate (n - i0) [.v z]) true) :: H1) :: O := by rw [hS]; rfl
  rw [hSe] at hI
  have hp2 : (a.put o.dst vs).put o2.dst (.tuple #[]) = a.put o.dst vs := by rw [hd2]; rfl
  rw [hp2]
  exact h K ρ _ w2 hI
theorem g_clearOut (hT : TOk c.P c.T) (hfn : c.P.funcs[c.f]? = some c.fn) {i j td t ty nm n i0 : Nat} {x lo : Operand} {kd : IntKind} {o2 : Oper} {ti1 ti2 : TI} {xs : List (List I)} {z : Value} {cl : Call} (hi0 : i0 < n)
    (ho : ops[i]? = some o) (hg : o.guard = none) (hd : o.dst = some td) (hop : o.op = .slice t x (some lo) none none) (h1 : look c.T t = some ti1) (hk1 : ti1.k = .slice ty) (h2 : look c.T ty = some ti2) (hz1 : ti2.size = 1) (hzz : ti2.zero = [z])
    (hzv : ∀ w, (zeroValue ty).run c.P w = .ok z w) (hzc : z.cells = #[z]) (hz : z.oneCell' = true)
    (ho2 : ops[j]? = some o2) (hg2 : o2.guard = none) (hd2 : o2.dst = none) (hop2 : o2.op = .call cl) (hc1 : cl.callee = .builtin .clear) (hc2 : cl.args = #[.tmp td]) (hc3 : cl.argTypes = #[t])
    (hx : evD s x = .osl 1 nm) (hlo : evD s lo = .i (.v (.int kd i0))) (hS : s.S = H0 :: H1 :: O) (hl : look H1 nm = some (.arr ty 1 n xs true)) (hn : Nat.ble (td + 1) s.n = true)
    (h : GM c (run c.T c.stop 1000 (.inRegion ops rest :: k) { σ := (td, .dead) :: s.σ, S := H0 :: ((nm, .arr ty 1 n (xs.take i0 ++ List.replicate (n - i0) [.v z]) true) :: H1) :: O, n := s.n })) : GM c (.pause ops i (j :: rest) o s k) :=
  ⟨rg_clearOut hT hi0 ho hg hd hop h1 hk1 h2 hz1 hzz hzv hzc hz ho2 hg2 hd2 hop2 hc1 hc2 hc3 hx hlo hS hl hn (run_sound hT hfn 1000 (.inRegion ops rest :: k) _ h.h)⟩
theorem g_shrinkOut (hT : TOk c.P c.T) (hfn : c.P.funcs[c.f]? = some c.fn) {i td t ty nm n m es : Nat} {x hi0 : Operand} {kd : IntKind} {ti1 ti2 : TI} {xs : List (List I)} (hm : m ≤ n) (hn0 : 0 < n)
    (ho : ops[i]? = some o) (hg : o.guard = none) (hd : o.dst = some td) (hop : o.op = .slice t x none (some hi0) none) (h1 : look c.T t = some ti1) (hk1 : ti1.k = .slice ty) (h2 : look c.T ty = some ti2) (hes : ti2.size = es)
    (hx : evD s x = .osl 1 nm) (hlo : evD s hi0 = .i (.v (.int kd m))) (hS : s.S = H0 :: H1 :: O) (hl : look H1 nm = some (.arr ty es n xs true)) (hn : Nat.ble (td + 1) s.n = true)
    (h : ∀ E', Moved c.E E' nm → GM { c with E := E' } (run c.T c.stop 1000 (.inRegion ops rest :: k) { σ := (td, .osl 1 nm) :: cutσ1 nm s.σ, S := cutH1 nm H0 :: ((nm, .arr ty es m (xs.take m) true) :: killH nm H1) :: O, n := s.n })) : GM c (.pause ops i rest o s k) := by
  subst hes
  refine ⟨?_⟩
  intro K ρ a w hi
  simp only [wpOps, ho, wanted_of hi (show wantedD ops s o = some true by unfold wantedD; rw [hg]), if_true]
  refine .inl ?_
  have hok1 := hT _ _ h1
  have hok2 := hT _ _ h2
  have hu : c.P.underlying t = some (.slice ty) := by have := hok1.kind; rw [hk1] at this; exact this
  have hh := hi.h
  rw [hS] at hh
  have hob : objAt (H0 :: H1 :: O) 1 nm = some (.arr ty ti2.size n xs true) := by simpa [objAt] using hl
  have hsh : shape (H0 :: H1 :: O) 1 nm = some (.arr ti2.size n) := by simp [shape, hob, Ob.sh]
  have hrx := hi.ev x
  rw [hx, hS] at hrx
  have hxv := inv_osl hrx hsh
  have hrl := hi.ev hi0
  rw [hlo] at hrl
  have hlv := inv_v hrl
  have hown := hh.own _ _ _ hob
  obtain ⟨h3, h4, h5, h6, h7⟩ := hown
  rcases h7 with ⟨h7, _⟩ | ⟨h7, cur, h8, h9, h10, h11, h12, h13⟩
  · exfalso; omega
  have hib : (0 : Int) ≤ (m : Int) ∧ (m : Int) ≤ ((ρ 1 nm).cap : Int) := by omega
  have hrun := run_sl (P := c.P) (w := w) t ty ti2 hu hok2 (ρ 1 nm).base n (ρ 1 nm).cap none (some (.int kd m)) none 0 m (ρ 1 nm).cap (by simp [Instr.sliceBounds, bound_ok hib])
  have hexec : (execOp a.eval o).run c.P w = .ok (.value (.slice (ρ 1 nm).base m (ρ 1 nm).cap)) w := by
    have e : (if (ρ 1 nm).cap = 0 then (ρ 1 nm).base else (ρ 1 nm).base.map (·.add (0 * ti2.size))) = (ρ 1 nm).base := by
      rw [if_neg (by omega), h7]
      simp [Addr.add]
    rw [e, Nat.sub_zero, Nat.sub_zero] at hrun
    simp only [execOp, hop, hxv, Option.map_some, Option.map_none, hlv, Sem.run_bind, hrun, Result.andThen_ok, Sem.run_pure]
  have hap : Apnd K w w (ρ 1 nm) (ρ 1 nm) := ⟨Nat.le_refl _, fun _ _ _ => rfl, ⟨rfl, rfl, rfl⟩, fun e => .inr ⟨e, rfl⟩⟩
  have hown' : ∀ (ρ' : Nat → Nat → Loc) (sh' : Nat → Nat → Option Sh), OwnAt K ρ' sh' w (ρ 1 nm) (.arr ty ti2.size m (xs.take m) true) := fun ρ' sh' => by
    refine ⟨fun d hdm => h3 d (List.mem_of_mem_take hdm), by rw [List.length_take]; omega, by omega, h6, .inr ⟨h7, cur, h8, h9, ?_, fun _ => h11 rfl, fun o _ => h11 rfl o, fun e => by cases e⟩⟩
    have h10' : RepL K (cur.toList.take (n * ti2.size)) xs.flatten := h10
    rw [← flat_take m h3 (by omega)]
    have e3 : cur.toList.take (m * ti2.size) = (cur.toList.take (n * ti2.size)).take (m * ti2.size) := by rw [List.take_take, Nat.min_eq_left (Nat.mul_le_mul_right _ hm)]
    rw [e3]
    exact h10'.take _
  obtain ⟨E', hM, hI, hbut⟩ := hh.renew1 hl hap Iff.rfl (ob' := .arr ty ti2.size m (xs.take m) true) Iff.rfl (fun _ => h11 rfl) hown'
  simp only [Oper.wp, hexec, Oper.upon]
  have hk := run_sound (c := { c with E := E' }) hT hfn 1000 (.inRegion ops rest :: k) _ (h E' hM).h
  refine hk K (upd1 ρ nm (ρ 1 nm)) _ w ?_
  rw [hd]
  refine ⟨hI, hi.defers, by simp [Act.put]; exact hi.size, fun t' d' e' => ?_⟩
  rw [tmps_put (by rw [hi.size]; exact Nat.le_of_ble_eq_true hn)]
  simp only [look_cons] at e'
  split at e'
  · rename_i e2
    simp only [Option.some.injEq] at e'
    subst e'
    rw [if_pos e2]
    have hsh : shape (cutH1 nm H0 :: ((nm, Ob.arr ty ti2.size m (xs.take m) true) :: killH nm H1) :: O) 1 nm = some (.arr ti2.size m) := by simp [shape, objAt, look_cons, Ob.sh]
    have := RepD.osl (K := K) (ρ := upd1 ρ nm (ρ 1 nm)) hsh
    rwa [upd1_same] at this
  · rename_i e2
    rw [if_neg e2]
    rw [look_cutσ1] at e'
    cases hls : look s.σ t' with
    | none => simp [hls] at e'
    | some d0 =>
      simp only [hls, Option.map_some, Option.some.injEq] at e'
      subst e'
      have hr := hi.slots _ _ hls
      rw [hS] at hr
      exact hr.cut1 hbut
end
end Go.AI


namespace Go.AI
open Go.Proofs
set_option maxRecDepth 20000
theorem idx91o (O : List Heap) (l : List Int) (e w : Nat) (ho : objAt O e w = some (oints l)) (f : Nat) (d nm : Nat) (p : Int → Bool) (hl : l.length ≤ max63) (hp : ∀ x ∈ l, ASpec Tryz.prog f [ii x, .own (d + 1) nm 0 0] ([] :: O) (bb (p x)) [] ([] :: O)) :
    ASpec Tryz.prog 91 [.osl e w, .fn (.func f) [] [.own d nm 0 0]] O (ii (findIx p l 0)) [] O := by
  have hO : ∀ H, objAt (H :: O) (e + 1) w = some (oints l) := fun H => up_obj ho
  generalize hR : findIx p l 0 = R
  refine aspec_intro Tk Tryz.func91 rfl Tryz.call91 Tryz.ntmps91 (Nat.le_of_ble_eq_true rfl) fun E => ?_
  refine g_run Tk Tryz.func91 ?_
  first | refine g_obj Tk Tryz.func91 (hO _) ?_ | refine s_obj Tk (hO _) ?_
  refine g_loop ?_
  refine rch_loop2 (fun i : Nat => [(0, .osl (e + 1) w), (1, .fn (.func f) [] [.own (d + 1) nm 0 0]), (7, ii l.length), (8, ii i)]) (fun _ => []) (fun _ => O) 19
    (fun i => i ≤ l.length ∧ findIx p (l.drop i) i = R) (fun i => l.length - i) 0 ⟨Nat.zero_le _, hR⟩ ⟨rfl, rfl, rfl, rfl, trivial⟩ rfl trivial rfl rfl ?_
  rintro i ⟨hi, hno⟩ ih
  clear hR
  refine g_run Tk Tryz.func91 ?_
  first | refine g_cnd Tk Tryz.func91 rfl (fun g1 => ?_) (fun g1 => ?_) | refine g_know Tk Tryz.func91 rfl (fun g1 => ?_) (fun g1 => ?_) | refine s_know Tk (fun g1 => ?_) (fun g1 => ?_)
  · have h1 : i < l.length := by simpa using g1
    have gs : (l.map fun x => [vi x])[(i : Int).toNat]? = some [vi l[i]] := get_mapZ (f := fun x => [vi x]) h1
    have hps := hp l[i] (List.getElem_mem h1)
    have hd : l.drop i = l[i] :: l.drop (i + 1) := List.drop_eq_getElem_cons h1
    rw [hd] at hno
    simp only [findIx] at hno
    clear hd
    generalize l[i] = s at *
    first | refine g_obj Tk Tryz.func91 (hO _) ?_ | refine s_obj Tk (hO _) ?_
    first | refine g_need Tk Tryz.func91 (by exact ⟨by omega, by show (i : Int) < (l.length : Int); omega⟩) ?_ | refine s_need Tk (by exact ⟨by omega, by show (i : Int) < (l.length : Int); omega⟩) ?_
    first | refine g_obj Tk Tryz.func91 (hO _) ?_ | refine s_obj Tk (hO _) ?_
    first | refine g_elem Tk Tryz.func91 (gs) ?_ | refine s_elem Tk (gs) ?_
    first | refine g_call Tk Tryz.func91 (hps) rfl rfl rfl rfl rfl ?_ | refine s_callq Tk (fun _ => hps) rfl rfl rfl ?_
    first | refine g_cnd Tk Tryz.func91 rfl (fun g2 => ?_) (fun g2 => ?_) | refine g_know Tk Tryz.func91 rfl (fun g2 => ?_) (fun g2 => ?_) | refine s_know Tk (fun g2 => ?_) (fun g2 => ?_)
    · rw [if_pos g2] at hno
      subst hno
      refine g_ret Tk (r := ii (i : Int)) rfl rfl rfl trivial rfl rfl ?_
      rfl
    · rw [if_neg (by rw [g2]; simp)] at hno
      refine g_loop ?_
      exact ih (i + 1) _ _ ⟨h1, hno⟩ (by omega) ⟨rfl, rfl, rfl, congrArg ii (wsucc h1 hl), trivial⟩ rfl trivial rfl rfl
  · have h1 : l.length ≤ i := by simpa using g1
    rw [List.drop_eq_nil_of_le h1] at hno
    simp only [findIx] at hno
    subst hno
    refine g_ret Tk (r := ii (-1)) rfl rfl rfl trivial rfl rfl ?_
    rfl
theorem findIx_spec {α : Type} (p : α → Bool) : ∀ (l : List α) (i : Nat), (findIx p l i = -1 ∧ ∀ x ∈ l, p x = false) ∨ ∃ k, ∃ h : k < l.length, findIx p l i = ((i + k : Nat) : Int) ∧ p l[k] = true ∧ ∀ x ∈ l.take k, p x = false
  | [], i => .inl ⟨rfl, by simp⟩
  | x :: r, i => by
    by_cases h : p x = true
    · exact .inr ⟨0, by simp, by simp [findIx, h], h, by simp⟩
    · have h' : p x = false := by simpa using h
      have e : findIx p (x :: r) i = findIx p r (i + 1) := if_neg h
      rcases findIx_spec p r (i + 1) with ⟨h1, h2⟩ | ⟨k, hk, h1, h2, h3⟩
      · refine .inl ⟨e.trans h1, fun y hy => ?_⟩
        rcases List.mem_cons.1 hy with rfl | hy
        · exact h'
        · exact h2 y hy
      · refine .inr ⟨k + 1, by simpa using hk, by rw [e, h1]; congr 1; omega, by simpa using h2, fun y hy => ?_⟩
        rw [List.take_succ_cons] at hy
        rcases List.mem_cons.1 hy with rfl | hy
        · exact h'
        · exact h3 y hy
theorem objAt_dup {nm : Nat} {a b : Ob} {R H : Heap} {O : List Heap} (d n : Nat) : objAt (H :: ((nm, a) :: R) :: O) d n = objAt (H :: ((nm, a) :: (nm, b) :: R) :: O) d n := by
  match d with
  | 0 => rfl
  | 1 =>
    simp only [objAt, List.getElem?_cons_succ, List.getElem?_cons_zero, look_cons]
    by_cases h : nm = n <;> simp [h]
  | d + 2 => rfl
set_option maxHeartbeats 4000000 in
theorem deleteFunc49 (O : List Heap) (R : Heap) (l : List Int) (nm f cb : Nat) (B : Ob) (p : Int → Bool) (hl : l.length ≤ 1000000) (hne : nm ≠ cb) (hB : look R cb = some B) (hR : killH nm R = R)
    (hp : ∀ x ∈ l, ∀ d O, objAt O d cb = some B → ASpec Tryz.prog f [ii x, .own d cb 0 0] O (bb (p x)) [] O) :
    ASpecM Tryz.prog 49 [.osl 0 nm, .fn (.func f) [] [.own 0 cb 0 0]] (((nm, oints l) :: R) :: O) nm (.osl 1 nm) [] (((nm, oints (l.filter fun x => !p x)) :: R) :: O) := by
  have hcb : ∀ m : List Int, objAt (((nm, oints m) :: R) :: O) 0 cb = some B := fun m => by
    simp only [objAt, List.getElem?_cons_zero, look_cons, if_neg hne]
    simpa using hB
  have hnm : ∀ m : List Int, objAt (((nm, oints m) :: R) :: O) 0 nm = some (oints m) := fun m => by simp [objAt, look_cons]
  have hix := fun H => idx91o (H :: ((nm, oints l) :: R) :: O) l 1 nm (up_obj (hnm l)) f 1 cb p (by simp only [max63]; omega) (fun x hx => hp x hx _ _ (up_obj (up_obj (hcb l))))
  have hpx : ∀ x ∈ l, ∀ m : List Int, ∀ H, ASpec Tryz.prog f [ii x, .own 1 cb 0 0] (H :: ((nm, oints m) :: R) :: O) (bb (p x)) [] (H :: ((nm, oints m) :: R) :: O) := fun x hx m H => hp x hx _ _ (up_obj (hcb m))
  have hsp := findIx_spec p l 0
  generalize findIx p l 0 = ix at *
  refine aspecM_stop nm [200038, 200041] Tk Tryz.func49 rfl Tryz.call49 Tryz.ntmps49 (Nat.le_of_ble_eq_true rfl) fun E => ?_
  refine g_run Tk Tryz.func49 ?_
  first | refine g_call Tk Tryz.func49 (hix _) rfl rfl rfl rfl rfl ?_ | refine s_callq Tk (fun _ => hix _) rfl rfl rfl ?_
  first | refine g_cnd Tk Tryz.func49 rfl (fun c1 => ?_) (fun c1 => ?_) | refine g_know Tk Tryz.func49 rfl (fun c1 => ?_) (fun c1 => ?_) | refine s_know Tk (fun c1 => ?_) (fun c1 => ?_)
  · have c1 : ix = -1 := beqT c1
    rcases hsp with ⟨_, h2⟩ | ⟨k, hk, h1, _⟩
    · have e : l.filter (fun x => !p x) = l := List.filter_eq_self.2 fun x hx => by rw [h2 x hx]; rfl
      rw [e]
      refine g_retM Tk (nm := nm) (r := .osl 1 nm) (Moved.refl _ _) rfl rfl rfl trivial rfl rfl rfl
    · omega
  have c1 : ix ≠ -1 := beqF c1
  rcases hsp with ⟨h1, _⟩ | ⟨k, hk, h1, h2, h3⟩
  · exact absurd h1 c1
  rw [Nat.zero_add] at h1
  subst h1
  clear c1 hix
  have hob : ∀ m : List Int, ∀ H, objAt (H :: ((nm, oints m) :: R) :: O) 1 nm = some (oints m) := fun m H => up_obj (hnm m)
  have hw1 : ii (IntKind.i64.wrap ((k : Int) + 1)) = ii ((k + 1 : Nat) : Int) := congrArg ii (wsucc (n := 1000001) (by omega) (by decide))
  have hst0 : l.take k = (l.take (k + 1)).filter fun x => !p x := by
    rw [List.take_add_one, List.getElem?_eq_getElem hk, List.filter_append]
    rw [List.filter_eq_self.2 fun x hx => by rw [h3 x hx]; rfl]
    simp [h2]
  refine g_loop ?_
  refine rch_loop2 (fun x : Nat × Nat × List Int => [(0, .osl 1 nm), (1, .fn (.func f) [] [.own 1 cb 0 0]), (5, ii x.1), (6, ii x.2.1)]) (fun _ => []) (fun x => ((nm, oints x.2.2) :: R) :: O) 42
    (fun x => x.1 < x.2.1 ∧ x.2.1 ≤ l.length ∧ x.2.2.length = l.length ∧ x.2.2.take x.1 = ((l.take x.2.1).filter fun x => !p x) ∧ x.2.2.drop x.2.1 = l.drop x.2.1) (fun x => l.length - x.2.1) (k, k + 1, l)
    ⟨Nat.lt_succ_self _, hk, rfl, hst0, rfl⟩ ⟨rfl, rfl, rfl, hw1, trivial⟩ rfl trivial rfl rfl ?_
  clear hst0 hw1 h2 h3 hk
  rintro ⟨i, j, m⟩ ⟨hij, hjl, hml, htk, hdr⟩ ih
  simp only at hij hjl hml htk hdr
  refine g_run Tk Tryz.func49 ?_
  first | refine g_obj Tk Tryz.func49 (hob m _) ?_ | refine s_obj Tk (hob m _) ?_
  first | refine g_cnd Tk Tryz.func49 rfl (fun g1 => ?_) (fun g1 => ?_) | refine g_know Tk Tryz.func49 rfl (fun g1 => ?_) (fun g1 => ?_) | refine s_know Tk (fun g1 => ?_) (fun g1 => ?_)
  · have h1 : j < l.length := by rw [← hml]; simpa using g1
    clear g1
    have hmj : m[j]? = some l[j] := by
      have e1 : (m.drop j)[0]? = (l.drop j)[0]? := by rw [hdr]
      rw [List.getElem?_drop, List.getElem?_drop, Nat.add_zero] at e1
      rw [e1, List.getElem?_eq_getElem h1]
    have gm : (m.map fun x => [vi x])[(j : Int).toNat]? = some [vi l[j]] := by rw [Int.toNat_natCast, List.getElem?_map, hmj]; rfl
    have hpj := hpx _ (List.getElem_mem h1)
    have htk2 : l.take (j + 1) = l.take j ++ [l[j]] := by rw [List.take_add_one, List.getElem?_eq_getElem h1]; rfl
    have hdr2 : ∀ m' : List Int, m'.drop (j + 1) = (m'.drop j).drop 1 := fun m' => by rw [List.drop_drop]
    generalize l[j] = x at *
    have hj1 : ii (IntKind.i64.wrap ((j : Int) + 1)) = ii ((j + 1 : Nat) : Int) := congrArg ii (wsucc (n := 1000001) (by omega) (by decide))
    have hi1 : ii (IntKind.i64.wrap ((i : Int) + 1)) = ii ((i + 1 : Nat) : Int) := congrArg ii (wsucc (n := 1000001) (by omega) (by decide))
    first | refine g_obj Tk Tryz.func49 (hob m _) ?_ | refine s_obj Tk (hob m _) ?_
    first | refine g_need Tk Tryz.func49 (by exact ⟨by omega, by show (j : Int) < (m.length : Int); omega⟩) ?_ | refine s_need Tk (by exact ⟨by omega, by show (j : Int) < (m.length : Int); omega⟩) ?_
    first | refine g_obj Tk Tryz.func49 (hob m _) ?_ | refine s_obj Tk (hob m _) ?_
    first | refine g_elem Tk Tryz.func49 (gm) ?_ | refine s_elem Tk (gm) ?_
    first | refine g_call Tk Tryz.func49 (hpj m _) rfl rfl rfl rfl rfl ?_ | refine s_callq Tk (fun _ => hpj m _) rfl rfl rfl ?_
    first | refine g_cnd Tk Tryz.func49 rfl (fun g2 => ?_) (fun g2 => ?_) | refine g_know Tk Tryz.func49 rfl (fun g2 => ?_) (fun g2 => ?_) | refine s_know Tk (fun g2 => ?_) (fun g2 => ?_)
    · have g2 : p x = false := notT g2
      first | refine g_obj Tk Tryz.func49 (hob m _) ?_ | refine s_obj Tk (hob m _) ?_
      first | refine g_need Tk Tryz.func49 (by exact ⟨by omega, by show (i : Int) < (m.length : Int); omega⟩) ?_ | refine s_need Tk (by exact ⟨by omega, by show (i : Int) < (m.length : Int); omega⟩) ?_
      first | refine g_obj Tk Tryz.func49 (hob m _) ?_ | refine s_obj Tk (hob m _) ?_
      refine g_loop ?_
      refine rch_wk (wk_S (S' := [] :: ((nm, oints (m.set i x)) :: R) :: O) fun d n => ?_) ?_
      · have e : Ob.arr 3 1 m.length ((m.map fun x => [vi x]).set (i : Int).toNat [vi x]) true = oints (m.set i x) := by
          rw [Int.toNat_natCast]
          simp [List.map_set]
        rw [← e]
        exact objAt_dup d n
      refine ih (i + 1, j + 1, m.set i x) _ _ ⟨by simp only; omega, h1, by simp only [List.length_set]; exact hml, ?_, ?_⟩ (by simp only; omega) ⟨rfl, rfl, hi1, hj1, trivial⟩ rfl trivial rfl rfl
      · simp only
        rw [htk2, List.filter_append, ← htk, List.take_add_one, List.getElem?_set_self (by omega), List.take_set_of_le (Nat.le_refl i)]
        simp [g2]
      · simp only
        rw [List.drop_set_of_lt (by omega), hdr2, hdr2, hdr]
    · have g2 : p x = true := notF g2
      refine g_loop ?_
      refine ih (i, j + 1, m) _ _ ⟨by simp only; omega, h1, hml, ?_, ?_⟩ (by simp only; omega) ⟨rfl, rfl, rfl, hj1, trivial⟩ rfl trivial rfl rfl
      · simp only
        rw [htk2, List.filter_append, ← htk]
        simp [g2]
      · simp only
        rw [hdr2, hdr2, hdr]
  · have h1 : l.length ≤ j := by rw [← hml]; simpa using g1
    rw [List.take_of_length_le h1] at htk
    clear ih hdr g1
    have hin : i < m.length := by omega
    have hil : (l.filter fun x => !p x).length = i := by rw [← htk, List.length_take]; omega
    refine g_clearOut Tk Tryz.func49 (nm := nm) (n := m.length) (i0 := i) (ti1 := TryzI29) (ti2 := TryzI3) (xs := m.map fun x => [vi x]) (z := .int .i64 0) hin rfl rfl rfl rfl rfl rfl rfl rfl rfl Tryz.zeroValue3 rfl rfl rfl rfl rfl rfl rfl rfl rfl rfl rfl rfl (by simp [look_cons]) rfl ?_
    refine g_shrinkOut Tk Tryz.func49 (nm := nm) (n := m.length) (m := i) (ti1 := TryzI29) (ti2 := TryzI3) (es := 1) (xs := (m.map fun x => [vi x]).take i ++ List.replicate (m.length - i) [I.v (.int .i64 0)]) (Nat.le_of_lt hin) (by omega) rfl rfl rfl rfl rfl rfl rfl rfl rfl rfl rfl (by simp [look_cons]) rfl ?_
    intro E' hM
    have hkk : killH nm ((nm, Ob.arr 3 1 m.length ((m.map fun x => [vi x]).take i ++ List.replicate (m.length - i) [I.v (.int .i64 0)]) true) :: (nm, oints m) :: R) = R := by
      simp [killH, hR]
    have hfin : Ob.arr 3 1 i (((m.map fun x => [vi x]).take i ++ List.replicate (m.length - i) [I.v (.int .i64 0)]).take i) true = oints (l.filter fun x => !p x) := by
      rw [List.take_append_of_le_length (by rw [List.length_take, List.length_map]; omega), List.take_take, Nat.min_self, ← List.map_take, htk]
      simp [oints, hil]
    refine g_retM Tk (nm := nm) (r := .osl 1 nm) hM rfl rfl rfl trivial rfl ?_ rfl
    show ((nm, Ob.arr 3 1 i (((m.map fun x => [vi x]).take i ++ List.replicate (m.length - i) [I.v (.int .i64 0)]).take i) true) :: killH nm ((nm, Ob.arr 3 1 m.length ((m.map fun x => [vi x]).take i ++ List.replicate (m.length - i) [I.v (.int .i64 0)]) true) :: (nm, oints m) :: R)) :: O = ((nm, oints (l.filter fun x => !p x)) :: R) :: O
    rw [hkk, hfin]
theorem does_delF {c : Cx} (hP : c.P = Tryz.prog) {s : St} {o : Oper} {t nm f cb : Nat} {l : List Int} {R : Heap} {O : List Heap} {B : Ob} (p : Int → Bool) (hl : l.length ≤ 1000000) (hne : nm ≠ cb) (hB : look R cb = some B) (hR : killH nm R = R)
    (hp : ∀ x ∈ l, ∀ d O, objAt O d cb = some B → ASpec Tryz.prog f [ii x, .own d cb 0 0] O (bb (p x)) [] O) (ht : o.dst = some t) (hn : t < s.n) (hS : s.S = ((nm, oints l) :: R) :: O) :
    Wp c o s 49 [.osl 0 nm, .fn (.func f) [] [.own 0 cb 0 0]] { σ := (t, .osl 0 nm) :: killσ nm s.σ, S := ((nm, oints (l.filter fun x => !p x)) :: R) :: O, n := s.n } := by
  have h := deleteFunc49 O R l nm f cb B p hl hne hB hR hp
  refine does_callM (c := c) (s := s) (o := o) (nm := nm) (res := .osl 1 nm) ?_ ht hn hS (xs := l.map fun x => [vi x]) (wr := true) (by rw [look_cons, if_pos rfl]) ⟨_, _, _, _, _, by rw [look_cons, if_pos rfl]⟩ ?_
  · rw [hP, hS]
    have e : D.imms (headH (((nm, oints l) :: R) :: O)) [.osl 0 nm, .fn (.func f) [] [.own 0 cb 0 0]] = [.osl 0 nm, .fn (.func f) [] [.own 0 cb 0 0]] := by
      simp [D.imms, D.imm, headH, look_cons]
    rw [e]
    exact h
  · intro d m hd
    match d with
    | 0 =>
      have hm : ¬ nm = m := fun e => by rcases hd with h | h; exact h rfl; exact h e.symm
      simp only [shape, objAt, List.getElem?_cons_zero, look_cons, if_neg hm]
    | d + 1 => simp [shape, objAt]
theorem kept46 (O : List Heap) (a : Aut) (on un : List Int) (R : List (List Edg)) (hal : a.alpha.length ≤ 1000000) (hl : on.length ≤ max63) : ASpec Tryz.prog 46 [.i (vptr a on un R)] O (ints (keptR a on)) [] O := by
  have e : keptR a on = a.alpha.filter fun x => !(!decide (x ∈ on)) := by simp [keptR]
  rw [e]
  refine aspec_stop [200010] Tk Tryz.func46 rfl Tryz.call46 Tryz.ntmps46 (Nat.le_of_ble_eq_true rfl) fun E => ?_
  refine g_run Tk Tryz.func46 ?_
  first | refine g_elem Tk Tryz.func46 (rfl) ?_ | refine s_elem Tk (rfl) ?_
  first | refine g_call Tk Tryz.func46 (clone57 40 _ a.alpha (by simp only [big]; omega)) rfl rfl rfl rfl rfl ?_ | refine s_callq Tk (fun _ => clone57 40 _ a.alpha (by simp only [big]; omega)) rfl rfl rfl ?_
  refine g_callP Tk Tryz.func46 rfl rfl rfl rfl (does_delF (R := [(1, .box [.i (vptr a on un R)])]) (B := .box [.i (vptr a on un R)]) rfl (fun x => !decide (x ∈ on)) hal (by decide) rfl rfl (fun x _ d O ho => kept87 O x d 1 a on un R hl ho) rfl (show 10 < 11 by decide) rfl) ?_
  refine g_rwk (wk_freeze 40 rfl rfl) ?_
  refine g_ret Tk (r := ints (a.alpha.filter fun x => !(!decide (x ∈ on)))) rfl rfl rfl trivial rfl rfl ?_
  rfl
end Go.AI


namespace Go.AI
open Go.Proofs
set_option maxRecDepth 20000
set_option maxHeartbeats 4000000 in
theorem next72 (O : List Heap) (a : Aut) (on un est : List Int) (ev : Int) (n : Nat) (hn : n ≤ 4096) (hes : ∀ x ∈ a.edges, 0 ≤ x.2.2 ∧ x.2.2 < (n : Int)) (hed : a.edges.length ≤ 1000000) (hest : ∀ x ∈ est, 0 ≤ x ∧ x < (n : Int)) (hel : est.length ≤ 4096) (hon : on.length ≤ max63) (hun : un.length ≤ max63) :
    ASpec Tryz.prog 72 [.i (vptr a on un (outOf n a.edges)), ints est, ii ev] O (ints (nxt a.edges (lowP on un false) n est ev)) [] O := by
  have hcl := fun O l hl hs => closure62 O a on un l false n hn hes hed hl hs hon hun
  generalize hes0 : a.edges = es at *
  refine aspec_stop [12] Tk Tryz.func72 rfl Tryz.call72 Tryz.ntmps72 (Nat.le_of_ble_eq_true rfl) fun E => ?_
  refine g_run Tk Tryz.func72 ?_
  refine g_loop ?_
  refine rch_wk (wk_nil 7 38 3 1 rfl rfl rfl) ?_
  refine rch_loop2 (fun x : Nat × List Int => [(0, .i (vptr a on un (outOf n es))), (2, ii ev), (7, .osl 0 38), (12, ints est), (13, ii est.length), (14, ii x.1)])
    (fun x => [(38, oints x.2)]) (fun _ => O) 44
    (fun x => x.1 ≤ est.length ∧ x.2.length ≤ x.1 * 1000000 ∧ ∀ y, y ∈ x.2 ↔ ∃ e ∈ es, e.1 ∈ est.take x.1 ∧ e.2.1 = ev ∧ e.2.2 = y) (fun x => est.length - x.1) (0, [])
    ⟨Nat.zero_le _, by simp, by simp⟩ ⟨rfl, rfl, rfl, rfl, rfl, rfl, trivial⟩ rfl ⟨rfl, trivial⟩ rfl rfl ?_
  rintro ⟨j, l⟩ ⟨hj, hl, hm⟩ ih
  simp only at hj hl hm
  refine g_run Tk Tryz.func72 ?_
  first | refine g_cnd Tk Tryz.func72 rfl (fun g1 => ?_) (fun g1 => ?_) | refine g_know Tk Tryz.func72 rfl (fun g1 => ?_) (fun g1 => ?_) | refine s_know Tk (fun g1 => ?_) (fun g1 => ?_)
  · have h1 : j < est.length := by simpa using g1
    have gf : (est.map fun x => [vi x])[(j : Int).toNat]? = some [vi est[j]] := get_mapZ (f := fun x => [vi x]) h1
    have hfj := hest _ (List.getElem_mem h1)
    have htk : est.take (j + 1) = est.take j ++ [est[j]] := by rw [List.take_add_one, List.getElem?_eq_getElem h1]; rfl
    generalize est[j] = y at *
    obtain ⟨s, rfl⟩ : ∃ x : Nat, y = x := ⟨y.toNat, by omega⟩
    have hsn' : s < n := by omega
    have gr : ((outOf n es).map fun r => [I.sl 3 r.length (r.map edgI)])[(s : Int).toNat]? = some [I.sl 3 (es.filter fun e => e.1 == (s : Int)).length ((es.filter fun e => e.1 == (s : Int)).map edgI)] := by rw [Int.toNat_natCast, List.getElem?_map, outOf_get hsn']; rfl
    have hrm : ∀ x : Edg, x ∈ es.filter (fun e => e.1 == (s : Int)) ↔ x ∈ es ∧ x.1 = (s : Int) := fun x => by rw [List.mem_filter]; simp
    have hrl : (es.filter fun e => e.1 == (s : Int)).length ≤ 1000000 := Nat.le_trans (List.length_filter_le _ _) hed
    generalize (es.filter fun e => e.1 == (s : Int)) = row at *
    first | refine g_need Tk Tryz.func72 (by exact ⟨by omega, by show (j : Int) < (est.length : Int); omega⟩) ?_ | refine s_need Tk (by exact ⟨by omega, by show (j : Int) < (est.length : Int); omega⟩) ?_
    first | refine g_elem Tk Tryz.func72 (gf) ?_ | refine s_elem Tk (gf) ?_
    first | refine g_elem Tk Tryz.func72 (rfl) ?_ | refine s_elem Tk (rfl) ?_
    first | refine g_need Tk Tryz.func72 (by exact ⟨by omega, by show (s : Int) < ((outOf n es).length : Int); rw [outOf_len]; omega⟩) ?_ | refine s_need Tk (by exact ⟨by omega, by show (s : Int) < ((outOf n es).length : Int); rw [outOf_len]; omega⟩) ?_
    first | refine g_elem Tk Tryz.func72 (gr) ?_ | refine s_elem Tk (gr) ?_
    refine g_loop ?_
    refine rch_loop2 (fun x : Nat × List Int => [(0, .i (vptr a on un (outOf n es))), (2, ii ev), (7, .osl 0 38), (12, ints est), (13, ii est.length), (14, ii j), (24, edgs row), (25, ii row.length), (26, ii x.1)])
      (fun x => [(38, oints x.2)]) (fun _ => O) 44
      (fun x => x.1 ≤ row.length ∧ x.2.length ≤ j * 1000000 + x.1 ∧ ∀ y, y ∈ x.2 ↔ (∃ e ∈ es, e.1 ∈ est.take j ∧ e.2.1 = ev ∧ e.2.2 = y) ∨ ∃ e ∈ row.take x.1, e.2.1 = ev ∧ e.2.2 = y) (fun x => row.length - x.1) (0, l)
      ⟨Nat.zero_le _, Nat.le_trans hl (Nat.le_add_right _ _), by simpa using hm⟩ ⟨rfl, rfl, rfl, rfl, rfl, rfl, rfl, rfl, rfl, trivial⟩ rfl ⟨rfl, trivial⟩ rfl rfl ?_
    clear hl hm gr gf
    rintro ⟨k, m⟩ ⟨hk, hl, hm⟩ ih2
    simp only at hk hl hm
    have hk1 : ii (IntKind.i64.wrap ((k : Int) + 1)) = ii ((k + 1 : Nat) : Int) := congrArg ii (wsucc (n := 1000001) (by omega) (by decide))
    refine g_run Tk Tryz.func72 ?_
    first | refine g_cnd Tk Tryz.func72 rfl (fun g2 => ?_) (fun g2 => ?_) | refine g_know Tk Tryz.func72 rfl (fun g2 => ?_) (fun g2 => ?_) | refine s_know Tk (fun g2 => ?_) (fun g2 => ?_)
    · have h2 : k < row.length := by simpa using g2
      have ge : (row.map edgI)[(k : Int).toNat]? = some (edgI row[k]) := get_mapZ h2
      have htk2 : row.take (k + 1) = row.take k ++ [row[k]] := by rw [List.take_add_one, List.getElem?_eq_getElem h2]; rfl
      generalize row[k] = e at *
      obtain ⟨ef, ee, et⟩ := e
      first | refine g_need Tk Tryz.func72 (by exact ⟨by omega, by show (k : Int) < (row.length : Int); omega⟩) ?_ | refine s_need Tk (by exact ⟨by omega, by show (k : Int) < (row.length : Int); omega⟩) ?_
      first | refine g_elem Tk Tryz.func72 (ge) ?_ | refine s_elem Tk (ge) ?_
      first | refine g_cnd Tk Tryz.func72 rfl (fun c2 => ?_) (fun c2 => ?_) | refine g_know Tk Tryz.func72 rfl (fun c2 => ?_) (fun c2 => ?_) | refine s_know Tk (fun c2 => ?_) (fun c2 => ?_)
      · have c2 : ee = ev := beqT c2
        first | refine g_need Tk Tryz.func72 (by exact ⟨by show (m.length + 1) * 8 ≤ 140737488355328; omega, by show m.length + 1 ≤ 9223372036854775807; omega⟩) ?_ | refine s_need Tk (by exact ⟨by show (m.length + 1) * 8 ≤ 140737488355328; omega, by show m.length + 1 ≤ 9223372036854775807; omega⟩) ?_
        refine g_loop ?_
        refine ih2 (k + 1, m ++ [et]) _ _ ⟨h2, by simp only [List.length_append, List.length_singleton]; omega, fun y => ?_⟩ (by simp only; omega) ⟨rfl, rfl, rfl, rfl, rfl, rfl, rfl, rfl, hk1, trivial⟩ rfl ⟨congrArg some (oints_app m et), trivial⟩ rfl rfl
        simp only [htk2, List.mem_append, List.mem_singleton, hm y]
        constructor
        · rintro ((h | ⟨e, h, h'⟩) | h)
          · exact .inl h
          · exact .inr ⟨e, .inl h, h'⟩
          · exact .inr ⟨_, .inr rfl, c2, h.symm⟩
        · rintro (h | ⟨e, h | h, h'⟩)
          · exact .inl (.inl h)
          · exact .inl (.inr ⟨e, h, h'⟩)
          · subst h; exact .inr h'.2.symm
      · have c2 : ee ≠ ev := beqF c2
        refine g_loop ?_
        refine ih2 (k + 1, m) _ _ ⟨h2, by simp only; omega, fun y => ?_⟩ (by simp only; omega) ⟨rfl, rfl, rfl, rfl, rfl, rfl, rfl, rfl, hk1, trivial⟩ rfl ⟨rfl, trivial⟩ rfl rfl
        simp only [htk2, List.mem_append, List.mem_singleton, hm y]
        constructor
        · rintro (h | ⟨e, h, h'⟩)
          · exact .inl h
          · exact .inr ⟨e, .inl h, h'⟩
        · rintro (h | ⟨e, h | h, h'⟩)
          · exact .inl h
          · exact .inr ⟨e, h, h'⟩
          · subst h; exact absurd h'.1 c2
    · have h2 : row.length ≤ k := by simpa using g2
      rw [List.take_of_length_le h2] at hm
      refine g_loop ?_
      refine ih (j + 1, m) _ _ ⟨h1, by simp only; omega, fun y => ?_⟩ (by simp only; omega) ⟨rfl, rfl, rfl, rfl, rfl, congrArg ii (wsucc (n := 5000) (by omega) (by decide)), trivial⟩ rfl ⟨rfl, trivial⟩ rfl rfl
      simp only [hm y, htk, List.mem_append, List.mem_singleton]
      constructor
      · rintro (⟨e, h, h', h3⟩ | ⟨e, h, h'⟩)
        · exact ⟨e, h, .inl h', h3⟩
        · exact ⟨e, ((hrm e).1 h).1, .inr ((hrm e).1 h).2, h'⟩
      · rintro ⟨e, h, h' | h', h3⟩
        · exact .inl ⟨e, h, h', h3⟩
        · exact .inr ⟨e, (hrm e).2 ⟨h, h'⟩, h3⟩
  · have h1 : est.length ≤ j := by simpa using g1
    have hlj : l.length ≤ 1000000000000 := by have := Nat.mul_le_mul_right 1000000 hj; omega
    rw [List.take_of_length_le h1] at hm
    have hlb : ∀ x ∈ l, 0 ≤ x ∧ x < (n : Int) := fun x hx => by
      obtain ⟨e, he, _, _, rfl⟩ := (hm x).1 hx
      exact hes e he
    have hR : nxt es (lowP on un false) n est ev = clo es (lowP on un false) n l := clo_congr hes (fun _ _ => rfl) fun x => by rw [mem_tgtE, hm x]
    rw [hR]
    refine g_stop ?_
    refine rch_wk (wk_freeze 38 rfl rfl) ?_
    refine g_run Tk Tryz.func72 ?_
    refine g_go Tk Tryz.func72 ?_
    first | refine g_call Tk Tryz.func72 (hcl _ l hlb hlj) rfl rfl rfl rfl rfl ?_ | refine s_callq Tk (fun _ => hcl _ l hlb hlj) rfl rfl rfl ?_
    refine g_ret Tk (r := ints (clo es (lowP on un false) n l)) rfl rfl rfl trivial rfl rfl ?_
    rfl
end Go.AI


namespace Go.AI
open Go.Proofs
set_option maxRecDepth 20000
def keyL : List UInt8 → List Int → List UInt8
  | T, [] => T
  | T, n :: r => keyL (T ++ (itoaB n).data.toList ++ [32]) r
def keyLs : List UInt8 → List (List Int) → List UInt8
  | T, [] => T
  | T, l :: r => keyLs (keyL T l ++ [59]) r
def fkeyB (ls : List (List Int)) : ByteArray := ⟨(keyLs [] ls).toArray⟩
set_option maxHeartbeats 4000000 in
theorem key84 {g : Nat} (hg : IsTab g) {ty : TypeId} {fr : Nat × Nat} (O : List Heap) (ls : List (List Int)) (h0 : ls ≠ []) (hn : ls.length ≤ 4096) (hl : ∀ l ∈ ls, l.length ≤ 4096 ∧ ∀ v ∈ l, i64B v) :
    ASpecT g (ptab ty fr) Tryz.prog 84 [.i (intssI ls)] O (.i (.v (.string (fkeyB ls)))) [] O := by
  have hno : fkeyB ls = ⟨(keyLs [] (ls.drop 0)).toArray⟩ := rfl
  have hpos : 0 < ls.length := List.length_pos_iff.2 h0
  generalize fkeyB ls = R at *
  refine aspecT_stop [200003, 200022, 200023, 200025, 200027] Tk Tryz.func84 rfl Tryz.call84 Tryz.ntmps84 (Nat.le_of_ble_eq_true rfl) fun E hE => ?_
  refine g_run Tk Tryz.func84 ?_
  refine g_tb Tk Tryz.func84 rfl rfl rfl rfl rfl rfl rfl rfl ?_
  refine g_loop ?_
  refine rch_wk (wk_niltb 3 60 5 1 rfl rfl rfl) ?_
  refine rch_loop2 (fun x : Nat × List UInt8 × Bool => [(3, .own 0 3 0 0), (8, .i (intssI ls)), (9, ii ls.length), (10, ii x.1)]) (fun x => [(3, .tb 158 [dp3 x.2.2, .osl 0 60]), (60, oby x.2.1)]) (fun _ => O) 28
    (fun x => x.1 ≤ ls.length ∧ x.2.1.length ≤ 100000 * x.1 ∧ (x.1 = 0 ∨ x.2.1 ≠ []) ∧ R = ⟨(keyLs x.2.1 (ls.drop x.1)).toArray⟩) (fun x => ls.length - x.1) (0, [], false)
    ⟨Nat.zero_le _, by simp, .inl rfl, hno⟩ ⟨rfl, rfl, rfl, rfl, trivial⟩ rfl ⟨rfl, rfl, trivial⟩ rfl rfl ?_
  clear hno
  rintro ⟨i, T, p⟩ ⟨hi, hTl, hT0, hno⟩ ih
  simp only at hi hTl hT0 hno
  refine g_run Tk Tryz.func84 ?_
  first | refine g_cnd Tk Tryz.func84 rfl (fun g1 => ?_) (fun g1 => ?_) | refine g_know Tk Tryz.func84 rfl (fun g1 => ?_) (fun g1 => ?_) | refine s_know Tk (fun g1 => ?_) (fun g1 => ?_)
  · have h2 : i < ls.length := by simpa using g1
    clear g1
    have gb : (ls.map fun x => [intsI x])[(i : Int).toNat]? = some [intsI ls[i]] := get_mapZ (f := fun x => [intsI x]) h2
    have db : ls.drop i = ls[i] :: ls.drop (i + 1) := List.drop_eq_getElem_cons h2
    have hll := hl _ (List.getElem_mem h2)
    rw [db] at hno
    simp only [keyLs] at hno
    clear db
    generalize ls[i] = l at *
    have hi1 : ii (IntKind.i64.wrap ((i : Int) + 1)) = ii ((i + 1 : Nat) : Int) := congrArg ii (wsucc (n := 4096) (by omega) (by decide))
    first | refine g_need Tk Tryz.func84 (by exact ⟨by omega, by show (i : Int) < (ls.length : Int); omega⟩) ?_ | refine s_need Tk (by exact ⟨by omega, by show (i : Int) < (ls.length : Int); omega⟩) ?_
    first | refine g_elem Tk Tryz.func84 (gb) ?_ | refine s_elem Tk (gb) ?_
    have hF0 : keyL T l = keyL T (l.drop 0) := rfl
    generalize keyL T l = F at *
    refine g_loop ?_
    refine rch_loop2 (fun x : Nat × List UInt8 × Bool => [(3, .own 0 3 0 0), (8, .i (intssI ls)), (9, ii ls.length), (10, ii i), (14, ints l), (15, ii l.length), (16, ii x.1)]) (fun x => [(3, .tb 158 [dp3 x.2.2, .osl 0 60]), (60, oby x.2.1)]) (fun _ => O) 28
      (fun x => x.1 ≤ l.length ∧ x.2.1.length ≤ T.length + 22 * x.1 ∧ F = keyL x.2.1 (l.drop x.1)) (fun x => l.length - x.1) (0, T, p)
      ⟨Nat.zero_le _, by simp, hF0⟩ ⟨rfl, rfl, rfl, rfl, rfl, rfl, rfl, trivial⟩ rfl ⟨rfl, rfl, trivial⟩ (by cases p <;> rfl) rfl ?_
    clear hF0
    rintro ⟨k, U, q⟩ ⟨hk, hUl, hF⟩ ih2
    simp only at hk hUl hF
    refine g_run Tk Tryz.func84 ?_
    first | refine g_cnd Tk Tryz.func84 rfl (fun g2 => ?_) (fun g2 => ?_) | refine g_know Tk Tryz.func84 rfl (fun g2 => ?_) (fun g2 => ?_) | refine s_know Tk (fun g2 => ?_) (fun g2 => ?_)
    · have h3 : k < l.length := by simpa using g2
      clear g2
      have gl : (l.map fun x => [vi x])[(k : Int).toNat]? = some [vi l[k]] := get_mapZ (f := fun x => [vi x]) h3
      have dl : l.drop k = l[k] :: l.drop (k + 1) := List.drop_eq_getElem_cons h3
      have hv := hll.2 _ (List.getElem_mem h3)
      rw [dl] at hF
      simp only [keyL] at hF
      clear dl
      generalize l[k] = n at *
      have hz := itoaB_size hv.1 hv.2
      have hk1 : ii (IntKind.i64.wrap ((k : Int) + 1)) = ii ((k + 1 : Nat) : Int) := congrArg ii (wsucc (n := 4096) (by omega) (by decide))
      first | refine g_need Tk Tryz.func84 (by exact ⟨by omega, by show (k : Int) < (l.length : Int); omega⟩) ?_ | refine s_need Tk (by exact ⟨by omega, by show (k : Int) < (l.length : Int); omega⟩) ?_
      first | refine g_elem Tk Tryz.func84 (gl) ?_ | refine s_elem Tk (gl) ?_
      refine g_callT Tk Tryz.func84 hE (itoa79 hg _ n hv.1 hv.2) rfl rfl rfl rfl rfl rfl ?_
      generalize itoaB n = W at *
      refine g_callP Tk Tryz.func84 rfl rfl rfl rfl (does_ws rfl W U (dp3_or q) (by omega) rfl (show 22 < 28 by decide) rfl rfl rfl (by decide)) ?_
      refine g_callP Tk Tryz.func84 rfl rfl rfl rfl (does_wb rfl 32 (U ++ W.data.toList) (.inr rfl) (by rw [List.length_append, size_list]; omega) rfl (show 23 < 28 by decide) rfl rfl rfl (by decide)) ?_
      refine g_loop ?_
      refine ih2 (k + 1, U ++ W.data.toList ++ [32], true) _ _ ⟨h3, by simp only [List.length_append, size_list, List.length_singleton]; omega, hF⟩ (by simp only; omega) ⟨rfl, rfl, rfl, rfl, rfl, rfl, hk1, trivial⟩ rfl ⟨rfl, rfl, trivial⟩ rfl rfl
    · have h3 : l.length ≤ k := by simpa using g2
      rw [List.drop_eq_nil_of_le h3] at hF
      simp only [keyL] at hF
      subst hF
      refine g_callP Tk Tryz.func84 rfl rfl rfl rfl (does_wb rfl 59 F (dp3_or q) (by omega) rfl (show 25 < 28 by decide) rfl rfl rfl (by decide)) ?_
      refine g_loop ?_
      refine ih (i + 1, F ++ [59], true) _ _ ⟨h2, by simp only [List.length_append, List.length_singleton]; omega, .inr (by simp), hno⟩ (by simp only; omega) ⟨rfl, rfl, rfl, hi1, trivial⟩ rfl ⟨rfl, rfl, trivial⟩ rfl rfl
  · have h2 : ls.length ≤ i := by simpa using g1
    rw [List.drop_eq_nil_of_le h2] at hno
    simp only [keyLs] at hno
    subst hno
    have hT0 : T ≠ [] := hT0.resolve_left (by omega)
    refine g_callP Tk Tryz.func84 rfl rfl rfl rfl (does_bs rfl hT0 rfl (show 27 < 28 by decide) rfl rfl rfl) ?_
    refine g_ret Tk (r := .i (.v (.string ⟨T.toArray⟩))) rfl rfl rfl trivial rfl rfl ?_
    rfl
end Go.AI
