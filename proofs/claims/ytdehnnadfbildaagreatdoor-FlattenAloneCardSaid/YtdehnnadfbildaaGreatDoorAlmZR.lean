/- The layer of abstract runs, part 44. -/
import Derived.Test.YtdehnnadfbildaaGreatDoorAlmZQ
set_option linter.unusedSimpArgs false
set_option linter.unusedVariables false
set_option linter.all false

/- FlattenAlone. -/
namespace Go.AI
open Go.Proofs
set_option maxRecDepth 20000
theorem flat_four {α β : Type} {f : α → List β} : ∀ {l : List α}, (∀ k ∈ l, (f k).length ≤ 4) → (l.flatMap f).length ≤ 4 * l.length
  | [], _ => by simp
  | x :: r, h => by
    have := flat_four (l := r) fun k hk => h k (by simp [hk])
    have := h x (by simp)
    simp only [List.flatMap_cons, List.length_append, List.length_cons]
    omega
theorem uat_len {σ : Type} [DecidableEq σ] {mkd : σ → Bool} {alpha : List Int} {P : σ → Prop} {step : σ → Int → σ × Bool × Int} {U : Unf σ} (hA : UAt mkd alpha P step U.sts.length U) (h3 : alpha.length ≤ 4) : U.eds.length ≤ 4 * U.sts.length ∧ U.mkl.length ≤ U.sts.length := by
  constructor
  · rw [hA.eds]
    refine Nat.le_trans (flat_four fun k _ => ?_) (by rw [List.length_range]; exact Nat.le_refl _)
    split
    · simp
    · exact Nat.le_trans (List.length_filterMap_le _ _) h3
  · rw [hA.mkl, List.length_map]
    exact Nat.le_trans (List.length_filter_le _ _) (by simp)
theorem alone_made {k : Sk} (hk : skOk k) : jMade [makeR k] := pair_made hk hk 2
theorem chkJ_made {l : List Ext} (h : jMade l) : chkJ l = 0 := by
  have h1 := h.len
  have h2 : chkAllE l = 0 := by
    have : ∀ k : List Ext, (∀ m ∈ k, chk m = 0) → chkAllE k = 0 := by
      intro k
      induction k with
      | nil => intro _; rfl
      | cons m r ih =>
        intro hk
        simp only [chkAllE]
        rw [hk m (by simp), if_neg (by simp)]
        exact ih fun n hn => hk n (by simp [hn])
    exact this l h.chk
  unfold chkJ
  rw [if_neg (by omega), if_neg (by omega), h2, if_neg (by simp), if_neg]
  simp only [List.any_eq_true, decide_eq_true_eq, not_exists, not_and]
  intro m hm hc
  exact hc (h.jn.same m (List.mem_of_mem_tail hm))
theorem ev_012 : Lib.compact (sortI [0, 1, 2]) = [0, 1, 2] := by
  have h : sortI [0, 1, 2] = [0, 1, 2] := by unfold sortI; simp [List.mergeSort, List.MergeSort.Internal.splitInTwo]
  rw [h]
  decide
theorem ev_012012 : Lib.compact (sortI [0, 1, 2, 0, 1, 2]) = [0, 1, 2] := by
  have h : sortI [0, 1, 2, 0, 1, 2] = [0, 0, 1, 1, 2, 2] := by unfold sortI; simp [List.mergeSort, List.MergeSort.Internal.splitInTwo]
  rw [h]
  decide
theorem ev_01212 : Lib.compact (sortI [0, 1, 2, 1, 2]) = [0, 1, 2] := by
  have h : sortI [0, 1, 2, 1, 2] = [0, 1, 1, 2, 2] := by unfold sortI; simp [List.mergeSort, List.MergeSort.Internal.splitInTwo]
  rw [h]
  decide
theorem events_made {l : List Ext} (h : jMade l) : eventsR l = [0, 1, 2] ∧ 0 < (l.flatMap (·.alpha)).length := by
  have h0 := h.al0
  unfold eventsR
  match l, h.len, h.al, h0 with
  | [m], _, _, h0 =>
    simp only [List.getD_cons_zero] at h0
    simp only [List.flatMap_cons, List.flatMap_nil, h0, List.append_nil]
    exact ⟨ev_012, by simp⟩
  | [m, n], _, hal, h0 =>
    simp only [List.getD_cons_zero] at h0
    simp only [List.flatMap_cons, List.flatMap_nil, h0, List.append_nil]
    rcases hal n (by simp) with h | h
    · rw [h]; exact ⟨ev_012012, by simp⟩
    · rw [h]; exact ⟨ev_01212, by simp⟩
  | [], h, _, _ => simp at h
  | _ :: _ :: _ :: _, h, _, _ => simp at h
theorem alone_sim {m : Ext} (hm : made m) : Sim keq keqO (stpR m) (stepO [m]) (mkdM m) (fun o => markO [m] o.locs) (okS m) orgOf [0, 1, 2] := by
  refine ⟨fun s ev hs he => ?_, fun a b _ _ => rfl, fun s _ => ?_⟩
  · have he : ev ∈ m.alpha := by rw [hm.al]; exact he
    obtain ⟨h1, h2⟩ := stepO_one (s := s) he (eval_made hm hs.2) (fun x hx => ((made_right hm).mv x hx).us)
    have hst := stp_made hm hs he
    rw [hst]
    refine ⟨h1, fun hp => ⟨h2 hp, ?_⟩⟩
    have := stp_okS (ev := ev) (made_right hm) hs (by rw [hst]; exact hp)
    rwa [hst] at this
  · show markO [m] [s.loc] = _
    simp [markO, mkdM]
theorem joint_alone {m : Ext} (hm : made m) (hj : jMade [m]) : jointR [m] = exMap orgOf (unfoldR m) := by
  unfold jointR unfoldR
  rw [chkJ_made hj, made_chk hm, (events_made hj).1, if_neg (by simp), if_neg (by simp)]
  unfold unfX
  rw [hm.al]
  exact unfR_map (alone_sim hm) (start_ok (made_right hm))
set_option maxHeartbeats 4000000 in
theorem alone5 {g : Nat} (hg : IsTab g) {ty : TypeId} {fr : Nat × Nat} (O : List Heap) (k : Sk) (hk : skOk k) : ASpecT g (ptab ty fr) Tryz.prog 5 [skD k] O (bb true) [] O := by
  have hkn := fun O => known48 hg (ty := ty) (fr := fr) O
  have hmk := fun O => make16 O k hk
  have hm := make_made hk
  have hj := alone_made hk
  generalize makeR k = m at *
  have hok := made_ok hm
  have hr := made_right hm
  have hun := fun O => Unfold50 hg (ty := ty) (fr := fr) O m hok
  have hjo := fun O => Joint10 hg (ty := ty) (fr := fr) O [m] hj.jn.ok (by simp [max63]) (fun _ => (events_made hj).2)
  rw [joint_alone hm hj, (events_made hj).1] at hjo
  rcases unf_made hm with ⟨e, he, he0, _⟩ | ⟨V, hV, hA⟩
  · rw [he] at hun hjo
    simp only [exMap] at hjo
    have hz := fun O => same57 O ⟨[], 0, [], []⟩ (by simp [max63]) (by simp [max63]) (by simp [max63])
    refine aspecT_stop [6] Tk Tryz.func5 rfl Tryz.call5 Tryz.ntmps5 (Nat.le_of_ble_eq_true rfl) fun E hE => ?_
    refine g_run Tk Tryz.func5 ?_
    refine g_callT Tk Tryz.func5 hE (hkn _) rfl rfl rfl rfl rfl rfl ?_
    repeat (first | refine g_cnd Tk Tryz.func5 rfl (fun _ => ?_) (fun h => absurd h (by decide)) | refine g_know Tk Tryz.func5 rfl (fun _ => ?_) (fun h => absurd h (by decide)) | refine s_know Tk (fun _ => ?_) (fun h => absurd h (by decide)) | refine g_cnd Tk Tryz.func5 rfl (fun h => absurd h (by decide)) (fun _ => ?_) | refine g_know Tk Tryz.func5 rfl (fun h => absurd h (by decide)) (fun _ => ?_) | refine s_know Tk (fun h => absurd h (by decide)) (fun _ => ?_) | refine g_cnd Tk Tryz.func5 rfl (fun _ => ?_) (fun h => absurd (show true = false from h) (by decide)) | refine g_know Tk Tryz.func5 rfl (fun _ => ?_) (fun h => absurd (show true = false from h) (by decide)) | refine s_know Tk (fun _ => ?_) (fun h => absurd (show true = false from h) (by decide)) | refine g_cnd Tk Tryz.func5 rfl (fun h => absurd (show false = true from h) (by decide)) (fun _ => ?_) | refine g_know Tk Tryz.func5 rfl (fun h => absurd (show false = true from h) (by decide)) (fun _ => ?_) | refine s_know Tk (fun h => absurd (show false = true from h) (by decide)) (fun _ => ?_))
    first | refine g_call Tk Tryz.func5 (hmk _) rfl rfl rfl rfl rfl ?_ | refine s_callq Tk (fun _ => hmk _) rfl rfl rfl ?_
    refine g_callT Tk Tryz.func5 hE (hun _) rfl rfl rfl rfl rfl rfl ?_
    refine g_callT Tk Tryz.func5 hE (hjo _) rfl rfl rfl rfl rfl rfl ?_
    refine g_go Tk Tryz.func5 ?_
    first | refine g_cnd Tk Tryz.func5 rfl (fun h1 => ?_) (fun h1 => ?_) | refine g_know Tk Tryz.func5 rfl (fun h1 => ?_) (fun h1 => ?_) | refine s_know Tk (fun h1 => ?_) (fun h1 => ?_)
    · exact absurd rfl (bneT h1)
    first | refine g_call Tk Tryz.func5 (hz _) rfl rfl rfl rfl rfl ?_ | refine s_callq Tk (fun _ => hz _) rfl rfl rfl ?_
    repeat (first | refine g_cnd Tk Tryz.func5 rfl (fun _ => ?_) (fun h => absurd h (by decide)) | refine g_know Tk Tryz.func5 rfl (fun _ => ?_) (fun h => absurd h (by decide)) | refine s_know Tk (fun _ => ?_) (fun h => absurd h (by decide)) | refine g_cnd Tk Tryz.func5 rfl (fun h => absurd h (by decide)) (fun _ => ?_) | refine g_know Tk Tryz.func5 rfl (fun h => absurd h (by decide)) (fun _ => ?_) | refine s_know Tk (fun h => absurd h (by decide)) (fun _ => ?_) | refine g_cnd Tk Tryz.func5 rfl (fun _ => ?_) (fun h => absurd (show true = false from h) (by decide)) | refine g_know Tk Tryz.func5 rfl (fun _ => ?_) (fun h => absurd (show true = false from h) (by decide)) | refine s_know Tk (fun _ => ?_) (fun h => absurd (show true = false from h) (by decide)) | refine g_cnd Tk Tryz.func5 rfl (fun h => absurd (show false = true from h) (by decide)) (fun _ => ?_) | refine g_know Tk Tryz.func5 rfl (fun h => absurd (show false = true from h) (by decide)) (fun _ => ?_) | refine s_know Tk (fun h => absurd (show false = true from h) (by decide)) (fun _ => ?_))
    refine g_loop ?_
    refine g_run Tk Tryz.func5 ?_
    repeat (first | refine g_cnd Tk Tryz.func5 rfl (fun _ => ?_) (fun h => absurd h (by decide)) | refine g_know Tk Tryz.func5 rfl (fun _ => ?_) (fun h => absurd h (by decide)) | refine s_know Tk (fun _ => ?_) (fun h => absurd h (by decide)) | refine g_cnd Tk Tryz.func5 rfl (fun h => absurd h (by decide)) (fun _ => ?_) | refine g_know Tk Tryz.func5 rfl (fun h => absurd h (by decide)) (fun _ => ?_) | refine s_know Tk (fun h => absurd h (by decide)) (fun _ => ?_) | refine g_cnd Tk Tryz.func5 rfl (fun _ => ?_) (fun h => absurd (show true = false from h) (by decide)) | refine g_know Tk Tryz.func5 rfl (fun _ => ?_) (fun h => absurd (show true = false from h) (by decide)) | refine s_know Tk (fun _ => ?_) (fun h => absurd (show true = false from h) (by decide)) | refine g_cnd Tk Tryz.func5 rfl (fun h => absurd (show false = true from h) (by decide)) (fun _ => ?_) | refine g_know Tk Tryz.func5 rfl (fun h => absurd (show false = true from h) (by decide)) (fun _ => ?_) | refine s_know Tk (fun h => absurd (show false = true from h) (by decide)) (fun _ => ?_))
    refine g_ret Tk (r := bb true) rfl rfl rfl trivial rfl rfl ?_
    rfl
  rw [hV] at hun hjo
  have h64 : V.sts.length ≤ 64 := few_states hm hA.ok hA.nd
  have h3 : m.alpha.length = 3 := by rw [hm.al]; rfl
  obtain ⟨hl1, hl2⟩ := uat_len hA (by omega)
  have hsm := fun O => same57 O (⟨m.alpha, V.sts.length, V.mkl, V.eds⟩) (by show m.alpha.length ≤ max63; simp only [max63]; omega) (by show V.mkl.length ≤ max63; simp only [max63]; omega) (by show V.eds.length ≤ max63; simp only [max63]; omega)
  have hvl : ∀ s ∈ V.sts, s.vals.length ≤ max63 := fun s h => by have := (okS_bounds hr (hA.ok s h)).2.2.1; simp only [max63]; omega
  have hal := hm.al
  clear hA hV
  obtain ⟨sts, mkl, eds⟩ := V
  have h64 : sts.length ≤ 64 := h64
  simp only [exMap, Unf.map, unfDO, List.length_map] at hjo
  simp only [hal] at hun hsm
  refine aspecT_stop [6] Tk Tryz.func5 rfl Tryz.call5 Tryz.ntmps5 (Nat.le_of_ble_eq_true rfl) fun E hE => ?_
  refine g_run Tk Tryz.func5 ?_
  refine g_callT Tk Tryz.func5 hE (hkn _) rfl rfl rfl rfl rfl rfl ?_
  repeat (first | refine g_cnd Tk Tryz.func5 rfl (fun _ => ?_) (fun h => absurd h (by decide)) | refine g_know Tk Tryz.func5 rfl (fun _ => ?_) (fun h => absurd h (by decide)) | refine s_know Tk (fun _ => ?_) (fun h => absurd h (by decide)) | refine g_cnd Tk Tryz.func5 rfl (fun h => absurd h (by decide)) (fun _ => ?_) | refine g_know Tk Tryz.func5 rfl (fun h => absurd h (by decide)) (fun _ => ?_) | refine s_know Tk (fun h => absurd h (by decide)) (fun _ => ?_) | refine g_cnd Tk Tryz.func5 rfl (fun _ => ?_) (fun h => absurd (show true = false from h) (by decide)) | refine g_know Tk Tryz.func5 rfl (fun _ => ?_) (fun h => absurd (show true = false from h) (by decide)) | refine s_know Tk (fun _ => ?_) (fun h => absurd (show true = false from h) (by decide)) | refine g_cnd Tk Tryz.func5 rfl (fun h => absurd (show false = true from h) (by decide)) (fun _ => ?_) | refine g_know Tk Tryz.func5 rfl (fun h => absurd (show false = true from h) (by decide)) (fun _ => ?_) | refine s_know Tk (fun h => absurd (show false = true from h) (by decide)) (fun _ => ?_))
  first | refine g_call Tk Tryz.func5 (hmk _) rfl rfl rfl rfl rfl ?_ | refine s_callq Tk (fun _ => hmk _) rfl rfl rfl ?_
  refine g_callT Tk Tryz.func5 hE (hun _) rfl rfl rfl rfl rfl rfl ?_
  refine g_callT Tk Tryz.func5 hE (hjo _) rfl rfl rfl rfl rfl rfl ?_
  refine g_go Tk Tryz.func5 ?_
  repeat (first | refine g_cnd Tk Tryz.func5 rfl (fun _ => ?_) (fun h => absurd h (by decide)) | refine g_know Tk Tryz.func5 rfl (fun _ => ?_) (fun h => absurd h (by decide)) | refine s_know Tk (fun _ => ?_) (fun h => absurd h (by decide)) | refine g_cnd Tk Tryz.func5 rfl (fun h => absurd h (by decide)) (fun _ => ?_) | refine g_know Tk Tryz.func5 rfl (fun h => absurd h (by decide)) (fun _ => ?_) | refine s_know Tk (fun h => absurd h (by decide)) (fun _ => ?_) | refine g_cnd Tk Tryz.func5 rfl (fun _ => ?_) (fun h => absurd (show true = false from h) (by decide)) | refine g_know Tk Tryz.func5 rfl (fun _ => ?_) (fun h => absurd (show true = false from h) (by decide)) | refine s_know Tk (fun _ => ?_) (fun h => absurd (show true = false from h) (by decide)) | refine g_cnd Tk Tryz.func5 rfl (fun h => absurd (show false = true from h) (by decide)) (fun _ => ?_) | refine g_know Tk Tryz.func5 rfl (fun h => absurd (show false = true from h) (by decide)) (fun _ => ?_) | refine s_know Tk (fun h => absurd (show false = true from h) (by decide)) (fun _ => ?_))
  first | refine g_call Tk Tryz.func5 (hsm _) rfl rfl rfl rfl rfl ?_ | refine s_callq Tk (fun _ => hsm _) rfl rfl rfl ?_
  repeat (first | refine g_cnd Tk Tryz.func5 rfl (fun _ => ?_) (fun h => absurd h (by decide)) | refine g_know Tk Tryz.func5 rfl (fun _ => ?_) (fun h => absurd h (by decide)) | refine s_know Tk (fun _ => ?_) (fun h => absurd h (by decide)) | refine g_cnd Tk Tryz.func5 rfl (fun h => absurd h (by decide)) (fun _ => ?_) | refine g_know Tk Tryz.func5 rfl (fun h => absurd h (by decide)) (fun _ => ?_) | refine s_know Tk (fun h => absurd h (by decide)) (fun _ => ?_) | refine g_cnd Tk Tryz.func5 rfl (fun _ => ?_) (fun h => absurd (show true = false from h) (by decide)) | refine g_know Tk Tryz.func5 rfl (fun _ => ?_) (fun h => absurd (show true = false from h) (by decide)) | refine s_know Tk (fun _ => ?_) (fun h => absurd (show true = false from h) (by decide)) | refine g_cnd Tk Tryz.func5 rfl (fun h => absurd (show false = true from h) (by decide)) (fun _ => ?_) | refine g_know Tk Tryz.func5 rfl (fun h => absurd (show false = true from h) (by decide)) (fun _ => ?_) | refine s_know Tk (fun h => absurd (show false = true from h) (by decide)) (fun _ => ?_))
  first | refine g_cnd Tk Tryz.func5 rfl (fun h1 => ?_) (fun h1 => ?_) | refine g_know Tk Tryz.func5 rfl (fun h1 => ?_) (fun h1 => ?_) | refine s_know Tk (fun h1 => ?_) (fun h1 => ?_)
  · exact absurd (show ((sts.length : Nat) : Int) = ((sts.map orgOf).length : Int) by simp) (bneT h1)
  clear h1
  refine g_loop ?_
  refine rch_loop2 (fun i : Nat => [(5, stasD sts), (8, orgsD (sts.map orgOf)), (10, ii i)]) (fun _ => []) (fun _ => O) 77
    (fun i => i ≤ sts.length) (fun i => sts.length - i) 0 (Nat.zero_le _) ⟨rfl, rfl, rfl, trivial⟩ rfl trivial rfl rfl ?_
  rintro i hi ih
  refine g_run Tk Tryz.func5 ?_
  first | refine g_cnd Tk Tryz.func5 rfl (fun g1 => ?_) (fun g1 => ?_) | refine g_know Tk Tryz.func5 rfl (fun g1 => ?_) (fun g1 => ?_) | refine s_know Tk (fun g1 => ?_) (fun g1 => ?_)
  · have h1 : i < sts.length := by simpa using g1
    clear g1
    have gs : (sts.map staI)[(i : Int).toNat]? = some (staI sts[i]) := get_mapZ h1
    have go : ((sts.map orgOf).map orgI)[(i : Int).toNat]? = some (orgI (orgOf sts[i])) := by
      rw [get_mapZ (show i < (sts.map orgOf).length by rw [List.length_map]; exact h1)]
      simp
    have hv := hvl _ (List.getElem_mem h1)
    generalize sts[i] = s at *
    obtain ⟨sl, sv⟩ := s
    have h2 := fun O => sameInts_refl O [sl] (by simp [max63])
    have h3 := fun O => sameInts_refl O sv hv
    have n2 : 0 ≤ (i : Int) ∧ (i : Int) < (sts.length : Int) := by omega
    have n1 : 0 ≤ (i : Int) ∧ (i : Int) < ((sts.map orgOf).length : Int) := by rw [List.length_map]; omega
    refine g_drawn Tk Tryz.func5 mixedT rfl ?_
    first | refine g_need Tk Tryz.func5 (n1) ?_ | refine s_need Tk (n1) ?_
    first | refine g_elem Tk Tryz.func5 (go) ?_ | refine s_elem Tk (go) ?_
    first | refine g_need Tk Tryz.func5 (n2) ?_ | refine s_need Tk (n2) ?_
    first | refine g_elem Tk Tryz.func5 (gs) ?_ | refine s_elem Tk (gs) ?_
    first | refine g_call Tk Tryz.func5 (h2 _) rfl rfl rfl rfl rfl ?_ | refine s_callq Tk (fun _ => h2 _) rfl rfl rfl ?_
    repeat (first | refine g_cnd Tk Tryz.func5 rfl (fun _ => ?_) (fun h => absurd h (by decide)) | refine g_know Tk Tryz.func5 rfl (fun _ => ?_) (fun h => absurd h (by decide)) | refine s_know Tk (fun _ => ?_) (fun h => absurd h (by decide)) | refine g_cnd Tk Tryz.func5 rfl (fun h => absurd h (by decide)) (fun _ => ?_) | refine g_know Tk Tryz.func5 rfl (fun h => absurd h (by decide)) (fun _ => ?_) | refine s_know Tk (fun h => absurd h (by decide)) (fun _ => ?_) | refine g_cnd Tk Tryz.func5 rfl (fun _ => ?_) (fun h => absurd (show true = false from h) (by decide)) | refine g_know Tk Tryz.func5 rfl (fun _ => ?_) (fun h => absurd (show true = false from h) (by decide)) | refine s_know Tk (fun _ => ?_) (fun h => absurd (show true = false from h) (by decide)) | refine g_cnd Tk Tryz.func5 rfl (fun h => absurd (show false = true from h) (by decide)) (fun _ => ?_) | refine g_know Tk Tryz.func5 rfl (fun h => absurd (show false = true from h) (by decide)) (fun _ => ?_) | refine s_know Tk (fun h => absurd (show false = true from h) (by decide)) (fun _ => ?_))
    first | refine g_need Tk Tryz.func5 (n1) ?_ | refine s_need Tk (n1) ?_
    first | refine g_elem Tk Tryz.func5 (go) ?_ | refine s_elem Tk (go) ?_
    first | refine g_need Tk Tryz.func5 (n2) ?_ | refine s_need Tk (n2) ?_
    first | refine g_elem Tk Tryz.func5 (gs) ?_ | refine s_elem Tk (gs) ?_
    first | refine g_call Tk Tryz.func5 (h3 _) rfl rfl rfl rfl rfl ?_ | refine s_callq Tk (fun _ => h3 _) rfl rfl rfl ?_
    refine e_done Tk Tryz.func5 (by kernel_rfl) ?_
    repeat (first | refine g_cnd Tk Tryz.func5 rfl (fun _ => ?_) (fun h => absurd h (by decide)) | refine g_know Tk Tryz.func5 rfl (fun _ => ?_) (fun h => absurd h (by decide)) | refine s_know Tk (fun _ => ?_) (fun h => absurd h (by decide)) | refine g_cnd Tk Tryz.func5 rfl (fun h => absurd h (by decide)) (fun _ => ?_) | refine g_know Tk Tryz.func5 rfl (fun h => absurd h (by decide)) (fun _ => ?_) | refine s_know Tk (fun h => absurd h (by decide)) (fun _ => ?_) | refine g_cnd Tk Tryz.func5 rfl (fun _ => ?_) (fun h => absurd (show true = false from h) (by decide)) | refine g_know Tk Tryz.func5 rfl (fun _ => ?_) (fun h => absurd (show true = false from h) (by decide)) | refine s_know Tk (fun _ => ?_) (fun h => absurd (show true = false from h) (by decide)) | refine g_cnd Tk Tryz.func5 rfl (fun h => absurd (show false = true from h) (by decide)) (fun _ => ?_) | refine g_know Tk Tryz.func5 rfl (fun h => absurd (show false = true from h) (by decide)) (fun _ => ?_) | refine s_know Tk (fun h => absurd (show false = true from h) (by decide)) (fun _ => ?_))
    refine g_loop ?_
    exact ih (i + 1) _ _ h1 (by omega) ⟨rfl, rfl, congrArg ii (wsucc (n := 4096) (by omega) (by decide)), trivial⟩ rfl trivial rfl rfl
  · refine g_ret Tk (r := bb true) rfl rfl rfl trivial rfl rfl ?_
    rfl
end Go.AI
