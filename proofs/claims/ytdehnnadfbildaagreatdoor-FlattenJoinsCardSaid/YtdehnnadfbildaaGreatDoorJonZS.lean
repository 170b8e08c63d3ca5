/- The layer of abstract runs, part 45. -/
import Derived.Test.YtdehnnadfbildaaGreatDoorJonZR
set_option linter.unusedSimpArgs false
set_option linter.unusedVariables false
set_option linter.all false

/- FlattenJoins. -/
namespace Go.AI
open Go.Proofs
set_option maxRecDepth 20000
theorem joint_made {l : List Ext} (hj : jMade l) : (∃ e, jointR l = .error e ∧ e ≠ 0) ∨ ∃ V, jointR l = .ok V ∧ UAt (fun o : Org => markO l o.locs) [0, 1, 2] (okO l) (stepO l) V.sts.length V := by
  unfold jointR
  rw [chkJ_made hj, if_neg (by simp), (events_made hj).1]
  rcases unfR_spec (fun o : Org => markO l o.locs) (fin_joint hj) (alpha := [0, 1, 2]) (startO_ok hj.jn) (B := 3140) (fun L h1 h2 => few_orgs hj h1 h2) (by decide) with ⟨e, he, h0, _⟩ | h
  · exact .inl ⟨e, he, h0⟩
  · exact .inr h
theorem sameO_refl (O : List Heap) (x : Org) (h1 : x.locs.length ≤ max63) (h2 : x.vals.length ≤ max63) : ASpec Tryz.prog 14 [orgD x, orgD x] O (bb true) [] O := by
  have h := sameOrigin14 O x x h1 h2
  rwa [decide_eq_true rfl] at h
set_option maxHeartbeats 4000000 in
theorem joins3 {g : Nat} (hg : IsTab g) {ty : TypeId} {fr : Nat × Nat} (O : List Heap) (a b : Sk) (n : Int) (ha : skOk a) (hb : skOk b) (hn : 0 ≤ n ∧ n ≤ 255) : ASpecT g (ptab ty fr) Tryz.prog 3 [pairD a b, u8D n] O (bb true) [] O := by
  have hkn := fun O => known48 hg (ty := ty) (fr := fr) O
  have hli := fun O => list9 O a b n ha hb hn
  have hj := pair_made ha hb n
  generalize pairL a b n = l at *
  have hl12 := hj.jn.len
  have hjo := fun O => Joint10 hg (ty := ty) (fr := fr) O l hj.jn.ok (by simp only [max63]; omega) (fun _ => (events_made hj).2)
  rw [(events_made hj).1] at hjo
  have hlw := fun O => joint11 O l hj
  rw [jointL_same hj] at hlw
  obtain ⟨al, am, ar, an⟩ := a
  obtain ⟨bl, bm, br, bn⟩ := b
  rcases joint_made hj with ⟨e, he, he0⟩ | ⟨V, hV, hA⟩
  · rw [he] at hjo hlw
    have hz := fun O => none60 O
    refine aspecT_stop [] Tk Tryz.func3 rfl Tryz.call3 Tryz.ntmps3 (Nat.le_of_ble_eq_true rfl) fun E hE => ?_
    refine g_run Tk Tryz.func3 ?_
    refine g_callT Tk Tryz.func3 hE (hkn _) rfl rfl rfl rfl rfl rfl ?_
    repeat (first | refine g_cnd Tk Tryz.func3 rfl (fun _ => ?_) (fun h => absurd h (by decide)) | refine g_know Tk Tryz.func3 rfl (fun _ => ?_) (fun h => absurd h (by decide)) | refine s_know Tk (fun _ => ?_) (fun h => absurd h (by decide)) | refine g_cnd Tk Tryz.func3 rfl (fun h => absurd h (by decide)) (fun _ => ?_) | refine g_know Tk Tryz.func3 rfl (fun h => absurd h (by decide)) (fun _ => ?_) | refine s_know Tk (fun h => absurd h (by decide)) (fun _ => ?_) | refine g_cnd Tk Tryz.func3 rfl (fun _ => ?_) (fun h => absurd (show true = false from h) (by decide)) | refine g_know Tk Tryz.func3 rfl (fun _ => ?_) (fun h => absurd (show true = false from h) (by decide)) | refine s_know Tk (fun _ => ?_) (fun h => absurd (show true = false from h) (by decide)) | refine g_cnd Tk Tryz.func3 rfl (fun h => absurd (show false = true from h) (by decide)) (fun _ => ?_) | refine g_know Tk Tryz.func3 rfl (fun h => absurd (show false = true from h) (by decide)) (fun _ => ?_) | refine s_know Tk (fun h => absurd (show false = true from h) (by decide)) (fun _ => ?_))
    first | refine g_call Tk Tryz.func3 (hli _) rfl rfl rfl rfl rfl ?_ | refine s_callq Tk (fun _ => hli _) rfl rfl rfl ?_
    refine g_callT Tk Tryz.func3 hE (hjo _) rfl rfl rfl rfl rfl rfl ?_
    first | refine g_call Tk Tryz.func3 (hlw _) rfl rfl rfl rfl rfl ?_ | refine s_callq Tk (fun _ => hlw _) rfl rfl rfl ?_
    first | refine g_cnd Tk Tryz.func3 rfl (fun h1 => ?_) (fun h1 => ?_) | refine g_know Tk Tryz.func3 rfl (fun h1 => ?_) (fun h1 => ?_) | refine s_know Tk (fun h1 => ?_) (fun h1 => ?_)
    rotate_left
    · exact absurd (bneF h1) he0
    first | refine g_call Tk Tryz.func3 (hz _) rfl rfl rfl rfl rfl ?_ | refine s_callq Tk (fun _ => hz _) rfl rfl rfl ?_
    repeat (first | refine g_cnd Tk Tryz.func3 rfl (fun _ => ?_) (fun h => absurd h (by decide)) | refine g_know Tk Tryz.func3 rfl (fun _ => ?_) (fun h => absurd h (by decide)) | refine s_know Tk (fun _ => ?_) (fun h => absurd h (by decide)) | refine g_cnd Tk Tryz.func3 rfl (fun h => absurd h (by decide)) (fun _ => ?_) | refine g_know Tk Tryz.func3 rfl (fun h => absurd h (by decide)) (fun _ => ?_) | refine s_know Tk (fun h => absurd h (by decide)) (fun _ => ?_) | refine g_cnd Tk Tryz.func3 rfl (fun _ => ?_) (fun h => absurd (show true = false from h) (by decide)) | refine g_know Tk Tryz.func3 rfl (fun _ => ?_) (fun h => absurd (show true = false from h) (by decide)) | refine s_know Tk (fun _ => ?_) (fun h => absurd (show true = false from h) (by decide)) | refine g_cnd Tk Tryz.func3 rfl (fun h => absurd (show false = true from h) (by decide)) (fun _ => ?_) | refine g_know Tk Tryz.func3 rfl (fun h => absurd (show false = true from h) (by decide)) (fun _ => ?_) | refine s_know Tk (fun h => absurd (show false = true from h) (by decide)) (fun _ => ?_))
    refine g_ret Tk (r := bb (e == e)) rfl rfl rfl trivial rfl rfl ?_
    simp
  rw [hV] at hjo hlw
  have h64 : V.sts.length ≤ 3140 := few_orgs hj hA.ok hA.nd
  obtain ⟨hl1, hl2⟩ := uat_len hA (by simp)
  have hsm := fun O => same57 O ⟨[0, 1, 2], V.sts.length, V.mkl, V.eds⟩ (by simp [max63]) (by show V.mkl.length ≤ max63; simp only [max63]; omega) (by show V.eds.length ≤ max63; simp only [max63]; omega)
  have hvl : ∀ s ∈ V.sts, s.locs.length ≤ max63 ∧ s.vals.length ≤ max63 := fun s hs => by
    obtain ⟨h1, h2⟩ := jnt_vals hj.jn (hA.ok s hs)
    have := jnt_v16 hj.jn
    simp only [max63]
    omega
  clear hA hV
  obtain ⟨sts, mkl, eds⟩ := V
  have h64 : sts.length ≤ 3140 := h64
  refine aspecT_stop [] Tk Tryz.func3 rfl Tryz.call3 Tryz.ntmps3 (Nat.le_of_ble_eq_true rfl) fun E hE => ?_
  refine g_run Tk Tryz.func3 ?_
  refine g_callT Tk Tryz.func3 hE (hkn _) rfl rfl rfl rfl rfl rfl ?_
  repeat (first | refine g_cnd Tk Tryz.func3 rfl (fun _ => ?_) (fun h => absurd h (by decide)) | refine g_know Tk Tryz.func3 rfl (fun _ => ?_) (fun h => absurd h (by decide)) | refine s_know Tk (fun _ => ?_) (fun h => absurd h (by decide)) | refine g_cnd Tk Tryz.func3 rfl (fun h => absurd h (by decide)) (fun _ => ?_) | refine g_know Tk Tryz.func3 rfl (fun h => absurd h (by decide)) (fun _ => ?_) | refine s_know Tk (fun h => absurd h (by decide)) (fun _ => ?_) | refine g_cnd Tk Tryz.func3 rfl (fun _ => ?_) (fun h => absurd (show true = false from h) (by decide)) | refine g_know Tk Tryz.func3 rfl (fun _ => ?_) (fun h => absurd (show true = false from h) (by decide)) | refine s_know Tk (fun _ => ?_) (fun h => absurd (show true = false from h) (by decide)) | refine g_cnd Tk Tryz.func3 rfl (fun h => absurd (show false = true from h) (by decide)) (fun _ => ?_) | refine g_know Tk Tryz.func3 rfl (fun h => absurd (show false = true from h) (by decide)) (fun _ => ?_) | refine s_know Tk (fun h => absurd (show false = true from h) (by decide)) (fun _ => ?_))
  first | refine g_call Tk Tryz.func3 (hli _) rfl rfl rfl rfl rfl ?_ | refine s_callq Tk (fun _ => hli _) rfl rfl rfl ?_
  refine g_callT Tk Tryz.func3 hE (hjo _) rfl rfl rfl rfl rfl rfl ?_
  first | refine g_call Tk Tryz.func3 (hlw _) rfl rfl rfl rfl rfl ?_ | refine s_callq Tk (fun _ => hlw _) rfl rfl rfl ?_
  repeat (first | refine g_cnd Tk Tryz.func3 rfl (fun _ => ?_) (fun h => absurd h (by decide)) | refine g_know Tk Tryz.func3 rfl (fun _ => ?_) (fun h => absurd h (by decide)) | refine s_know Tk (fun _ => ?_) (fun h => absurd h (by decide)) | refine g_cnd Tk Tryz.func3 rfl (fun h => absurd h (by decide)) (fun _ => ?_) | refine g_know Tk Tryz.func3 rfl (fun h => absurd h (by decide)) (fun _ => ?_) | refine s_know Tk (fun h => absurd h (by decide)) (fun _ => ?_) | refine g_cnd Tk Tryz.func3 rfl (fun _ => ?_) (fun h => absurd (show true = false from h) (by decide)) | refine g_know Tk Tryz.func3 rfl (fun _ => ?_) (fun h => absurd (show true = false from h) (by decide)) | refine s_know Tk (fun _ => ?_) (fun h => absurd (show true = false from h) (by decide)) | refine g_cnd Tk Tryz.func3 rfl (fun h => absurd (show false = true from h) (by decide)) (fun _ => ?_) | refine g_know Tk Tryz.func3 rfl (fun h => absurd (show false = true from h) (by decide)) (fun _ => ?_) | refine s_know Tk (fun h => absurd (show false = true from h) (by decide)) (fun _ => ?_))
  first | refine g_call Tk Tryz.func3 (hsm _) rfl rfl rfl rfl rfl ?_ | refine s_callq Tk (fun _ => hsm _) rfl rfl rfl ?_
  repeat (first | refine g_cnd Tk Tryz.func3 rfl (fun _ => ?_) (fun h => absurd h (by decide)) | refine g_know Tk Tryz.func3 rfl (fun _ => ?_) (fun h => absurd h (by decide)) | refine s_know Tk (fun _ => ?_) (fun h => absurd h (by decide)) | refine g_cnd Tk Tryz.func3 rfl (fun h => absurd h (by decide)) (fun _ => ?_) | refine g_know Tk Tryz.func3 rfl (fun h => absurd h (by decide)) (fun _ => ?_) | refine s_know Tk (fun h => absurd h (by decide)) (fun _ => ?_) | refine g_cnd Tk Tryz.func3 rfl (fun _ => ?_) (fun h => absurd (show true = false from h) (by decide)) | refine g_know Tk Tryz.func3 rfl (fun _ => ?_) (fun h => absurd (show true = false from h) (by decide)) | refine s_know Tk (fun _ => ?_) (fun h => absurd (show true = false from h) (by decide)) | refine g_cnd Tk Tryz.func3 rfl (fun h => absurd (show false = true from h) (by decide)) (fun _ => ?_) | refine g_know Tk Tryz.func3 rfl (fun h => absurd (show false = true from h) (by decide)) (fun _ => ?_) | refine s_know Tk (fun h => absurd (show false = true from h) (by decide)) (fun _ => ?_))
  first | refine g_cnd Tk Tryz.func3 rfl (fun h1 => ?_) (fun h1 => ?_) | refine g_know Tk Tryz.func3 rfl (fun h1 => ?_) (fun h1 => ?_) | refine s_know Tk (fun h1 => ?_) (fun h1 => ?_)
  · exact absurd rfl (bneT h1)
  clear h1
  refine g_loop ?_
  refine rch_loop2 (fun i : Nat => [(7, orgsD sts), (10, orgsD sts), (12, ii i)]) (fun _ => []) (fun _ => O) 75
    (fun i => i ≤ sts.length) (fun i => sts.length - i) 0 (Nat.zero_le _) ⟨rfl, rfl, rfl, trivial⟩ rfl trivial rfl rfl ?_
  rintro i hi ih
  refine g_run Tk Tryz.func3 ?_
  first | refine g_cnd Tk Tryz.func3 rfl (fun g1 => ?_) (fun g1 => ?_) | refine g_know Tk Tryz.func3 rfl (fun g1 => ?_) (fun g1 => ?_) | refine s_know Tk (fun g1 => ?_) (fun g1 => ?_)
  · have h1 : i < sts.length := by simpa using g1
    clear g1
    have gs : (sts.map orgI)[(i : Int).toNat]? = some (orgI sts[i]) := get_mapZ h1
    have hv := hvl _ (List.getElem_mem h1)
    have h2 := fun O => sameO_refl O sts[i] hv.1 hv.2
    generalize sts[i] = s at *
    obtain ⟨sl, sv⟩ := s
    have n2 : 0 ≤ (i : Int) ∧ (i : Int) < (sts.length : Int) := by omega
    refine g_drawn Tk Tryz.func3 mixedT rfl ?_
    first | refine g_need Tk Tryz.func3 (n2) ?_ | refine s_need Tk (n2) ?_
    first | refine g_elem Tk Tryz.func3 (gs) ?_ | refine s_elem Tk (gs) ?_
    first | refine g_need Tk Tryz.func3 (n2) ?_ | refine s_need Tk (n2) ?_
    first | refine g_elem Tk Tryz.func3 (gs) ?_ | refine s_elem Tk (gs) ?_
    first | refine g_call Tk Tryz.func3 (h2 _) rfl rfl rfl rfl rfl ?_ | refine s_callq Tk (fun _ => h2 _) rfl rfl rfl ?_
    refine e_done Tk Tryz.func3 (by kernel_rfl) ?_
    repeat (first | refine g_cnd Tk Tryz.func3 rfl (fun _ => ?_) (fun h => absurd h (by decide)) | refine g_know Tk Tryz.func3 rfl (fun _ => ?_) (fun h => absurd h (by decide)) | refine s_know Tk (fun _ => ?_) (fun h => absurd h (by decide)) | refine g_cnd Tk Tryz.func3 rfl (fun h => absurd h (by decide)) (fun _ => ?_) | refine g_know Tk Tryz.func3 rfl (fun h => absurd h (by decide)) (fun _ => ?_) | refine s_know Tk (fun h => absurd h (by decide)) (fun _ => ?_) | refine g_cnd Tk Tryz.func3 rfl (fun _ => ?_) (fun h => absurd (show true = false from h) (by decide)) | refine g_know Tk Tryz.func3 rfl (fun _ => ?_) (fun h => absurd (show true = false from h) (by decide)) | refine s_know Tk (fun _ => ?_) (fun h => absurd (show true = false from h) (by decide)) | refine g_cnd Tk Tryz.func3 rfl (fun h => absurd (show false = true from h) (by decide)) (fun _ => ?_) | refine g_know Tk Tryz.func3 rfl (fun h => absurd (show false = true from h) (by decide)) (fun _ => ?_) | refine s_know Tk (fun h => absurd (show false = true from h) (by decide)) (fun _ => ?_))
    refine g_loop ?_
    exact ih (i + 1) _ _ h1 (by omega) ⟨rfl, rfl, congrArg ii (wsucc (n := 4096) (by omega) (by decide)), trivial⟩ rfl trivial rfl rfl
  · refine g_ret Tk (r := bb true) rfl rfl rfl trivial rfl rfl ?_
    rfl
end Go.AI
