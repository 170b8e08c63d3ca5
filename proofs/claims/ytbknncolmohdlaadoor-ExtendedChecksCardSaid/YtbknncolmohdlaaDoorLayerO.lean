/- The layer of abstract runs, part 15. -/
import Derived.Test.YtbknncolmohdlaaDoorLayerN
set_option linter.unusedSimpArgs false
set_option linter.unusedVariables false
set_option linter.all false
namespace Go.AI
open Go.Proofs
set_option maxRecDepth 20000
theorem stepR_len {m : Ext} {s : Sta} {ev : Int} (hr : extRight m) (h : okS m s) : (stepR m s ev).1.vals.length ≤ max63 := by
  cases hp : (stepR m s ev).2.1 with
  | true => exact okS_len hr (step_ok hr h hp)
  | false =>
    have : (stepR m s ev).1 = zeroS := by
      unfold stepR at hp ⊢
      split
      · rfl
      · split
        · rfl
        · split
          · rfl
          · split
            · rfl
            · simp_all
    rw [this]
    decide
set_option maxHeartbeats 4000000 in
theorem states7 {g : Nat} (hg : IsTab g) {ty : TypeId} {fr : Nat × Nat} (O : List Heap) (k : Sk) (s : Sta) (ev : Int) (hk : skOk k) (hsl : s.vals.length ≤ max63) : ASpecT g (ptab ty fr) Tryd.prog 7 [skD k, staD s, ii ev] O (bb true) [] O := by
  have hkn := fun O => known11 hg (ty := ty) (fr := fr) O
  have hmk := fun O => make16 O k hk
  have hm := make_made hk
  generalize makeR k = m at *
  have hok := made_ok hm
  have hr := made_right hm
  have h29 := fun O => state29 O m s hok.va
  rw [← ckS_eq (made_chk hm) s] at h29
  have h30 := fun O => marked30 O m s hok
  have h27 := fun O => enabled27 O m s hok
  have h31 := fun O => step31 O m s ev hok
  have h28 := fun O => checkState28 O m s hok
  have h32 := fun O => equalStates32 O s s hsl
  have hz := fun O => none26 O zeroS (by decide)
  by_cases hc : ckS m s ≠ 0
  · have e1 : markR m s = (false, ckS m s) := by unfold markR; rw [if_pos hc]
    have e2 : enR m s = ([], ckS m s) := by unfold enR; rw [if_pos hc]
    have e3 : stpR m s ev = (zeroS, false, ckS m s) := by unfold stpR; rw [if_pos hc]
    simp only [e1] at h30
    simp only [e2] at h27
    simp only [e3] at h31
    clear e1 e2 e3
    generalize ckS m s = c at *
    refine aspecT_stop [] TrydT_ok Tryd.func7 rfl Tryd.call7 Tryd.ntmps7 (Nat.le_of_ble_eq_true rfl) fun E hE => ?_
    refine g_run TrydT_ok Tryd.func7 ?_
    refine g_callT TrydT_ok Tryd.func7 hE (hkn _) rfl rfl rfl rfl rfl rfl ?_
    repeat (first | refine g_cnd TrydT_ok Tryd.func7 rfl (fun _ => ?_) (fun h => absurd h (by decide)) | refine g_cnd TrydT_ok Tryd.func7 rfl (fun h => absurd h (by decide)) (fun _ => ?_) | refine g_know TrydT_ok Tryd.func7 rfl (fun _ => ?_) (fun h => absurd h (by decide)) | refine g_know TrydT_ok Tryd.func7 rfl (fun h => absurd h (by decide)) (fun _ => ?_) | refine s_know TrydT_ok (fun _ => ?_) (fun h => absurd h (by decide)) | refine s_know TrydT_ok (fun h => absurd h (by decide)) (fun _ => ?_))
    first | refine g_cnd TrydT_ok Tryd.func7 rfl (fun h1 => ?_) (fun h1 => ?_) | refine g_know TrydT_ok Tryd.func7 rfl (fun h1 => ?_) (fun h1 => ?_) | refine s_know TrydT_ok (fun h1 => ?_) (fun h1 => ?_)
    · refine g_callT TrydT_ok Tryd.func7 hE (hkn _) rfl rfl rfl rfl rfl rfl ?_
      refine g_ret TrydT_ok (r := bb true) rfl rfl rfl trivial rfl rfl ?_
      rfl
    first | refine g_call TrydT_ok Tryd.func7 (hmk _) rfl rfl rfl rfl rfl ?_ | refine s_callq TrydT_ok (fun _ => hmk _) rfl rfl rfl ?_
    first | refine g_call TrydT_ok Tryd.func7 (h29 _) rfl rfl rfl rfl rfl ?_ | refine s_callq TrydT_ok (fun _ => h29 _) rfl rfl rfl ?_
    first | refine g_call TrydT_ok Tryd.func7 (h30 _) rfl rfl rfl rfl rfl ?_ | refine s_callq TrydT_ok (fun _ => h30 _) rfl rfl rfl ?_
    first | refine g_call TrydT_ok Tryd.func7 (h27 _) rfl rfl rfl rfl rfl ?_ | refine s_callq TrydT_ok (fun _ => h27 _) rfl rfl rfl ?_
    first | refine g_call TrydT_ok Tryd.func7 (h31 _) rfl rfl rfl rfl rfl ?_ | refine s_callq TrydT_ok (fun _ => h31 _) rfl rfl rfl ?_
    first | refine g_call TrydT_ok Tryd.func7 (h28 _) rfl rfl rfl rfl rfl ?_ | refine s_callq TrydT_ok (fun _ => h28 _) rfl rfl rfl ?_
    first | refine g_cnd TrydT_ok Tryd.func7 rfl (fun h2 => ?_) (fun h2 => ?_) | refine g_know TrydT_ok Tryd.func7 rfl (fun h2 => ?_) (fun h2 => ?_) | refine s_know TrydT_ok (fun h2 => ?_) (fun h2 => ?_)
    · exact absurd rfl (bneT h2)
    first | refine g_call TrydT_ok Tryd.func7 (h32 _) rfl rfl rfl rfl rfl ?_ | refine s_callq TrydT_ok (fun _ => h32 _) rfl rfl rfl ?_
    first | refine g_cnd TrydT_ok Tryd.func7 rfl (fun h3 => ?_) (fun h3 => ?_) | refine g_know TrydT_ok Tryd.func7 rfl (fun h3 => ?_) (fun h3 => ?_) | refine s_know TrydT_ok (fun h3 => ?_) (fun h3 => ?_)
    · exact absurd h3 (by simp)
    first | refine g_cnd TrydT_ok Tryd.func7 rfl (fun h4 => ?_) (fun h4 => ?_) | refine g_know TrydT_ok Tryd.func7 rfl (fun h4 => ?_) (fun h4 => ?_) | refine s_know TrydT_ok (fun h4 => ?_) (fun h4 => ?_)
    · repeat (first | refine g_cnd TrydT_ok Tryd.func7 rfl (fun _ => ?_) (fun h => absurd h (by decide)) | refine g_cnd TrydT_ok Tryd.func7 rfl (fun h => absurd h (by decide)) (fun _ => ?_) | refine g_know TrydT_ok Tryd.func7 rfl (fun _ => ?_) (fun h => absurd h (by decide)) | refine g_know TrydT_ok Tryd.func7 rfl (fun h => absurd h (by decide)) (fun _ => ?_) | refine s_know TrydT_ok (fun _ => ?_) (fun h => absurd h (by decide)) | refine s_know TrydT_ok (fun h => absurd h (by decide)) (fun _ => ?_))
      first | refine g_cnd TrydT_ok Tryd.func7 rfl (fun h5 => ?_) (fun h5 => ?_) | refine g_know TrydT_ok Tryd.func7 rfl (fun h5 => ?_) (fun h5 => ?_) | refine s_know TrydT_ok (fun h5 => ?_) (fun h5 => ?_)
      rotate_left
      · exact absurd h5 (by simp)
      repeat (first | refine g_cnd TrydT_ok Tryd.func7 rfl (fun _ => ?_) (fun h => absurd h (by decide)) | refine g_cnd TrydT_ok Tryd.func7 rfl (fun h => absurd h (by decide)) (fun _ => ?_) | refine g_know TrydT_ok Tryd.func7 rfl (fun _ => ?_) (fun h => absurd h (by decide)) | refine g_know TrydT_ok Tryd.func7 rfl (fun h => absurd h (by decide)) (fun _ => ?_) | refine s_know TrydT_ok (fun _ => ?_) (fun h => absurd h (by decide)) | refine s_know TrydT_ok (fun h => absurd h (by decide)) (fun _ => ?_))
      first | refine g_cnd TrydT_ok Tryd.func7 rfl (fun h6 => ?_) (fun h6 => ?_) | refine g_know TrydT_ok Tryd.func7 rfl (fun h6 => ?_) (fun h6 => ?_) | refine s_know TrydT_ok (fun h6 => ?_) (fun h6 => ?_)
      rotate_left
      · exact absurd h6 (by simp)
      first | refine g_call TrydT_ok Tryd.func7 (hz _) rfl rfl rfl rfl rfl ?_ | refine s_callq TrydT_ok (fun _ => hz _) rfl rfl rfl ?_
      repeat (first | refine g_cnd TrydT_ok Tryd.func7 rfl (fun _ => ?_) (fun h => absurd h (by decide)) | refine g_cnd TrydT_ok Tryd.func7 rfl (fun h => absurd h (by decide)) (fun _ => ?_) | refine g_know TrydT_ok Tryd.func7 rfl (fun _ => ?_) (fun h => absurd h (by decide)) | refine g_know TrydT_ok Tryd.func7 rfl (fun h => absurd h (by decide)) (fun _ => ?_) | refine s_know TrydT_ok (fun _ => ?_) (fun h => absurd h (by decide)) | refine s_know TrydT_ok (fun h => absurd h (by decide)) (fun _ => ?_))
      refine g_ret TrydT_ok (r := bb (c == c)) rfl rfl rfl trivial rfl rfl ?_
      simp
    · exact absurd (bneF h4) hc
  have hc : ckS m s = 0 := by simpa using hc
  obtain ⟨-, hvl, hvw, hl0, hl1⟩ := ckS_right hc
  have hvo : valsOk m s.vals := ⟨hvl, hvw⟩
  have hst := fun O ev => step25 O m s ev hm hvo
  have h24a := fun O => has24 O m.marked s.loc hok.ma
  have h24b := fun O => has24 O m.alpha ev hok.al
  have e1 : markR m s = (decide (s.loc ∈ m.marked), 0) := by unfold markR; rw [if_neg (by rw [hc]; simp)]
  have e2 : enR m s = enL m s m.alpha [] := by unfold enR; rw [if_neg (by rw [hc]; simp)]
  have e3 : stpR m s ev = if ev ∉ m.alpha then (zeroS, false, 9) else stepR m s ev := by unfold stpR; rw [if_neg (by rw [hc]; simp)]
  simp only [e1] at h30
  simp only [e2] at h27
  have hal := hok.al
  have hal3 : m.alpha.length = 3 := by rw [hm.al]; rfl
  generalize hEn : enL m s m.alpha [] = En at *
  obtain ⟨el, ee⟩ := En
  generalize stpR m s ev = Q at *
  obtain ⟨ps, pp, pe⟩ := Q
  generalize decide (s.loc ∈ m.marked) = is at *
  simp only [hc] at h28 h29
  clear e1 e2 hc
  simp only at h27 h31
  refine aspecT_stop [12, 20, 22] TrydT_ok Tryd.func7 rfl Tryd.call7 Tryd.ntmps7 (Nat.le_of_ble_eq_true rfl) fun E hE => ?_
  refine g_run TrydT_ok Tryd.func7 ?_
  refine g_callT TrydT_ok Tryd.func7 hE (hkn _) rfl rfl rfl rfl rfl rfl ?_
  repeat (first | refine g_cnd TrydT_ok Tryd.func7 rfl (fun _ => ?_) (fun h => absurd h (by decide)) | refine g_cnd TrydT_ok Tryd.func7 rfl (fun h => absurd h (by decide)) (fun _ => ?_) | refine g_know TrydT_ok Tryd.func7 rfl (fun _ => ?_) (fun h => absurd h (by decide)) | refine g_know TrydT_ok Tryd.func7 rfl (fun h => absurd h (by decide)) (fun _ => ?_) | refine s_know TrydT_ok (fun _ => ?_) (fun h => absurd h (by decide)) | refine s_know TrydT_ok (fun h => absurd h (by decide)) (fun _ => ?_))
  first | refine g_cnd TrydT_ok Tryd.func7 rfl (fun h1 => ?_) (fun h1 => ?_) | refine g_know TrydT_ok Tryd.func7 rfl (fun h1 => ?_) (fun h1 => ?_) | refine s_know TrydT_ok (fun h1 => ?_) (fun h1 => ?_)
  · refine g_callT TrydT_ok Tryd.func7 hE (hkn _) rfl rfl rfl rfl rfl rfl ?_
    refine g_ret TrydT_ok (r := bb true) rfl rfl rfl trivial rfl rfl ?_
    rfl
  first | refine g_call TrydT_ok Tryd.func7 (hmk _) rfl rfl rfl rfl rfl ?_ | refine s_callq TrydT_ok (fun _ => hmk _) rfl rfl rfl ?_
  first | refine g_call TrydT_ok Tryd.func7 (h29 _) rfl rfl rfl rfl rfl ?_ | refine s_callq TrydT_ok (fun _ => h29 _) rfl rfl rfl ?_
  first | refine g_call TrydT_ok Tryd.func7 (h30 _) rfl rfl rfl rfl rfl ?_ | refine s_callq TrydT_ok (fun _ => h30 _) rfl rfl rfl ?_
  first | refine g_call TrydT_ok Tryd.func7 (h27 _) rfl rfl rfl rfl rfl ?_ | refine s_callq TrydT_ok (fun _ => h27 _) rfl rfl rfl ?_
  first | refine g_call TrydT_ok Tryd.func7 (h31 _) rfl rfl rfl rfl rfl ?_ | refine s_callq TrydT_ok (fun _ => h31 _) rfl rfl rfl ?_
  first | refine g_call TrydT_ok Tryd.func7 (h28 _) rfl rfl rfl rfl rfl ?_ | refine s_callq TrydT_ok (fun _ => h28 _) rfl rfl rfl ?_
  repeat (first | refine g_cnd TrydT_ok Tryd.func7 rfl (fun _ => ?_) (fun h => absurd h (by decide)) | refine g_cnd TrydT_ok Tryd.func7 rfl (fun h => absurd h (by decide)) (fun _ => ?_) | refine g_know TrydT_ok Tryd.func7 rfl (fun _ => ?_) (fun h => absurd h (by decide)) | refine g_know TrydT_ok Tryd.func7 rfl (fun h => absurd h (by decide)) (fun _ => ?_) | refine s_know TrydT_ok (fun _ => ?_) (fun h => absurd h (by decide)) | refine s_know TrydT_ok (fun h => absurd h (by decide)) (fun _ => ?_))
  first | refine g_call TrydT_ok Tryd.func7 (h32 _) rfl rfl rfl rfl rfl ?_ | refine s_callq TrydT_ok (fun _ => h32 _) rfl rfl rfl ?_
  first | refine g_cnd TrydT_ok Tryd.func7 rfl (fun h3 => ?_) (fun h3 => ?_) | refine g_know TrydT_ok Tryd.func7 rfl (fun h3 => ?_) (fun h3 => ?_) | refine s_know TrydT_ok (fun h3 => ?_) (fun h3 => ?_)
  · exact absurd h3 (by simp)
  repeat (first | refine g_cnd TrydT_ok Tryd.func7 rfl (fun _ => ?_) (fun h => absurd h (by decide)) | refine g_cnd TrydT_ok Tryd.func7 rfl (fun h => absurd h (by decide)) (fun _ => ?_) | refine g_know TrydT_ok Tryd.func7 rfl (fun _ => ?_) (fun h => absurd h (by decide)) | refine g_know TrydT_ok Tryd.func7 rfl (fun h => absurd h (by decide)) (fun _ => ?_) | refine s_know TrydT_ok (fun _ => ?_) (fun h => absurd h (by decide)) | refine s_know TrydT_ok (fun h => absurd h (by decide)) (fun _ => ?_))
  refine g_stop ?_
  refine rch_meet (l := [(8, ii 0), (2, ii ev), (4, .own 0 4 0 0), (7, .own 0 7 0 0), (9, bb is), (10, ii 0), (11, ints el), (12, ii ee), (13, .own 0 13 0 0), (14, bb pp), (15, ii pe)]) (Hv := [(4, .box [ii s.loc, ints s.vals]), (7, .box (extC m)), (13, .box [ii ps.loc, ints ps.vals])]) (n := 205) ?_ ⟨rfl, rfl, rfl, rfl, rfl, rfl, rfl, rfl, rfl, rfl, rfl, trivial⟩ rfl ⟨rfl, rfl, rfl, trivial⟩ rfl rfl
  clear h28 h29 h30 h27 h31 h32 h1 h3 hkn hmk
  apply join_q (P := fun x : Int × List Int => x.2.length ≤ 3 ∧ if x.1 = 0 then el = x.2 ∧ ee = 0 else el = [] ∧ ee = x.1) (s6 := fun x : Int × List Int => { σ := [(8, ii x.1), (16, ints x.2), (2, ii ev), (4, .own 0 4 0 0), (7, .own 0 7 0 0), (9, bb is), (10, ii 0), (11, ints el), (12, ii ee), (13, .own 0 13 0 0), (14, bb pp), (15, ii pe)], S := [(4, .box [ii s.loc, ints s.vals]), (7, .box (extC m)), (13, .box [ii ps.loc, ints ps.vals])] :: O, n := 205 })
  · intro J
    refine g_run TrydT_ok Tryd.func7 ?_
    refine g_go TrydT_ok Tryd.func7 ?_
    refine g_loop ?_
    refine rch_wk (wk_nil 16 132 3 1 rfl rfl rfl) ?_
    refine rch_loop2 (fun x : Nat × List Int × Int => [(8, ii x.2.2), (16, .osl 0 132), (17, ii x.1), (2, ii ev), (4, .own 0 4 0 0), (7, .own 0 7 0 0), (9, bb is), (10, ii 0), (11, ints el), (12, ii ee), (13, .own 0 13 0 0), (14, bb pp), (15, ii pe)]) (fun x => [(132, oints x.2.1), (4, .box [ii s.loc, ints s.vals]), (7, .box (extC m)), (13, .box [ii ps.loc, ints ps.vals])]) (fun _ => O) 205
      (fun x => x.1 ≤ m.alpha.length ∧ x.2.1.length ≤ x.1 ∧ if x.2.2 = 0 then enL m s (m.alpha.drop x.1) x.2.1 = (el, ee) else el = [] ∧ ee = x.2.2) (fun x => m.alpha.length - x.1) (0, [], 0) ⟨Nat.zero_le _, Nat.le_refl _, by rw [if_pos rfl]; exact hEn⟩ ⟨rfl, rfl, rfl, rfl, rfl, rfl, rfl, rfl, rfl, rfl, rfl, rfl, rfl, trivial⟩ rfl ⟨rfl, rfl, rfl, rfl, trivial⟩ rfl rfl ?_
    rintro ⟨i, acc, want⟩ ⟨hi, hacc, hno⟩ ih
    simp only at hi hacc hno

    refine g_run TrydT_ok Tryd.func7 ?_
    first | refine g_cnd TrydT_ok Tryd.func7 rfl (fun g1 => ?_) (fun g1 => ?_) | refine g_know TrydT_ok Tryd.func7 rfl (fun g1 => ?_) (fun g1 => ?_) | refine s_know TrydT_ok (fun g1 => ?_) (fun g1 => ?_)
    · have h1 : i < m.alpha.length := by simpa using g1
      clear g1
      first | refine g_cnd TrydT_ok Tryd.func7 rfl (fun g2 => ?_) (fun g2 => ?_) | refine g_know TrydT_ok Tryd.func7 rfl (fun g2 => ?_) (fun g2 => ?_) | refine s_know TrydT_ok (fun g2 => ?_) (fun g2 => ?_)
      · have h2 : want = 0 := beqT g2
        clear g2
        subst h2
        rw [if_pos rfl] at hno
        have hd : m.alpha.drop i = m.alpha[i] :: m.alpha.drop (i + 1) := List.drop_eq_getElem_cons h1
        have hg : (m.alpha.map fun x => [vi x])[(i : Int).toNat]? = some [vi m.alpha[i]] := get_mapZ (f := fun x => [vi x]) h1
        generalize m.alpha[i] = e at hd hg
        rw [hd] at hno
        simp only [enL] at hno
        have hst := fun O => hst O e
        have hse := @stepR_err m s e
        generalize stepR m s e = q at *
        obtain ⟨⟨ql, qv⟩, qp, qe⟩ := q
        simp only at hst hse hno
        refine g_drawn TrydT_ok Tryd.func7 mixedT rfl ?_
        first | refine g_need TrydT_ok Tryd.func7 (by exact ⟨by omega, by show (i : Int) < (m.alpha.length : Int); omega⟩) ?_ | refine s_need TrydT_ok (by exact ⟨by omega, by show (i : Int) < (m.alpha.length : Int); omega⟩) ?_
        first | refine g_elem TrydT_ok Tryd.func7 (hg) ?_ | refine s_elem TrydT_ok (hg) ?_
        first | refine g_call TrydT_ok Tryd.func7 (hst _) rfl rfl rfl rfl rfl ?_ | refine s_callq TrydT_ok (fun _ => hst _) rfl rfl rfl ?_
        refine s_put TrydT_ok rfl rfl rfl ?_
        refine e_done TrydT_ok Tryd.func7 (by kernel_rfl) ?_
        cases qp with
        | true =>
          have hqe : qe = 0 := by
            apply Classical.byContradiction
            intro h
            exact absurd (hse h).2 (by simp)
          subst hqe
          rw [if_neg (by simp)] at hno
          first | refine g_cnd TrydT_ok Tryd.func7 rfl (fun h4 => ?_) (fun h4 => ?_) | refine g_know TrydT_ok Tryd.func7 rfl (fun h4 => ?_) (fun h4 => ?_) | refine s_know TrydT_ok (fun h4 => ?_) (fun h4 => ?_)
          rotate_left
          · exact absurd h4 (by simp)
          first | refine g_need TrydT_ok Tryd.func7 (by exact ⟨by omega, by show (i : Int) < (m.alpha.length : Int); omega⟩) ?_ | refine s_need TrydT_ok (by exact ⟨by omega, by show (i : Int) < (m.alpha.length : Int); omega⟩) ?_
          first | refine g_elem TrydT_ok Tryd.func7 (hg) ?_ | refine s_elem TrydT_ok (hg) ?_
          first | refine g_need TrydT_ok Tryd.func7 (by exact ⟨by show (acc.length + 1) * 8 ≤ 140737488355328; omega, by show acc.length + 1 ≤ 9223372036854775807; omega⟩) ?_ | refine s_need TrydT_ok (by exact ⟨by show (acc.length + 1) * 8 ≤ 140737488355328; omega, by show acc.length + 1 ≤ 9223372036854775807; omega⟩) ?_
          refine g_loop ?_
          refine ih (i + 1, acc ++ [e], 0) _ _ ⟨h1, by simp only [List.length_append, List.length_singleton]; omega, by rw [if_pos rfl]; exact hno⟩ (by simp only; omega) ⟨rfl, rfl, congrArg ii (wsucc h1 hal), rfl, rfl, rfl, rfl, rfl, rfl, rfl, rfl, rfl, rfl, trivial⟩ rfl ⟨congrArg some (oints_app acc e), rfl, rfl, rfl, trivial⟩ rfl rfl
        | false =>
          first | refine g_cnd TrydT_ok Tryd.func7 rfl (fun h4 => ?_) (fun h4 => ?_) | refine g_know TrydT_ok Tryd.func7 rfl (fun h4 => ?_) (fun h4 => ?_) | refine s_know TrydT_ok (fun h4 => ?_) (fun h4 => ?_)
          · exact absurd h4 (by simp)
          refine g_loop ?_
          refine ih (i + 1, acc, qe) _ _ ⟨h1, by simp only; omega, ?_⟩ (by simp only; omega) ⟨rfl, rfl, congrArg ii (wsucc h1 hal), rfl, rfl, rfl, rfl, rfl, rfl, rfl, rfl, rfl, rfl, trivial⟩ rfl ⟨rfl, rfl, rfl, rfl, trivial⟩ rfl rfl
          by_cases hq : qe = 0
          · subst hq
            rw [if_neg (by simp)] at hno
            rw [if_pos rfl]
            exact hno
          · rw [if_pos hq] at hno
            rw [if_neg hq]
            simp only [Prod.mk.injEq] at hno
            exact ⟨hno.1.symm, hno.2.symm⟩
      · have h2 : want ≠ 0 := beqF g2
        clear g2
        rw [if_neg h2] at hno
        repeat (first | refine g_cnd TrydT_ok Tryd.func7 rfl (fun _ => ?_) (fun h => absurd h (by decide)) | refine g_cnd TrydT_ok Tryd.func7 rfl (fun h => absurd h (by decide)) (fun _ => ?_) | refine g_know TrydT_ok Tryd.func7 rfl (fun _ => ?_) (fun h => absurd h (by decide)) | refine g_know TrydT_ok Tryd.func7 rfl (fun h => absurd h (by decide)) (fun _ => ?_) | refine s_know TrydT_ok (fun _ => ?_) (fun h => absurd h (by decide)) | refine s_know TrydT_ok (fun h => absurd h (by decide)) (fun _ => ?_))
        refine g_stop ?_
        refine rch_wk (wk_freeze 132 rfl rfl) ?_
        refine rch_wk (wk_imm rfl) ?_
        exact rch_meet (J (want, acc) ⟨by simp only; omega, by rw [if_neg h2]; exact hno⟩) ⟨rfl, rfl, rfl, rfl, rfl, rfl, rfl, rfl, rfl, rfl, rfl, rfl, trivial⟩ rfl ⟨rfl, rfl, rfl, trivial⟩ rfl rfl
    · have h1 : m.alpha.length ≤ i := by simpa using g1
      clear g1
      rw [List.drop_eq_nil_of_le h1] at hno
      simp only [enL] at hno
      repeat (first | refine g_cnd TrydT_ok Tryd.func7 rfl (fun _ => ?_) (fun h => absurd h (by decide)) | refine g_cnd TrydT_ok Tryd.func7 rfl (fun h => absurd h (by decide)) (fun _ => ?_) | refine g_know TrydT_ok Tryd.func7 rfl (fun _ => ?_) (fun h => absurd h (by decide)) | refine g_know TrydT_ok Tryd.func7 rfl (fun h => absurd h (by decide)) (fun _ => ?_) | refine s_know TrydT_ok (fun _ => ?_) (fun h => absurd h (by decide)) | refine s_know TrydT_ok (fun h => absurd h (by decide)) (fun _ => ?_))
      refine g_stop ?_
      refine rch_wk (wk_freeze 132 rfl rfl) ?_
      refine rch_wk (wk_imm rfl) ?_
      refine rch_meet (J (want, acc) ⟨by simp only; omega, ?_⟩) ⟨rfl, rfl, rfl, rfl, rfl, rfl, rfl, rfl, rfl, rfl, rfl, rfl, trivial⟩ rfl ⟨rfl, rfl, rfl, trivial⟩ rfl rfl
      simp only
      split
      · rename_i hw
        rw [if_pos hw] at hno
        simp only [Prod.mk.injEq] at hno
        exact ⟨hno.1.symm, hno.2.symm⟩
      · rename_i hw
        rw [if_neg hw] at hno
        exact hno
  · rintro ⟨want, acc⟩ ⟨hal4, hP⟩
    simp only at hP hal4
    refine rch_meet (l := [(8, ii want), (16, ints acc), (2, ii ev), (4, .own 0 4 0 0), (7, .own 0 7 0 0), (9, bb is), (10, ii 0), (11, ints el), (12, ii ee), (13, .own 0 13 0 0), (14, bb pp), (15, ii pe)]) (Hv := [(4, .box [ii s.loc, ints s.vals]), (7, .box (extC m)), (13, .box [ii ps.loc, ints ps.vals])]) (n := 205) ?_ ⟨rfl, rfl, rfl, rfl, rfl, rfl, rfl, rfl, rfl, rfl, rfl, rfl, trivial⟩ rfl ⟨rfl, rfl, rfl, trivial⟩ rfl rfl
    have hw := fun O => wordEqual19 O acc acc (by simp only [max63]; omega)
    apply join_p (P := True) (s6 := { σ := [(2, ii ev), (4, .own 0 4 0 0), (7, .own 0 7 0 0), (13, .own 0 13 0 0), (14, bb pp), (15, ii pe)], S := [(4, .box [ii s.loc, ints s.vals]), (7, .box (extC m)), (13, .box [ii ps.loc, ints ps.vals])] :: O, n := 205 })
    · intro J
      refine g_run TrydT_ok Tryd.func7 ?_
      refine g_go TrydT_ok Tryd.func7 ?_
      first | refine g_call TrydT_ok Tryd.func7 (h24a _) rfl rfl rfl rfl rfl ?_ | refine s_callq TrydT_ok (fun _ => h24a _) rfl rfl rfl ?_
      first | refine g_cnd TrydT_ok Tryd.func7 rfl (fun h1 => ?_) (fun h1 => ?_) | refine g_know TrydT_ok Tryd.func7 rfl (fun h1 => ?_) (fun h1 => ?_) | refine s_know TrydT_ok (fun h1 => ?_) (fun h1 => ?_)
      · exact absurd h1 (by simp)
      repeat (first | refine g_cnd TrydT_ok Tryd.func7 rfl (fun _ => ?_) (fun h => absurd h (by decide)) | refine g_cnd TrydT_ok Tryd.func7 rfl (fun h => absurd h (by decide)) (fun _ => ?_) | refine g_know TrydT_ok Tryd.func7 rfl (fun _ => ?_) (fun h => absurd h (by decide)) | refine g_know TrydT_ok Tryd.func7 rfl (fun h => absurd h (by decide)) (fun _ => ?_) | refine s_know TrydT_ok (fun _ => ?_) (fun h => absurd h (by decide)) | refine s_know TrydT_ok (fun h => absurd h (by decide)) (fun _ => ?_))
      by_cases hw0 : want = 0
      · subst hw0
        rw [if_pos rfl] at hP
        obtain ⟨rfl, rfl⟩ := hP
        repeat (first | refine g_cnd TrydT_ok Tryd.func7 rfl (fun _ => ?_) (fun h => absurd h (by decide)) | refine g_cnd TrydT_ok Tryd.func7 rfl (fun h => absurd h (by decide)) (fun _ => ?_) | refine g_know TrydT_ok Tryd.func7 rfl (fun _ => ?_) (fun h => absurd h (by decide)) | refine g_know TrydT_ok Tryd.func7 rfl (fun h => absurd h (by decide)) (fun _ => ?_) | refine s_know TrydT_ok (fun _ => ?_) (fun h => absurd h (by decide)) | refine s_know TrydT_ok (fun h => absurd h (by decide)) (fun _ => ?_))
        first | refine g_call TrydT_ok Tryd.func7 (hw _) rfl rfl rfl rfl rfl ?_ | refine s_callq TrydT_ok (fun _ => hw _) rfl rfl rfl ?_
        first | refine g_cnd TrydT_ok Tryd.func7 rfl (fun h2 => ?_) (fun h2 => ?_) | refine g_know TrydT_ok Tryd.func7 rfl (fun h2 => ?_) (fun h2 => ?_) | refine s_know TrydT_ok (fun h2 => ?_) (fun h2 => ?_)
        · exact absurd h2 (by simp)
        repeat (first | refine g_cnd TrydT_ok Tryd.func7 rfl (fun _ => ?_) (fun h => absurd h (by decide)) | refine g_cnd TrydT_ok Tryd.func7 rfl (fun h => absurd h (by decide)) (fun _ => ?_) | refine g_know TrydT_ok Tryd.func7 rfl (fun _ => ?_) (fun h => absurd h (by decide)) | refine g_know TrydT_ok Tryd.func7 rfl (fun h => absurd h (by decide)) (fun _ => ?_) | refine s_know TrydT_ok (fun _ => ?_) (fun h => absurd h (by decide)) | refine s_know TrydT_ok (fun h => absurd h (by decide)) (fun _ => ?_))
        refine g_stop ?_
        refine rch_meet (J trivial) ⟨rfl, rfl, rfl, rfl, rfl, rfl, trivial⟩ rfl ⟨rfl, rfl, rfl, trivial⟩ rfl rfl
      · rw [if_neg hw0] at hP
        obtain ⟨rfl, rfl⟩ := hP
        first | refine g_cnd TrydT_ok Tryd.func7 rfl (fun h2 => ?_) (fun h2 => ?_) | refine g_know TrydT_ok Tryd.func7 rfl (fun h2 => ?_) (fun h2 => ?_) | refine s_know TrydT_ok (fun h2 => ?_) (fun h2 => ?_)
        · exact absurd h2 (by simp)
        first | refine g_cnd TrydT_ok Tryd.func7 rfl (fun h3 => ?_) (fun h3 => ?_) | refine g_know TrydT_ok Tryd.func7 rfl (fun h3 => ?_) (fun h3 => ?_) | refine s_know TrydT_ok (fun h3 => ?_) (fun h3 => ?_)
        · exact absurd (beqT h3) hw0
        repeat (first | refine g_cnd TrydT_ok Tryd.func7 rfl (fun _ => ?_) (fun h => absurd h (by decide)) | refine g_cnd TrydT_ok Tryd.func7 rfl (fun h => absurd h (by decide)) (fun _ => ?_) | refine g_know TrydT_ok Tryd.func7 rfl (fun _ => ?_) (fun h => absurd h (by decide)) | refine g_know TrydT_ok Tryd.func7 rfl (fun h => absurd h (by decide)) (fun _ => ?_) | refine s_know TrydT_ok (fun _ => ?_) (fun h => absurd h (by decide)) | refine s_know TrydT_ok (fun h => absurd h (by decide)) (fun _ => ?_))
        first | refine g_cnd TrydT_ok Tryd.func7 rfl (fun h4 => ?_) (fun h4 => ?_) | refine g_know TrydT_ok Tryd.func7 rfl (fun h4 => ?_) (fun h4 => ?_) | refine s_know TrydT_ok (fun h4 => ?_) (fun h4 => ?_)
        rotate_left
        · exact absurd (bneF h4) hw0
        repeat (first | refine g_cnd TrydT_ok Tryd.func7 rfl (fun _ => ?_) (fun h => absurd h (by decide)) | refine g_cnd TrydT_ok Tryd.func7 rfl (fun h => absurd h (by decide)) (fun _ => ?_) | refine g_know TrydT_ok Tryd.func7 rfl (fun _ => ?_) (fun h => absurd h (by decide)) | refine g_know TrydT_ok Tryd.func7 rfl (fun h => absurd h (by decide)) (fun _ => ?_) | refine s_know TrydT_ok (fun _ => ?_) (fun h => absurd h (by decide)) | refine s_know TrydT_ok (fun h => absurd h (by decide)) (fun _ => ?_))
        refine g_stop ?_
        refine rch_meet (J trivial) ⟨rfl, rfl, rfl, rfl, rfl, rfl, trivial⟩ rfl ⟨rfl, rfl, rfl, trivial⟩ rfl rfl
    · intro _
      refine g_run TrydT_ok Tryd.func7 ?_
      refine g_go TrydT_ok Tryd.func7 ?_
      first | refine g_call TrydT_ok Tryd.func7 (h24b _) rfl rfl rfl rfl rfl ?_ | refine s_callq TrydT_ok (fun _ => h24b _) rfl rfl rfl ?_
      first | refine g_cnd TrydT_ok Tryd.func7 rfl (fun h1 => ?_) (fun h1 => ?_) | refine g_know TrydT_ok Tryd.func7 rfl (fun h1 => ?_) (fun h1 => ?_) | refine s_know TrydT_ok (fun h1 => ?_) (fun h1 => ?_)
      · have h1 : ev ∉ m.alpha := by simpa using h1
        rw [if_pos h1] at e3
        simp only [Prod.mk.injEq] at e3
        obtain ⟨rfl, rfl, rfl⟩ := e3
        first | refine g_call TrydT_ok Tryd.func7 (hz _) rfl rfl rfl rfl rfl ?_ | refine s_callq TrydT_ok (fun _ => hz _) rfl rfl rfl ?_
        repeat (first | refine g_cnd TrydT_ok Tryd.func7 rfl (fun _ => ?_) (fun h => absurd h (by decide)) | refine g_cnd TrydT_ok Tryd.func7 rfl (fun h => absurd h (by decide)) (fun _ => ?_) | refine g_know TrydT_ok Tryd.func7 rfl (fun _ => ?_) (fun h => absurd h (by decide)) | refine g_know TrydT_ok Tryd.func7 rfl (fun h => absurd h (by decide)) (fun _ => ?_) | refine s_know TrydT_ok (fun _ => ?_) (fun h => absurd h (by decide)) | refine s_know TrydT_ok (fun h => absurd h (by decide)) (fun _ => ?_))
        refine g_ret TrydT_ok (r := bb true) rfl rfl rfl trivial rfl rfl ?_
        rfl
      · have h1 : ev ∈ m.alpha := by simpa using h1
        rw [if_neg (by simpa using h1)] at e3
        have hst := fun O => hst O ev
        rw [← e3] at hst
        have hso := @step_ok m s ev hr ⟨⟨hl0, hl1⟩, hvw⟩
        have hsz := @stepR_len m s ev hr ⟨⟨hl0, hl1⟩, hvw⟩
        rw [← e3] at hsz
        have hsm := fun O => same22 O ps ps hsz
        first | refine g_call TrydT_ok Tryd.func7 (hst _) rfl rfl rfl rfl rfl ?_ | refine s_callq TrydT_ok (fun _ => hst _) rfl rfl rfl ?_
        first | refine g_call TrydT_ok Tryd.func7 (hsm _) rfl rfl rfl rfl rfl ?_ | refine s_callq TrydT_ok (fun _ => hsm _) rfl rfl rfl ?_
        first | refine g_cnd TrydT_ok Tryd.func7 rfl (fun h2 => ?_) (fun h2 => ?_) | refine g_know TrydT_ok Tryd.func7 rfl (fun h2 => ?_) (fun h2 => ?_) | refine s_know TrydT_ok (fun h2 => ?_) (fun h2 => ?_)
        rotate_left
        · exact absurd h2 (by simp)
        first | refine g_cnd TrydT_ok Tryd.func7 rfl (fun h3 => ?_) (fun h3 => ?_) | refine g_know TrydT_ok Tryd.func7 rfl (fun h3 => ?_) (fun h3 => ?_) | refine s_know TrydT_ok (fun h3 => ?_) (fun h3 => ?_)
        rotate_left
        · exact absurd h3 (by simp)
        refine g_ret TrydT_ok (r := bb (pe == pe)) rfl rfl rfl trivial rfl rfl ?_
        simp
end Go.AI

namespace Go.AI
open Go.Proofs
set_option maxRecDepth 20000
/-- A word; none is a nil slice. -/
def wI (w : List Int) : I := match w with
  | [] => .v (.slice none 0 0)
  | _ :: _ => intsI w
abbrev runI (r : List Int × Sta) : List I := [wI r.1, vi r.2.loc, intsI r.2.vals]
abbrev runsD (l : List (List Int × Sta)) : D := .i (.sl 3 l.length (l.map runI))
abbrev oruns (l : List (List Int × Sta)) : Ob := .arr 57 3 l.length (l.map runI) true
theorem oruns_app (l : List (List Int × Sta)) (r : List Int × Sta) : Ob.arr 57 3 (l.length + 1) (l.map runI ++ [runI r]) true = oruns (l ++ [r]) := by simp
theorem wI_app (w : List Int) (e : Int) : wI (w ++ [e]) = intsI (w ++ [e]) := by cases w <;> rfl
def s1Of (qe : Int) (i : Nat) (ev : Int) (S : Srch) : Srch := if qe ≠ 0 ∧ S.kind = 0 then ⟨S.sts, S.frm, ((i : Int), ev), qe⟩ else S
theorem s1_sts (qe : Int) (i : Nat) (ev : Int) (S : Srch) : (s1Of qe i ev S).sts = S.sts ∧ (s1Of qe i ev S).frm = S.frm := by
  unfold s1Of
  split <;> exact ⟨rfl, rfl⟩
theorem s1_inv {m : Ext} {S : Srch} (hI : Inv5 m S) {i : Nat} (hi : i < S.sts.length) (qe ev : Int) : Inv5 m (s1Of qe i ev S) := by
  unfold s1Of
  split
  · exact ⟨⟨hI.lk.len, hI.lk.frm, by simp only; omega, hI.lk.most⟩, hI.ok, hI.nd, fun _ => by simp only; omega⟩
  · exact hI
theorem s1_rs (qe : Int) (i : Nat) (ev : Int) (S : Srch) : rsOf (s1Of qe i ev S) = rsOf S := by
  unfold s1Of
  split <;> rfl
theorem s1_bad {m : Ext} {S : Srch} (hI : Inv5 m S) {i : Nat} (hi : i < S.sts.length) (qe ev : Int) : badOf (s1Of qe i ev S) = if qe ≠ 0 ∧ S.kind = 0 then wd S i ++ [ev] else badOf S := by
  unfold s1Of
  split
  · rename_i h
    unfold badOf
    simp only
    rw [if_neg h.1]
    exact bad_new hI hi
  · rfl
theorem s1_kind (qe : Int) (i : Nat) (ev : Int) (S : Srch) : (s1Of qe i ev S).kind = if qe ≠ 0 ∧ S.kind = 0 then qe else S.kind := by
  unfold s1Of
  split <;> rfl
theorem vt_eq (m : Ext) (i : Nat) (s : Sta) (ev : Int) (S : Srch) : vt m i s ev S = if (stepR m s ev).2.1 = false ∨ (stepR m s ev).1 ∈ S.sts then s1Of (stepR m s ev).2.2 i ev S else ⟨S.sts ++ [(stepR m s ev).1], S.frm ++ [((i : Int), ev)], (s1Of (stepR m s ev).2.2 i ev S).flt, (s1Of (stepR m s ev).2.2 i ev S).kind⟩ := by
  unfold vt s1Of
  simp only
  split
  · split <;> rfl
  · split <;> rfl
set_option maxHeartbeats 4000000 in
theorem reach17 (O : List Heap) (m : Ext) (F : Srch) (hm : made m) (hF : searchR m = some F) : ASpec Tryd.prog 17 [extD m] O (.tup [runsD (rsOf F), ints (badOf F), ii F.kind]) [] O := by
  have hok := made_ok hm
  have hr := made_right hm
  have hv16 : m.vars.length ≤ 16 := by have := hm.vl; omega
  have hal := hok.al
  have hst := fun O => start23 O m hv16
  refine aspec_stop [11, 12, 14, 20] TrydT_ok Tryd.func17 rfl Tryd.call17 Tryd.ntmps17 (Nat.le_of_ble_eq_true rfl) fun E => ?_
  refine g_run TrydT_ok Tryd.func17 ?_
  first | refine g_call TrydT_ok Tryd.func17 (hst _) rfl rfl rfl rfl rfl ?_ | refine s_callq TrydT_ok (fun _ => hst _) rfl rfl rfl ?_
  refine g_loop ?_
  refine rch_wk (wk_ren 19 96 rfl rfl rfl) ?_
  refine rch_wk (wk_co 6 (d := ints []) (by exact coD_i coI_nil)) ?_
  refine rch_loop2 (fun x : Nat × Srch => [(1, .own 0 1 0 0), (5, .osl 0 96), (6, ints (badOf x.2)), (7, ii x.2.kind), (8, ii x.1)]) (fun x => [(1, .box (extC m)), (96, oruns (rsOf x.2))]) (fun _ => O) 100
    (fun x => x.1 ≤ x.2.sts.length ∧ Inv5 m x.2 ∧ some F = searchL m (4097 - x.1) x.1 x.2) (fun x => 4097 - x.1) (0, search0 m) ⟨Nat.zero_le _, inv0 hm, hF.symm⟩ ⟨rfl, rfl, rfl, rfl, rfl, trivial⟩ rfl ⟨rfl, rfl, trivial⟩ rfl rfl ?_
  rintro ⟨i, S⟩ ⟨hi, hI, hno⟩ ih
  simp only at hi hI hno
  have hlen := few_states hm hI.ok hI.nd
  have hrl := rsOf_len S
  refine g_run TrydT_ok Tryd.func17 ?_
  first | refine g_cnd TrydT_ok Tryd.func17 rfl (fun g1 => ?_) (fun g1 => ?_) | refine g_know TrydT_ok Tryd.func17 rfl (fun g1 => ?_) (fun g1 => ?_) | refine s_know TrydT_ok (fun g1 => ?_) (fun g1 => ?_)
  · have h1 : i < S.sts.length := by have : (i : Int) < ((rsOf S).length : Int) := of_decide_eq_true g1; omega
    clear g1
    have hsi : S.sts[i]? = some S.sts[i] := List.getElem?_eq_getElem h1
    have hoks := hI.ok _ (List.getElem_mem h1)
    generalize S.sts[i] = si at hsi hoks
    obtain ⟨v1, v2, v3⟩ := vts_inv (i := i) hm hoks m.alpha hI h1
    have hno : some F = searchL m (4097 - (i + 1)) (i + 1) (m.alpha.foldl (fun S ev => vt m i si ev S) S) := by
      rw [hno, show 4097 - i = (4097 - (i + 1)) + 1 by omega]
      simp only [searchL, hsi, v1]
    clear v1
    refine g_loop ?_
    refine rch_loop2 (fun x : Nat × Srch => [(1, .own 0 1 0 0), (5, .osl 0 96), (6, ints (badOf x.2)), (7, ii x.2.kind), (8, ii i), (9, ii x.1)]) (fun x => [(1, .box (extC m)), (96, oruns (rsOf x.2))]) (fun _ => O) 100
      (fun x => x.1 ≤ m.alpha.length ∧ Inv5 m x.2 ∧ S.sts.length ≤ x.2.sts.length ∧ x.2.sts[i]? = some si ∧ m.alpha.foldl (fun S ev => vt m i si ev S) S = (m.alpha.drop x.1).foldl (fun S ev => vt m i si ev S) x.2) (fun x => m.alpha.length - x.1) (0, S)
      ⟨Nat.zero_le _, hI, Nat.le_refl _, hsi, rfl⟩ ⟨rfl, rfl, rfl, rfl, rfl, rfl, trivial⟩ rfl ⟨rfl, rfl, trivial⟩ rfl rfl ?_
    rintro ⟨j, S'⟩ ⟨hj, hI', hmon, hsi', hvis⟩ ih2
    simp only at hj hI' hmon hsi' hvis
    clear hI hlen hrl hsi
    refine g_run TrydT_ok Tryd.func17 ?_
    first | refine g_cnd TrydT_ok Tryd.func17 rfl (fun g2 => ?_) (fun g2 => ?_) | refine g_know TrydT_ok Tryd.func17 rfl (fun g2 => ?_) (fun g2 => ?_) | refine s_know TrydT_ok (fun g2 => ?_) (fun g2 => ?_)
    · have h2 : j < m.alpha.length := by simpa using g2
      clear g2
      have hd : m.alpha.drop j = m.alpha[j] :: m.alpha.drop (j + 1) := List.drop_eq_getElem_cons h2
      have hgj : (m.alpha.map fun x => [vi x])[(j : Int).toNat]? = some [vi m.alpha[j]] := get_mapZ (f := fun x => [vi x]) h2
      generalize m.alpha[j] = ev at hd hgj
      rw [hd, List.foldl_cons] at hvis
      have hil : i < S'.sts.length := by omega
      have hlen := few_states hm hI'.ok hI'.nd
      have hrl := rsOf_len S'
      have hgi : ((rsOf S').map runI)[(i : Int).toNat]? = some [wI (wd S' i), vi si.loc, intsI si.vals] := by
        rw [Int.toNat_natCast, List.getElem?_map, rsOf_get hil]
        rw [List.getElem?_eq_getElem hil] at hsi'
        simp only [Option.some.injEq] at hsi'
        rw [hsi']
        rfl
      have hbi : 0 ≤ (i : Int) ∧ (i : Int) < ((rsOf S').length : Int) := by omega
      have hbj : 0 ≤ (j : Int) ∧ (j : Int) < (m.alpha.length : Int) := by omega
      have hwl : (wd S' i).length ≤ 5000 := by
        unfold wd
        rw [List.length_reverse]
        exact back_len _ _ _
      obtain ⟨hvi, hvm⟩ := vt_inv hm (i := i) (ev := ev) hI' hoks hil
      have hveq := vt_eq m i si ev S'
      have hstep := fun O => step25 O m si ev hm (okS_vals hr hoks)
      have hsl := @stepR_len m si ev hr hoks
      have h1i := s1_inv hI' hil (stepR m si ev).2.2 ev
      have h1b := s1_bad hI' hil (stepR m si ev).2.2 ev
      have h1k := s1_kind (stepR m si ev).2.2 i ev S'
      have h1r := s1_rs (stepR m si ev).2.2 i ev S'
      have h1s := s1_sts (stepR m si ev).2.2 i ev S'
      generalize stepR m si ev = q at *
      obtain ⟨nx, qp, qe⟩ := q
      simp only at hveq hstep hsl h1i h1b h1k h1r h1s
      generalize s1Of qe i ev S' = S1 at *
      generalize hvt : vt m i si ev S' = V at *
      obtain ⟨W, hW⟩ : ∃ W, W = wd S' i := ⟨_, rfl⟩
      rw [← hW] at hgi hwl h1b
      apply join_p (P := True) (s6 := { σ := [(1, .own 0 1 0 0), (5, .osl 0 96), (6, ints (badOf S')), (7, ii S'.kind), (8, ii i), (9, ii j), (10, .osl 0 46)], S := [(1, .box (extC m)), (96, oruns (rsOf S')), (46, oints (W ++ [ev]))] :: O, n := 100 })
      · intro J
        refine g_drawn TrydT_ok Tryd.func17 mixedT rfl ?_
        first | refine g_need TrydT_ok Tryd.func17 (by exact hbi) ?_ | refine s_need TrydT_ok (by exact hbi) ?_
        cases W with
        | nil =>
          first | refine g_elem TrydT_ok Tryd.func17 (hgi) ?_ | refine s_elem TrydT_ok (hgi) ?_
          refine s_old TrydT_ok ?_
          refine d_need TrydT_ok (by exact ⟨by decide, by decide⟩) ?_
          refine d_mod TrydT_ok (p := ⟨[(39, .osl 0 39), (33, .dead)], [(39, .arr 3 1 (0 + 0) ([] ++ []) true)], some 33⟩) rfl rfl rfl ?_
          refine d_need TrydT_ok (by exact hbj) ?_
          refine d_elem TrydT_ok hgj ?_
          refine d_need TrydT_ok (by exact ⟨by decide, by decide⟩) ?_
          refine d_mod TrydT_ok (p := ⟨[(46, .osl 0 46), (39, .dead)], [(46, .arr 3 1 (0 + 0 + 1) ([] ++ [] ++ [[vi ev]]) true)], some 39⟩) rfl rfl rfl ?_
          refine d_done TrydT_ok Tryd.func17 (by kernel_rfl) (GM.h ?_)
          refine g_stop ?_
          refine rch_meet (J trivial) ⟨rfl, rfl, rfl, rfl, rfl, rfl, rfl, trivial⟩ rfl ⟨rfl, rfl, rfl, trivial⟩ rfl rfl
        | cons a r =>
          first | refine g_elem TrydT_ok Tryd.func17 (hgi) ?_ | refine s_elem TrydT_ok (hgi) ?_
          refine s_old TrydT_ok ?_
          refine d_need TrydT_ok (by exact ⟨by show (0 + (a :: r).length) * 8 ≤ 140737488355328; omega, by show 0 + (a :: r).length ≤ 9223372036854775807; omega⟩) ?_
          refine d_mod TrydT_ok (p := ⟨[(39, .osl 0 39), (33, .dead)], [(39, .arr 3 1 (0 + (a :: r).length) ([] ++ (a :: r).map fun x => [vi x]) true)], some 33⟩) rfl rfl rfl ?_
          refine d_need TrydT_ok (by exact hbj) ?_
          refine d_elem TrydT_ok hgj ?_
          refine d_need TrydT_ok (by exact ⟨by show (0 + (a :: r).length + 1) * 8 ≤ 140737488355328; omega, by show 0 + (a :: r).length + 1 ≤ 9223372036854775807; omega⟩) ?_
          refine d_mod TrydT_ok (p := ⟨[(46, .osl 0 46), (39, .dead)], [(46, .arr 3 1 (0 + (a :: r).length + 1) ([] ++ ((a :: r).map fun x => [vi x]) ++ [[vi ev]]) true)], some 39⟩) rfl rfl rfl ?_
          refine d_done TrydT_ok Tryd.func17 (by kernel_rfl) (GM.h ?_)
          refine g_stop ?_
          refine rch_meet (J trivial) ⟨rfl, rfl, rfl, rfl, rfl, rfl, rfl, trivial⟩ rfl ⟨rfl, rfl, ?_, trivial⟩ rfl rfl
          show some (Ob.arr 3 1 (0 + (a :: r).length + 1) ([] ++ ((a :: r).map fun x => [vi x]) ++ [[vi ev]]) true) = _
          rw [Nat.zero_add, List.nil_append]
          exact congrArg some (oints_app (a :: r) ev)
      · intro _
        refine g_run TrydT_ok Tryd.func17 ?_
        refine g_go TrydT_ok Tryd.func17 ?_
        refine g_drawn TrydT_ok Tryd.func17 mixedT rfl ?_
        first | refine g_need TrydT_ok Tryd.func17 (by exact hbi) ?_ | refine s_need TrydT_ok (by exact hbi) ?_
        first | refine g_elem TrydT_ok Tryd.func17 (hgi) ?_ | refine s_elem TrydT_ok (hgi) ?_
        first | refine g_need TrydT_ok Tryd.func17 (by exact hbj) ?_ | refine s_need TrydT_ok (by exact hbj) ?_
        first | refine g_elem TrydT_ok Tryd.func17 (hgj) ?_ | refine s_elem TrydT_ok (hgj) ?_
        first | refine g_call TrydT_ok Tryd.func17 (hstep _) rfl rfl rfl rfl rfl ?_ | refine s_callq TrydT_ok (fun _ => hstep _) rfl rfl rfl ?_
        refine s_put TrydT_ok rfl rfl rfl ?_
        refine e_done TrydT_ok Tryd.func17 (by kernel_rfl) ?_
        refine g_stop ?_
        refine rch_wk (wk_freeze 46 rfl rfl) ?_
        refine rch_wk (wk_imm rfl) ?_
        refine rch_meet (l := [(10, ints (W ++ [ev])), (11, .own 0 11 0 0), (12, bb qp), (13, ii qe), (1, .own 0 1 0 0), (5, .osl 0 96), (6, ints (badOf S')), (7, ii S'.kind), (8, ii i), (9, ii j)]) (Hv := [(11, .box [ii nx.loc, ints nx.vals]), (1, .box (extC m)), (96, oruns (rsOf S'))]) (n := 100) ?_ ⟨rfl, rfl, rfl, rfl, rfl, rfl, rfl, rfl, rfl, rfl, trivial⟩ rfl ⟨rfl, rfl, rfl, trivial⟩ rfl rfl
        apply join_p (P := True) (s6 := { σ := [(10, ints (W ++ [ev])), (11, .own 0 11 0 0), (12, bb qp), (1, .own 0 1 0 0), (5, .osl 0 96), (6, ints (badOf S1)), (7, ii S1.kind), (8, ii i), (9, ii j)], S := [(11, .box [ii nx.loc, ints nx.vals]), (1, .box (extC m)), (96, oruns (rsOf S'))] :: O, n := 100 })
        · intro J
          refine g_run TrydT_ok Tryd.func17 ?_
          refine g_go TrydT_ok Tryd.func17 ?_
          first | refine g_cnd TrydT_ok Tryd.func17 rfl (fun h3 => ?_) (fun h3 => ?_) | refine g_know TrydT_ok Tryd.func17 rfl (fun h3 => ?_) (fun h3 => ?_) | refine s_know TrydT_ok (fun h3 => ?_) (fun h3 => ?_)
          · have h3 := bneT h3
            first | refine g_cnd TrydT_ok Tryd.func17 rfl (fun h4 => ?_) (fun h4 => ?_) | refine g_know TrydT_ok Tryd.func17 rfl (fun h4 => ?_) (fun h4 => ?_) | refine s_know TrydT_ok (fun h4 => ?_) (fun h4 => ?_)
            · have h4 := beqT h4
              rw [if_pos ⟨h3, h4⟩] at h1b h1k
              refine g_stop ?_
              exact rch_meet (J trivial) ⟨rfl, rfl, rfl, rfl, rfl, by rw [h1b]; rfl, by rw [h1k]; rfl, rfl, rfl, trivial⟩ rfl ⟨rfl, rfl, rfl, trivial⟩ rfl rfl
            · have h4 := beqF h4
              rw [if_neg (fun h => h4 h.2)] at h1b h1k
              refine g_stop ?_
              exact rch_meet (J trivial) ⟨rfl, rfl, rfl, rfl, rfl, by rw [h1b]; rfl, by rw [h1k]; rfl, rfl, rfl, trivial⟩ rfl ⟨rfl, rfl, rfl, trivial⟩ rfl rfl
          · have h3 := bneF h3
            rw [if_neg (fun h => h.1 h3)] at h1b h1k
            repeat (first | refine g_cnd TrydT_ok Tryd.func17 rfl (fun _ => ?_) (fun h => absurd h (by decide)) | refine g_cnd TrydT_ok Tryd.func17 rfl (fun h => absurd h (by decide)) (fun _ => ?_) | refine g_know TrydT_ok Tryd.func17 rfl (fun _ => ?_) (fun h => absurd h (by decide)) | refine g_know TrydT_ok Tryd.func17 rfl (fun h => absurd h (by decide)) (fun _ => ?_) | refine s_know TrydT_ok (fun _ => ?_) (fun h => absurd h (by decide)) | refine s_know TrydT_ok (fun h => absurd h (by decide)) (fun _ => ?_))
            refine g_stop ?_
            exact rch_meet (J trivial) ⟨rfl, rfl, rfl, rfl, rfl, by rw [h1b]; rfl, by rw [h1k]; rfl, rfl, rfl, trivial⟩ rfl ⟨rfl, rfl, rfl, trivial⟩ rfl rfl
        · intro _
          clear h1b h1k
          cases qp with
          | false =>
            rw [if_pos (.inl rfl)] at hveq
            subst hveq
            refine g_run TrydT_ok Tryd.func17 ?_
            refine g_go TrydT_ok Tryd.func17 ?_
            first | refine g_cnd TrydT_ok Tryd.func17 rfl (fun h3 => ?_) (fun h3 => ?_) | refine g_know TrydT_ok Tryd.func17 rfl (fun h3 => ?_) (fun h3 => ?_) | refine s_know TrydT_ok (fun h3 => ?_) (fun h3 => ?_)
            rotate_left
            · exact absurd h3 (by simp)
            refine g_loop ?_
            exact ih2 (j + 1, V) _ _ ⟨h2, hvi, by simp only; omega, by rw [h1s.1]; exact hsi', hvis⟩ (by simp only; omega) ⟨rfl, rfl, rfl, rfl, rfl, congrArg ii (wsucc h2 hal), trivial⟩ rfl ⟨rfl, by rw [h1r]; rfl, trivial⟩ rfl rfl
          | true =>
            refine g_run TrydT_ok Tryd.func17 ?_
            refine g_go TrydT_ok Tryd.func17 ?_
            first | refine g_cnd TrydT_ok Tryd.func17 rfl (fun h3 => ?_) (fun h3 => ?_) | refine g_know TrydT_ok Tryd.func17 rfl (fun h3 => ?_) (fun h3 => ?_) | refine s_know TrydT_ok (fun h3 => ?_) (fun h3 => ?_)
            · exact absurd h3 (by simp)
            refine g_loop ?_
            refine rch_loop2 (fun x : Nat × Bool => [(10, ints (W ++ [ev])), (11, .own 0 11 0 0), (1, .own 0 1 0 0), (5, .osl 0 96), (6, ints (badOf S1)), (7, ii S1.kind), (8, ii i), (9, ii j), (14, bb x.2), (15, ii x.1)]) (fun _ => [(11, .box [ii nx.loc, ints nx.vals]), (1, .box (extC m)), (96, oruns (rsOf S'))]) (fun _ => O) 100
              (fun x => x.1 ≤ S'.sts.length ∧ S'.sts.any (fun t => decide (t = nx)) = (x.2 || (S'.sts.drop x.1).any (fun t => decide (t = nx)))) (fun x => S'.sts.length - x.1) (0, false) ⟨Nat.zero_le _, by simp⟩ ⟨rfl, rfl, rfl, rfl, rfl, rfl, rfl, rfl, rfl, rfl, trivial⟩ rfl ⟨rfl, rfl, rfl, trivial⟩ rfl rfl ?_
            rintro ⟨x, b⟩ ⟨hx, hb⟩ ih3
            simp only at hx hb
            refine g_run TrydT_ok Tryd.func17 ?_
            first | refine g_cnd TrydT_ok Tryd.func17 rfl (fun g3 => ?_) (fun g3 => ?_) | refine g_know TrydT_ok Tryd.func17 rfl (fun g3 => ?_) (fun g3 => ?_) | refine s_know TrydT_ok (fun g3 => ?_) (fun g3 => ?_)
            · have h4 : x < S'.sts.length := by have : (x : Int) < ((rsOf S').length : Int) := of_decide_eq_true g3; omega
              clear g3
              have hdx : S'.sts.drop x = S'.sts[x] :: S'.sts.drop (x + 1) := List.drop_eq_getElem_cons h4
              have hgx : ((rsOf S').map runI)[(x : Int).toNat]? = some (runI (wd S' x, S'.sts[x])) := by
                rw [Int.toNat_natCast, List.getElem?_map, rsOf_get h4]
                rfl
              have hokx := hI'.ok _ (List.getElem_mem h4)
              generalize S'.sts[x] = tx at *
              have hsm := fun O => same22 O tx nx (okS_len hr hokx)
              rw [hdx, List.any_cons] at hb
              have hbx : 0 ≤ (x : Int) ∧ (x : Int) < ((rsOf S').length : Int) := by omega
              refine g_drawn TrydT_ok Tryd.func17 mixedT rfl ?_
              cases b with
              | true =>
                first | refine g_cnd TrydT_ok Tryd.func17 rfl (fun h5 => ?_) (fun h5 => ?_) | refine g_know TrydT_ok Tryd.func17 rfl (fun h5 => ?_) (fun h5 => ?_) | refine s_know TrydT_ok (fun h5 => ?_) (fun h5 => ?_)
                rotate_left
                · exact absurd h5 (by simp)
                refine e_done TrydT_ok Tryd.func17 (by kernel_rfl) ?_
                refine g_loop ?_
                exact ih3 (x + 1, true) _ _ ⟨h4, by rw [hb]; simp⟩ (by simp only; omega) ⟨rfl, rfl, rfl, rfl, rfl, rfl, rfl, rfl, rfl, congrArg ii (wsucc (n := 64) (by omega) (by decide)), trivial⟩ rfl ⟨rfl, rfl, rfl, trivial⟩ rfl rfl
              | false =>
                first | refine g_cnd TrydT_ok Tryd.func17 rfl (fun h5 => ?_) (fun h5 => ?_) | refine g_know TrydT_ok Tryd.func17 rfl (fun h5 => ?_) (fun h5 => ?_) | refine s_know TrydT_ok (fun h5 => ?_) (fun h5 => ?_)
                · exact absurd h5 (by simp)
                first | refine g_need TrydT_ok Tryd.func17 (by exact hbx) ?_ | refine s_need TrydT_ok (by exact hbx) ?_
                first | refine g_elem TrydT_ok Tryd.func17 (hgx) ?_ | refine s_elem TrydT_ok (hgx) ?_
                first | refine g_call TrydT_ok Tryd.func17 (hsm _) rfl rfl rfl rfl rfl ?_ | refine s_callq TrydT_ok (fun _ => hsm _) rfl rfl rfl ?_
                refine e_done TrydT_ok Tryd.func17 (by kernel_rfl) ?_
                refine g_loop ?_
                exact ih3 (x + 1, decide (tx = nx)) _ _ ⟨h4, by rw [hb]; simp⟩ (by simp only; omega) ⟨rfl, rfl, rfl, rfl, rfl, rfl, rfl, rfl, rfl, congrArg ii (wsucc (n := 64) (by omega) (by decide)), trivial⟩ rfl ⟨rfl, rfl, rfl, trivial⟩ rfl rfl
            · have h4 : S'.sts.length ≤ x := by
                have : ¬ (x : Int) < ((rsOf S').length : Int) := of_decide_eq_false g3
                omega
              clear g3 ih3
              rw [List.drop_eq_nil_of_le h4, List.any_nil, Bool.or_false] at hb
              have hmem : b = true ↔ nx ∈ S'.sts := by
                rw [← hb, List.any_eq_true]
                constructor
                · rintro ⟨t, ht, e⟩
                  have := of_decide_eq_true e
                  subst this
                  exact ht
                · intro h
                  exact ⟨nx, h, decide_eq_true rfl⟩
              refine g_stop ?_
              refine g_run TrydT_ok Tryd.func17 ?_
              refine g_go TrydT_ok Tryd.func17 ?_
              cases b with
              | true =>
                rw [if_pos (.inr (hmem.1 rfl))] at hveq
                subst hveq
                first | refine g_cnd TrydT_ok Tryd.func17 rfl (fun h5 => ?_) (fun h5 => ?_) | refine g_know TrydT_ok Tryd.func17 rfl (fun h5 => ?_) (fun h5 => ?_) | refine s_know TrydT_ok (fun h5 => ?_) (fun h5 => ?_)
                · exact absurd h5 (by simp)
                refine g_loop ?_
                exact ih2 (j + 1, V) _ _ ⟨h2, hvi, by simp only; omega, by rw [h1s.1]; exact hsi', hvis⟩ (by simp only; omega) ⟨rfl, rfl, rfl, rfl, rfl, congrArg ii (wsucc h2 hal), trivial⟩ rfl ⟨rfl, by rw [h1r]; rfl, trivial⟩ rfl rfl
              | false =>
                have hnm : ¬ nx ∈ S'.sts := fun h => by have := hmem.2 h; cases this
                rw [if_neg (by rintro (h | h); cases h; exact hnm h)] at hveq
                first | refine g_cnd TrydT_ok Tryd.func17 rfl (fun h5 => ?_) (fun h5 => ?_) | refine g_know TrydT_ok Tryd.func17 rfl (fun h5 => ?_) (fun h5 => ?_) | refine s_know TrydT_ok (fun h5 => ?_) (fun h5 => ?_)
                rotate_left
                · exact absurd h5 (by simp)
                first | refine g_need TrydT_ok Tryd.func17 (by exact ⟨by show ((rsOf S').length + 1) * 56 ≤ 140737488355328; omega, by show (rsOf S').length + 1 ≤ 9223372036854775807; omega⟩) ?_ | refine s_need TrydT_ok (by exact ⟨by show ((rsOf S').length + 1) * 56 ≤ 140737488355328; omega, by show (rsOf S').length + 1 ≤ 9223372036854775807; omega⟩) ?_
                refine g_loop ?_
                have hbV : badOf V = badOf S1 := by
                  have hba := bad_app h1i (x := ((i : Int), ev))
                  rw [h1s.2] at hba
                  rw [hveq]
                  unfold badOf
                  simp only
                  rw [hba, h1s.2]
                have hkV : V.kind = S1.kind := by rw [hveq]
                have hrV : rsOf V = rsOf S' ++ [(W ++ [ev], nx)] := by
                  rw [hveq, rs_app hI' hil, hW]
                refine ih2 (j + 1, V) _ _ ⟨h2, hvi, by simp only; omega, ?_, hvis⟩ (by simp only; omega) ⟨rfl, rfl, by rw [hbV]; rfl, by rw [hkV]; rfl, rfl, congrArg ii (wsucc h2 hal), trivial⟩ rfl ⟨rfl, ?_, trivial⟩ rfl rfl
                · rw [hveq]
                  show (S'.sts ++ [nx])[i]? = some si
                  rw [List.getElem?_append_left hil]
                  exact hsi'
                · rw [hrV]
                  have hw := wI_app W ev
                  show some (Ob.arr 57 3 ((rsOf S').length + 1) ((rsOf S').map runI ++ [[.sl 1 (W ++ [ev]).length ((W ++ [ev]).map fun x => [vi x]), vi nx.loc, intsI nx.vals]]) true) = some (oruns (rsOf S' ++ [(W ++ [ev], nx)]))
                  rw [← oruns_app]
                  show _ = some (Ob.arr 57 3 ((rsOf S').length + 1) ((rsOf S').map runI ++ [[wI (W ++ [ev]), vi nx.loc, intsI nx.vals]]) true)
                  rw [hw]
    · have h2 : m.alpha.length ≤ j := by simpa using g2
      clear g2 ih2
      rw [List.drop_eq_nil_of_le h2] at hvis
      simp only [List.foldl_nil] at hvis
      rw [hvis] at hno
      refine g_loop ?_
      exact ih (i + 1, S') _ _ ⟨by simp only; omega, hI', hno⟩ (by have := few_states hm hI'.ok hI'.nd; simp only; omega) ⟨rfl, rfl, rfl, rfl, congrArg ii (wsucc (n := 64) (by have := few_states hm hI'.ok hI'.nd; omega) (by decide)), trivial⟩ rfl ⟨rfl, rfl, trivial⟩ rfl rfl
  · have h1 : S.sts.length ≤ i := by
      have : ¬ (i : Int) < ((rsOf S).length : Int) := of_decide_eq_false g1
      omega
    rw [searchL_done h1] at hno
    simp only [Option.some.injEq] at hno
    subst hno
    refine g_rwk (wk_freeze 96 rfl rfl) ?_
    refine g_ret TrydT_ok (r := .tup [runsD (rsOf F), ints (badOf F), ii F.kind]) rfl rfl rfl trivial rfl rfl ?_
    rfl
end Go.AI

namespace Go.AI
open Go.Proofs
set_option maxRecDepth 20000
theorem ostas_app' (l : List Sta) (s : Sta) : Ob.arr 55 2 (l.length + 1) (l.map staI ++ [staI s]) true = ostas (l ++ [s]) := by simp
theorem made_reach {m : Ext} (hm : made m) {F : Srch} (hF : searchR m = some F) : reachR m = (F.sts, 0) := by
  unfold reachR
  rw [if_neg (by rw [made_chk hm]; simp), hF]
theorem made_fault {m : Ext} (hm : made m) {F : Srch} (hF : searchR m = some F) : faultR m = (badOf F, decide (F.kind ≠ 0), F.kind, 0) := by
  unfold faultR badOf
  rw [if_neg (by rw [made_chk hm]; simp), hF]
  simp only
  by_cases h : F.kind = 0
  · rw [if_pos h, if_pos h, h]; rfl
  · rw [if_neg h, if_neg h, decide_eq_true h]
theorem badOf_len (F : Srch) : (badOf F).length ≤ max63 := by
  unfold badOf
  split
  · simp [max63]
  · rw [List.length_reverse]
    exact Nat.le_trans (back_len _ _ _) (by decide)
theorem reaches4 {g : Nat} (hg : IsTab g) {ty : TypeId} {fr : Nat × Nat} (O : List Heap) (k : Sk) (hk : skOk k) : ASpecT g (ptab ty fr) Tryd.prog 4 [skD k] O (bb true) [] O := by
  have hkn := fun O => known11 hg (ty := ty) (fr := fr) O
  have hmk := fun O => make16 O k hk
  have hm := make_made hk
  generalize makeR k = m at *
  have hok := made_ok hm
  have hr := made_right hm
  obtain ⟨F, hF, hI⟩ := made_search hm
  have h14 := fun O => reach14 hg (ty := ty) (fr := fr) O m hok
  rw [made_reach hm hF] at h14
  have h15 := fun O => fault15 hg (ty := ty) (fr := fr) O m hok
  rw [made_fault hm hF] at h15
  have h17 := fun O => reach17 O m F hm hF
  have hlen := few_states hm hI.ok hI.nd
  have hrl := rsOf_len F
  have hsnd := rsOf_snd F
  have hss := fun O => sameStates18 O F.sts F.sts (by simp only [max63]; omega) (fun s hs => okS_len hr (hI.ok s hs))
  have hwe := fun O => wordEqual19 O (badOf F) (badOf F) (badOf_len F)
  simp only at h14 h15
  generalize badOf F = B at *
  generalize rsOf F = RS at *
  generalize F.kind = K at *
  generalize F.sts = ST at *
  refine aspecT_stop [7, 12] TrydT_ok Tryd.func4 rfl Tryd.call4 Tryd.ntmps4 (Nat.le_of_ble_eq_true rfl) fun E hE => ?_
  refine g_run TrydT_ok Tryd.func4 ?_
  refine g_callT TrydT_ok Tryd.func4 hE (hkn _) rfl rfl rfl rfl rfl rfl ?_
  repeat (first | refine g_cnd TrydT_ok Tryd.func4 rfl (fun _ => ?_) (fun h => absurd h (by decide)) | refine g_cnd TrydT_ok Tryd.func4 rfl (fun h => absurd h (by decide)) (fun _ => ?_) | refine g_know TrydT_ok Tryd.func4 rfl (fun _ => ?_) (fun h => absurd h (by decide)) | refine g_know TrydT_ok Tryd.func4 rfl (fun h => absurd h (by decide)) (fun _ => ?_) | refine s_know TrydT_ok (fun _ => ?_) (fun h => absurd h (by decide)) | refine s_know TrydT_ok (fun h => absurd h (by decide)) (fun _ => ?_))
  first | refine g_call TrydT_ok Tryd.func4 (hmk _) rfl rfl rfl rfl rfl ?_ | refine s_callq TrydT_ok (fun _ => hmk _) rfl rfl rfl ?_
  refine g_callT TrydT_ok Tryd.func4 hE (h14 _) rfl rfl rfl rfl rfl rfl ?_
  refine g_callT TrydT_ok Tryd.func4 hE (h15 _) rfl rfl rfl rfl rfl rfl ?_
  first | refine g_call TrydT_ok Tryd.func4 (h17 _) rfl rfl rfl rfl rfl ?_ | refine s_callq TrydT_ok (fun _ => h17 _) rfl rfl rfl ?_
  refine g_stop ?_
  refine rch_meet (l := [(4, stasD ST), (5, ii 0), (6, ints B), (7, bb (decide (K ≠ 0))), (8, ii K), (9, ii 0), (10, runsD RS), (11, ints B), (12, ii K)]) (Hv := []) (n := 78) ?_ ⟨rfl, rfl, rfl, rfl, rfl, rfl, rfl, rfl, rfl, trivial⟩ rfl trivial rfl rfl
  refine g_run TrydT_ok Tryd.func4 ?_
  refine g_go TrydT_ok Tryd.func4 ?_
  refine g_loop ?_
  refine rch_wk (wk_nil 13 50 55 2 rfl rfl rfl) ?_
  refine rch_loop2 (fun i : Nat => [(4, stasD ST), (5, ii 0), (6, ints B), (7, bb (decide (K ≠ 0))), (8, ii K), (9, ii 0), (10, runsD RS), (11, ints B), (12, ii K), (13, .osl 0 50), (14, ii i)]) (fun i => [(50, ostas ((RS.take i).map (·.2)))]) (fun _ => O) 78
    (fun i => i ≤ RS.length) (fun i => RS.length - i) 0 (Nat.zero_le _) ⟨rfl, rfl, rfl, rfl, rfl, rfl, rfl, rfl, rfl, rfl, rfl, trivial⟩ rfl ⟨rfl, trivial⟩ rfl rfl ?_
  intro i hi ih
  have hi : i ≤ RS.length := hi
  refine g_run TrydT_ok Tryd.func4 ?_
  first | refine g_cnd TrydT_ok Tryd.func4 rfl (fun g1 => ?_) (fun g1 => ?_) | refine g_know TrydT_ok Tryd.func4 rfl (fun g1 => ?_) (fun g1 => ?_) | refine s_know TrydT_ok (fun g1 => ?_) (fun g1 => ?_)
  · have h1 : i < RS.length := by simpa using g1
    clear g1
    have hg : (RS.map runI)[(i : Int).toNat]? = some (runI RS[i]) := get_mapZ h1
    have e : (RS.take (i + 1)).map (·.2) = (RS.take i).map (·.2) ++ [RS[i].2] := take_map_succ h1
    have hl : ((RS.take i).map (·.2)).length = i := by simp; omega
    generalize RS[i] = r at *
    generalize (RS.take i).map (·.2) = acc at *
    first | refine g_need TrydT_ok Tryd.func4 (by exact ⟨by omega, by show (i : Int) < (RS.length : Int); omega⟩) ?_ | refine s_need TrydT_ok (by exact ⟨by omega, by show (i : Int) < (RS.length : Int); omega⟩) ?_
    first | refine g_elem TrydT_ok Tryd.func4 (hg) ?_ | refine s_elem TrydT_ok (hg) ?_
    first | refine g_need TrydT_ok Tryd.func4 (by exact ⟨by show (acc.length + 1) * 32 ≤ 140737488355328; omega, by show acc.length + 1 ≤ 9223372036854775807; omega⟩) ?_ | refine s_need TrydT_ok (by exact ⟨by show (acc.length + 1) * 32 ≤ 140737488355328; omega, by show acc.length + 1 ≤ 9223372036854775807; omega⟩) ?_
    refine g_loop ?_
    refine ih (i + 1) _ _ h1 (by omega) ⟨rfl, rfl, rfl, rfl, rfl, rfl, rfl, rfl, rfl, rfl, congrArg ii (wsucc (n := 64) (by omega) (by decide)), trivial⟩ rfl ⟨?_, trivial⟩ rfl rfl
    rw [e]
    exact congrArg some (ostas_app' acc r.2)
  · have h1 : RS.length ≤ i := by simpa using g1
    clear g1 ih
    rw [List.take_of_length_le h1, hsnd]
    refine g_stop ?_
    refine rch_wk (wk_freeze 50 rfl rfl) ?_
    refine rch_wk (wk_imm rfl) ?_
    refine g_run TrydT_ok Tryd.func4 ?_
    refine g_go TrydT_ok Tryd.func4 ?_
    first | refine g_call TrydT_ok Tryd.func4 (hss _) rfl rfl rfl rfl rfl ?_ | refine s_callq TrydT_ok (fun _ => hss _) rfl rfl rfl ?_
    first | refine g_cnd TrydT_ok Tryd.func4 rfl (fun h2 => ?_) (fun h2 => ?_) | refine g_know TrydT_ok Tryd.func4 rfl (fun h2 => ?_) (fun h2 => ?_) | refine s_know TrydT_ok (fun h2 => ?_) (fun h2 => ?_)
    rotate_left
    · exact absurd h2 (by simp)
    repeat (first | refine g_cnd TrydT_ok Tryd.func4 rfl (fun _ => ?_) (fun h => absurd h (by decide)) | refine g_cnd TrydT_ok Tryd.func4 rfl (fun h => absurd h (by decide)) (fun _ => ?_) | refine g_know TrydT_ok Tryd.func4 rfl (fun _ => ?_) (fun h => absurd h (by decide)) | refine g_know TrydT_ok Tryd.func4 rfl (fun h => absurd h (by decide)) (fun _ => ?_) | refine s_know TrydT_ok (fun _ => ?_) (fun h => absurd h (by decide)) | refine s_know TrydT_ok (fun h => absurd h (by decide)) (fun _ => ?_))
    first | refine g_call TrydT_ok Tryd.func4 (hwe _) rfl rfl rfl rfl rfl ?_ | refine s_callq TrydT_ok (fun _ => hwe _) rfl rfl rfl ?_
    first | refine g_cnd TrydT_ok Tryd.func4 rfl (fun h3 => ?_) (fun h3 => ?_) | refine g_know TrydT_ok Tryd.func4 rfl (fun h3 => ?_) (fun h3 => ?_) | refine s_know TrydT_ok (fun h3 => ?_) (fun h3 => ?_)
    rotate_left
    · exact absurd h3 (by simp)
    first | refine g_cnd TrydT_ok Tryd.func4 rfl (fun h4 => ?_) (fun h4 => ?_) | refine g_know TrydT_ok Tryd.func4 rfl (fun h4 => ?_) (fun h4 => ?_) | refine s_know TrydT_ok (fun h4 => ?_) (fun h4 => ?_)
    rotate_left
    · exact absurd h4 (by by_cases h : K = 0 <;> simp [h])
    first | refine g_cnd TrydT_ok Tryd.func4 rfl (fun h5 => ?_) (fun h5 => ?_) | refine g_know TrydT_ok Tryd.func4 rfl (fun h5 => ?_) (fun h5 => ?_) | refine s_know TrydT_ok (fun h5 => ?_) (fun h5 => ?_)
    rotate_left
    · exact absurd h5 (by simp)
    refine g_ret TrydT_ok (r := bb true) rfl rfl rfl trivial rfl rfl ?_
    rfl
end Go.AI

namespace Go.AI
open Go.Proofs
set_option maxRecDepth 20000
/-- A word leads to a state. -/
structure Leads (m : Ext) (w : List Int) (s : Sta) : Prop where
  run : ∀ r n, runL m (w ++ r) (startR m) n = runL m r s (n + w.length)
  let' : ∀ e ∈ w, e ∈ m.alpha
theorem Leads.nil (m : Ext) : Leads m [] (startR m) := ⟨fun r n => by simp, by simp⟩
theorem Leads.snoc {m : Ext} {w : List Int} {s : Sta} {ev : Int} (h : Leads m w s) (he : ev ∈ m.alpha) (h0 : (stepR m s ev).2.2 = 0) (hp : (stepR m s ev).2.1 = true) : Leads m (w ++ [ev]) (stepR m s ev).1 := by
  refine ⟨fun r n => ?_, fun e h' => ?_⟩
  · rw [List.append_assoc, h.run, List.singleton_append]
    simp only [runL]
    rw [if_neg (by rw [h0]; simp), if_neg (by rw [hp]; simp)]
    congr 1
    simp only [List.length_append, List.length_singleton]
    omega
  · rcases List.mem_append.1 h' with h' | h'
    · exact h.let' e h'
    · simp only [List.mem_singleton] at h'
      subst h'
      exact he
theorem possible_ok {m : Ext} {s : Sta} {ev : Int} (h : (stepR m s ev).2.1 = true) : (stepR m s ev).2.2 = 0 := by
  apply Classical.byContradiction
  intro hc
  have := (stepR_err hc).2
  rw [h] at this; cases this
/-- What is known of words and the fault. -/
structure Inv6 (m : Ext) (S : Srch) : Prop where
  w : ∀ k (h : k < S.sts.length), Leads m (wd S k) S.sts[k]
  f : S.kind ≠ 0 → ∃ (k : Nat) (ev : Int), S.flt = ((k : Int), ev) ∧ ev ∈ m.alpha ∧ ∃ h : k < S.sts.length, (stepR m S.sts[k] ev).2.2 = S.kind
theorem s1_wd (qe : Int) (i : Nat) (ev : Int) (S : Srch) (k : Nat) : wd (s1Of qe i ev S) k = wd S k := by
  unfold s1Of
  split <;> rfl
theorem vt6 {m : Ext} (hm : made m) {i : Nat} {s : Sta} {ev : Int} {S : Srch} (hI : Inv5 m S) (h6 : Inv6 m S) (hs : S.sts[i]? = some s) (hev : ev ∈ m.alpha) : Inv6 m (vt m i s ev S) := by
  obtain ⟨hi, es⟩ := List.getElem?_eq_some_iff.1 hs
  have hs1 := s1_sts (stepR m s ev).2.2 i ev S
  have hk1 := s1_kind (stepR m s ev).2.2 i ev S
  have fault : (s1Of (stepR m s ev).2.2 i ev S).kind ≠ 0 → ∃ (k : Nat) (e : Int), (s1Of (stepR m s ev).2.2 i ev S).flt = ((k : Int), e) ∧ e ∈ m.alpha ∧ ∃ h : k < S.sts.length, (stepR m S.sts[k] e).2.2 = (s1Of (stepR m s ev).2.2 i ev S).kind := by
    unfold s1Of
    split
    · intro _
      exact ⟨i, ev, rfl, hev, hi, by rw [es]⟩
    · intro h
      exact h6.f h
  rw [vt_eq]
  split
  · refine ⟨fun k hk => ?_, fun hk => ?_⟩
    · have hk' : k < S.sts.length := by rw [hs1.1] at hk; exact hk
      have := h6.w k hk'
      rw [s1_wd]
      simpa only [hs1.1] using this
    · obtain ⟨k, e, h1, h2, h3, h4⟩ := fault hk
      exact ⟨k, e, h1, h2, by rw [hs1.1]; exact h3, by simpa only [hs1.1] using h4⟩
  · rename_i hc
    rw [not_or] at hc
    have hp : (stepR m s ev).2.1 = true := by simpa using hc.1
    have h0 := possible_ok hp
    refine ⟨fun k hk => ?_, fun hk => ?_⟩
    · simp only [List.length_append, List.length_singleton] at hk
      have hr := rs_app hI hi (ev := ev) (stepR m s ev).1 (s1Of (stepR m s ev).2.2 i ev S).flt (s1Of (stepR m s ev).2.2 i ev S).kind
      have hg := congrArg (fun l => l[k]?) hr
      rw [rsOf_get (by simp only [List.length_append, List.length_singleton]; exact hk)] at hg
      by_cases hkl : k < S.sts.length
      · rw [List.getElem?_append_left (by rw [rsOf_len]; exact hkl), rsOf_get hkl] at hg
        simp only [Option.some.injEq, Prod.mk.injEq] at hg
        rw [hg.1, hg.2]
        exact h6.w k hkl
      · obtain rfl : k = S.sts.length := by omega
        rw [List.getElem?_append_right (by rw [rsOf_len]; exact Nat.le_refl _), rsOf_len, Nat.sub_self] at hg
        simp only [List.getElem?_cons_zero, Option.some.injEq, Prod.mk.injEq] at hg
        rw [hg.1, hg.2]
        have := h6.w i hi
        rw [es] at this
        exact this.snoc hev h0 hp
    · obtain ⟨k, e, h1, h2, h3, h4⟩ := fault hk
      refine ⟨k, e, h1, h2, by simp only [List.length_append, List.length_singleton]; omega, ?_⟩
      rw [List.getElem_append_left h3]
      exact h4
theorem vt_pre {m : Ext} {i : Nat} {s : Sta} {ev : Int} {S : Srch} : ∃ r, (vt m i s ev S).sts = S.sts ++ r := by
  rw [vt_eq]
  split
  · exact ⟨[], by rw [(s1_sts _ _ _ _).1, List.append_nil]⟩
  · exact ⟨_, rfl⟩
theorem vt_kind {m : Ext} {i : Nat} {s : Sta} {ev : Int} {S : Srch} : (vt m i s ev S).kind ≠ 0 ↔ S.kind ≠ 0 ∨ (stepR m s ev).2.2 ≠ 0 := by
  have h : (vt m i s ev S).kind = (s1Of (stepR m s ev).2.2 i ev S).kind := by
    rw [vt_eq]
    split <;> rfl
  rw [h, s1_kind]
  split
  · rename_i h1
    constructor
    · intro h; exact .inr h
    · intro _; exact h1.1
  · rename_i h1
    constructor
    · intro h; exact .inl h
    · rintro (h | h)
      · exact h
      · intro hk; exact h1 ⟨h, hk⟩
/-- All events of a state. -/
abbrev vts (m : Ext) (i : Nat) (s : Sta) (l : List Int) (S : Srch) : Srch := l.foldl (fun S ev => vt m i s ev S) S
theorem vts_all {m : Ext} (hm : made m) {i : Nat} {s : Sta} : ∀ (l : List Int) {S : Srch}, (∀ e ∈ l, e ∈ m.alpha) → Inv5 m S → Inv6 m S → S.sts[i]? = some s →
    Inv6 m (vts m i s l S) ∧ (∃ r, (vts m i s l S).sts = S.sts ++ r) ∧ ((vts m i s l S).kind ≠ 0 ↔ S.kind ≠ 0 ∨ ∃ e ∈ l, (stepR m s e).2.2 ≠ 0)
  | [], S, _, _, h6, _ => ⟨h6, ⟨[], by simp⟩, by simp⟩
  | ev :: l, S, hl, h5, h6, hs => by
    obtain ⟨hi, es⟩ := List.getElem?_eq_some_iff.1 hs
    have hoks := h5.ok s (es ▸ List.getElem_mem hi)
    have a := vt6 hm h5 h6 hs (hl ev (by simp))
    obtain ⟨b, _⟩ := vt_inv hm (i := i) (ev := ev) h5 hoks hi
    obtain ⟨r, hr⟩ := vt_pre (m := m) (i := i) (s := s) (ev := ev) (S := S)
    obtain ⟨c1, ⟨r2, c2⟩, c3⟩ := vts_all hm l (S := vt m i s ev S) (fun e h => hl e (by simp [h])) b a (by rw [hr, List.getElem?_append_left hi]; exact hs)
    refine ⟨c1, ⟨r ++ r2, by rw [show vts m i s (ev :: l) S = vts m i s l (vt m i s ev S) from rfl, c2, hr, List.append_assoc]⟩, ?_⟩
    rw [show vts m i s (ev :: l) S = vts m i s l (vt m i s ev S) from rfl, c3, vt_kind]
    simp only [List.mem_cons, exists_eq_or_imp]
    exact or_assoc
/-- A state with an error of the model among the first ones. -/
def errBefore (m : Ext) (S : Srch) (i : Nat) : Prop := ∃ k s, k < i ∧ S.sts[k]? = some s ∧ ∃ e ∈ m.alpha, (stepR m s e).2.2 ≠ 0
theorem search6 {m : Ext} (hm : made m) : ∀ (f i : Nat) {S F : Srch}, i + f = 4097 → i ≤ S.sts.length → Inv5 m S → Inv6 m S → (S.kind ≠ 0 ↔ errBefore m S i) → searchL m f i S = some F → Inv5 m F ∧ Inv6 m F ∧ (F.kind ≠ 0 ↔ errBefore m F F.sts.length)
  | 0, i, S, F, hf, hi, h5, _, _, _ => by
    have := few_states hm h5.ok h5.nd
    omega
  | f + 1, i, S, F, hf, hi, h5, h6, hk, h => by
    simp only [searchL] at h
    cases hs : S.sts[i]? with
    | none =>
      rw [hs] at h
      simp only [Option.some.injEq] at h
      subst h
      have : S.sts.length ≤ i := List.getElem?_eq_none_iff.1 hs
      obtain rfl : i = S.sts.length := by omega
      exact ⟨h5, h6, hk⟩
    | some s =>
      obtain ⟨hlt, es⟩ := List.getElem?_eq_some_iff.1 hs
      have hoks := h5.ok s (es ▸ List.getElem_mem hlt)
      obtain ⟨h1, h2, h3⟩ := vts_inv hm (i := i) (s := s) hoks m.alpha h5 hlt
      obtain ⟨c1, ⟨r, c2⟩, c3⟩ := vts_all hm (i := i) (s := s) m.alpha (fun e h => h) h5 h6 hs
      rw [hs] at h
      simp only [h1] at h
      refine search6 hm f (i + 1) (by omega) (by omega) h2 c1 ?_ h
      rw [c3, hk]
      unfold errBefore
      constructor
      · rintro (⟨k, t, hk1, hk2, hk3⟩ | he)
        · exact ⟨k, t, by omega, by rw [c2, List.getElem?_append_left (by omega)]; exact hk2, hk3⟩
        · exact ⟨i, s, by omega, by rw [c2, List.getElem?_append_left hlt]; exact hs, he⟩
      · rintro ⟨k, t, hk1, hk2, hk3⟩
        by_cases hki : k < i
        · rw [c2, List.getElem?_append_left (by omega)] at hk2
          exact .inl ⟨k, t, hki, hk2, hk3⟩
        · obtain rfl : k = i := by omega
          rw [c2, List.getElem?_append_left hlt, hs] at hk2
          simp only [Option.some.injEq] at hk2
          subst hk2
          exact .inr hk3
theorem inv6_0 {m : Ext} : Inv6 m (search0 m) := by
  refine ⟨fun k h => ?_, fun h => absurd rfl h⟩
  simp only [search0, List.length_singleton] at h
  obtain rfl : k = 0 := by omega
  have : wd (search0 m) 0 = [] := by
    unfold wd
    rw [back_5000, if_pos (by simp [search0])]
    rfl
  rw [this]
  exact Leads.nil m
theorem made_search6 {m : Ext} (hm : made m) : ∃ F, searchR m = some F ∧ Inv5 m F ∧ Inv6 m F ∧ (F.kind ≠ 0 ↔ errBefore m F F.sts.length) := by
  obtain ⟨F, hF, _⟩ := made_search hm
  refine ⟨F, hF, search6 hm 4097 0 rfl (Nat.zero_le _) (inv0 hm) inv6_0 ?_ hF⟩
  constructor
  · intro h; exact absurd rfl h
  · rintro ⟨k, s, h, _⟩; omega
theorem search_pos {m : Ext} (hm : made m) : ∀ (f i : Nat) {S F : Srch}, Inv5 m S → 1 ≤ S.sts.length → searchL m f i S = some F → 1 ≤ F.sts.length
  | 0, i, S, F, _, h1, h => by simp only [searchL, Option.some.injEq] at h; subst h; exact h1
  | f + 1, i, S, F, h5, h1, h => by
    simp only [searchL] at h
    cases hs : S.sts[i]? with
    | none => rw [hs] at h; simp only [Option.some.injEq] at h; subst h; exact h1
    | some s =>
      obtain ⟨hlt, es⟩ := List.getElem?_eq_some_iff.1 hs
      have hoks := h5.ok s (es ▸ List.getElem_mem hlt)
      obtain ⟨a, b, c⟩ := vts_inv hm (i := i) (s := s) hoks m.alpha h5 hlt
      rw [hs] at h
      simp only [a] at h
      exact search_pos hm f (i + 1) b (by omega) h
theorem made_pos {m : Ext} (hm : made m) {F : Srch} (hF : searchR m = some F) : 1 ≤ F.sts.length := search_pos hm 4097 0 (inv0 hm) (by simp [search0]) hF
/-- Enabled has an error exactly if an event has one. -/
theorem enL_err {m : Ext} {s : Sta} : ∀ (l acc : List Int), (enL m s l acc).2 ≠ 0 ↔ ∃ e ∈ l, (stepR m s e).2.2 ≠ 0
  | [], acc => by simp [enL]
  | ev :: l, acc => by
    simp only [enL]
    split
    · rename_i h
      exact ⟨fun _ => ⟨ev, by simp, h⟩, fun _ => h⟩
    · rename_i h
      rw [enL_err l]
      constructor
      · rintro ⟨e, he, h2⟩
        exact ⟨e, by simp [he], h2⟩
      · rintro ⟨e, he, h2⟩
        rcases List.mem_cons.1 he with rfl | he
        · exact absurd h2 h
        · exact ⟨e, he, h2⟩
theorem okS_ck {m : Ext} (hm : made m) {s : Sta} (h : okS m s) : ckS m s = 0 := by
  have hl := (okS_bounds (made_right hm) h).2.2.2.1
  unfold ckS
  rw [made_chk hm, if_neg (by simp), if_neg (by have := h.1; omega), if_neg (by rw [hl]; simp), if_neg (by rw [h.2]; simp)]
theorem okS_en {m : Ext} (hm : made m) {s : Sta} (h : okS m s) : (enR m s).2 ≠ 0 ↔ ∃ e ∈ m.alpha, (stepR m s e).2.2 ≠ 0 := by
  unfold enR
  rw [if_neg (by rw [okS_ck hm h]; simp)]
  exact enL_err _ _
/-- The run of a fault, and that without its last event. -/
theorem fault_runs {m : Ext} (hm : made m) {F : Srch} (h5 : Inv5 m F) (h6 : Inv6 m F) (hk : F.kind ≠ 0) : badOf F ≠ [] ∧ (runR m (badOf F)).2.2 = F.kind ∧ (runR m ((badOf F).take ((badOf F).length - 1))).2 = (((badOf F).length : Int) - 1, 0) := by
  obtain ⟨k, ev, e1, e2, h1, h2⟩ := h6.f hk
  have hb : badOf F = wd F k ++ [ev] := by
    unfold badOf
    rw [if_neg hk, e1, bad_new h5 h1]
  have hl := h6.w k h1
  have ha : ∀ w : List Int, (∀ e ∈ w, e ∈ m.alpha) → runR m w = runL m w (startR m) 0 := by
    intro w hw
    unfold runR
    rw [if_neg (by rw [made_chk hm]; simp), if_neg]
    rw [Bool.not_eq_true, List.any_eq_false]
    intro e he
    simpa using hw e he
  refine ⟨by rw [hb]; simp, ?_, ?_⟩
  · rw [hb, ha _ (fun e he => by
      rcases List.mem_append.1 he with he | he
      · exact hl.let' e he
      · simp only [List.mem_singleton] at he; subst he; exact e2), hl.run]
    simp only [runL]
    rw [if_pos (by rw [h2]; exact hk)]
    exact h2
  · rw [hb]
    have e3 : (wd F k ++ [ev]).take ((wd F k ++ [ev]).length - 1) = wd F k := by
      rw [List.length_append, List.length_singleton, Nat.add_sub_cancel, List.take_left]
    rw [e3, ha _ hl.let']
    have := hl.run [] 0
    rw [List.append_nil] at this
    rw [this]
    simp only [runL, List.length_append, List.length_singleton]
    congr 1
    omega
end Go.AI

namespace Go.AI
open Go.Proofs
set_option maxRecDepth 20000
def rangeI (lo hi : Int) : List Int := (List.range (hi - lo + 1).toNat).map fun (k : Nat) => lo + k
def allStep (out : List (List Int)) (v : Vr) : List (List Int) := out.flatMap fun vals => (rangeI v.low v.high).map fun n => vals ++ [n]
/-- All values of variables, in order. -/
def allV (l : List Vr) : List (List Int) := l.foldl allStep [[]]
theorem rangeI_len {v : Vr} (h : vrOk v) : (rangeI v.low v.high).length ≤ 4 := by
  have := h.w
  simp only [rangeI, List.length_map, List.length_range]
  omega
theorem flat_len4 {α β : Type} {f : α → List β} : ∀ {l : List α}, (∀ x ∈ l, (f x).length ≤ 4) → (l.flatMap f).length ≤ 4 * l.length
  | [], _ => by simp
  | x :: r, h => by
    have h1 := h x (by simp)
    have h2 := flat_len4 (l := r) fun y hy => h y (by simp [hy])
    simp only [List.flatMap_cons, List.length_append, List.length_cons]
    omega
theorem allStep_len {out : List (List Int)} {v : Vr} (h : vrOk v) : (allStep out v).length ≤ 4 * out.length := by
  unfold allStep
  refine flat_len4 fun x _ => ?_
  rw [List.length_map]
  exact rangeI_len h
theorem allStep_vals {out : List (List Int)} {v : Vr} {n : Nat} (h : ∀ x ∈ out, x.length = n) : ∀ x ∈ allStep out v, x.length = n + 1 := by
  intro x hx
  unfold allStep at hx
  simp only [List.mem_flatMap, List.mem_map] at hx
  obtain ⟨y, hy, z, _, rfl⟩ := hx
  simp [h y hy]
abbrev ointss (l : List (List Int)) : Ob := .arr 24 1 l.length (l.map fun x => [intsI x]) true
theorem ointss_app (l : List (List Int)) (x : List Int) : Ob.arr 24 1 (l.length + 1) ((l.map fun x => [intsI x]) ++ [[intsI x]]) true = ointss (l ++ [x]) := by simp
theorem all35 (O : List Heap) (l : List Vr) (hl : l.length ≤ 2) (hv : ∀ v ∈ l, vrOk v) (he : varsErr l = 0) : ASpec Tryd.prog 35 [vrs l] O (.tup [intss (allV l), ii 0]) [] O := by
  have hc := fun O => checkVars56' O l (by simp only [max63]; omega) (fun v h => by rw [(hv v h).nm]; decide)
  simp only [he] at hc
  refine aspec_stop [12, 200064] TrydT_ok Tryd.func35 rfl Tryd.call35 Tryd.ntmps35 (Nat.le_of_ble_eq_true rfl) fun E => ?_
  refine g_run TrydT_ok Tryd.func35 ?_
  first | refine g_call TrydT_ok Tryd.func35 (hc _) rfl rfl rfl rfl rfl ?_ | refine s_callq TrydT_ok (fun _ => hc _) rfl rfl rfl ?_
  repeat (first | refine g_cnd TrydT_ok Tryd.func35 rfl (fun _ => ?_) (fun h => absurd h (by decide)) | refine g_cnd TrydT_ok Tryd.func35 rfl (fun h => absurd h (by decide)) (fun _ => ?_) | refine g_know TrydT_ok Tryd.func35 rfl (fun _ => ?_) (fun h => absurd h (by decide)) | refine g_know TrydT_ok Tryd.func35 rfl (fun h => absurd h (by decide)) (fun _ => ?_) | refine s_know TrydT_ok (fun _ => ?_) (fun h => absurd h (by decide)) | refine s_know TrydT_ok (fun h => absurd h (by decide)) (fun _ => ?_))
  refine g_loop ?_
  refine rch_loop2 (fun x : Nat × Int => [(0, vrs l), (3, ii 0), (5, ii x.2), (20, vrs l), (21, ii l.length), (22, ii x.1)]) (fun _ => []) (fun _ => O) 70
    (fun x => x.1 ≤ l.length ∧ 1 ≤ x.2 ∧ x.2 ≤ (4 ^ x.1 : Nat)) (fun x => l.length - x.1) (0, 1) ⟨Nat.zero_le _, by decide, by decide⟩ ⟨rfl, rfl, rfl, rfl, rfl, rfl, trivial⟩ rfl trivial rfl rfl ?_
  rintro ⟨j, c⟩ ⟨hj, hc1, hc2⟩ ih
  simp only at hj hc1 hc2
  have h16 : (4 : Nat) ^ j ≤ 16 := by
    have : j = 0 ∨ j = 1 ∨ j = 2 := by omega
    rcases this with rfl | rfl | rfl <;> decide
  refine g_run TrydT_ok Tryd.func35 ?_
  first | refine g_cnd TrydT_ok Tryd.func35 rfl (fun g1 => ?_) (fun g1 => ?_) | refine g_know TrydT_ok Tryd.func35 rfl (fun g1 => ?_) (fun g1 => ?_) | refine s_know TrydT_ok (fun g1 => ?_) (fun g1 => ?_)
  · have h1 : j < l.length := by simpa using g1
    clear g1
    have hg : (l.map vrI)[(j : Int).toNat]? = some (vrI l[j]) := get_mapZ h1
    have hvo := hv _ (List.getElem_mem h1)
    generalize l[j] = v at *
    have hw := hvo.w
    have hlo := hvo.lo
    have hhi := hvo.hi
    have hww : IntKind.i64.wrap (IntKind.i64.wrap (v.high - v.low) + 1) = v.high - v.low + 1 := by
      rw [w64 (n := v.high - v.low) (by omega) (by omega), w64 (by omega) (by omega)]
    have hcw : 1 ≤ c * (v.high - v.low + 1) ∧ c * (v.high - v.low + 1) ≤ 4 * c := by
      have : v.high - v.low + 1 = 1 ∨ v.high - v.low + 1 = 2 ∨ v.high - v.low + 1 = 3 ∨ v.high - v.low + 1 = 4 := by omega
      rcases this with e | e | e | e <;> rw [e] <;> omega
    have hcc : IntKind.i64.wrap (c * IntKind.i64.wrap (IntKind.i64.wrap (v.high - v.low) + 1)) = c * (v.high - v.low + 1) := by
      rw [hww, w64 (by omega) (by omega)]
    first | refine g_need TrydT_ok Tryd.func35 (by exact ⟨by omega, by show (j : Int) < (l.length : Int); omega⟩) ?_ | refine s_need TrydT_ok (by exact ⟨by omega, by show (j : Int) < (l.length : Int); omega⟩) ?_
    first | refine g_elem TrydT_ok Tryd.func35 (hg) ?_ | refine s_elem TrydT_ok (hg) ?_
    first | refine g_cnd TrydT_ok Tryd.func35 rfl (fun h2 => ?_) (fun h2 => ?_) | refine g_know TrydT_ok Tryd.func35 rfl (fun h2 => ?_) (fun h2 => ?_) | refine s_know TrydT_ok (fun h2 => ?_) (fun h2 => ?_)
    · have h2 : 4096 < IntKind.i64.wrap (c * IntKind.i64.wrap (IntKind.i64.wrap (v.high - v.low) + 1)) := of_decide_eq_true h2
      omega
    refine g_loop ?_
    refine ih (j + 1, c * (v.high - v.low + 1)) _ _ ⟨h1, hcw.1, ?_⟩ (by simp only; omega) ⟨rfl, rfl, congrArg ii hcc, rfl, rfl, congrArg ii (wsucc (n := 2) (by omega) (by decide)), trivial⟩ rfl trivial rfl rfl
    simp only
    rw [Nat.pow_succ]
    omega
  · clear ih hc1 hc2 g1 h16
    refine g_stop ?_
    refine g_run TrydT_ok Tryd.func35 ?_
    refine g_go TrydT_ok Tryd.func35 ?_
    refine g_loop ?_
    have hco : CoD (.i (.sl 1 1 [[.v (.slice none 0 0)]])) (intss [[]]) := by
      show CoD _ (.i (.sl 1 1 [[.sl 1 0 []]]))
      repeat' (first | refine coD_tup ?_ | refine coD_agg ?_ | refine coD_i ?_ | refine CoDL.cons ?_ ?_ | exact CoDL.nil | exact coI_nil | refine coI_sl ?_ | refine CoLL.cons ?_ ?_ | exact CoLL.nil | refine CoL.cons ?_ ?_ | exact CoL.nil | exact CoI.refl _ | exact CoL.refl _ | exact CoLL.refl _ | exact CoDL.refl _ | exact CoD.refl _)
    refine rch_wk (wk_freeze 37 rfl rfl) ?_
    refine rch_wk (wk_imm rfl) ?_
    refine rch_wk (wk_co 8 (d := intss [[]]) (by exact hco)) ?_
    refine rch_loop2 (fun x : Nat × List (List Int) => [(0, vrs l), (3, ii 0), (8, intss x.2), (38, vrs l), (39, ii l.length), (40, ii x.1)]) (fun _ => []) (fun _ => O) 70
      (fun x => x.1 ≤ l.length ∧ x.2 = allV (l.take x.1) ∧ x.2.length ≤ 4 ^ x.1 ∧ ∀ y ∈ x.2, y.length = x.1) (fun x => l.length - x.1) (0, [[]]) ⟨Nat.zero_le _, rfl, by decide, by simp⟩ ⟨rfl, rfl, rfl, rfl, rfl, rfl, trivial⟩ rfl trivial rfl rfl ?_
    rintro ⟨j, out⟩ ⟨hj, hout, hlen, hvals⟩ ih
    clear hco
    simp only at hj hout hlen hvals
    have h16 : (4 : Nat) ^ j ≤ 16 := by
      have : j = 0 ∨ j = 1 ∨ j = 2 := by omega
      rcases this with rfl | rfl | rfl <;> decide
    refine g_run TrydT_ok Tryd.func35 ?_
    first | refine g_cnd TrydT_ok Tryd.func35 rfl (fun g1 => ?_) (fun g1 => ?_) | refine g_know TrydT_ok Tryd.func35 rfl (fun g1 => ?_) (fun g1 => ?_) | refine s_know TrydT_ok (fun g1 => ?_) (fun g1 => ?_)
    · have h1 : j < l.length := by simpa using g1
      clear g1
      have hg : (l.map vrI)[(j : Int).toNat]? = some (vrI l[j]) := get_mapZ h1
      have hvo := hv _ (List.getElem_mem h1)
      have hnext : allStep out l[j] = allV (l.take (j + 1)) := by
        rw [hout]
        unfold allV
        rw [List.take_add_one, List.getElem?_eq_getElem h1, List.foldl_append]
        rfl
      generalize l[j] = v at *
      have hw := hvo.w
      have hlo := hvo.lo
      have hhi := hvo.hi
      have hsl := allStep_len (out := out) hvo
      have hsv := allStep_vals (out := out) (v := v) hvals
      first | refine g_need TrydT_ok Tryd.func35 (by exact ⟨by omega, by show (j : Int) < (l.length : Int); omega⟩) ?_ | refine s_need TrydT_ok (by exact ⟨by omega, by show (j : Int) < (l.length : Int); omega⟩) ?_
      first | refine g_elem TrydT_ok Tryd.func35 (hg) ?_ | refine s_elem TrydT_ok (hg) ?_
      refine g_loop ?_
      refine rch_wk (wk_nil 11 65 24 1 rfl rfl rfl) ?_
      refine rch_loop2 (fun x : Nat × List (List Int) => [(0, vrs l), (3, ii 0), (8, intss out), (38, vrs l), (39, ii l.length), (40, ii j), (10, .own 0 10 0 0), (11, .osl 0 65), (44, intss out), (45, ii out.length), (46, ii x.1)])
        (fun x => [(10, .box [.i (strI v.name), ii v.low, ii v.high, ii v.init]), (65, ointss x.2)]) (fun _ => O) 70
        (fun x => x.1 ≤ out.length ∧ x.2 = allStep (out.take x.1) v) (fun x => out.length - x.1) (0, []) ⟨Nat.zero_le _, rfl⟩ ⟨rfl, rfl, rfl, rfl, rfl, rfl, rfl, rfl, rfl, rfl, rfl, trivial⟩ rfl ⟨rfl, rfl, trivial⟩ rfl rfl ?_
      rintro ⟨i, acc⟩ ⟨hi, hacc⟩ ih2
      simp only at hi hacc
      refine g_run TrydT_ok Tryd.func35 ?_
      first | refine g_cnd TrydT_ok Tryd.func35 rfl (fun g2 => ?_) (fun g2 => ?_) | refine g_know TrydT_ok Tryd.func35 rfl (fun g2 => ?_) (fun g2 => ?_) | refine s_know TrydT_ok (fun g2 => ?_) (fun g2 => ?_)
      · have h2 : i < out.length := by simpa using g2
        clear g2
        have hgo : (out.map fun x => [intsI x])[(i : Int).toNat]? = some [intsI out[i]] := get_mapZ (f := fun x => [intsI x]) h2
        have hxl := hvals _ (List.getElem_mem h2)
        have hnx : allStep (out.take (i + 1)) v = acc ++ (rangeI v.low v.high).map fun n => out[i] ++ [n] := by
          rw [hacc]
          unfold allStep
          rw [List.take_add_one, List.getElem?_eq_getElem h2, List.flatMap_append]
          simp
        have hal : acc.length ≤ 64 := by
          rw [hacc]
          have := allStep_len (out := out.take i) hvo
          have := List.length_take_le i out
          omega
        generalize out[i] = vals at *
        first | refine g_need TrydT_ok Tryd.func35 (by exact ⟨by omega, by show (i : Int) < (out.length : Int); omega⟩) ?_ | refine s_need TrydT_ok (by exact ⟨by omega, by show (i : Int) < (out.length : Int); omega⟩) ?_
        first | refine g_elem TrydT_ok Tryd.func35 (hgo) ?_ | refine s_elem TrydT_ok (hgo) ?_
        have hk0 : rangeI v.low (v.low + ((0 : Nat) : Int) - 1) = [] := by
          unfold rangeI
          rw [show (v.low + ((0 : Nat) : Int) - 1 - v.low + 1).toNat = 0 by omega]
          rfl
        refine g_loop ?_
        refine rch_loop2 (fun k : Nat => [(0, vrs l), (3, ii 0), (8, intss out), (38, vrs l), (39, ii l.length), (40, ii j), (10, .own 0 10 0 0), (11, .osl 0 65), (44, intss out), (45, ii out.length), (46, ii i), (13, ints vals), (14, ii (v.low + k))])
          (fun k => [(10, .box [.i (strI v.name), ii v.low, ii v.high, ii v.init]), (65, ointss (acc ++ (rangeI v.low (v.low + k - 1)).map fun n => vals ++ [n]))]) (fun _ => O) 70
          (fun k => (k : Int) ≤ v.high - v.low + 1) (fun k => (v.high - v.low + 1).toNat - k) 0 (show ((0 : Nat) : Int) ≤ v.high - v.low + 1 by omega) ⟨rfl, rfl, rfl, rfl, rfl, rfl, rfl, rfl, rfl, rfl, rfl, rfl, congrArg ii (by simp), trivial⟩ rfl ⟨rfl, by show some (ointss acc) = some (ointss (acc ++ (rangeI v.low (v.low + ((0 : Nat) : Int) - 1)).map fun n => vals ++ [n])); rw [hk0]; simp, trivial⟩ rfl rfl ?_
        rintro k hk ih3
        have hk : (k : Int) ≤ v.high - v.low + 1 := hk
        have hks : (rangeI v.low (v.low + ((k + 1 : Nat) : Int) - 1)).map (fun n => vals ++ [n]) = (rangeI v.low (v.low + k - 1)).map (fun n => vals ++ [n]) ++ [vals ++ [v.low + k]] := by
          unfold rangeI
          rw [show (v.low + ((k + 1 : Nat) : Int) - 1 - v.low + 1).toNat = k + 1 by omega, show (v.low + (k : Int) - 1 - v.low + 1).toNat = k by omega, List.range_succ, List.map_append, List.map_append]
          rfl
        have hkl : ((rangeI v.low (v.low + k - 1)).map fun n => vals ++ [n]).length = k := by
          unfold rangeI
          simp
          omega
        have hke : (k : Int) = v.high - v.low + 1 → (rangeI v.low (v.low + k - 1)).map (fun n => vals ++ [n]) = (rangeI v.low v.high).map fun n => vals ++ [n] := fun e => by rw [e, show v.low + (v.high - v.low + 1) - 1 = v.high by omega]
        generalize (rangeI v.low (v.low + k - 1)).map (fun n => vals ++ [n]) = part at *
        refine g_run TrydT_ok Tryd.func35 ?_
        first | refine g_cnd TrydT_ok Tryd.func35 rfl (fun g3 => ?_) (fun g3 => ?_) | refine g_know TrydT_ok Tryd.func35 rfl (fun g3 => ?_) (fun g3 => ?_) | refine s_know TrydT_ok (fun g3 => ?_) (fun g3 => ?_)
        · have h3 : v.low + k ≤ v.high := of_decide_eq_true g3
          clear g3
          first | refine g_call TrydT_ok Tryd.func35 (clone57 60 _ vals (by simp only [big]; omega)) rfl rfl rfl rfl rfl ?_ | refine s_callq TrydT_ok (fun _ => clone57 60 _ vals (by simp only [big]; omega)) rfl rfl rfl ?_
          first | refine g_need TrydT_ok Tryd.func35 (by exact ⟨by show (vals.length + 1) * 8 ≤ 140737488355328; omega, by show vals.length + 1 ≤ 9223372036854775807; omega⟩) ?_ | refine s_need TrydT_ok (by exact ⟨by show (vals.length + 1) * 8 ≤ 140737488355328; omega, by show vals.length + 1 ≤ 9223372036854775807; omega⟩) ?_
          refine g_pause TrydT_ok Tryd.func35 rfl rfl (Wk.trans (wk_freeze 63 rfl rfl) (wk_imm rfl)) ?_
          first | refine g_need TrydT_ok Tryd.func35 (by exact ⟨by show ((acc ++ part).length + 1) * 24 ≤ 140737488355328; simp only [List.length_append]; omega, by show (acc ++ part).length + 1 ≤ 9223372036854775807; simp only [List.length_append]; omega⟩) ?_ | refine s_need TrydT_ok (by exact ⟨by show ((acc ++ part).length + 1) * 24 ≤ 140737488355328; simp only [List.length_append]; omega, by show (acc ++ part).length + 1 ≤ 9223372036854775807; simp only [List.length_append]; omega⟩) ?_
          refine g_loop ?_
          refine ih3 (k + 1) _ _ (show ((k + 1 : Nat) : Int) ≤ v.high - v.low + 1 by omega) (by omega) ⟨rfl, rfl, rfl, rfl, rfl, rfl, rfl, rfl, rfl, rfl, rfl, rfl, congrArg ii ?_, trivial⟩ rfl ⟨rfl, ?_, trivial⟩ rfl rfl
          · rw [w64 (by omega) (by omega)]; omega
          · rw [hks]
            have e : (vals ++ [v.low + (k : Int)]).map (fun x => [vi x]) = vals.map (fun x => [vi x]) ++ [[vi (v.low + k)]] := by simp
            show some (Ob.arr 24 1 ((acc ++ part).length + 1) ((acc ++ part).map (fun x => [intsI x]) ++ [[.sl 1 (vals.length + 1) (vals.map (fun x => [vi x]) ++ [[vi (v.low + k)]])]]) true) = some (ointss (acc ++ (part ++ [vals ++ [v.low + (k : Int)]])))
            rw [← List.append_assoc acc part]
            have e2 : vals.length + 1 = (vals ++ [v.low + (k : Int)]).length := by simp
            rw [← e, e2]
            exact congrArg some (ointss_app _ _)
        · have h3 : ¬ v.low + k ≤ v.high := of_decide_eq_false g3
          clear g3
          rw [hke (by omega)]
          refine g_loop ?_
          refine ih2 (i + 1, acc ++ (rangeI v.low v.high).map fun n => vals ++ [n]) _ _ ⟨h2, hnx.symm⟩ (by simp only; omega) ⟨rfl, rfl, rfl, rfl, rfl, rfl, rfl, rfl, rfl, rfl, congrArg ii (wsucc (n := 16) (by omega) (by decide)), trivial⟩ rfl ⟨rfl, rfl, trivial⟩ rfl rfl
      · have h2 : out.length ≤ i := by simpa using g2
        clear g2
        rw [List.take_of_length_le h2] at hacc
        refine g_loop ?_
        refine rch_wk (wk_freeze 65 rfl rfl) ?_
        refine rch_wk (wk_imm rfl) ?_
        rw [hacc] at *
        refine ih (j + 1, allStep out v) _ _ ⟨h1, hnext, by simp only; rw [Nat.pow_succ]; omega, hsv⟩ (by simp only; omega) ⟨rfl, rfl, rfl, rfl, rfl, congrArg ii (wsucc (n := 2) (by omega) (by decide)), trivial⟩ rfl trivial rfl rfl
    · have h1 : l.length ≤ j := by simpa using g1
      rw [List.take_of_length_le h1] at hout
      subst hout
      refine g_ret TrydT_ok (r := .tup [intss (allV l), ii 0]) rfl rfl rfl trivial rfl rfl ?_
      rfl
end Go.AI
