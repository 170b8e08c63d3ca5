/- The layer of abstract runs, part 51. -/
import Derived.Test.YtmhllkmceipdcaaGreatDoorYewZX
set_option linter.unusedSimpArgs false
set_option linter.unusedVariables false
set_option linter.all false

namespace Go.AI
open Go.Proofs
set_option maxRecDepth 20000
abbrev npI (z : NP) : List I := [vi (z.1 : Int), vi (z.2 : Int)]
abbrev onps (l : List NP) : Ob := .arr 100 2 l.length (l.map npI) true
theorem onps_app (l : List NP) (z : NP) : Ob.arr 100 2 (l.length + 1) (l.map npI ++ [npI z]) true = onps (l ++ [z]) := by simp
set_option maxHeartbeats 16000000 in
theorem alike22 (O : List Heap) (a : Aut) (on : List Int) (x y : Int) (n : Nat) (h : gAut a n) (hn : n ≤ 5) (hx : 0 ≤ x ∧ x < (n : Int)) (hy : 0 ≤ y ∧ y < (n : Int)) (hon : on.length ≤ max63) :
    ASpec Tryz.prog 22 [autD a, ints on, ii x, ii y] O (bb (!(difR a on [] n (badK a) (clo a.edges (lowP on [] false) n [x]) (clo a.edges (lowP on [] false) n [y])).isSome)) [] O := by
  have hn0 : 0 < n := by omega
  have hf1 := fun O => from64 O a x n h hn
  have hf2 := fun O => from64 O a y n h hn
  have hgb := fr_ok h hn hx
  have hgc := fr_ok h hn hy
  obtain ⟨V, hV, hP⟩ := prj_ok (on := on) hgb hn hn0
  obtain ⟨W, hW, hQ⟩ := prj_ok (on := on) hgc hn hn0
  have hp1 := fun O => project63 O _ on n hgb hn hn0 hon V hV
  have hp2 := fun O => project63 O _ on n hgc hn hn0 hon W hW
  have hB := (Iff.of_eq (Bool.not_eq_true' _)).trans (alike_iff h hn hx hy on)
  have hkb : keptR (frA a n x) on = keptR a on := rfl
  have hkc : keptR (frA a n y) on = keptR a on := rfl
  obtain ⟨c1, _, _, _⟩ := chk_parts h.c
  have hal := checkSet_len (by decide) c1
  have hkl : (keptR a on).length ≤ 32 := by have h9 : (a.alpha.filter fun x => decide (x ∈ on)).length ≤ a.alpha.length := List.length_filter_le _ _; show (a.alpha.filter fun x => decide (x ∈ on)).length ≤ 32; omega
  generalize (!(difR a on [] n (badK a) (clo a.edges (lowP on [] false) n [x]) (clo a.edges (lowP on [] false) n [y])).isSome) = B at *
  rw [hkb] at hp1
  rw [hkc] at hp2
  generalize keptR a on = kp at *
  generalize frA a n x = b at *
  generalize frA a n y = c at *
  have hBf : (∃ t, (∀ ev ∈ t, ev ∈ kp) ∧ badX b c (nxtL b.edges (lowP on [] false) n (clo b.edges (lowP on [] false) n [0]) t) (nxtL c.edges (lowP on [] false) n (clo c.edges (lowP on [] false) n [0]) t) = true) → B = false := by
    rintro ⟨t, ht, hb⟩
    cases hBB : B with
    | false => rfl
    | true => rw [hB.1 hBB t ht] at hb; cases hb
  have h0 := prOk_init (b := b) (c := c) (lp := lowP on [] false) (n := n) (kp := kp) hP.fst hQ.fst
  obtain ⟨v1, v2, v3⟩ := hP.len
  obtain ⟨w1, w2, w3⟩ := hQ.len
  have hs1 := fun O s ev => step121 O ⟨kp, V.sts.length, V.mkl, V.eds⟩ s ev (by simp only [max63]; omega)
  have hs2 := fun O s ev => step121 O ⟨kp, W.sts.length, W.mkl, W.eds⟩ s ev (by simp only [max63]; omega)
  have hm1 := fun O x => has30 O V.mkl x (by simp only [max63]; omega)
  have hm2 := fun O x => has30 O W.mkl x (by simp only [max63]; omega)
  have hpm := fun i l z h hz => @pr_mark b c on n kp V W hP hQ i l z h hz
  have hps := fun i l z h hz ev hev => @pr_step b c on n kp V W hP hQ hkb hkc i l z h hz ev hev
  have hpd := fun l i h hi => hB.2 (@prOk_done b c (lowP on [] false) n kp V W l i h hi hP.ne hQ.ne hP.fst hQ.fst)
  have hpl := fun i l h => @prOk_len b c (lowP on [] false) n kp V W i l h v1 w1
  generalize lowP on [] false = lp at *
  clear hB hP hQ hgb hgc h hV hW hkb hkc c1 hx hy
  simp only at hs1 hs2
  obtain ⟨al, st, mk, es⟩ := a
  obtain ⟨vs, vm, ve⟩ := V
  obtain ⟨ws, wm, we⟩ := W
  simp only at *
  refine aspec_stop [20] Tk Tryz.func22 rfl Tryz.call22 Tryz.ntmps22 (Nat.le_of_ble_eq_true rfl) fun E => ?_
  refine g_run Tk Tryz.func22 ?_
  first | refine g_call Tk Tryz.func22 (hf1 _) rfl rfl rfl rfl rfl ?_ | refine s_callq Tk (fun _ => hf1 _) rfl rfl rfl ?_
  first | refine g_call Tk Tryz.func22 (hp1 _) rfl rfl rfl rfl rfl ?_ | refine s_callq Tk (fun _ => hp1 _) rfl rfl rfl ?_
  first | refine g_call Tk Tryz.func22 (hf2 _) rfl rfl rfl rfl rfl ?_ | refine s_callq Tk (fun _ => hf2 _) rfl rfl rfl ?_
  first | refine g_call Tk Tryz.func22 (hp2 _) rfl rfl rfl rfl rfl ?_ | refine s_callq Tk (fun _ => hp2 _) rfl rfl rfl ?_
  refine g_loop ?_
  refine rch_wk (wk_ren 37 124 rfl rfl rfl) ?_
  refine rch_loop2 (fun x : Nat × List NP => [(9, .own 0 9 0 0), (11, .own 0 11 0 0), (13, .osl 0 124), (14, ii x.1)])
    (fun x => [(9, .box (autC ⟨kp, vs.length, vm, ve⟩)), (11, .box (autC ⟨kp, ws.length, wm, we⟩)), (124, onps x.2)]) (fun _ => O) 125
    (fun x => x.1 ≤ x.2.length ∧ prOk b c lp n kp ⟨vs, vm, ve⟩ ⟨ws, wm, we⟩ x.1 x.2) (fun x => 1025 - x.1) (0, [(0, 0)])
    ⟨Nat.zero_le _, h0⟩ ⟨rfl, rfl, rfl, rfl, trivial⟩ rfl ⟨rfl, rfl, rfl, trivial⟩ rfl rfl ?_
  clear h0 hf1 hf2 hp1 hp2
  rintro ⟨i, l⟩ ⟨hi, hok⟩ ih
  simp only at hi hok
  have hll := hpl i l hok
  refine g_run Tk Tryz.func22 ?_
  first | refine g_cnd Tk Tryz.func22 rfl (fun g1 => ?_) (fun g1 => ?_) | refine g_know Tk Tryz.func22 rfl (fun g1 => ?_) (fun g1 => ?_) | refine s_know Tk (fun g1 => ?_) (fun g1 => ?_)
  · have h1 : i < l.length := by simpa using g1
    clear g1
    have hz : l[i]? = some l[i] := List.getElem?_eq_getElem h1
    have gz : (l.map npI)[(i : Int).toNat]? = some (npI l[i]) := get_mapZ h1
    have hzm := List.getElem_mem h1
    generalize l[i] = z at *
    have hpm1 := hpm i l z hok hzm
    have n1 : 0 ≤ (i : Int) ∧ (i : Int) < (l.length : Int) := by omega
    have hq1 := fun O => hm1 O z.1
    have hq2 := fun O => hm2 O z.2
    refine g_drawn Tk Tryz.func22 mixedT rfl ?_
    first | refine g_need Tk Tryz.func22 (by exact n1) ?_ | refine s_need Tk (by exact n1) ?_
    first | refine g_need Tk Tryz.func22 (by decide) ?_ | refine s_need Tk (by decide) ?_
    first | refine g_elem Tk Tryz.func22 (gz) ?_ | refine s_elem Tk (gz) ?_
    first | refine g_call Tk Tryz.func22 (hq1 _) rfl rfl rfl rfl rfl ?_ | refine s_callq Tk (fun _ => hq1 _) rfl rfl rfl ?_
    first | refine g_need Tk Tryz.func22 (by exact n1) ?_ | refine s_need Tk (by exact n1) ?_
    first | refine g_need Tk Tryz.func22 (by decide) ?_ | refine s_need Tk (by decide) ?_
    first | refine g_elem Tk Tryz.func22 (gz) ?_ | refine s_elem Tk (gz) ?_
    first | refine g_call Tk Tryz.func22 (hq2 _) rfl rfl rfl rfl rfl ?_ | refine s_callq Tk (fun _ => hq2 _) rfl rfl rfl ?_
    refine e_done Tk Tryz.func22 (by kernel_rfl) ?_
    first | refine g_cnd Tk Tryz.func22 rfl (fun m1 => ?_) (fun m1 => ?_) | refine g_know Tk Tryz.func22 rfl (fun m1 => ?_) (fun m1 => ?_) | refine s_know Tk (fun m1 => ?_) (fun m1 => ?_)
    · have m1 : (decide ((z.1 : Int) ∈ vm) != decide ((z.2 : Int) ∈ wm)) = true := m1
      rw [if_pos m1] at hpm1
      have e := hBf hpm1
      subst e
      refine g_ret Tk (r := bb false) rfl rfl rfl trivial rfl rfl ?_
      rfl
    have m1 : (decide ((z.1 : Int) ∈ vm) != decide ((z.2 : Int) ∈ wm)) = false := m1
    rw [if_neg (by rw [m1]; decide)] at hpm1
    refine g_loop ?_
    refine rch_loop2 (fun x : Nat × List NP => [(9, .own 0 9 0 0), (11, .own 0 11 0 0), (13, .osl 0 124), (14, ii i), (15, ii x.1)])
      (fun x => [(9, .box (autC ⟨kp, vs.length, vm, ve⟩)), (11, .box (autC ⟨kp, ws.length, wm, we⟩)), (124, onps x.2)]) (fun _ => O) 125
      (fun x => x.1 ≤ kp.length ∧ prOk b c lp n kp ⟨vs, vm, ve⟩ ⟨ws, wm, we⟩ i x.2 ∧ x.2[i]? = some z ∧ ∀ ev ∈ kp.take x.1, fineE b c lp n ⟨vs, vm, ve⟩ ⟨ws, wm, we⟩ x.2 z ev) (fun x => kp.length - x.1) (0, l)
      ⟨Nat.zero_le _, hok, hz, by simp⟩ ⟨rfl, rfl, rfl, rfl, rfl, trivial⟩ rfl ⟨rfl, rfl, rfl, trivial⟩ rfl rfl ?_
    clear hok hz gz n1 hll hzm h1 hq1 hq2 m1
    rintro ⟨j, l⟩ ⟨hj, hok, hz, hfe⟩ ih2
    simp only at hj hok hz hfe
    have hll := hpl i l hok
    have h1 : i < l.length := (List.getElem?_eq_some_iff.1 hz).1
    have gz : (l.map npI)[(i : Int).toNat]? = some (npI z) := by rw [Int.toNat_natCast, List.getElem?_map, hz]; rfl
    have n1 : 0 ≤ (i : Int) ∧ (i : Int) < (l.length : Int) := by omega
    have hj1 : ii (IntKind.i64.wrap ((j : Int) + 1)) = ii ((j + 1 : Nat) : Int) := congrArg ii (wsucc (n := 4096) (by omega) (by decide))
    refine g_run Tk Tryz.func22 ?_
    first | refine g_cnd Tk Tryz.func22 rfl (fun g2 => ?_) (fun g2 => ?_) | refine g_know Tk Tryz.func22 rfl (fun g2 => ?_) (fun g2 => ?_) | refine s_know Tk (fun g2 => ?_) (fun g2 => ?_)
    · have h2 : j < kp.length := by simpa using g2
      clear g2
      have gk : (kp.map fun x => [vi x])[(j : Int).toNat]? = some [vi kp[j]] := get_mapZ (f := fun x => [vi x]) h2
      have htk : kp.take (j + 1) = kp.take j ++ [kp[j]] := List.take_succ_eq_append_getElem h2
      have hem := List.getElem_mem h2
      generalize kp[j] = ev at *
      have n2 : 0 ≤ (j : Int) ∧ (j : Int) < (kp.length : Int) := by omega
      have hr1 := fun O => hs1 O z.1 ev
      have hr2 := fun O => hs2 O z.2 ev
      have hst := hps i l z hok hz ev hem
      generalize stp3 ve z.1 ev = u at *
      generalize stp3 we z.2 ev = v at *
      have hcase : ((decide (u < 0) != decide (v < 0)) = true ∧ B = false) ∨ ((decide (u < 0) != decide (v < 0)) = false ∧ if (decide (u < 0) || l.any fun y => ((y.1 : Int) == u) && (((y.2 : Int) == v) && true)) = true then fineE b c lp n ⟨vs, vm, ve⟩ ⟨ws, wm, we⟩ l z ev else
          ∃ y : NP, u = y.1 ∧ v = y.2 ∧ prOk b c lp n kp ⟨vs, vm, ve⟩ ⟨ws, wm, we⟩ i (l ++ [y]) ∧ fineE b c lp n ⟨vs, vm, ve⟩ ⟨ws, wm, we⟩ (l ++ [y]) z ev) := by
        rcases hst with ⟨u1, u2, u3⟩ | ⟨y, u1, u2, u3, u4⟩ | ⟨u1, u2⟩
        · refine .inr ⟨by simp [u1, u2], ?_⟩
          rw [decide_eq_true u1, Bool.true_or, if_pos rfl]
          exact u3
        · have e1 : decide (u < 0) = false := decide_eq_false (by omega)
          have e2 : decide (v < 0) = false := decide_eq_false (by omega)
          refine .inr ⟨by rw [e1, e2]; rfl, ?_⟩
          rw [e1, Bool.false_or]
          have e3 : (l.any fun y' => ((y'.1 : Int) == u) && (((y'.2 : Int) == v) && true)) = decide (y ∈ l) := by
            refine Bool.eq_iff_iff.2 ?_
            simp only [List.any_eq_true, decide_eq_true_eq, Bool.and_eq_true, beq_iff_eq, and_true]
            constructor
            · rintro ⟨y', h1, h2, h3⟩
              have : y' = y := Prod.ext (by omega) (by omega)
              rwa [← this]
            · exact fun h => ⟨y, h, u1.symm, u2.symm⟩
          rw [e3]
          by_cases hm : y ∈ l
          · rw [if_pos (decide_eq_true hm)]
            exact u3 hm
          · rw [if_neg (by simpa using hm)]
            exact ⟨y, u1, u2, (u4 hm).1, (u4 hm).2⟩
        · exact .inl ⟨u1, hBf u2⟩
      clear hst
      refine g_drawn Tk Tryz.func22 mixedT rfl ?_
      first | refine g_need Tk Tryz.func22 (by exact n1) ?_ | refine s_need Tk (by exact n1) ?_
      first | refine g_need Tk Tryz.func22 (by decide) ?_ | refine s_need Tk (by decide) ?_
      first | refine g_elem Tk Tryz.func22 (gz) ?_ | refine s_elem Tk (gz) ?_
      first | refine g_need Tk Tryz.func22 (by exact n2) ?_ | refine s_need Tk (by exact n2) ?_
      first | refine g_elem Tk Tryz.func22 (gk) ?_ | refine s_elem Tk (gk) ?_
      first | refine g_call Tk Tryz.func22 (hr1 _) rfl rfl rfl rfl rfl ?_ | refine s_callq Tk (fun _ => hr1 _) rfl rfl rfl ?_
      first | refine g_need Tk Tryz.func22 (by exact n1) ?_ | refine s_need Tk (by exact n1) ?_
      first | refine g_need Tk Tryz.func22 (by decide) ?_ | refine s_need Tk (by decide) ?_
      first | refine g_elem Tk Tryz.func22 (gz) ?_ | refine s_elem Tk (gz) ?_
      first | refine g_need Tk Tryz.func22 (by exact n2) ?_ | refine s_need Tk (by exact n2) ?_
      first | refine g_elem Tk Tryz.func22 (gk) ?_ | refine s_elem Tk (gk) ?_
      first | refine g_call Tk Tryz.func22 (hr2 _) rfl rfl rfl rfl rfl ?_ | refine s_callq Tk (fun _ => hr2 _) rfl rfl rfl ?_
      refine e_done Tk Tryz.func22 (by kernel_rfl) ?_
      clear hr1 hr2 gz gk
      rcases hcase with ⟨k1, k2⟩ | ⟨k1, k2⟩
      · first | refine g_cnd Tk Tryz.func22 rfl (fun d1 => ?_) (fun d1 => ?_) | refine g_know Tk Tryz.func22 rfl (fun d1 => ?_) (fun d1 => ?_) | refine s_know Tk (fun d1 => ?_) (fun d1 => ?_)
        · subst k2
          refine g_ret Tk (r := bb false) rfl rfl rfl trivial rfl rfl ?_
          rfl
        · have d1 : (decide (u < 0) != decide (v < 0)) = false := d1
          rw [d1] at k1; cases k1
      first | refine g_cnd Tk Tryz.func22 rfl (fun d1 => ?_) (fun d1 => ?_) | refine g_know Tk Tryz.func22 rfl (fun d1 => ?_) (fun d1 => ?_) | refine s_know Tk (fun d1 => ?_) (fun d1 => ?_)
      · have d1 : (decide (u < 0) != decide (v < 0)) = true := d1
        rw [d1] at k1; cases k1
      have hSE : (decide (u < 0) || l.any fun y => ((y.1 : Int) == u) && (((y.2 : Int) == v) && true)) = (decide (u < 0) || (l.drop 0).any fun y => ((y.1 : Int) == u) && (((y.2 : Int) == v) && true)) := rfl
      generalize (decide (u < 0) || l.any fun y => ((y.1 : Int) == u) && (((y.2 : Int) == v) && true)) = SE at *
      refine g_loop ?_
      apply join_p (P := True) (s6 := { σ := [(9, .own 0 9 0 0), (11, .own 0 11 0 0), (13, .osl 0 124), (14, ii i), (15, ii j), (16, ii u), (17, ii v), (18, bb SE)], S := [(9, .box (autC ⟨kp, vs.length, vm, ve⟩)), (11, .box (autC ⟨kp, ws.length, wm, we⟩)), (124, onps l)] :: O, n := 125 })
      · intro J
        refine rch_loop2 (fun x : Nat × Bool => [(9, .own 0 9 0 0), (11, .own 0 11 0 0), (13, .osl 0 124), (14, ii i), (15, ii j), (16, ii u), (17, ii v), (18, bb x.2), (19, ii x.1)])
          (fun _ => [(9, .box (autC ⟨kp, vs.length, vm, ve⟩)), (11, .box (autC ⟨kp, ws.length, wm, we⟩)), (124, onps l)]) (fun _ => O) 125
          (fun x => x.1 ≤ l.length ∧ (x.2 = true → SE = true) ∧ (x.2 = false → SE = (l.drop x.1).any fun y => ((y.1 : Int) == u) && (((y.2 : Int) == v) && true))) (fun x => l.length - x.1) (0, decide (u < 0))
          ⟨Nat.zero_le _, fun e => by rw [hSE]; simp only at e; rw [e, Bool.true_or], fun e => by rw [hSE]; simp only at e; rw [e, Bool.false_or]⟩ ⟨rfl, rfl, rfl, rfl, rfl, rfl, rfl, rfl, rfl, trivial⟩ rfl ⟨rfl, rfl, rfl, trivial⟩ rfl rfl ?_
        rintro ⟨m, se⟩ ⟨hm, hs1, hs2⟩ ih3
        simp only at hm hs1 hs2
        refine g_run Tk Tryz.func22 ?_
        first | refine g_cnd Tk Tryz.func22 rfl (fun g3 => ?_) (fun g3 => ?_) | refine g_know Tk Tryz.func22 rfl (fun g3 => ?_) (fun g3 => ?_) | refine s_know Tk (fun g3 => ?_) (fun g3 => ?_)
        · have h4 : m < l.length := by simpa using g3
          first | refine g_cnd Tk Tryz.func22 rfl (fun e2 => ?_) (fun e2 => ?_) | refine g_know Tk Tryz.func22 rfl (fun e2 => ?_) (fun e2 => ?_) | refine s_know Tk (fun e2 => ?_) (fun e2 => ?_)
          · have e2 : se = false := notT e2
            have hS := hs2 e2
            have gm : (l.map npI)[(m : Int).toNat]? = some (npI l[m]) := get_mapZ h4
            rw [List.drop_eq_getElem_cons h4, List.any_cons] at hS
            generalize l[m] = x at *
            first | refine g_need Tk Tryz.func22 (by exact ⟨by omega, by show (m : Int) < (l.length : Int); omega⟩) ?_ | refine s_need Tk (by exact ⟨by omega, by show (m : Int) < (l.length : Int); omega⟩) ?_
            first | refine g_elem Tk Tryz.func22 (gm) ?_ | refine s_elem Tk (gm) ?_
            refine g_loop ?_
            refine ih3 (m + 1, ((x.1 : Int) == u) && (((x.2 : Int) == v) && true)) _ _ ⟨h4, fun e => ?_, fun e => ?_⟩ (by simp only; omega) ⟨rfl, rfl, rfl, rfl, rfl, rfl, rfl, rfl, congrArg ii (wsucc (n := 4096) (by omega) (by decide)), trivial⟩ rfl ⟨rfl, rfl, rfl, trivial⟩ rfl rfl
            · simp only at e
              rw [hS, e, Bool.true_or]
            · simp only at e
              rw [hS, e, Bool.false_or]
          · have e2 : se = true := notF e2
            have hS := hs1 e2
            refine g_stop ?_
            refine rch_meet (J trivial) ⟨rfl, rfl, rfl, rfl, rfl, rfl, rfl, by rw [hS, ← e2]; rfl, trivial⟩ rfl ⟨rfl, rfl, rfl, trivial⟩ rfl rfl
        · have h4 : l.length ≤ m := by simpa using g3
          have hS : SE = se := by
            cases se with
            | true => exact hs1 rfl
            | false =>
              have := hs2 rfl
              rw [List.drop_eq_nil_of_le h4] at this
              rw [this]; rfl
          repeat (first | refine gcT Tk Tryz.func22 rfl ?_ | refine gkT Tk Tryz.func22 rfl ?_ | refine skT Tk ?_ | refine gcF Tk Tryz.func22 rfl ?_ | refine gkF Tk Tryz.func22 rfl ?_ | refine skF Tk ?_)
          refine g_stop ?_
          refine rch_meet (J trivial) ⟨rfl, rfl, rfl, rfl, rfl, rfl, rfl, by rw [hS]; rfl, trivial⟩ rfl ⟨rfl, rfl, rfl, trivial⟩ rfl rfl
      intro _
      clear hSE
      refine g_run Tk Tryz.func22 ?_
      refine g_go Tk Tryz.func22 ?_
      first | refine g_cnd Tk Tryz.func22 rfl (fun f1 => ?_) (fun f1 => ?_) | refine g_know Tk Tryz.func22 rfl (fun f1 => ?_) (fun f1 => ?_) | refine s_know Tk (fun f1 => ?_) (fun f1 => ?_)
      · have f1 : SE = false := notT f1
        rw [if_neg (by rw [f1]; decide)] at k2
        obtain ⟨y, rfl, rfl, k3, k4⟩ := k2
        first | refine g_need Tk Tryz.func22 (by exact ⟨by show (l.length + 1) * 16 ≤ 140737488355328; omega, by show l.length + 1 ≤ 9223372036854775807; omega⟩) ?_ | refine s_need Tk (by exact ⟨by show (l.length + 1) * 16 ≤ 140737488355328; omega, by show l.length + 1 ≤ 9223372036854775807; omega⟩) ?_
        refine g_loop ?_
        refine ih2 (j + 1, l ++ [y]) _ _ ⟨h2, k3, by rw [List.getElem?_append_left h1]; exact hz, fun e he => ?_⟩ (by simp only; omega) ⟨rfl, rfl, rfl, rfl, hj1, trivial⟩ rfl ⟨rfl, rfl, congrArg some (onps_app l y), trivial⟩ rfl rfl
        simp only at he
        rw [htk, List.mem_append, List.mem_singleton] at he
        rcases he with he | rfl
        · exact fineE_mono (fun z hz => List.mem_append_left _ hz) (hfe e he)
        · exact k4
      · have f1 : SE = true := notF f1
        rw [if_pos f1] at k2
        refine g_loop ?_
        refine ih2 (j + 1, l) _ _ ⟨h2, hok, hz, fun e he => ?_⟩ (by simp only; omega) ⟨rfl, rfl, rfl, rfl, hj1, trivial⟩ rfl ⟨rfl, rfl, rfl, trivial⟩ rfl rfl
        simp only at he
        rw [htk, List.mem_append, List.mem_singleton] at he
        rcases he with he | rfl
        · exact hfe e he
        · exact k2
    · have h2 : kp.length ≤ j := by simpa using g2
      rw [List.take_of_length_le h2] at hfe
      refine g_loop ?_
      exact ih (i + 1, l) _ _ ⟨h1, prOk_next hok hz hpm1 hfe⟩ (by simp only; omega) ⟨rfl, rfl, rfl, congrArg ii (wsucc (n := 5000) (by omega) (by decide)), trivial⟩ rfl ⟨rfl, rfl, rfl, trivial⟩ rfl rfl
  · have h1 : l.length ≤ i := by simpa using g1
    have e := hpd l i hok h1
    subst e
    refine g_ret Tk (r := bb true) rfl rfl rfl trivial rfl rfl ?_
    rfl
end Go.AI


namespace Go.AI
open Go.Proofs
set_option maxRecDepth 20000
theorem differs57 (O : List Heap) (a : Aut) (on un x y : List Int) (R : List (List Edg)) (d nm : Nat) (hm : a.marked.length ≤ max63) (hx : x.length ≤ max63) (hy : y.length ≤ max63) (ho : objAt O d nm = some (.box [.i (vptr a on un R)])) :
    ASpec Tryz.prog 57 [ints x, ints y, .own d nm 0 0] O (bb (badK a x y)) [] O := by
  have h1 := fun O => marks58 O a on un x R hm hx
  have h2 := fun O => marks58 O a on un y R hm hy
  have e : badK a x y = ((decide (x.length = 0) != decide (y.length = 0)) || ((x.any fun x => decide (x ∈ a.marked)) != (y.any fun x => decide (x ∈ a.marked)))) := rfl
  rw [e]
  clear e
  generalize (x.any fun x => decide (x ∈ a.marked)) = mx at *
  generalize (y.any fun x => decide (x ∈ a.marked)) = my at *
  have ex : ((x.length : Int) == 0) = decide (x.length = 0) := by
    by_cases h : x.length = 0 <;> simp [h]
  have ey : ((y.length : Int) == 0) = decide (y.length = 0) := by
    by_cases h : y.length = 0 <;> simp [h]
  rw [← ex, ← ey]
  refine aspec_intro Tk Tryz.func57 rfl Tryz.call57 Tryz.ntmps57 (Nat.le_of_ble_eq_true rfl) fun E => ?_
  refine g_run Tk Tryz.func57 ?_
  refine g_drawn Tk Tryz.func57 mixedT rfl ?_
  first | refine g_cnd Tk Tryz.func57 rfl (fun c1 => ?_) (fun c1 => ?_) | refine g_know Tk Tryz.func57 rfl (fun c1 => ?_) (fun c1 => ?_) | refine s_know Tk (fun c1 => ?_) (fun c1 => ?_)
  · have c1 : (((x.length : Int) == 0) != ((y.length : Int) == 0)) = true := c1
    refine e_done Tk Tryz.func57 (by kernel_rfl) ?_
    refine g_ret Tk (r := bb true) rfl rfl rfl trivial rfl rfl ?_
    rw [c1]
    rfl
  · have c1 : (((x.length : Int) == 0) != ((y.length : Int) == 0)) = false := c1
    first | refine g_obj Tk Tryz.func57 (ho) ?_ | refine s_obj Tk (ho) ?_
    first | refine g_call Tk Tryz.func57 (h1 _) rfl rfl rfl rfl rfl ?_ | refine s_callq Tk (fun _ => h1 _) rfl rfl rfl ?_
    first | refine g_obj Tk Tryz.func57 (ho) ?_ | refine s_obj Tk (ho) ?_
    first | refine g_call Tk Tryz.func57 (h2 _) rfl rfl rfl rfl rfl ?_ | refine s_callq Tk (fun _ => h2 _) rfl rfl rfl ?_
    refine e_done Tk Tryz.func57 (by kernel_rfl) ?_
    refine g_ret Tk (r := bb (mx != my)) rfl rfl rfl trivial rfl rfl ?_
    rw [c1]
    rfl
def rowX (r : List Int) : List (List I) := r.map fun x => [vi x]
def apR (a : Aut) (on : List Int) (n : Nat) (x y : Int) : Bool := (difR a on [] n (badK a) (clo a.edges (lowP on [] false) n [x]) (clo a.edges (lowP on [] false) n [y])).isSome
theorem difD_2 (o : Option (PS × List Int)) : ∃ w, difD o = .tup [ints w, bb o.isSome] := by
  cases o with
  | none => exact ⟨[], rfl⟩
  | some x => exact ⟨x.2, rfl⟩
set_option maxHeartbeats 4000000 in
theorem cls60 {g : Nat} (hg : IsTab g) {ty : TypeId} {fr : Nat × Nat} {K0 : Kn} (O : List Heap) (a : Aut) (on : List Int) (n : Nat) (hst : a.states = n) (hn : n ≤ 5) (hc : chkA a = 0) (h : smallA a) (hon : on.length ≤ max63)
    (v : Value) (r : List Int) (c x : Int) (hv : Rep K0 v (.sl 1 r.length (rowX r))) (hr : r[0]? = some c) (hc0 : 0 ≤ c ∧ c < (n : Int)) (hx0 : 0 ≤ x ∧ x < (n : Int))
    (h6 : objAt O 1 6 = some (.box [.i (vptr a on [] (outOf n a.edges))])) (h10 : objAt O 1 10 = some (.box [ii x])) (h8 : objAt O 1 8 = some (.box [.fn (.func 57) [] [.own 0 6 0 0]])) :
    ASpecQ g (ptab ty fr) K0 Tryz.prog 60 [.i (.v v), .own 1 6 0 0, .own 1 10 0 0, .own 1 8 0 0] O (bb (!apR a on n c x)) [] O := by
  have hes := (chk_rng hc).2.1
  rw [hst] at hes
  have hcl := fun O s (hs : 0 ≤ s ∧ s < (n : Int)) => closure62 O a on [] [s] false n (by omega) hes h.ed (by simpa using hs) (by simp) hon (by simp)
  have hc1 := fun O => hcl O c hc0
  have hc2 := fun O => hcl O x hx0
  have hsA : clo a.edges (lowP on [] false) n [c] ∈ subs n := sorted_subs _ _
  have hsB : clo a.edges (lowP on [] false) n [x] ∈ subs n := sorted_subs _ _
  have hd := fun H => differ61 hg (ty := ty) (fr := fr) (H :: O) a on [] _ _ n 57 2 6 (badK a) hn hes h.ed h.al hon (by simp) hsA hsB fun x hx y hy H' => differs57 (H' :: H :: O) a on [] x y _ 3 6 (by have := h.mkd; simp only [max63]; omega) (by have := (mem_subs hx).1; simp only [max63]; omega) (by have := (mem_subs hy).1; simp only [max63]; omega) (up_obj (up_obj h6))
  obtain ⟨w, hw⟩ := difD_2 (difR a on [] n (badK a) (clo a.edges (lowP on [] false) n [c]) (clo a.edges (lowP on [] false) n [x]))
  rw [hw] at hd
  have e : apR a on n c x = (difR a on [] n (badK a) (clo a.edges (lowP on [] false) n [c]) (clo a.edges (lowP on [] false) n [x])).isSome := rfl
  rw [← e] at hd
  clear e
  have hrl : 0 < r.length := (List.getElem?_eq_some_iff.1 hr).1
  have gr : (rowX r)[(0 : Int).toNat]? = some [vi c] := by unfold rowX; rw [List.getElem?_map]; show (r[0]?).map _ = _; rw [hr]; rfl
  have hmk := h.mkd
  generalize apR a on n c x = B at *
  generalize clo a.edges (lowP on [] false) n [c] = A1 at *
  generalize clo a.edges (lowP on [] false) n [x] = A2 at *
  refine aspecQ_stop [] Tk Tryz.func60 rfl Tryz.call60 Tryz.ntmps60 (Nat.le_of_ble_eq_true rfl) fun E hE hK => ?_
  refine rch_wk (wk_known 0 (hv.mono hK) rfl) ?_
  refine g_run Tk Tryz.func60 ?_
  refine g_drawn Tk Tryz.func60 mixedT rfl ?_
  first | refine g_obj Tk Tryz.func60 (h6) ?_ | refine s_obj Tk (h6) ?_
  first | refine g_obj Tk Tryz.func60 (h6) ?_ | refine s_obj Tk (h6) ?_
  first | refine g_need Tk Tryz.func60 (by exact ⟨by decide, by show (0 : Int) < (r.length : Int); omega⟩) ?_ | refine s_need Tk (by exact ⟨by decide, by show (0 : Int) < (r.length : Int); omega⟩) ?_
  first | refine g_elem Tk Tryz.func60 (gr) ?_ | refine s_elem Tk (gr) ?_
  first | refine g_call Tk Tryz.func60 (hc1 _) rfl rfl rfl rfl rfl ?_ | refine s_callq Tk (fun _ => hc1 _) rfl rfl rfl ?_
  first | refine g_obj Tk Tryz.func60 (h6) ?_ | refine s_obj Tk (h6) ?_
  first | refine g_obj Tk Tryz.func60 (h10) ?_ | refine s_obj Tk (h10) ?_
  first | refine g_call Tk Tryz.func60 (hc2 _) rfl rfl rfl rfl rfl ?_ | refine s_callq Tk (fun _ => hc2 _) rfl rfl rfl ?_
  first | refine g_obj Tk Tryz.func60 (h8) ?_ | refine s_obj Tk (h8) ?_
  refine s_callT Tk hE (hd _) rfl rfl rfl rfl ?_
  refine e_done Tk Tryz.func60 (by kernel_rfl) ?_
  refine g_ret Tk (r := bb (!B)) rfl rfl rfl trivial rfl rfl ?_
  rfl
def fiL (q : List Int → Bool) : List (List Int) → Nat → Int
  | [], _ => -1
  | c :: r, i => if q c = true then (i : Int) else fiL q r (i + 1)
theorem fiL_spec {q : List Int → Bool} : ∀ {l : List (List Int)} {i : Nat}, (fiL q l i = -1 ∧ ∀ c ∈ l, q c = false) ∨ ∃ (j : Nat) (c : List Int), fiL q l i = ((i + j : Nat) : Int) ∧ l[j]? = some c ∧ q c = true ∧ ∀ (k : Nat) c', k < j → l[k]? = some c' → q c' = false
  | [], i => .inl ⟨rfl, by simp⟩
  | c :: r, i => by
    by_cases h : q c = true
    · refine .inr ⟨0, c, by simp [fiL, h], rfl, h, fun k c' hk => absurd hk (Nat.not_lt_zero _)⟩
    · have h : q c = false := by simpa using h
      have e : fiL q (c :: r) i = fiL q r (i + 1) := by simp [fiL, h]
      rw [e]
      rcases fiL_spec (q := q) (l := r) (i := i + 1) with ⟨h1, h2⟩ | ⟨j, c', h1, h2, h3, h4⟩
      · refine .inl ⟨h1, fun x hx => ?_⟩
        rcases List.mem_cons.1 hx with rfl | hx
        · exact h
        · exact h2 x hx
      · refine .inr ⟨j + 1, c', by rw [h1]; congr 1; omega, by simpa using h2, h3, fun k x hk hx => ?_⟩
        cases k with
        | zero => simp at hx; subst hx; exact h
        | succ k => exact h4 k x (by omega) (by simpa using hx)
theorem index59 {g : Nat} {ty : TypeId} {fr : Nat × Nat} {K0 : Kn} (O : List Heap) (vs : List Value) (cls : List (List Int)) (q : List Int → Bool) (w : Nat) (hl : vs.length = cls.length) (hll : cls.length ≤ 4096) (ho : objAt O 0 w = some (.arr 29 1 vs.length (vs.map fun v => [.v v]) true))
    (hq : ∀ (j : Nat) v c, vs[j]? = some v → cls[j]? = some c → ∀ H, ASpecQ g (ptab ty fr) K0 Tryz.prog 60 [.i (.v v), .own 1 6 0 0, .own 1 10 0 0, .own 1 8 0 0] (H :: O) (bb (q c)) [] (H :: O)) :
    ASpecQ g (ptab ty fr) K0 Tryz.prog 59 [.osl 0 w, .fn (.func 60) [] [.own 0 6 0 0, .own 0 10 0 0, .own 0 8 0 0]] O (ii (fiL q cls 0)) [] O := by
  have hO : ∀ H, objAt (H :: O) 1 w = some (.arr 29 1 vs.length (vs.map fun v => [.v v]) true) := fun H => up_obj ho
  have hno : fiL q cls 0 = fiL q (cls.drop 0) 0 := rfl
  generalize fiL q cls 0 = R at *
  refine aspecQ_stop [] Tk Tryz.func59 rfl Tryz.call59 Tryz.ntmps59 (Nat.le_of_ble_eq_true rfl) fun E hE hK => ?_
  refine g_run Tk Tryz.func59 ?_
  first | refine g_obj Tk Tryz.func59 (hO _) ?_ | refine s_obj Tk (hO _) ?_
  refine g_loop ?_
  refine rch_loop2 (fun i : Nat => [(0, .osl 1 w), (1, .fn (.func 60) [] [.own 1 6 0 0, .own 1 10 0 0, .own 1 8 0 0]), (7, ii vs.length), (8, ii i)]) (fun _ => []) (fun _ => O) 19
    (fun i => i ≤ vs.length ∧ R = fiL q (cls.drop i) i) (fun i => vs.length - i) 0 ⟨Nat.zero_le _, hno⟩ ⟨rfl, rfl, rfl, rfl, trivial⟩ rfl trivial rfl rfl ?_
  rintro i ⟨hi, hno⟩ ih
  refine g_run Tk Tryz.func59 ?_
  first | refine g_cnd Tk Tryz.func59 rfl (fun g1 => ?_) (fun g1 => ?_) | refine g_know Tk Tryz.func59 rfl (fun g1 => ?_) (fun g1 => ?_) | refine s_know Tk (fun g1 => ?_) (fun g1 => ?_)
  · have h1 : i < vs.length := by simpa using g1
    have h2 : i < cls.length := by omega
    have hv : vs[i]? = some vs[i] := List.getElem?_eq_getElem h1
    have gv : (vs.map fun v => [I.v v])[(i : Int).toNat]? = some [I.v vs[i]] := by rw [Int.toNat_natCast, List.getElem?_map, hv]; rfl
    have hqi := hq i _ cls[i] hv (List.getElem?_eq_getElem h2)
    rw [List.drop_eq_getElem_cons h2] at hno
    simp only [fiL] at hno
    generalize vs[i] = v at *
    generalize cls[i] = c at *
    generalize q c = b at *
    first | refine g_obj Tk Tryz.func59 (hO _) ?_ | refine s_obj Tk (hO _) ?_
    first | refine g_need Tk Tryz.func59 (by exact ⟨by omega, by show (i : Int) < (vs.length : Int); omega⟩) ?_ | refine s_need Tk (by exact ⟨by omega, by show (i : Int) < (vs.length : Int); omega⟩) ?_
    first | refine g_obj Tk Tryz.func59 (hO _) ?_ | refine s_obj Tk (hO _) ?_
    first | refine g_elem Tk Tryz.func59 (gv) ?_ | refine s_elem Tk (gv) ?_
    refine g_callQ Tk Tryz.func59 hE hK (hqi _) rfl rfl rfl rfl rfl rfl ?_
    first | refine g_cnd Tk Tryz.func59 rfl (fun c1 => ?_) (fun c1 => ?_) | refine g_know Tk Tryz.func59 rfl (fun c1 => ?_) (fun c1 => ?_) | refine s_know Tk (fun c1 => ?_) (fun c1 => ?_)
    · have c1 : b = true := c1
      rw [if_pos c1] at hno
      subst hno
      refine g_ret Tk (r := ii (i : Int)) rfl rfl rfl trivial rfl rfl ?_
      rfl
    · have c1 : b = false := c1
      rw [if_neg (by rw [c1]; decide)] at hno
      refine g_loop ?_
      exact ih (i + 1) _ _ ⟨h1, hno⟩ (by omega) ⟨rfl, rfl, rfl, congrArg ii (wsucc (n := 5000) (by omega) (by decide)), trivial⟩ rfl trivial rfl rfl
  · have h1 : vs.length ≤ i := by simpa using g1
    rw [List.drop_eq_nil_of_le (by omega)] at hno
    have hno : R = -1 := hno
    subst hno
    refine g_ret Tk (r := ii (-1)) rfl rfl rfl trivial rfl rfl ?_
    rfl
end Go.AI


namespace Go.AI
open Go.Proofs
set_option maxRecDepth 20000
def clsIns (ap : Int → Int → Bool) (x : Int) : List (List Int) → List (List Int)
  | [] => [[x]]
  | c :: r => if ap (c.headD 0) x = true then c :: clsIns ap x r else (c ++ [x]) :: r
theorem clsIns_none {ap : Int → Int → Bool} {x : Int} : ∀ {l : List (List Int)}, (∀ c ∈ l, ap (c.headD 0) x = true) → clsIns ap x l = l ++ [[x]]
  | [], _ => rfl
  | c :: r, h => by
    simp only [clsIns]
    rw [if_pos (h c (by simp)), clsIns_none fun c hc => h c (by simp [hc])]
    rfl
theorem clsIns_at {ap : Int → Int → Bool} {x : Int} : ∀ {l : List (List Int)} {j : Nat} {c : List Int}, l[j]? = some c → ap (c.headD 0) x = false → (∀ (k : Nat) c', k < j → l[k]? = some c' → ap (c'.headD 0) x = true) → clsIns ap x l = l.set j (c ++ [x])
  | [], j, c, h, _, _ => by simp at h
  | d :: r, 0, c, h, h1, _ => by
    simp at h
    subst h
    have : ¬ ap (d.headD 0) x = true := by rw [h1]; decide
    simp only [clsIns]
    rw [if_neg this]
    rfl
  | d :: r, j + 1, c, h, h1, h2 => by
    simp only [clsIns]
    rw [if_pos (h2 0 d (by omega) rfl), clsIns_at (l := r) (j := j) (by simpa using h) h1 fun k c' hk hc => h2 (k + 1) c' (by omega) (by simpa using hc)]
    rfl
def clsAll (ap : Int → Int → Bool) (l : List Int) (cls : List (List Int)) : List (List Int) := l.foldl (fun l x => clsIns ap x l) cls
structure clsOk (n i : Nat) (l : List (List Int)) : Prop where
  len : l.length ≤ i
  row : ∀ r ∈ l, r.length ≤ i ∧ ∃ c t, r = c :: t ∧ 0 ≤ c ∧ c < (n : Int)
theorem clsOk_app {n i : Nat} {l : List (List Int)} (h : clsOk n i l) (hi : i < n) : clsOk n (i + 1) (l ++ [[(i : Int)]]) := by
  refine ⟨by have := h.len; simp; omega, fun r hr => ?_⟩
  rcases List.mem_append.1 hr with hr | hr
  · obtain ⟨h1, h2⟩ := h.row r hr
    exact ⟨by omega, h2⟩
  · rw [List.mem_singleton] at hr
    subst hr
    exact ⟨by simp, i, [], rfl, by omega, by omega⟩
theorem clsOk_set {n i j : Nat} {l : List (List Int)} {c : List Int} (h : clsOk n i l) (hc : l[j]? = some c) (x : Int) : clsOk n (i + 1) (l.set j (c ++ [x])) := by
  refine ⟨by have := h.len; simp; omega, fun r hr => ?_⟩
  rcases List.mem_or_eq_of_mem_set hr with hr | rfl
  · obtain ⟨h1, h2⟩ := h.row r hr
    exact ⟨by omega, h2⟩
  · obtain ⟨h1, c0, t, e, h2⟩ := h.row c (List.mem_of_getElem? hc)
    exact ⟨by simp; omega, c0, t ++ [x], by rw [e]; rfl, h2⟩
theorem intsV_drop {n i : Nat} (h : i < n) : (intsV n).drop i = (i : Int) :: (intsV n).drop (i + 1) := by
  have hl : (intsV n).length = n := by simp [intsV]
  rw [List.drop_eq_getElem_cons (by rw [hl]; exact h)]
  congr 1
  simp [intsV]
set_option maxHeartbeats 8000000 in
theorem classes21 {g : Nat} (hg : IsTab g) {ty : TypeId} {fr : Nat × Nat} (O : List Heap) (a : Aut) (on : List Int) (n : Nat) (hst : a.states = n) (hn : n ≤ 5) (h : smallA a) (hon : on.length ≤ max63) (he : opE a on [] = 0) :
    ASpecT g (ptab ty fr) Tryz.prog 21 [autD a, ints on] O (.tup [.i (rowsS (clsAll (apR a on n) (intsV n) [])), ii 0]) [] O := by
  have h1 := fun O => coNil (opened42v O a on [] n hst (by omega) h hon (by simp) he)
  have hc : chkA a = 0 := by
    unfold opE at he
    by_cases c : chkA a = 0
    · exact c
    · rw [if_pos c] at he; exact he
  have h60 := fun {K0 : Kn} O v r c x hv hr hc0 hx0 h6 h10 h8 => cls60 hg (ty := ty) (fr := fr) (K0 := K0) O a on n hst hn hc h hon v r c x hv hr hc0 hx0 h6 h10 h8
  generalize hap : apR a on n = ap at *
  generalize hK : clsAll ap (intsV n) [] = KK
  have hst2 := hst
  obtain ⟨al, st, mk, es⟩ := a
  simp only at hst2
  subst hst2
  refine aspecT_stop [100034, 200035, 14] Tk Tryz.func21 rfl Tryz.call21 Tryz.ntmps21 (Nat.le_of_ble_eq_true rfl) fun E hE => ?_
  refine g_run Tk Tryz.func21 ?_
  first | refine g_call Tk Tryz.func21 (h1 _) rfl rfl rfl rfl rfl ?_ | refine s_callq Tk (fun _ => h1 _) rfl rfl rfl ?_
  first | refine gcF Tk Tryz.func21 rfl ?_ | refine gkF Tk Tryz.func21 rfl ?_ | refine skF Tk ?_
  refine g_loop ?_
  refine rch_wk (wk_nil 9 36 29 1 rfl rfl rfl) ?_
  refine rch_loopE (fun x : Nat × List Value × List (List Int) => [(6, .own 0 6 0 0), (8, .own 0 8 0 0), (9, .osl 0 36), (23, ii n), (24, ii x.1)]) (fun x => [(6, .box [.i (vptr ⟨al, n, mk, es⟩ on [] (outOf n es))]), (8, .box [.fn (.func 57) [] [.own 0 6 0 0]]), (36, .arr 29 1 x.2.1.length (x.2.1.map fun v => [.v v]) true)]) (fun _ => O) 49
    (fun E' x => x.1 ≤ n ∧ RowsO E E' O 3 1 x.2.1 (x.2.2.map rowX) ∧ clsOk n x.1 x.2.2 ∧ clsAll ap ((intsV n).drop x.1) x.2.2 = KK) (fun x => n - x.1) (0, [], [])
    ⟨Nat.zero_le _, rows_nil E O 3 1 0, ⟨Nat.le_refl _, by simp⟩, hK⟩ ⟨rfl, rfl, rfl, rfl, rfl, trivial⟩ rfl ⟨rfl, rfl, rfl, trivial⟩ rfl rfl ?_
  clear hK
  rintro E1 ⟨i, vs, cls⟩ ⟨hi, hR, hok, hno⟩ ih
  simp only at hi hR hok hno
  have hE1 := hR.base.eok.tb g (ptab ty fr) O rfl hE
  have hvl : vs.length = cls.length := by rw [hR.len, List.length_map]
  have hcl := hok.len
  have hj1 : ii (IntKind.i64.wrap ((i : Int) + 1)) = ii ((i + 1 : Nat) : Int) := congrArg ii (wsucc (n := 4096) (by omega) (by decide))
  refine g_run Tk Tryz.func21 ?_
  first | refine g_cnd Tk Tryz.func21 rfl (fun g1 => ?_) (fun g1 => ?_) | refine g_know Tk Tryz.func21 rfl (fun g1 => ?_) (fun g1 => ?_) | refine s_know Tk (fun g1 => ?_) (fun g1 => ?_)
  · have h2 : i < n := by have := of_decide_eq_true g1; omega
    clear g1
    have hq : ∀ (j : Nat) v c, vs[j]? = some v → cls[j]? = some c → ∀ O, objAt O 1 6 = some (.box [.i (vptr ⟨al, n, mk, es⟩ on [] (outOf n es))]) → objAt O 1 10 = some (.box [ii i]) → objAt O 1 8 = some (.box [.fn (.func 57) [] [.own 0 6 0 0]]) →
        ASpecQ g (ptab ty fr) E1.K0 Tryz.prog 60 [.i (.v v), .own 1 6 0 0, .own 1 10 0 0, .own 1 8 0 0] O (bb (!ap (c.headD 0) i)) [] O := by
      intro j v c hv hc O a6 a10 a8
      obtain ⟨_, c0, t, e, hc0⟩ := hok.row c (List.mem_of_getElem? hc)
      have hrep := (hR.row j v (rowX c) hv (by rw [List.getElem?_map, hc]; rfl)).rep (Kn.le_refl _)
      have hrl : (rowX c).length = c.length := by simp [rowX]
      rw [hrl] at hrep
      have := h60 (K0 := E1.K0) O v c c0 i hrep (by rw [e]; rfl) hc0 ⟨by omega, by omega⟩ a6 a10 a8
      rw [e]
      exact this
    rw [intsV_drop h2] at hno
    have hno : clsAll ap ((intsV n).drop (i + 1)) (clsIns ap i cls) = KK := hno
    have hfi := fiL_spec (q := fun c => !ap (c.headD 0) i) (l := cls) (i := 0)
    have hix := fun O ho (hh : _) => index59 (g := g) (ty := ty) (fr := fr) (K0 := E1.K0) O vs cls (fun c => !ap (c.headD 0) i) 36 hvl (by omega) ho hh
    generalize fiL (fun c => !ap (c.headD 0) i) cls 0 = R at *
    refine g_callQ Tk Tryz.func21 hE1 (Kn.le_refl _) (hix _ rfl fun j v c hv hc H => hq j v c hv hc _ rfl rfl rfl) rfl rfl rfl rfl rfl rfl ?_
    rcases hfi with ⟨r1, r2⟩ | ⟨j, c, r1, r2, r3, r4⟩
    · subst r1
      repeat (first | refine gcT Tk Tryz.func21 rfl ?_ | refine gkT Tk Tryz.func21 rfl ?_ | refine skT Tk ?_ | refine gcF Tk Tryz.func21 rfl ?_ | refine gkF Tk Tryz.func21 rfl ?_ | refine skF Tk ?_)
      have hins := clsIns_none (ap := ap) (x := i) (l := cls) fun c hc => by have := r2 c hc; simpa using this
      rw [hins] at hno
      refine g_giveP 34 hR rfl rfl rfl ?_
      intro E2 v hR2
      refine g_pause Tk Tryz.func21 rfl rfl (fun K ρ a w hi => ⟨K, ρ, hi⟩) ?_
      first | refine g_need Tk Tryz.func21 (by exact ⟨by show (vs.length + 1) * 24 ≤ 140737488355328; omega, by show vs.length + 1 ≤ 9223372036854775807; omega⟩) ?_ | refine s_need Tk (by exact ⟨by show (vs.length + 1) * 24 ≤ 140737488355328; omega, by show vs.length + 1 ≤ 9223372036854775807; omega⟩) ?_
      refine g_loop ?_
      refine ih E2 (i + 1, vs ++ [v], cls ++ [[(i : Int)]]) _ _ ⟨h2, ?_, clsOk_app hok h2, hno⟩ (by simp only; omega) ⟨rfl, rfl, rfl, rfl, hj1, trivial⟩ rfl ⟨rfl, rfl, ?_, trivial⟩ rfl rfl
      · show RowsO E E2 O 3 1 (vs ++ [v]) ((cls ++ [[(i : Int)]]).map rowX)
        rw [List.map_append]
        exact hR2
      · show some (Ob.arr 29 1 (vs.length + 1) ((vs.map fun v => [I.v v]) ++ [[I.v v]]) true) = some (Ob.arr 29 1 (vs ++ [v]).length ((vs ++ [v]).map fun v => [I.v v]) true)
        simp
    · subst r1
      have hjl : j < cls.length := (List.getElem?_eq_some_iff.1 r2).1
      have hins := clsIns_at (ap := ap) (x := i) (l := cls) (j := j) (c := c) r2 (by simpa using r3) fun k c' hk hc => by have := r4 k c' hk hc; simpa using this
      rw [hins] at hno
      have hcr := (hok.row c (List.mem_of_getElem? r2)).1
      have hv : vs[j]? = some vs[j] := List.getElem?_eq_getElem (by omega)
      have gv : (vs.map fun v => [I.v v])[((0 + j : Nat) : Int).toNat]? = some [I.v vs[j]] := by rw [Nat.zero_add, Int.toNat_natCast, List.getElem?_map, hv]; rfl
      have hxs : (cls.map rowX)[j]? = some (rowX c) := by rw [List.getElem?_map, r2]; rfl
      have hb : ((rowX c).length + 1) * 8 ≤ 140737488355328 ∧ (rowX c).length + 1 ≤ 9223372036854775807 := by
        have : (rowX c).length = c.length := by simp [rowX]
        constructor <;> omega
      have hlt : ¬ (((0 + j : Nat) : Int) < 0) := by omega
      first | refine g_cnd Tk Tryz.func21 rfl (fun q1 => ?_) (fun q1 => ?_) | refine g_know Tk Tryz.func21 rfl (fun q1 => ?_) (fun q1 => ?_) | refine s_know Tk (fun q1 => ?_) (fun q1 => ?_)
      · exact absurd (of_decide_eq_true q1) hlt
      refine g_drawnR Tk E 8 rfl ?_
      first | refine g_need Tk Tryz.func21 (by exact ⟨show (0 : Int) ≤ ((0 + j : Nat) : Int) by omega, show ((0 + j : Nat) : Int) < (vs.length : Int) by omega⟩) ?_ | refine s_need Tk (by exact ⟨show (0 : Int) ≤ ((0 + j : Nat) : Int) by omega, show ((0 + j : Nat) : Int) < (vs.length : Int) by omega⟩) ?_
      first | refine g_elem Tk Tryz.func21 (gv) ?_ | refine s_elem Tk (gv) ?_
      refine e_fRow Tk Tryz.func21 mixedT (m := 1) (ti2 := TryzI3) hR hv hxs hb [9, 10] rfl rfl rfl rfl rfl rfl rfl rfl rfl rfl rfl rfl rfl rfl rfl (fun _ => by kernel_rfl) (by kernel_rfl) ?_
      intro E2 v2 hR2
      first | refine g_need Tk Tryz.func21 (by exact ⟨show (0 : Int) ≤ ((0 + j : Nat) : Int) by omega, show ((0 + j : Nat) : Int) < (vs.length : Int) by omega⟩) ?_ | refine s_need Tk (by exact ⟨show (0 : Int) ≤ ((0 + j : Nat) : Int) by omega, show ((0 + j : Nat) : Int) < (vs.length : Int) by omega⟩) ?_
      refine g_loop ?_
      refine ih E2 (i + 1, vs.set j v2, cls.set j (c ++ [(i : Int)])) _ _ ⟨h2, ?_, clsOk_set hok r2 i, hno⟩ (by simp only; omega) ⟨rfl, rfl, rfl, rfl, hj1, trivial⟩ rfl ⟨rfl, rfl, ?_, trivial⟩ rfl rfl
      · show RowsO E E2 O 3 1 (vs.set j v2) ((cls.set j (c ++ [(i : Int)])).map rowX)
        rw [List.map_set]
        have : rowX (c ++ [(i : Int)]) = rowX c ++ [[vi (i : Int)]] := by simp [rowX]
        rw [this]
        exact hR2
      · show some (Ob.arr 29 1 vs.length ((vs.map fun v => [I.v v]).set ((0 + j : Nat) : Int).toNat [I.v v2]) true) = some (Ob.arr 29 1 (vs.set j v2).length ((vs.set j v2).map fun v => [I.v v]) true)
        rw [Nat.zero_add, Int.toNat_natCast, List.map_set, List.length_set]
  · have h2 : n ≤ i := by have := of_decide_eq_false g1; omega
    rw [List.drop_of_length_le (by rw [intsV_len]; exact h2)] at hno
    have hno : cls = KK := hno
    subst hno
    refine g_stop ?_
    refine rch_wk (wk_rows 36 hR rfl rfl) ?_
    refine rch_unbase hR.base rfl ?_
    refine rch_wk (wk_freeze 36 rfl rfl) ?_
    refine g_run Tk Tryz.func21 ?_
    refine g_go Tk Tryz.func21 ?_
    refine g_ret Tk (r := .tup [.i (.sl 1 vs.length ((cls.map rowX).map fun xs => [I.sl 1 xs.length xs])), ii 0]) rfl rfl rfl trivial rfl rfl ?_
    rw [hvl, List.map_map]
    simp [rowsS, rowX, Function.comp_def]
end Go.AI


namespace Go.AI
open Go.Proofs
set_option maxRecDepth 20000
theorem sameWords23 (O : List Heap) (l m : List (List Int)) (hl : l.length ≤ 1000000) (hr : ∀ r ∈ l, r.length ≤ max63) : ASpec Tryz.prog 23 [.i (rowsS l), .i (rowsS m)] O (bb (decide (l = m))) [] O := by
  refine aspec_intro Tk Tryz.func23 rfl Tryz.call23 Tryz.ntmps23 (Nat.le_of_ble_eq_true rfl) fun E => ?_
  refine g_run Tk Tryz.func23 ?_
  first | refine g_cnd Tk Tryz.func23 rfl (fun c1 => ?_) (fun c1 => ?_) | refine g_know Tk Tryz.func23 rfl (fun c1 => ?_) (fun c1 => ?_) | refine s_know Tk (fun c1 => ?_) (fun c1 => ?_)
  · have c1 : (l.length : Int) ≠ (m.length : Int) := bneT c1
    have : ¬ l = m := fun e => c1 (by rw [e])
    refine g_ret Tk (r := bb false) rfl rfl rfl trivial rfl rfl ?_
    rw [decide_eq_false this]
  have c1 : (l.length : Int) = (m.length : Int) := bneF c1
  have c1 : l.length = m.length := by omega
  refine g_loop ?_
  refine rch_loop2 (fun i : Nat => [(0, .i (rowsS l)), (1, .i (rowsS m)), (5, ii i)]) (fun _ => []) (fun _ => O) 27
    (fun i => i ≤ l.length ∧ decide (l = m) = decide (l.drop i = m.drop i)) (fun i => l.length - i) 0 ⟨Nat.zero_le _, rfl⟩ ⟨rfl, rfl, rfl, trivial⟩ rfl trivial rfl rfl ?_
  rintro i ⟨hi, hno⟩ ih
  refine g_run Tk Tryz.func23 ?_
  first | refine g_cnd Tk Tryz.func23 rfl (fun g1 => ?_) (fun g1 => ?_) | refine g_know Tk Tryz.func23 rfl (fun g1 => ?_) (fun g1 => ?_) | refine s_know Tk (fun g1 => ?_) (fun g1 => ?_)
  · have h1 : i < l.length := by simpa using g1
    have h2 : i < m.length := by omega
    have gl : (l.map fun r => [intsI r])[(i : Int).toNat]? = some [intsI l[i]] := get_mapZ (f := fun r => [intsI r]) h1
    have gm : (m.map fun r => [intsI r])[(i : Int).toNat]? = some [intsI m[i]] := get_mapZ (f := fun r => [intsI r]) h2
    rw [List.drop_eq_getElem_cons h1, List.drop_eq_getElem_cons h2] at hno
    have hrx := hr _ (List.getElem_mem h1)
    generalize l[i] = x at *
    generalize m[i] = y at *
    have hs := fun O => sameInts36 O x y hrx
    refine g_drawn Tk Tryz.func23 mixedT rfl ?_
    first | refine g_need Tk Tryz.func23 (by exact ⟨by omega, by show (i : Int) < (l.length : Int); omega⟩) ?_ | refine s_need Tk (by exact ⟨by omega, by show (i : Int) < (l.length : Int); omega⟩) ?_
    first | refine g_elem Tk Tryz.func23 (gl) ?_ | refine s_elem Tk (gl) ?_
    first | refine g_need Tk Tryz.func23 (by exact ⟨by omega, by show (i : Int) < (m.length : Int); omega⟩) ?_ | refine s_need Tk (by exact ⟨by omega, by show (i : Int) < (m.length : Int); omega⟩) ?_
    first | refine g_elem Tk Tryz.func23 (gm) ?_ | refine s_elem Tk (gm) ?_
    first | refine g_call Tk Tryz.func23 (hs _) rfl rfl rfl rfl rfl ?_ | refine s_callq Tk (fun _ => hs _) rfl rfl rfl ?_
    refine e_done Tk Tryz.func23 (by kernel_rfl) ?_
    first | refine g_cnd Tk Tryz.func23 rfl (fun c2 => ?_) (fun c2 => ?_) | refine g_know Tk Tryz.func23 rfl (fun c2 => ?_) (fun c2 => ?_) | refine s_know Tk (fun c2 => ?_) (fun c2 => ?_)
    · have c2 : ¬ x = y := of_decide_eq_false (notT c2)
      refine g_ret Tk (r := bb false) rfl rfl rfl trivial rfl rfl ?_
      rw [hno, decide_eq_false (by simp [c2])]
    · have c2 : x = y := of_decide_eq_true (notF c2)
      refine g_loop ?_
      exact ih (i + 1) _ _ ⟨h1, by rw [hno]; simp [c2]⟩ (by omega) ⟨rfl, rfl, congrArg ii (wsucc (n := 1000001) (by omega) (by decide)), trivial⟩ rfl trivial rfl rfl
  · have h1 : l.length ≤ i := by simpa using g1
    rw [List.drop_eq_nil_of_le h1, List.drop_eq_nil_of_le (by omega)] at hno
    refine g_ret Tk (r := bb true) rfl rfl rfl trivial rfl rfl ?_
    rw [hno]
    rfl
theorem g_segGo {c : Cx} {ops : Array Oper} {O : List Heap} {n : Nat} {F : SH → List Pl → Prop} {x : SH} {acc : List Pl} {l : List Oper} {N : Nat} (i : Nat) (hT : TOk c.P c.T) (hN : acc.length = N) (h : GE c ops O n F (runS c.T ops O n i l x acc)) : GE c ops O n (SegF c ops O n F N l) (.done x acc) :=
  ⟨⟨hN, runS_sound hT l i _ _ h.h⟩⟩
set_option maxHeartbeats 16000000 in
theorem classesL5 {g : Nat} (hg : IsTab g) {ty : TypeId} {fr : Nat × Nat} (O : List Heap) (b0 b1 gs gm : Int) (gt : Nat → Int) (hgr : grOkB gs gt) : ASpecT g (ptab ty fr) Tryz.prog 5 [.agg [u8D b0, u8D b1], .agg (grC gs gm gt)] O (bb true) [] O := by
  have hkn := fun O => known11 hg (ty := ty) (fr := fr) O
  obtain ⟨e1, e2, e3⟩ := evs_ok b0
  obtain ⟨hraw, ⟨n, hn, hga⟩, hal⟩ := mkA_ok (gs := gs) (gm := gm) e1 e2 e3 hgr.2
  have hev := fun O b => events13 O b
  have hmk := fun O => make12 O (evsOf b0) gs gm gt e3 hgr.1 hraw.1 hraw.2
  have hol : (evsOf b1).length ≤ max63 := by have := (evs_ok b1).2.2; simp only [max63]; omega
  have hcl := fun O => classes21 hg (ty := ty) (fr := fr) O (mkA (evsOf b0) gs gm gt) (evsOf b1) n hga.st hn hga.sm hol (opE_good hga.c (evs_chk b1) rfl)
  generalize mkA (evsOf b0) gs gm gt = a at *
  have hali := fun O x y hx hy => alike22 O a (evsOf b1) x y n hga hn hx hy hol
  have hap : ∀ x y, (difR a (evsOf b1) [] n (badK a) (clo a.edges (lowP (evsOf b1) [] false) n [x]) (clo a.edges (lowP (evsOf b1) [] false) n [y])).isSome = apR a (evsOf b1) n x y := fun _ _ => rfl
  simp only [hap] at hali
  have hev0 := fun O => hev O b0
  have hev1 := fun O => hev O b1
  have hst := hga.st
  generalize evsOf b0 = s0 at *
  generalize evsOf b1 = on at *
  generalize apR a on n = ap at *
  generalize hK : clsAll ap (intsV n) [] = KK at *
  clear hap e1 e2 e3 hraw hal hev hga hgr
  obtain ⟨al, st, mk, es⟩ := a
  simp only at hst
  subst hst
  refine aspecT_stop [12, 14, 15, 200068] Tk Tryz.func5 rfl Tryz.call5 Tryz.ntmps5 (Nat.le_of_ble_eq_true rfl) fun E hE => ?_
  refine g_run Tk Tryz.func5 ?_
  refine g_callT Tk Tryz.func5 hE (hkn _) rfl rfl rfl rfl rfl rfl ?_
  repeat (first | refine gcT Tk Tryz.func5 rfl ?_ | refine gkT Tk Tryz.func5 rfl ?_ | refine skT Tk ?_ | refine gcF Tk Tryz.func5 rfl ?_ | refine gkF Tk Tryz.func5 rfl ?_ | refine skF Tk ?_)
  refine g_drawn Tk Tryz.func5 mixedT rfl ?_
  first | refine g_need Tk Tryz.func5 (by decide) ?_ | refine s_need Tk (by decide) ?_
  first | refine g_call Tk Tryz.func5 (hev0 _) rfl rfl rfl rfl rfl ?_ | refine s_callq Tk (fun _ => hev0 _) rfl rfl rfl ?_
  first | refine g_call Tk Tryz.func5 (hmk _) rfl rfl rfl rfl rfl ?_ | refine s_callq Tk (fun _ => hmk _) rfl rfl rfl ?_
  first | refine g_need Tk Tryz.func5 (by decide) ?_ | refine s_need Tk (by decide) ?_
  first | refine g_call Tk Tryz.func5 (hev1 _) rfl rfl rfl rfl rfl ?_ | refine s_callq Tk (fun _ => hev1 _) rfl rfl rfl ?_
  refine s_old Tk ?_
  refine d_mod Tk (p := ⟨[], [(5, .box [ints al, ii n, ints mk, edgs es])], none⟩) rfl rfl rfl ?_
  refine d_done Tk Tryz.func5 (by kernel_rfl) (GM.h ?_)
  refine g_callT Tk Tryz.func5 hE (hcl _) rfl rfl rfl rfl rfl rfl ?_
  refine g_loop ?_
  refine rch_wk (wk_nil 9 59 29 1 rfl rfl rfl) ?_
  refine rch_loopE (fun x : Nat × List Value × List (List Int) => [(5, .own 0 5 0 0), (6, ints on), (7, .i (rowsS KK)), (8, ii 0), (9, .osl 0 59), (10, ii x.1)]) (fun x => [(5, .box [ints al, ii n, ints mk, edgs es]), (59, .arr 29 1 x.2.1.length (x.2.1.map fun v => [.v v]) true)]) (fun _ => O) 77
    (fun E' x => x.1 ≤ n ∧ RowsO E E' O 3 1 x.2.1 (x.2.2.map rowX) ∧ clsOk n x.1 x.2.2 ∧ clsAll ap ((intsV n).drop x.1) x.2.2 = KK) (fun x => n - x.1) (0, [], [])
    ⟨Nat.zero_le _, rows_nil E O 3 1 0, ⟨Nat.le_refl _, by simp⟩, hK⟩ ⟨rfl, rfl, rfl, rfl, rfl, rfl, trivial⟩ rfl ⟨rfl, rfl, trivial⟩ rfl rfl ?_
  clear hK hkn hev0 hev1 hmk hcl
  rintro E1 ⟨i, vs, cls⟩ ⟨hi, hR, hok, hno⟩ ih
  simp only at hi hR hok hno
  have hvl : vs.length = cls.length := by rw [hR.len, List.length_map]
  have hcl := hok.len
  have hj1 : ii (IntKind.i64.wrap ((i : Int) + 1)) = ii ((i + 1 : Nat) : Int) := congrArg ii (wsucc (n := 4096) (by omega) (by decide))
  refine g_run Tk Tryz.func5 ?_
  first | refine g_cnd Tk Tryz.func5 rfl (fun g1 => ?_) (fun g1 => ?_) | refine g_know Tk Tryz.func5 rfl (fun g1 => ?_) (fun g1 => ?_) | refine s_know Tk (fun g1 => ?_) (fun g1 => ?_)
  · have h2 : i < n := by have := of_decide_eq_true g1; omega
    clear g1
    rw [intsV_drop h2] at hno
    have hno : clsAll ap ((intsV n).drop (i + 1)) (clsIns ap i cls) = KK := hno
    have hali2 := fun O x hx => hali O x i hx ⟨by omega, by omega⟩
    refine g_loop ?_
    apply join_q (α := Nat) (P := fun m => (m = cls.length ∧ clsIns ap i cls = cls ++ [[(i : Int)]]) ∨ ∃ c, cls[m]? = some c ∧ clsIns ap i cls = cls.set m (c ++ [(i : Int)]))
      (s6 := fun m => { σ := [(5, .own 0 5 0 0), (6, ints on), (7, .i (rowsS KK)), (8, ii 0), (9, .osl 0 59), (10, ii i), (11, ii m)], S := [(5, .box [ints al, ii n, ints mk, edgs es]), (59, .arr 29 1 vs.length (vs.map fun v => [.v v]) true)] :: O, n := 77 })
    · intro J
      refine rch_loop2 (fun m : Nat => [(5, .own 0 5 0 0), (6, ints on), (7, .i (rowsS KK)), (8, ii 0), (9, .osl 0 59), (10, ii i), (11, ii m)]) (fun _ => [(5, .box [ints al, ii n, ints mk, edgs es]), (59, .arr 29 1 vs.length (vs.map fun v => [.v v]) true)]) (fun _ => O) 77
        (fun m => m ≤ cls.length ∧ ∀ (k : Nat) c, k < m → cls[k]? = some c → ap (c.headD 0) i = true) (fun m => cls.length - m) 0 ⟨Nat.zero_le _, fun k c hk => absurd hk (Nat.not_lt_zero _)⟩ ⟨rfl, rfl, rfl, rfl, rfl, rfl, rfl, trivial⟩ rfl ⟨rfl, rfl, trivial⟩ rfl rfl ?_
      rintro m ⟨hm, hall⟩ ih2
      refine g_run Tk Tryz.func5 ?_
      refine g_drawnSeg Tk 10 mixedT rfl (by decide) ?_
      first | refine g_cnd Tk Tryz.func5 rfl (fun g2 => ?_) (fun g2 => ?_) | refine g_know Tk Tryz.func5 rfl (fun g2 => ?_) (fun g2 => ?_) | refine s_know Tk (fun g2 => ?_) (fun g2 => ?_)
      · have h3 : m < cls.length := by have := of_decide_eq_true g2; omega
        have hv : vs[m]? = some vs[m] := List.getElem?_eq_getElem (by omega)
        have gv : (vs.map fun v => [I.v v])[(m : Int).toNat]? = some [I.v vs[m]] := by rw [Int.toNat_natCast, List.getElem?_map, hv]; rfl
        have hc : cls[m]? = some cls[m] := List.getElem?_eq_getElem h3
        have hxs : (cls.map rowX)[m]? = some (rowX cls[m]) := by rw [List.getElem?_map, hc]; rfl
        have hrep := (hR.row m _ _ hv hxs).rep (Kn.le_refl _)
        obtain ⟨_, c0, t, e, hc0⟩ := hok.row _ (List.getElem_mem h3)
        generalize vs[m] = v at *
        generalize cls[m] = c at *
        subst e
        have gc : (rowX (c0 :: t))[(0 : Int).toNat]? = some [vi c0] := rfl
        have hal3 := fun O => hali2 O c0 hc0
        have hcl0 : 0 < (rowX (c0 :: t)).length := by simp [rowX]
        have hhd : (c0 :: t).headD 0 = c0 := rfl
        generalize hB : ap c0 i = B at *
        first | refine g_need Tk Tryz.func5 (by exact ⟨by omega, by show (m : Int) < (vs.length : Int); omega⟩) ?_ | refine s_need Tk (by exact ⟨by omega, by show (m : Int) < (vs.length : Int); omega⟩) ?_
        refine e_row Tk (i := 11) rfl rfl rfl rfl rfl rfl rfl gv rfl hrep ?_
        first | refine g_need Tk Tryz.func5 (by exact ⟨by decide, by show (0 : Int) < ((rowX (c0 :: t)).length : Int); omega⟩) ?_ | refine s_need Tk (by exact ⟨by decide, by show (0 : Int) < ((rowX (c0 :: t)).length : Int); omega⟩) ?_
        first | refine g_elem Tk Tryz.func5 (gc) ?_ | refine s_elem Tk (gc) ?_
        first | refine g_call Tk Tryz.func5 (hal3 _) rfl rfl rfl rfl rfl ?_ | refine s_callq Tk (fun _ => hal3 _) rfl rfl rfl ?_
        refine e_done Tk Tryz.func5 (by kernel_rfl) ?_
        first | refine g_cnd Tk Tryz.func5 rfl (fun c3 => ?_) (fun c3 => ?_) | refine g_know Tk Tryz.func5 rfl (fun c3 => ?_) (fun c3 => ?_) | refine s_know Tk (fun c3 => ?_) (fun c3 => ?_)
        · have c3 : B = true := by simpa using c3
          refine g_loop ?_
          refine ih2 (m + 1) _ _ ⟨h3, fun k c' hk hc' => ?_⟩ (by omega) ⟨rfl, rfl, rfl, rfl, rfl, rfl, congrArg ii (wsucc (n := 4096) (by omega) (by decide)), trivial⟩ rfl ⟨rfl, rfl, trivial⟩ rfl rfl
          by_cases hkm : k = m
          · subst hkm
            rw [hc] at hc'
            obtain rfl := Option.some.inj hc'
            rw [hhd, hB, c3]
          · exact hall k c' (by omega) hc'
        · have c3 : B = false := by simpa using c3
          refine g_stop ?_
          refine rch_meet (J m (.inr ⟨c0 :: t, hc, clsIns_at hc (by rw [hhd, hB, c3]) hall⟩)) ⟨rfl, rfl, rfl, rfl, rfl, rfl, rfl, trivial⟩ rfl ⟨rfl, rfl, trivial⟩ rfl rfl
      · have h3 : cls.length ≤ m := by have := of_decide_eq_false g2; omega
        have hm2 : m = cls.length := by omega
        refine g_segGo 10 Tk rfl ?_
        refine e_done Tk Tryz.func5 (by kernel_rfl) ?_
        repeat (first | refine gcT Tk Tryz.func5 rfl ?_ | refine gkT Tk Tryz.func5 rfl ?_ | refine skT Tk ?_ | refine gcF Tk Tryz.func5 rfl ?_ | refine gkF Tk Tryz.func5 rfl ?_ | refine skF Tk ?_)
        refine g_stop ?_
        refine rch_meet (J m (.inl ⟨hm2, clsIns_none fun c hc => by
          obtain ⟨k, hk, e⟩ := List.getElem_of_mem hc
          exact hall k c (by omega) (by rw [List.getElem?_eq_getElem hk, e])⟩)) ⟨rfl, rfl, rfl, rfl, rfl, rfl, rfl, trivial⟩ rfl ⟨rfl, rfl, trivial⟩ rfl rfl
    intro m hm
    refine g_run Tk Tryz.func5 ?_
    refine g_go Tk Tryz.func5 ?_
    apply join_q (α := List Value × List (List Int) × List Int) (P := fun y => RowsO E E1 O 3 1 y.1 (y.2.1.map rowX) ∧ y.2.1[m]? = some y.2.2 ∧ clsIns ap i cls = y.2.1.set m (y.2.2 ++ [(i : Int)]) ∧ y.2.2.length ≤ i)
      (s6 := fun y => { σ := [(5, .own 0 5 0 0), (6, ints on), (7, .i (rowsS KK)), (8, ii 0), (9, .osl 0 59), (10, ii i), (11, ii m)], S := [(5, .box [ints al, ii n, ints mk, edgs es]), (59, .arr 29 1 y.1.length (y.1.map fun v => [.v v]) true)] :: O, n := 77 })
    · intro J
      first | refine g_cnd Tk Tryz.func5 rfl (fun c4 => ?_) (fun c4 => ?_) | refine g_know Tk Tryz.func5 rfl (fun c4 => ?_) (fun c4 => ?_) | refine s_know Tk (fun c4 => ?_) (fun c4 => ?_)
      · have c4 : (m : Int) = (vs.length : Int) := beqT c4
        have c4 : m = vs.length := by omega
        have hmc : m = cls.length := by omega
        have hins : clsIns ap i cls = cls ++ [[(i : Int)]] := by
          rcases hm with ⟨_, h⟩ | ⟨c, h, _⟩
          · exact h
          · have := (List.getElem?_eq_some_iff.1 h).1
            omega
        first | refine g_need Tk Tryz.func5 (by exact ⟨by show (vs.length + 1) * 24 ≤ 140737488355328; omega, by show vs.length + 1 ≤ 9223372036854775807; omega⟩) ?_ | refine s_need Tk (by exact ⟨by show (vs.length + 1) * 24 ≤ 140737488355328; omega, by show vs.length + 1 ≤ 9223372036854775807; omega⟩) ?_
        refine g_stop ?_
        refine rch_meet (J (vs ++ [.slice none 0 0], cls ++ [[]], []) ⟨?_, by simp only; rw [hmc]; simp, ?_, Nat.zero_le _⟩) ⟨rfl, rfl, rfl, rfl, rfl, rfl, rfl, trivial⟩ rfl ⟨rfl, ?_, trivial⟩ rfl rfl
        · show RowsO E E1 O 3 1 (vs ++ [.slice none 0 0]) ((cls ++ [[]]).map rowX)
          rw [List.map_append]
          exact rows_add_nil hR
        · show clsIns ap i cls = (cls ++ [[]]).set m ([] ++ [(i : Int)])
          rw [hins, hmc, List.set_append_right _ _ (Nat.le_refl _)]
          simp
        · show some (Ob.arr 29 1 (vs.length + 1) ((vs.map fun v => [I.v v]) ++ [[I.v (.slice none 0 0)]]) true) = some (Ob.arr 29 1 (vs ++ [Value.slice none 0 0]).length ((vs ++ [Value.slice none 0 0]).map fun v => [I.v v]) true)
          simp
      · have c4 : (m : Int) ≠ (vs.length : Int) := beqF c4
        rcases hm with ⟨h, _⟩ | ⟨c, h, h5⟩
        · omega
        · refine g_stop ?_
          refine rch_meet (J (vs, cls, c) ⟨hR, h, h5, (hok.row c (List.mem_of_getElem? h)).1⟩) ⟨rfl, rfl, rfl, rfl, rfl, rfl, rfl, trivial⟩ rfl ⟨rfl, rfl, trivial⟩ rfl rfl
    rintro ⟨vs2, cls2, r⟩ ⟨hR2, hr, hins, hrl⟩
    simp only at hR2 hr hins hrl
    rw [hins] at hno
    have hvl2 : vs2.length = cls2.length := by rw [hR2.len, List.length_map]
    have hml : m < cls2.length := (List.getElem?_eq_some_iff.1 hr).1
    have hv : vs2[m]? = some vs2[m] := List.getElem?_eq_getElem (by omega)
    have gv : (vs2.map fun v => [I.v v])[(m : Int).toNat]? = some [I.v vs2[m]] := by rw [Int.toNat_natCast, List.getElem?_map, hv]; rfl
    have hxs : (cls2.map rowX)[m]? = some (rowX r) := by rw [List.getElem?_map, hr]; rfl
    have hb : ((rowX r).length + 1) * 8 ≤ 140737488355328 ∧ (rowX r).length + 1 ≤ 9223372036854775807 := by
      have : (rowX r).length = r.length := by simp [rowX]
      constructor <;> omega
    have hok2 : clsOk n (i + 1) (cls2.set m (r ++ [(i : Int)])) := by
      rw [← hins]
      rcases hm with ⟨_, h⟩ | ⟨c, h, h5⟩
      · rw [h]; exact clsOk_app hok h2
      · rw [h5]; exact clsOk_set hok h i
    refine g_run Tk Tryz.func5 ?_
    refine g_go Tk Tryz.func5 ?_
    first | refine g_need Tk Tryz.func5 (by exact ⟨by omega, by show (m : Int) < (vs2.length : Int); omega⟩) ?_ | refine s_need Tk (by exact ⟨by omega, by show (m : Int) < (vs2.length : Int); omega⟩) ?_
    first | refine g_elem Tk Tryz.func5 (gv) ?_ | refine s_elem Tk (gv) ?_
    refine g_appRow Tk Tryz.func5 (m := 1) (ti2 := TryzI3) hR2 hv hxs hb rfl rfl rfl rfl rfl rfl rfl rfl rfl rfl rfl rfl rfl rfl rfl rfl ?_
    intro E2 v2 hR3
    first | refine g_need Tk Tryz.func5 (by exact ⟨by omega, by show (m : Int) < (vs2.length : Int); omega⟩) ?_ | refine s_need Tk (by exact ⟨by omega, by show (m : Int) < (vs2.length : Int); omega⟩) ?_
    refine g_loop ?_
    refine ih E2 (i + 1, vs2.set m v2, cls2.set m (r ++ [(i : Int)])) _ _ ⟨h2, ?_, hok2, hno⟩ (by simp only; omega) ⟨rfl, rfl, rfl, rfl, rfl, hj1, trivial⟩ rfl ⟨rfl, ?_, trivial⟩ rfl rfl
    · show RowsO E E2 O 3 1 (vs2.set m v2) ((cls2.set m (r ++ [(i : Int)])).map rowX)
      rw [List.map_set]
      have : rowX (r ++ [(i : Int)]) = rowX r ++ [[vi (i : Int)]] := by simp [rowX]
      rw [this]
      exact hR3
    · show some (Ob.arr 29 1 vs2.length ((vs2.map fun v => [I.v v]).set (m : Int).toNat [I.v v2]) true) = some (Ob.arr 29 1 (vs2.set m v2).length ((vs2.set m v2).map fun v => [I.v v]) true)
      rw [Int.toNat_natCast, List.map_set, List.length_set]
  · have h2 : n ≤ i := by have := of_decide_eq_false g1; omega
    rw [List.drop_of_length_le (by rw [intsV_len]; exact h2)] at hno
    have hno : cls = KK := hno
    subst hno
    have hsw := fun O => sameWords23 O cls cls (by omega) (fun r hr => by have := (hok.row r hr).1; simp only [max63]; omega)
    rw [decide_eq_true (rfl : cls = cls)] at hsw
    have hrs : I.sl 1 vs.length ((cls.map rowX).map fun xs => [I.sl 1 xs.length xs]) = rowsS cls := by
      rw [hvl, List.map_map]
      simp [rowsS, rowX, Function.comp_def]
    refine g_stop ?_
    refine rch_wk (wk_rows 59 hR rfl rfl) ?_
    refine rch_unbase hR.base rfl ?_
    refine rch_wk (wk_freeze 59 rfl rfl) ?_
    refine rch_wk (wk_cut (l := [(7, .i (rowsS cls)), (8, ii 0), (9, .i (rowsS cls))]) (Hv := []) ⟨rfl, rfl, congrArg D.i hrs, trivial⟩ rfl trivial rfl rfl) ?_
    refine g_run Tk Tryz.func5 ?_
    refine g_go Tk Tryz.func5 ?_
    first | refine g_call Tk Tryz.func5 (hsw _) rfl rfl rfl rfl rfl ?_ | refine s_callq Tk (fun _ => hsw _) rfl rfl rfl ?_
    repeat (first | refine gcT Tk Tryz.func5 rfl ?_ | refine gkT Tk Tryz.func5 rfl ?_ | refine skT Tk ?_ | refine gcF Tk Tryz.func5 rfl ?_ | refine gkF Tk Tryz.func5 rfl ?_ | refine skF Tk ?_)
    refine g_ret Tk (r := bb true) rfl rfl rfl trivial rfl rfl ?_
    rfl
end Go.AI
