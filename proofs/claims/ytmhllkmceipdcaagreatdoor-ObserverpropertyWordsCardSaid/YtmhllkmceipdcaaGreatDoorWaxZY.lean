/- The layer of abstract runs, part 51. -/
import Derived.Test.YtmhllkmceipdcaaGreatDoorWaxZX
set_option linter.unusedSimpArgs false
set_option linter.unusedVariables false
set_option linter.all false

/- Law Words. -/
namespace Go.AI
open Go.Proofs
set_option maxRecDepth 20000
set_option maxHeartbeats 16000000 in
theorem wordsL9 {g : Nat} (hg : IsTab g) {ty : TypeId} {fr : Nat × Nat} (O : List Heap) (b0 b1 gs gm : Int) (gt : Nat → Int) (t : List Int) (hgr : grOkB gs gt) (htl : t.length ≤ max63) : ASpecT g (ptab ty fr) Tryz.prog 9 [.agg [u8D b0, u8D b1], .agg (grC gs gm gt), ints t] O (bb true) [] O := by
  have hkn := fun O => known11 hg (ty := ty) (fr := fr) O
  obtain ⟨e1, e2, e3⟩ := evs_ok b0
  obtain ⟨hraw, ⟨n, hn, hga⟩, hal⟩ := mkA_ok (gs := gs) (gm := gm) e1 e2 e3 hgr.2
  have hev := fun O b => events13 O b
  have hmk := fun O => make12 O (evsOf b0) gs gm gt e3 hgr.1 hraw.1 hraw.2
  have hol : (evsOf b1).length ≤ max63 := by have := (evs_ok b1).2.2; simp only [max63]; omega
  have hA : (mkA (evsOf b0) gs gm gt).alpha.length ≤ 5 := by rw [hal]; exact e3
  have hob := fun O => observer17 hg (ty := ty) (fr := fr) O (mkA (evsOf b0) gs gm gt) (evsOf b1) n hga.st hn hga.sm hol (opE_good hga.c (evs_chk b1) rfl)
  rw [obs_eq hga hn] at hob
  generalize mkA (evsOf b0) gs gm gt = a at *
  have hsm := hga.sm
  obtain ⟨wl, wz⟩ := wrdR_ok hga hA
  have hwd := fun O => words36 O a n hga (by omega) (by omega) (fun z hz => (wz z hz).2.2.1) (fun z hz => by have := (wz z hz).2.2.2; omega)
  have hkp : ∀ O, ASpec Tryz.prog 29 [autD a, ints (evsOf b1)] O (ints (keptR a (evsOf b1))) [] O := fun O => kept29 O a (evsOf b1) hsm.al hol
  have hkl : (keptR a (evsOf b1)).length ≤ max63 := Nat.le_trans (List.length_filter_le _ _) (by have := hsm.al; simp only [max63]; omega)
  have hob2 := fun O w (hw : w.length ≤ 1000000) => observe32 O (evsOf b1) w hw hol
  have hrea := fun O s => reachS33 O a (evsOf b1) s n hga (by omega) hol
  have hnx := fun O e ev he => next34 O a (evsOf b1) e ev n hga (by omega) he hol
  have hmar := fun O l hl => marked19 O a l (by have := hsm.mkd; simp only [max63]; omega) hl
  have hrun := fun O w (hw : w.length ≤ 1000000) => run28 O a 0 w (by have := hsm.ed; simp only [max63]; omega) hw
  have how := fun ho w hw (ht : ∀ ev ∈ t, ev ∈ keptR a (evsOf b1)) => obs_words hga hn (evsOf b1) ho (w := w) hw ht
  generalize obL a (evsOf b1) n (prsR a (evsOf b1) n) = R at *
  have hev0 := fun O => hev O b0
  have hev1 := fun O => hev O b1
  generalize evsOf b0 = s0 at *
  generalize evsOf b1 = on at *
  generalize keptR a on = kp at *
  have hW : ∀ w ∈ (wrdR a n 3).map (·.1), genB a w = true ∧ w.length ≤ 3 := fun w hw => by
    obtain ⟨z, hz, rfl⟩ := List.mem_map.1 hw
    exact ⟨(wz z hz).1, (wz z hz).2.2.2⟩
  have hWl : ((wrdR a n 3).map (·.1)).length ≤ 156 := by rw [List.length_map]; exact wl
  generalize (wrdR a n 3).map (·.1) = ws at *
  clear wl wz e1 e2 e3 hraw hal hev hA
  obtain ⟨rw0, rt, is⟩ := R
  simp only at hob how
  refine aspecT_stop [31, 32] Tk Tryz.func9 rfl Tryz.call9 Tryz.ntmps9 (Nat.le_of_ble_eq_true rfl) fun E hE => ?_
  refine g_run Tk Tryz.func9 ?_
  refine g_callT Tk Tryz.func9 hE (hkn _) rfl rfl rfl rfl rfl rfl ?_
  repeat (first | refine gcT Tk Tryz.func9 rfl ?_ | refine gkT Tk Tryz.func9 rfl ?_ | refine skT Tk ?_ | refine gcF Tk Tryz.func9 rfl ?_ | refine gkF Tk Tryz.func9 rfl ?_ | refine skF Tk ?_)
  first | refine g_cnd Tk Tryz.func9 rfl (fun c1 => ?_) (fun c1 => ?_) | refine g_know Tk Tryz.func9 rfl (fun c1 => ?_) (fun c1 => ?_) | refine s_know Tk (fun c1 => ?_) (fun c1 => ?_)
  · refine g_callT Tk Tryz.func9 hE (hkn _) rfl rfl rfl rfl rfl rfl ?_
    refine g_ret Tk (r := bb true) rfl rfl rfl trivial rfl rfl ?_
    rfl
  have c1 : (t.length : Int) ≤ 2 := by have := of_decide_eq_false c1; omega
  refine g_drawn Tk Tryz.func9 mixedT rfl ?_
  first | refine g_need Tk Tryz.func9 (by decide) ?_ | refine s_need Tk (by decide) ?_
  first | refine g_call Tk Tryz.func9 (hev0 _) rfl rfl rfl rfl rfl ?_ | refine s_callq Tk (fun _ => hev0 _) rfl rfl rfl ?_
  first | refine g_call Tk Tryz.func9 (hmk _) rfl rfl rfl rfl rfl ?_ | refine s_callq Tk (fun _ => hmk _) rfl rfl rfl ?_
  first | refine g_need Tk Tryz.func9 (by decide) ?_ | refine s_need Tk (by decide) ?_
  first | refine g_call Tk Tryz.func9 (hev1 _) rfl rfl rfl rfl rfl ?_ | refine s_callq Tk (fun _ => hev1 _) rfl rfl rfl ?_
  refine s_old Tk ?_
  refine d_mod Tk (p := ⟨[], [(7, .box (autC a))], none⟩) rfl rfl rfl ?_
  refine d_done Tk Tryz.func9 (by kernel_rfl) (GM.h ?_)
  refine g_callT Tk Tryz.func9 hE (hob _) rfl rfl rfl rfl rfl rfl ?_
  first | refine g_call Tk Tryz.func9 (hwd _) rfl rfl rfl rfl rfl ?_ | refine s_callq Tk (fun _ => hwd _) rfl rfl rfl ?_
  repeat (first | refine gcT Tk Tryz.func9 rfl ?_ | refine gkT Tk Tryz.func9 rfl ?_ | refine skT Tk ?_ | refine gcF Tk Tryz.func9 rfl ?_ | refine gkF Tk Tryz.func9 rfl ?_ | refine skF Tk ?_)
  first | refine g_cnd Tk Tryz.func9 rfl (fun c2 => ?_) (fun c2 => ?_) | refine g_know Tk Tryz.func9 rfl (fun c2 => ?_) (fun c2 => ?_) | refine s_know Tk (fun c2 => ?_) (fun c2 => ?_)
  · refine g_ret Tk (r := bb true) rfl rfl rfl trivial rfl rfl ?_
    rfl
  have c2 : is = true := notF c2
  have how := how c2
  refine g_loop ?_
  refine rch_loop2 (fun i : Nat => [(2, ints t), (7, .own 0 7 0 0), (8, ints on), (13, .i (intssI ws)), (15, ii i)]) (fun _ => [(7, .box (autC a))]) (fun _ => O) 153
    (fun i => i ≤ t.length ∧ ∀ ev ∈ t.take i, ev ∈ kp) (fun i => t.length - i) 0 ⟨Nat.zero_le _, by simp⟩ ⟨rfl, rfl, rfl, rfl, rfl, trivial⟩ rfl ⟨rfl, trivial⟩ rfl rfl ?_
  rintro i ⟨hi, hk⟩ ih
  have hj1 : ii (IntKind.i64.wrap ((i : Int) + 1)) = ii ((i + 1 : Nat) : Int) := congrArg ii (wsucc (n := 1000001) (by omega) (by decide))
  refine g_run Tk Tryz.func9 ?_
  first | refine g_cnd Tk Tryz.func9 rfl (fun g1 => ?_) (fun g1 => ?_) | refine g_know Tk Tryz.func9 rfl (fun g1 => ?_) (fun g1 => ?_) | refine s_know Tk (fun g1 => ?_) (fun g1 => ?_)
  · have g2 : i < t.length := by simpa using g1
    clear g1
    have gx : (t.map fun x => [vi x])[(i : Int).toNat]? = some [vi t[i]] := get_mapZ (f := fun x => [vi x]) g2
    have htk : t.take (i + 1) = t.take i ++ [t[i]] := by rw [List.take_add_one, List.getElem?_eq_getElem g2]; rfl
    generalize t[i] = x at *
    refine g_drawn Tk Tryz.func9 mixedT rfl ?_
    first | refine g_call Tk Tryz.func9 (hkp _) rfl rfl rfl rfl rfl ?_ | refine s_callq Tk (fun _ => hkp _) rfl rfl rfl ?_
    first | refine g_need Tk Tryz.func9 (by exact ⟨by omega, by show (i : Int) < (t.length : Int); omega⟩) ?_ | refine s_need Tk (by exact ⟨by omega, by show (i : Int) < (t.length : Int); omega⟩) ?_
    first | refine g_elem Tk Tryz.func9 (gx) ?_ | refine s_elem Tk (gx) ?_
    first | refine g_call Tk Tryz.func9 (has30 _ kp x hkl) rfl rfl rfl rfl rfl ?_ | refine s_callq Tk (fun _ => has30 _ kp x hkl) rfl rfl rfl ?_
    refine e_done Tk Tryz.func9 (by kernel_rfl) ?_
    first | refine g_cnd Tk Tryz.func9 rfl (fun c3 => ?_) (fun c3 => ?_) | refine g_know Tk Tryz.func9 rfl (fun c3 => ?_) (fun c3 => ?_) | refine s_know Tk (fun c3 => ?_) (fun c3 => ?_)
    · refine g_ret Tk (r := bb true) rfl rfl rfl trivial rfl rfl ?_
      rfl
    have c3 : x ∈ kp := of_decide_eq_true (notF c3)
    refine g_loop ?_
    refine ih (i + 1) _ _ ⟨g2, fun ev he => ?_⟩ (by omega) ⟨rfl, rfl, rfl, rfl, hj1, trivial⟩ rfl ⟨rfl, trivial⟩ rfl rfl
    rw [htk, List.mem_append, List.mem_singleton] at he
    rcases he with he | rfl
    · exact hk ev he
    · exact c3
  have g2 : t.length ≤ i := by simpa using g1
  rw [List.take_of_length_le g2] at hk
  have how := fun w hw => how w hw hk
  clear ih hj1 g1 g2 hi
  generalize hF : (fun o => marksR a (nxtL a.edges (lowP on [] false) n (estR a on n o) t)) = F at *
  have how : ∀ w, genB a w = true → marksR a (nxtL a.edges (lowP on [] false) n (clo a.edges (lowP on [] false) n [(runW a.edges 0 w 0).1]) t) = F (w.filter fun e => decide (e ∈ on)) := fun w hw => by rw [← hF]; exact how w hw
  refine g_loop ?_
  refine rch_wk (wk_nil 16 138 29 1 rfl rfl rfl) ?_
  refine rch_wk (wk_nil 17 144 4 1 rfl rfl rfl) ?_
  refine rch_loop2 (fun x : Nat × List (List Int) => [(2, ints t), (7, .own 0 7 0 0), (8, ints on), (13, .i (intssI ws)), (16, .osl 0 138), (17, .osl 0 144), (18, ii x.1)]) (fun x => [(7, .box (autC a)), (138, orows x.2), (144, bools (x.2.map F))]) (fun _ => O) 153
    (fun x => x.1 ≤ ws.length ∧ x.2.length ≤ x.1 ∧ ∀ y ∈ x.2, y.length ≤ 3) (fun x => ws.length - x.1) (0, []) ⟨Nat.zero_le _, Nat.le_refl _, by simp⟩ ⟨rfl, rfl, rfl, rfl, rfl, rfl, rfl, trivial⟩ rfl ⟨rfl, rfl, rfl, trivial⟩ rfl rfl ?_
  rintro ⟨i, seen⟩ ⟨hi, hsl, hs3⟩ ih
  simp only at hi hsl hs3
  have hj1 : ii (IntKind.i64.wrap ((i : Int) + 1)) = ii ((i + 1 : Nat) : Int) := congrArg ii (wsucc (n := 1000001) (by omega) (by decide))
  refine g_run Tk Tryz.func9 ?_
  first | refine g_cnd Tk Tryz.func9 rfl (fun g1 => ?_) (fun g1 => ?_) | refine g_know Tk Tryz.func9 rfl (fun g1 => ?_) (fun g1 => ?_) | refine s_know Tk (fun g1 => ?_) (fun g1 => ?_)
  rotate_left
  · refine g_ret Tk (r := bb true) rfl rfl rfl trivial rfl rfl ?_
    rfl
  have g2 : i < ws.length := by simpa using g1
  clear g1
  have gx : (ws.map fun x => [intsI x])[(i : Int).toNat]? = some [intsI ws[i]] := get_mapZ (f := fun x => [intsI x]) g2
  obtain ⟨hgw, hwl⟩ := hW _ (List.getElem_mem g2)
  generalize ws[i] = w at *
  have hr' := fun O => hrun O w (by omega)
  have ho' := fun O => hob2 O w (by omega)
  have hw' := how w hgw
  have ho3 : (w.filter fun x => decide (x ∈ on)).length ≤ 3 := Nat.le_trans (List.length_filter_le _ _) hwl
  generalize (w.filter fun x => decide (x ∈ on)) = o at *
  generalize runW a.edges 0 w 0 = rs at *
  obtain ⟨s, dn⟩ := rs
  simp only at hr' hw'
  have hre' := fun O => hrea O s
  have hc0 : (clo a.edges (lowP on [] false) n [s]).length ≤ n := clo_len _ _ _ _
  generalize clo a.edges (lowP on [] false) n [s] = C at *
  refine g_drawn Tk Tryz.func9 mixedT rfl ?_
  first | refine g_need Tk Tryz.func9 (by exact ⟨by omega, by show (i : Int) < (ws.length : Int); omega⟩) ?_ | refine s_need Tk (by exact ⟨by omega, by show (i : Int) < (ws.length : Int); omega⟩) ?_
  first | refine g_elem Tk Tryz.func9 (gx) ?_ | refine s_elem Tk (gx) ?_
  first | refine g_call Tk Tryz.func9 (hr' _) rfl rfl rfl rfl rfl ?_ | refine s_callq Tk (fun _ => hr' _) rfl rfl rfl ?_
  refine e_done Tk Tryz.func9 (by kernel_rfl) ?_
  first | refine g_call Tk Tryz.func9 (hre' _) rfl rfl rfl rfl rfl ?_ | refine s_callq Tk (fun _ => hre' _) rfl rfl rfl ?_
  refine g_loop ?_
  refine rch_loop2 (fun x : Nat × List Int => [(2, ints t), (7, .own 0 7 0 0), (8, ints on), (13, .i (intssI ws)), (16, .osl 0 138), (17, .osl 0 144), (18, ii i), (21, ints x.2), (22, ii x.1)]) (fun _ => [(7, .box (autC a)), (138, orows seen), (144, bools (seen.map F))]) (fun _ => O) 153
    (fun x => x.1 ≤ t.length ∧ x.2.length ≤ n ∧ marksR a (nxtL a.edges (lowP on [] false) n x.2 (t.drop x.1)) = F o) (fun x => t.length - x.1) (0, C) ⟨Nat.zero_le _, hc0, by simpa using hw'⟩ ⟨rfl, rfl, rfl, rfl, rfl, rfl, rfl, rfl, rfl, trivial⟩ rfl ⟨rfl, rfl, rfl, trivial⟩ rfl rfl ?_
  rintro ⟨j, Y⟩ ⟨hj, hY, hno⟩ ih2
  simp only at hj hY hno
  have hj2 : ii (IntKind.i64.wrap ((j : Int) + 1)) = ii ((j + 1 : Nat) : Int) := congrArg ii (wsucc (n := 1000001) (by omega) (by decide))
  refine g_run Tk Tryz.func9 ?_
  first | refine g_cnd Tk Tryz.func9 rfl (fun g1 => ?_) (fun g1 => ?_) | refine g_know Tk Tryz.func9 rfl (fun g1 => ?_) (fun g1 => ?_) | refine s_know Tk (fun g1 => ?_) (fun g1 => ?_)
  · have g3 : j < t.length := by simpa using g1
    have gy : (t.map fun x => [vi x])[(j : Int).toNat]? = some [vi t[j]] := get_mapZ (f := fun x => [vi x]) g3
    rw [List.drop_eq_getElem_cons g3] at hno
    generalize t[j] = x at *
    have hno : marksR a (nxtL a.edges (lowP on [] false) n (nxt a.edges (lowP on [] false) n Y x) (t.drop (j + 1))) = F o := hno
    have hx1 := fun O => hnx O Y x (by simp only [max63]; omega)
    have hl1 : (nxt a.edges (lowP on [] false) n Y x).length ≤ n := clo_len _ _ _ _
    generalize nxt a.edges (lowP on [] false) n Y x = Y2 at *
    refine g_drawn Tk Tryz.func9 mixedT rfl ?_
    first | refine g_need Tk Tryz.func9 (by exact ⟨by omega, by show (j : Int) < (t.length : Int); omega⟩) ?_ | refine s_need Tk (by exact ⟨by omega, by show (j : Int) < (t.length : Int); omega⟩) ?_
    first | refine g_elem Tk Tryz.func9 (gy) ?_ | refine s_elem Tk (gy) ?_
    first | refine g_call Tk Tryz.func9 (hx1 _) rfl rfl rfl rfl rfl ?_ | refine s_callq Tk (fun _ => hx1 _) rfl rfl rfl ?_
    refine e_done Tk Tryz.func9 (by kernel_rfl) ?_
    refine g_loop ?_
    exact ih2 (j + 1, Y2) _ _ ⟨g3, hl1, hno⟩ (by simp only; omega) ⟨rfl, rfl, rfl, rfl, rfl, rfl, rfl, rfl, hj2, trivial⟩ rfl ⟨rfl, rfl, rfl, trivial⟩ rfl rfl
  have g3 : t.length ≤ j := by simpa using g1
  rw [List.drop_of_length_le g3] at hno
  have hno : marksR a Y = F o := hno
  have hmY := fun O => hmar O Y (by simp only [max63]; omega)
  rw [show (Y.any fun x => decide (x ∈ a.marked)) = F o from hno] at hmY
  clear ih2 hw' hj2
  first | refine g_need Tk Tryz.func9 (by exact ⟨by omega, by show (i : Int) < (ws.length : Int); omega⟩) ?_ | refine s_need Tk (by exact ⟨by omega, by show (i : Int) < (ws.length : Int); omega⟩) ?_
  first | refine g_elem Tk Tryz.func9 (gx) ?_ | refine s_elem Tk (gx) ?_
  first | refine g_call Tk Tryz.func9 (ho' _) rfl rfl rfl rfl rfl ?_ | refine s_callq Tk (fun _ => ho' _) rfl rfl rfl ?_
  refine g_loop ?_
  refine rch_loop2 (fun k : Nat => [(2, ints t), (7, .own 0 7 0 0), (8, ints on), (13, .i (intssI ws)), (16, .osl 0 138), (17, .osl 0 144), (18, ii i), (21, ints Y), (23, ints o), (24, ii k)]) (fun _ => [(7, .box (autC a)), (138, orows seen), (144, bools (seen.map F))]) (fun _ => O) 153
    (fun k => k ≤ seen.length) (fun k => seen.length - k) 0 (Nat.zero_le _) ⟨rfl, rfl, rfl, rfl, rfl, rfl, rfl, rfl, rfl, rfl, trivial⟩ rfl ⟨rfl, rfl, rfl, trivial⟩ rfl rfl ?_
  intro k hk3 ih3
  have hk4 : ii (IntKind.i64.wrap ((k : Int) + 1)) = ii ((k + 1 : Nat) : Int) := congrArg ii (wsucc (n := 1000001) (by omega) (by decide))
  apply join_q (α := List (List Int)) (P := fun se => se.length ≤ i + 1 ∧ (∀ y ∈ se, y.length ≤ 3) ∧ se[k]? = some o) (s6 := fun se => { σ := [(2, ints t), (7, .own 0 7 0 0), (8, ints on), (13, .i (intssI ws)), (16, .osl 0 138), (17, .osl 0 144), (18, ii i), (21, ints Y), (24, ii k)], S := [(7, .box (autC a)), (138, orows se), (144, bools (se.map F))] :: O, n := 153 })
  · intro J
    refine g_run Tk Tryz.func9 ?_
    first | refine g_cnd Tk Tryz.func9 rfl (fun g1 => ?_) (fun g1 => ?_) | refine g_know Tk Tryz.func9 rfl (fun g1 => ?_) (fun g1 => ?_) | refine s_know Tk (fun g1 => ?_) (fun g1 => ?_)
    · have g4 : k < seen.length := by simpa using g1
      have gs : (seen.map fun r => [intsI r])[(k : Int).toNat]? = some [intsI seen[k]] := get_mapZ (f := fun r => [intsI r]) g4
      have hsk : seen[k]? = some seen[k] := List.getElem?_eq_getElem g4
      have hq3 := hs3 _ (List.getElem_mem g4)
      have hsm' := fun O => sameInts36 O seen[k] o (by simp only [max63]; omega)
      first | refine g_need Tk Tryz.func9 (by exact ⟨by omega, by show (k : Int) < (seen.length : Int); omega⟩) ?_ | refine s_need Tk (by exact ⟨by omega, by show (k : Int) < (seen.length : Int); omega⟩) ?_
      first | refine g_elem Tk Tryz.func9 (gs) ?_ | refine s_elem Tk (gs) ?_
      first | refine g_call Tk Tryz.func9 (hsm' _) rfl rfl rfl rfl rfl ?_ | refine s_callq Tk (fun _ => hsm' _) rfl rfl rfl ?_
      first | refine g_cnd Tk Tryz.func9 rfl (fun c4 => ?_) (fun c4 => ?_) | refine g_know Tk Tryz.func9 rfl (fun c4 => ?_) (fun c4 => ?_) | refine s_know Tk (fun c4 => ?_) (fun c4 => ?_)
      · refine g_loop ?_
        exact ih3 (k + 1) _ _ g4 (by omega) ⟨rfl, rfl, rfl, rfl, rfl, rfl, rfl, rfl, rfl, hk4, trivial⟩ rfl ⟨rfl, rfl, rfl, trivial⟩ rfl rfl
      · have c4 : seen[k] = o := of_decide_eq_true (notF c4)
        first | refine g_cnd Tk Tryz.func9 rfl (fun c5 => ?_) (fun c5 => ?_) | refine g_know Tk Tryz.func9 rfl (fun c5 => ?_) (fun c5 => ?_) | refine s_know Tk (fun c5 => ?_) (fun c5 => ?_)
        · have c5 : (k : Int) = (seen.length : Int) := beqT c5
          omega
        refine g_stop ?_
        refine rch_meet (J seen ⟨by omega, hs3, by rw [hsk, c4]⟩) ⟨rfl, rfl, rfl, rfl, rfl, rfl, rfl, rfl, rfl, trivial⟩ rfl ⟨rfl, rfl, rfl, trivial⟩ rfl rfl
    · have g4 : seen.length ≤ k := by simpa using g1
      repeat (first | refine gcT Tk Tryz.func9 rfl ?_ | refine gkT Tk Tryz.func9 rfl ?_ | refine skT Tk ?_ | refine gcF Tk Tryz.func9 rfl ?_ | refine gkF Tk Tryz.func9 rfl ?_ | refine skF Tk ?_)
      first | refine g_cnd Tk Tryz.func9 rfl (fun c5 => ?_) (fun c5 => ?_) | refine g_know Tk Tryz.func9 rfl (fun c5 => ?_) (fun c5 => ?_) | refine s_know Tk (fun c5 => ?_) (fun c5 => ?_)
      rotate_left
      · have c5 : (k : Int) ≠ (seen.length : Int) := beqF c5
        omega
      refine g_stop ?_
      refine rch_wk (wk_cut (l := [(2, ints t), (7, .own 0 7 0 0), (8, ints on), (13, .i (intssI ws)), (16, .osl 0 138), (17, .osl 0 144), (18, ii i), (21, ints Y), (23, ints o), (24, ii k)]) (Hv := [(7, .box (autC a)), (138, orows seen), (144, bools (seen.map F))]) ⟨rfl, rfl, rfl, rfl, rfl, rfl, rfl, rfl, rfl, rfl, trivial⟩ rfl ⟨rfl, rfl, rfl, trivial⟩ rfl rfl) ?_
      refine g_run Tk Tryz.func9 ?_
      refine g_go Tk Tryz.func9 ?_
      refine g_drawn Tk Tryz.func9 mixedT rfl ?_
      refine s_old Tk ?_
      refine d_need Tk (by exact ⟨by show (seen.length + 1) * 24 ≤ 140737488355328; omega, by show seen.length + 1 ≤ 9223372036854775807; omega⟩) ?_
      refine d_mod Tk (p := ⟨[(138, .osl 0 138), (135, .dead), (16, .dead)], [(138, .arr 29 1 (seen.length + 1) ((seen.map fun r => [intsI r]) ++ [[intsI o]]) true)], some 138⟩) rfl rfl rfl ?_
      refine d_call Tk (hmY _) rfl rfl rfl rfl ?_
      refine d_need Tk (by exact ⟨by show ((seen.map F).length + 1) * 1 ≤ 140737488355328; rw [List.length_map]; omega, by show (seen.map F).length + 1 ≤ 9223372036854775807; rw [List.length_map]; omega⟩) ?_
      refine d_mod Tk (p := ⟨[(144, .osl 0 144), (139, .dead), (17, .dead)], [(144, .arr 4 1 ((seen.map F).length + 1) (((seen.map F).map fun b => [.v (.bool b)]) ++ [[.v (.bool (F o))]]) true)], some 144⟩) rfl rfl rfl ?_
      refine d_done Tk Tryz.func9 (by kernel_rfl) (GM.h ?_)
      refine g_stop ?_
      have hkk : k = seen.length := by omega
      refine rch_meet (J (seen ++ [o]) ⟨by rw [List.length_append, List.length_singleton]; omega, fun y hy => by
        rcases List.mem_append.1 hy with hy | hy
        · exact hs3 y hy
        · rw [List.mem_singleton] at hy; subst hy; exact ho3, by rw [hkk]; simp⟩) ⟨rfl, rfl, rfl, rfl, rfl, rfl, rfl, rfl, rfl, trivial⟩ rfl ⟨rfl, congrArg some (orows_app seen o), ?_, trivial⟩ rfl rfl
      show some (Ob.arr 4 1 ((seen.map F).length + 1) (((seen.map F).map fun b => [.v (.bool b)]) ++ [[.v (.bool (F o))]]) true) = some (bools ((seen ++ [o]).map F))
      simp [bools]
  rintro se ⟨hse, hse3, hsk⟩
  have hkl2 : k < se.length := (List.getElem?_eq_some_iff.1 hsk).1
  have gc : ((se.map F).map fun b => [I.v (.bool b)])[(k : Int).toNat]? = some [.v (.bool (F o))] := by rw [Int.toNat_natCast, List.getElem?_map, List.getElem?_map, hsk]; rfl
  refine g_run Tk Tryz.func9 ?_
  refine g_go Tk Tryz.func9 ?_
  refine g_drawn Tk Tryz.func9 mixedT rfl ?_
  first | refine g_need Tk Tryz.func9 (by exact ⟨by omega, by show (k : Int) < ((se.map F).length : Int); rw [List.length_map]; omega⟩) ?_ | refine s_need Tk (by exact ⟨by omega, by show (k : Int) < ((se.map F).length : Int); rw [List.length_map]; omega⟩) ?_
  first | refine g_elem Tk Tryz.func9 (gc) ?_ | refine s_elem Tk (gc) ?_
  first | refine g_call Tk Tryz.func9 (hmY _) rfl rfl rfl rfl rfl ?_ | refine s_callq Tk (fun _ => hmY _) rfl rfl rfl ?_
  refine e_done Tk Tryz.func9 (by kernel_rfl) ?_
  first | refine g_cnd Tk Tryz.func9 rfl (fun c6 => ?_) (fun c6 => ?_) | refine g_know Tk Tryz.func9 rfl (fun c6 => ?_) (fun c6 => ?_) | refine s_know Tk (fun c6 => ?_) (fun c6 => ?_)
  · exact absurd c6 (by simp)
  refine g_loop ?_
  exact ih (i + 1, se) _ _ ⟨g2, hse, hse3⟩ (by simp only; omega) ⟨rfl, rfl, rfl, rfl, rfl, rfl, hj1, trivial⟩ rfl ⟨rfl, rfl, rfl, trivial⟩ rfl rfl
end Go.AI
