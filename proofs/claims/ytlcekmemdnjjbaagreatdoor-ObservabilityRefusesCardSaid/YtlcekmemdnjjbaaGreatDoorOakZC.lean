/- The layer of abstract runs, part 29. -/
import Derived.Test.YtlcekmemdnjjbaaGreatDoorOakZB
import Derived.KernelRfl
import Derived.Test.YtlcekmemdnjjbaaGreatDoorTie
import Derived.Test.YtlcekmemdnjjbaaGreatDoorCards
import Derived.ProofKit
import Derived.LaidMore
import Derived.OpenShut
import Derived.Lay
import Derived.SevenTiedAt
import Derived.Stop.Joined
import Derived.Stop.LaidErr
import Derived.Lib.LaidTab
set_option linter.unusedSimpArgs false
set_option linter.unusedVariables false
set_option linter.all false

namespace Go.AI
open Go.Proofs
set_option maxRecDepth 20000
abbrev LS := Int × Int
def nxQ (es : List Edg) (ob : List Int) (y : LS) (ev : Int) : LS := (stp3 es y.1 ev, if ev ∈ ob then y.2 + 1 else y.2)
def okQ (ob obs : List Int) (k : Int) (ev : Int) : Bool := !decide (ev ∈ ob) || decide (obs[k.toNat]? = some ev)
def evQ (es : List Edg) (ob obs : List Int) (y : LS) : List Int := (evC es y.1).filter (okQ ob obs y.2)
def badQ (obs sts : List Int) (y : LS) : Bool := decide (y.2 = (obs.length : Int)) && decide (y.1 ∈ sts)
def leastR (es : List Edg) (ob obs sts : List Int) : Option (LS × List Int) := bsr (nxQ es ob) (fun _ => true) (evQ es ob obs) (badQ obs sts) 100000 0 [(((0, 0) : LS), ([] : List Int))]
def lsV (n m : Nat) : List LS := (List.range n).flatMap fun (i : Nat) => (List.range (m + 1)).map fun (j : Nat) => ((i : Int), (j : Int))
theorem lsV_len (m : Nat) : ∀ n, (lsV n m).length = n * (m + 1)
  | 0 => by simp [lsV]
  | n + 1 => by
    have := lsV_len m n
    unfold lsV at *
    rw [List.range_succ (n := n), List.flatMap_append, List.length_append, this]
    simp [Nat.succ_mul]
theorem mem_lsV {n m : Nat} {y : LS} (h : (0 ≤ y.1 ∧ y.1 < (n : Int)) ∧ 0 ≤ y.2 ∧ y.2 ≤ (m : Int)) : y ∈ lsV n m := by
  unfold lsV
  refine List.mem_flatMap.2 ⟨y.1.toNat, List.mem_range.2 (by omega), List.mem_map.2 ⟨y.2.toNat, List.mem_range.2 (by omega), ?_⟩⟩
  rw [show ((y.1.toNat : Nat) : Int) = y.1 by omega, show ((y.2.toNat : Nat) : Int) = y.2 by omega]
theorem lsV_mem {n m : Nat} {y : LS} (h : y ∈ lsV n m) : (0 ≤ y.1 ∧ y.1 < (n : Int)) ∧ 0 ≤ y.2 ∧ y.2 ≤ (m : Int) := by
  unfold lsV at h
  obtain ⟨i, hi, h⟩ := List.mem_flatMap.1 h
  obtain ⟨j, hj, rfl⟩ := List.mem_map.1 h
  have := List.mem_range.1 hi
  have := List.mem_range.1 hj
  simp only
  omega
def mapOk2 (km : List (Value × Bool)) (l : List LS) : Prop := ∀ y : LS, mgetB km (pk y.1 y.2) = decide (y ∈ l)
theorem mapOk2_app {km : List (Value × Bool)} {l : List LS} (h : mapOk2 km l) (y : LS) : mapOk2 (mset km (pk y.1 y.2) true) (l ++ [y]) := by
  intro u
  have h1 := h u
  unfold mgetB at h1 ⊢
  rw [mlook_mset]
  by_cases e : u.1 = y.1 ∧ u.2 = y.2
  · have : u = y := Prod.ext e.1 e.2
    rw [if_pos e, this]
    simp
  · have : u ≠ y := fun h => e (by rw [h]; exact ⟨rfl, rfl⟩)
    rw [if_neg e, h1]
    simp [this]
theorem mapOk2_nil : mapOk2 [] [] := fun y => by simp [mgetB, mlook]
abbrev prL (v : Vis) : LS := (v.1, v.2.1)
theorem evC_stp {es : List Edg} (hp : es.Pairwise ltE) {s ev : Int} (h : ev ∈ evC es s) : (s, ev, stp3 es s ev) ∈ es := by
  unfold evC at h
  obtain ⟨e, he, rfl⟩ := List.mem_map.1 h
  obtain ⟨h1, h2⟩ := List.mem_filter.1 he
  have h2 : e.1 = s := by simpa using h2
  have := stp3_of hp h1
  rw [h2] at this
  rw [this, ← h2]
  exact h1
set_option maxHeartbeats 16000000 in
theorem least108 (O : List Heap) (x : Sys) (a : Aut) (ps : List (Int × Int)) (o : Aut) (es : List (List Int)) (h : stOk x a ps) (h0 : 0 < ps.length) (obs sts : List Int) (hso : sts.Pairwise (· < ·)) (hsl : sts.length ≤ 1000000) (hol : obs.length ≤ 4096) (hpl : ps.length ≤ 12) (z : LS × List Int)
    (hz : leastR a.edges x.ob obs sts = some z) :
    ASpec Tryz.prog 108 [studG x a ps o es, ints obs, ints sts] O (ints z.2) [] O := by
  have hga := h.ga
  obtain ⟨n, hn⟩ : ∃ n, n = ps.length := ⟨_, rfl⟩
  rw [← hn] at hga h0 hpl
  have hst := fun O s ev hs => step60 O a n s ev hga hs
  have hen := fun O s hs => enabled157 O a n s hga hs
  have hto := hga.to
  have hpw := hga.pw
  have hed := hga.sm.ed
  have hobs := (checkSet_sorted h.hx.ob).1
  have hobl := h.sm.ob
  have hcs := fun O s => contains49 O sts s (by simp only [max63]; omega) hso
  have hco := fun O e => contains49 O x.ob e (by simp only [max63]; omega) hobs
  have hVl := lsV_len obs.length n
  have hVb : n * (obs.length + 1) ≤ 12 * 4097 := Nat.mul_le_mul hpl (by omega)
  have hB0 : bOk (lsV n obs.length) [(((0, 0) : LS), ([] : List Int))] := bOk_one (mem_lsV ⟨⟨Int.le_refl _, by simpa using h0⟩, Int.le_refl _, by simp⟩)
  have hk0 : mapOk2 (mset [] (pk 0 0) true) ([(((0, 0) : LS), ([] : List Int))].map (·.1)) := mapOk2_app (l := []) mapOk2_nil (0, 0)
  have hv0 : VOk prL [((0, 0, -1, 0) : Vis)] [(((0, 0) : LS), ([] : List Int))] := VOk_one _ (0, 0, -1, 0) (by decide)
  have hwd := fun O vl wl h hl i y hy => word156 (S := LS) (pr := prL) O vl wl h hl i y hy
  have hrl : ∀ s, (evC a.edges s).length ≤ 1000000 := fun s => by unfold evC; rw [List.length_map]; exact Nat.le_trans (List.length_filter_le _ _) hed
  unfold leastR at hz
  unfold stpT at hst
  clear h hga hn
  obtain ⟨al, st, mk, eds⟩ := a
  obtain ⟨xp, xs, ob, ct⟩ := x
  simp only at hto hpw hed hz hen hst hobs hobl hco hrl
  refine aspec_stop [7, 8, 16, 100020] Tk Tryz.func108 rfl Tryz.call108 Tryz.ntmps108 (Nat.le_of_ble_eq_true rfl) fun E => ?_
  refine g_run Tk Tryz.func108 ?_
  refine g_drawn Tk Tryz.func108 mixedT rfl ?_
  refine s_old Tk ?_
  refine d_mod Tk (p := ⟨[], [(21, .mp (.pair .i64) (.b (mset [] (pk 0 0) true)))], none⟩) rfl rfl rfl ?_
  refine d_done Tk Tryz.func108 (by kernel_rfl) (GM.h ?_)
  refine g_loop ?_
  refine rch_wk (wk_ren 20 116 rfl rfl rfl) ?_
  refine rch_loop2 (fun y : Nat × Nat × List (Value × Bool) × List Vis × List (LS × List Int) => [(0, studG ⟨xp, xs, ob, ct⟩ ⟨al, st, mk, eds⟩ ps o es), (1, ints obs), (2, ints sts), (7, .osl 0 116), (8, .osl 0 21), (9, ii y.1)])
    (fun y => [(116, ovis y.2.2.2.1), (21, .mp (.pair .i64) (.b y.2.2.1))]) (fun _ => O) 118
    (fun y => y.1 ≤ y.2.2.2.2.length ∧ bOk (lsV n obs.length) y.2.2.2.2 ∧ mapOk2 y.2.2.1 (y.2.2.2.2.map (·.1)) ∧ VOk prL y.2.2.2.1 y.2.2.2.2 ∧ y.2.1 + y.1 = 100000 ∧ bsr (nxQ eds ob) (fun _ => true) (evQ eds ob obs) (badQ obs sts) y.2.1 y.1 y.2.2.2.2 = some z) (fun y => y.2.1) (0, 100000, mset [] (pk 0 0) true, [(0, 0, -1, 0)], [((0, 0), [])])
    ⟨Nat.zero_le _, hB0, hk0, hv0, rfl, hz⟩ ⟨rfl, rfl, rfl, rfl, rfl, rfl, trivial⟩ rfl ⟨rfl, rfl, trivial⟩ rfl rfl ?_
  clear hB0 hk0 hz hv0
  rintro ⟨i, fu, km, vl, wl⟩ ⟨hi, hb, hk, hv, hf, hno⟩ ih
  simp only at hi hb hk hv hf hno
  have hll := bOk_len hb
  have hvl := hv.len
  have h1 : i < wl.length := by
    rcases Nat.lt_or_ge i wl.length with h | h
    · exact h
    · rw [bsr_done h] at hno; cases hno
  obtain ⟨fu, rfl⟩ : ∃ f', fu = f' + 1 := ⟨fu - 1, by omega⟩
  have hgi : wl[i]? = some wl[i] := List.getElem?_eq_getElem h1
  have hvi : vl[i]? = some vl[i] := List.getElem?_eq_getElem (by omega)
  have gl : (vl.map visI)[(i : Int).toNat]? = some (visI vl[i]) := get_mapZ (by omega)
  have hzV := lsV_mem (hb.el _ (List.getElem_mem h1))
  simp only [bsr, hgi] at hno
  obtain ⟨ww, hw1, _⟩ := hv.el i _ hvi
  generalize vl[i] = v at *
  generalize wl[i] = w at *
  rw [hgi] at hw1
  obtain rfl := Option.some.inj hw1
  obtain ⟨v1, v2, v3, v4⟩ := v
  simp only at hno hzV hgi
  have hj0 : ii (IntKind.i64.wrap ((i : Int) + 1)) = ii ((i + 1 : Nat) : Int) := congrArg ii (wsucc (n := 1000001) (by omega) (by decide))
  have hcs1 := fun O => hcs O v1
  have hbd : badQ obs sts (v1, v2) = (decide (v2 = (obs.length : Int)) && decide (v1 ∈ sts)) := rfl
  rw [hbd] at hno
  clear hbd
  refine g_run Tk Tryz.func108 ?_
  first | refine g_cnd Tk Tryz.func108 rfl (fun _ => ?_) (fun h => absurd h (by simp; omega)) | refine g_know Tk Tryz.func108 rfl (fun _ => ?_) (fun h => absurd h (by simp; omega)) | refine s_know Tk (fun _ => ?_) (fun h => absurd h (by simp; omega))
  first | refine g_need Tk Tryz.func108 (by exact ⟨by omega, by show (i : Int) < (vl.length : Int); omega⟩) ?_ | refine s_need Tk (by exact ⟨by omega, by show (i : Int) < (vl.length : Int); omega⟩) ?_
  first | refine g_elem Tk Tryz.func108 (gl) ?_ | refine s_elem Tk (gl) ?_
  apply join_p (P := bsr (nxQ eds ob) (fun _ => true) (evQ eds ob obs) (badQ obs sts) fu (i + 1) (bvis (nxQ eds ob) (fun _ => true) ((v1, v2), ww) (evQ eds ob obs (v1, v2)) wl) = some z) (s6 := { σ := [(0, studG ⟨xp, xs, ob, ct⟩ ⟨al, st, mk, eds⟩ ps o es), (1, ints obs), (2, ints sts), (7, .osl 0 116), (8, .osl 0 21), (9, ii i), (10, .own 0 10 0 0)], S := [(116, ovis vl), (21, .mp (.pair .i64) (.b km)), (10, .box [ii v1, ii v2, ii v3, ii v4])] :: O, n := 118 })
  · intro J
    first | refine g_cnd Tk Tryz.func108 rfl (fun c0 => ?_) (fun c0 => ?_) | refine g_know Tk Tryz.func108 rfl (fun c0 => ?_) (fun c0 => ?_) | refine s_know Tk (fun c0 => ?_) (fun c0 => ?_)
    · have c0 : v2 = (obs.length : Int) := beqT c0
      rw [decide_eq_true c0, Bool.true_and] at hno
      first | refine g_call Tk Tryz.func108 (hcs1 _) rfl rfl rfl rfl rfl ?_ | refine s_callq Tk (fun _ => hcs1 _) rfl rfl rfl ?_
      first | refine g_cnd Tk Tryz.func108 rfl (fun c1 => ?_) (fun c1 => ?_) | refine g_know Tk Tryz.func108 rfl (fun c1 => ?_) (fun c1 => ?_) | refine s_know Tk (fun c1 => ?_) (fun c1 => ?_)
      · have c1 : decide (v1 ∈ sts) = true := c1
        rw [if_pos c1] at hno
        obtain rfl := Option.some.inj hno
        refine g_stop ?_
        refine rch_wk (wk_freeze 116 rfl rfl) ?_
        refine g_run Tk Tryz.func108 ?_
        refine g_go Tk Tryz.func108 ?_
        first | refine g_call Tk Tryz.func108 (hwd _ vl wl hv (by omega) i _ hgi) rfl rfl rfl rfl rfl ?_ | refine s_callq Tk (fun _ => hwd _ vl wl hv (by omega) i _ hgi) rfl rfl rfl ?_
        refine g_ret Tk (r := ints ww) rfl rfl rfl trivial rfl rfl ?_
        rfl
      · have c1 : ¬ decide (v1 ∈ sts) = true := by rw [show decide (v1 ∈ sts) = false from c1]; decide
        rw [if_neg c1] at hno
        refine g_stop ?_
        refine rch_meet (J hno) ⟨rfl, rfl, rfl, rfl, rfl, rfl, rfl, trivial⟩ rfl ⟨rfl, rfl, rfl, trivial⟩ rfl rfl
    · have c0 : ¬ v2 = (obs.length : Int) := beqF c0
      rw [decide_eq_false c0, Bool.false_and, if_neg (by decide)] at hno
      repeat (first | refine gcT Tk Tryz.func108 rfl ?_ | refine gkT Tk Tryz.func108 rfl ?_ | refine skT Tk ?_ | refine gcF Tk Tryz.func108 rfl ?_ | refine gkF Tk Tryz.func108 rfl ?_ | refine skF Tk ?_)
      refine g_stop ?_
      refine rch_meet (J hno) ⟨rfl, rfl, rfl, rfl, rfl, rfl, rfl, trivial⟩ rfl ⟨rfl, rfl, rfl, trivial⟩ rfl rfl
  clear hno
  intro hno
  have hen1 := fun O => hen O v1 hzV.1
  have hno : bsr (nxQ eds ob) (fun _ => true) (evQ eds ob obs) (badQ obs sts) fu (i + 1) (bvis (nxQ eds ob) (fun _ => true) ((v1, v2), ww) (((evC eds v1).drop 0).filter (okQ ob obs v2)) wl) = some z := hno
  have hrow : ∀ e ∈ evC eds v1, (v1, e, stp3 eds v1 e) ∈ eds := fun e he => evC_stp hpw he
  have hrl1 := hrl v1
  generalize evC eds v1 = row at *
  refine g_run Tk Tryz.func108 ?_
  refine g_go Tk Tryz.func108 ?_
  refine g_drawn Tk Tryz.func108 mixedT rfl ?_
  first | refine g_elem Tk Tryz.func108 (rfl) ?_ | refine s_elem Tk (rfl) ?_
  first | refine g_call Tk Tryz.func108 (hen1 _) rfl rfl rfl rfl rfl ?_ | refine s_callq Tk (fun _ => hen1 _) rfl rfl rfl ?_
  refine e_done Tk Tryz.func108 (by kernel_rfl) ?_
  refine g_loop ?_
  refine rch_loop2 (fun y : Nat × List (Value × Bool) × List Vis × List (LS × List Int) => [(0, studG ⟨xp, xs, ob, ct⟩ ⟨al, st, mk, eds⟩ ps o es), (1, ints obs), (2, ints sts), (7, .osl 0 116), (8, .osl 0 21), (9, ii i), (10, .own 0 10 0 0), (58, ints row), (59, ii row.length), (60, ii y.1)])
    (fun y => [(116, ovis y.2.2.1), (21, .mp (.pair .i64) (.b y.2.1)), (10, .box [ii v1, ii v2, ii v3, ii v4])]) (fun _ => O) 118
    (fun y => y.1 ≤ row.length ∧ bOk (lsV n obs.length) y.2.2.2 ∧ mapOk2 y.2.1 (y.2.2.2.map (·.1)) ∧ VOk prL y.2.2.1 y.2.2.2 ∧ y.2.2.2[i]? = some ((v1, v2), ww) ∧ bsr (nxQ eds ob) (fun _ => true) (evQ eds ob obs) (badQ obs sts) fu (i + 1) (bvis (nxQ eds ob) (fun _ => true) ((v1, v2), ww) (((row.drop y.1)).filter (okQ ob obs v2)) y.2.2.2) = some z) (fun y => row.length - y.1) (0, km, vl, wl)
    ⟨Nat.zero_le _, hb, hk, hv, hgi, hno⟩ ⟨rfl, rfl, rfl, rfl, rfl, rfl, rfl, rfl, rfl, rfl, trivial⟩ rfl ⟨rfl, rfl, rfl, trivial⟩ rfl rfl ?_
  clear hb hk hv hvi hgi hno gl hi hll hvl h1
  rintro ⟨j, km, vl, wl⟩ ⟨hj, hb, hk, hv, hgi, hno⟩ ih2
  simp only at hj hb hk hv hgi hno
  have hll := bOk_len hb
  have hvl := hv.len
  have h1 : i < wl.length := (List.getElem?_eq_some_iff.1 hgi).1
  have hj1 : ii (IntKind.i64.wrap ((j : Int) + 1)) = ii ((j + 1 : Nat) : Int) := congrArg ii (wsucc (n := 1000001) (by omega) (by decide))
  refine g_run Tk Tryz.func108 ?_
  first | refine g_cnd Tk Tryz.func108 rfl (fun g1 => ?_) (fun g1 => ?_) | refine g_know Tk Tryz.func108 rfl (fun g1 => ?_) (fun g1 => ?_) | refine s_know Tk (fun g1 => ?_) (fun g1 => ?_)
  · have h2 : j < row.length := by simpa using g1
    have ge : (row.map fun x => [vi x])[(j : Int).toNat]? = some [vi row[j]] := get_mapZ (f := fun x => [vi x]) h2
    have hre := hrow _ (List.getElem_mem h2)
    rw [List.drop_eq_getElem_cons h2, List.filter_cons] at hno
    generalize row[j] = e at *
    have hte := hto _ hre
    simp only at hte
    have hst1 := fun O => hst O v1 e hzV.1
    rw [if_pos hte.1, decide_eq_true hte.1] at hst1
    have hco1 := fun O => hco O e
    have hokq : okQ ob obs v2 e = (!decide (e ∈ ob) || decide (obs[v2.toNat]? = some e)) := rfl
    have hnx : nxQ eds ob (v1, v2) e = (stp3 eds v1 e, if e ∈ ob then v2 + 1 else v2) := rfl
    obtain ⟨q, hq⟩ : ∃ q, q = if e ∈ ob then v2 + 1 else v2 := ⟨_, rfl⟩
    rw [← hq] at hnx
    have hj2 : ii (IntKind.i64.wrap (v2 + 1)) = ii (v2 + 1) := congrArg ii (w64 (by omega) (by omega))
    generalize stp3 eds v1 e = t at *
    first | refine g_need Tk Tryz.func108 (by exact ⟨by omega, by show (j : Int) < (row.length : Int); omega⟩) ?_ | refine s_need Tk (by exact ⟨by omega, by show (j : Int) < (row.length : Int); omega⟩) ?_
    first | refine g_elem Tk Tryz.func108 (ge) ?_ | refine s_elem Tk (ge) ?_
    first | refine g_elem Tk Tryz.func108 (rfl) ?_ | refine s_elem Tk (rfl) ?_
    first | refine g_call Tk Tryz.func108 (hco1 _) rfl rfl rfl rfl rfl ?_ | refine s_callq Tk (fun _ => hco1 _) rfl rfl rfl ?_
    apply join_p (P := okQ ob obs v2 e = true ∧ q ≤ (obs.length : Int)) (s6 := { σ := [(0, studG ⟨xp, xs, ob, ct⟩ ⟨al, st, mk, eds⟩ ps o es), (1, ints obs), (2, ints sts), (7, .osl 0 116), (8, .osl 0 21), (9, ii i), (10, .own 0 10 0 0), (58, ints row), (59, ii row.length), (60, ii j), (14, ii e), (15, ii q)], S := [(116, ovis vl), (21, .mp (.pair .i64) (.b km)), (10, .box [ii v1, ii v2, ii v3, ii v4])] :: O, n := 118 })
    · intro J
      first | refine g_cnd Tk Tryz.func108 rfl (fun c2 => ?_) (fun c2 => ?_) | refine g_know Tk Tryz.func108 rfl (fun c2 => ?_) (fun c2 => ?_) | refine s_know Tk (fun c2 => ?_) (fun c2 => ?_)
      rotate_left
      · have c2 : e ∉ ob := of_decide_eq_false c2
        rw [if_neg c2] at hq
        have hf : okQ ob obs v2 e = true := by rw [hokq, decide_eq_false c2]; rfl
        refine g_stop ?_
        refine rch_meet (J ⟨hf, by omega⟩) ⟨rfl, rfl, rfl, rfl, rfl, rfl, rfl, rfl, rfl, rfl, rfl, by rw [hq]; rfl, trivial⟩ rfl ⟨rfl, rfl, rfl, trivial⟩ rfl rfl
      · have c2 : e ∈ ob := of_decide_eq_true c2
        rw [if_pos c2] at hq
        rw [decide_eq_true c2, Bool.not_true, Bool.false_or] at hokq
        have hcon : ∀ (hf : okQ ob obs v2 e = false), bsr (nxQ eds ob) (fun _ => true) (evQ eds ob obs) (badQ obs sts) fu (i + 1) (bvis (nxQ eds ob) (fun _ => true) ((v1, v2), ww) (((row.drop (j + 1))).filter (okQ ob obs v2)) wl) = some z := fun hf => by
          rw [if_neg (by rw [hf]; decide)] at hno; exact hno
        first | refine g_cnd Tk Tryz.func108 rfl (fun c3 => ?_) (fun c3 => ?_) | refine g_know Tk Tryz.func108 rfl (fun c3 => ?_) (fun c3 => ?_) | refine s_know Tk (fun c3 => ?_) (fun c3 => ?_)
        · have c3 : v2 = (obs.length : Int) := beqT c3
          have hf : okQ ob obs v2 e = false := by
            rw [hokq]
            have : obs[v2.toNat]? = none := List.getElem?_eq_none (by omega)
            rw [this]; simp
          repeat (first | refine gcT Tk Tryz.func108 rfl ?_ | refine gkT Tk Tryz.func108 rfl ?_ | refine skT Tk ?_ | refine gcF Tk Tryz.func108 rfl ?_ | refine gkF Tk Tryz.func108 rfl ?_ | refine skF Tk ?_)
          refine g_loop ?_
          exact ih2 (j + 1, km, vl, wl) _ _ ⟨h2, hb, hk, hv, hgi, hcon hf⟩ (by simp only; omega) ⟨rfl, rfl, rfl, rfl, rfl, rfl, rfl, rfl, rfl, hj1, trivial⟩ rfl ⟨rfl, rfl, rfl, trivial⟩ rfl rfl
        · have c3 : ¬ v2 = (obs.length : Int) := beqF c3
          have hvl2 : v2.toNat < obs.length := by omega
          obtain ⟨u, hgo⟩ : ∃ u, obs[v2.toNat]? = some u := ⟨_, List.getElem?_eq_getElem hvl2⟩
          have go : (obs.map fun x => [vi x])[v2.toNat]? = some [vi u] := by rw [List.getElem?_map, hgo]; rfl
          first | refine g_need Tk Tryz.func108 (by exact ⟨by omega, by show v2 < (obs.length : Int); omega⟩) ?_ | refine s_need Tk (by exact ⟨by omega, by show v2 < (obs.length : Int); omega⟩) ?_
          first | refine g_elem Tk Tryz.func108 (go) ?_ | refine s_elem Tk (go) ?_
          first | refine g_cnd Tk Tryz.func108 rfl (fun c4 => ?_) (fun c4 => ?_) | refine g_know Tk Tryz.func108 rfl (fun c4 => ?_) (fun c4 => ?_) | refine s_know Tk (fun c4 => ?_) (fun c4 => ?_)
          · have c4 : u ≠ e := bneT c4
            have hf : okQ ob obs v2 e = false := by
              rw [hokq, hgo]; simp [c4]
            refine g_loop ?_
            exact ih2 (j + 1, km, vl, wl) _ _ ⟨h2, hb, hk, hv, hgi, hcon hf⟩ (by simp only; omega) ⟨rfl, rfl, rfl, rfl, rfl, rfl, rfl, rfl, rfl, hj1, trivial⟩ rfl ⟨rfl, rfl, rfl, trivial⟩ rfl rfl
          · have c4 : u = e := bneF c4
            have hf : okQ ob obs v2 e = true := by rw [hokq, hgo, c4]; simp
            refine g_stop ?_
            refine rch_meet (J ⟨hf, by omega⟩) ⟨rfl, rfl, rfl, rfl, rfl, rfl, rfl, rfl, rfl, rfl, rfl, by rw [hq]; exact hj2, trivial⟩ rfl ⟨rfl, rfl, rfl, trivial⟩ rfl rfl
    rintro ⟨hf, hqb⟩
    have hq0 : 0 ≤ q := by rw [hq]; split <;> omega
    rw [if_pos hf] at hno
    simp only [bvis] at hno
    rw [hnx] at hno
    have hkk := hk (t, q)
    refine g_run Tk Tryz.func108 ?_
    refine g_go Tk Tryz.func108 ?_
    refine g_drawn Tk Tryz.func108 mixedT rfl ?_
    first | refine g_elem Tk Tryz.func108 (rfl) ?_ | refine s_elem Tk (rfl) ?_
    first | refine g_call Tk Tryz.func108 (hst1 _) rfl rfl rfl rfl rfl ?_ | refine s_callq Tk (fun _ => hst1 _) rfl rfl rfl ?_
    refine e_done Tk Tryz.func108 (by kernel_rfl) ?_
    first | refine g_cnd Tk Tryz.func108 rfl (fun d2 => ?_) (fun d2 => ?_) | refine g_know Tk Tryz.func108 rfl (fun d2 => ?_) (fun d2 => ?_) | refine s_know Tk (fun d2 => ?_) (fun d2 => ?_)
    · have d2 : mgetB km (pk t q) = false := notT d2
      rw [hkk] at d2
      have d2 : ∀ y ∈ wl, y.1 ≠ (t, q) := fun y hy e => of_decide_eq_false d2 (List.mem_map.2 ⟨y, hy, e⟩)
      rw [if_pos ⟨trivial, d2⟩] at hno
      first | refine g_need Tk Tryz.func108 (by exact ⟨by show (vl.length + 1) * 32 ≤ 140737488355328; omega, by show vl.length + 1 ≤ 9223372036854775807; omega⟩) ?_ | refine s_need Tk (by exact ⟨by show (vl.length + 1) * 32 ≤ 140737488355328; omega, by show vl.length + 1 ≤ 9223372036854775807; omega⟩) ?_
      have hmk : mapOk2 (mset km (pk t q) true) ((wl ++ [((t, q), ww ++ [e])]).map (·.1)) := by
        rw [List.map_append]
        exact mapOk2_app hk (t, q)
      refine g_loop ?_
      refine ih2 (j + 1, mset km (pk t q) true, vl ++ [(t, q, (i : Int), e)], wl ++ [((t, q), ww ++ [e])]) _ _ ⟨h2, bOk_app hb hgi (mem_lsV ⟨hte, hq0, hqb⟩) d2 e, hmk, VOk_app (v := (t, q, (i : Int), e)) hv hgi rfl, by rw [List.getElem?_append_left h1]; exact hgi, hno⟩ (by simp only; omega) ⟨rfl, rfl, rfl, rfl, rfl, rfl, rfl, rfl, rfl, hj1, trivial⟩ rfl ⟨congrArg some (ovis_app vl (t, q, (i : Int), e)), rfl, rfl, trivial⟩ rfl rfl
    · have d2 : mgetB km (pk t q) = true := notF d2
      rw [hkk] at d2
      obtain ⟨y, hy, hye⟩ := List.mem_map.1 (of_decide_eq_true d2)
      rw [if_neg (fun h => h.2 y hy hye)] at hno
      refine g_loop ?_
      exact ih2 (j + 1, km, vl, wl) _ _ ⟨h2, hb, hk, hv, hgi, hno⟩ (by simp only; omega) ⟨rfl, rfl, rfl, rfl, rfl, rfl, rfl, rfl, rfl, hj1, trivial⟩ rfl ⟨rfl, rfl, rfl, trivial⟩ rfl rfl
  · have h2 : row.length ≤ j := by simpa using g1
    rw [List.drop_eq_nil_of_le h2] at hno
    simp only [List.filter_nil, bvis] at hno
    refine g_loop ?_
    exact ih (i + 1, fu, km, vl, wl) _ _ ⟨h1, hb, hk, hv, by simp only; omega, hno⟩ (by simp only; omega) ⟨rfl, rfl, rfl, rfl, rfl, hj0, trivial⟩ rfl ⟨rfl, rfl, trivial⟩ rfl rfl
end Go.AI


namespace Go.AI
open Go.Proofs
set_option maxRecDepth 20000
def obsQ (o : Aut) (i : Int) : Option (Int × List Int) := bsr (stp3 o.edges) (fun _ => true) (evC o.edges) (fun s => decide (s = i)) 4096 0 [((0 : Int), ([] : List Int))]
def obsW (o : Aut) (i : Int) : List Int := match obsQ o i with
  | some z => z.2
  | none => []
def leastW (es : List Edg) (ob obs sts : List Int) : List Int := match leastR es ob obs sts with
  | some z => z.2
  | none => []
abbrev divP (a : Aut) (est : List Int) (ev : Int) : List Int := est.filter fun s => permF a s ev
abbrev divR (x : Sys) (a : Aut) (ps : List (Int × Int)) (est : List Int) (ev : Int) : List Int := est.filter fun s => refF x a ps s ev
abbrev Wit := List Int × List Int × Int
def tornIn (x : Sys) (a : Aut) (ps : List (Int × Int)) (o : Aut) (i : Int) (est : List Int) : List Int → Option Wit
  | [] => none
  | e :: r => if 0 < (divP a est e).length ∧ 0 < (divR x a ps est e).length then some (leastW a.edges x.ob (obsW o i) (divP a est e), leastW a.edges x.ob (obsW o i) (divR x a ps est e), e) else tornIn x a ps o i est r
def tornOut (x : Sys) (a : Aut) (ps : List (Int × Int)) (o : Aut) : List (List Int) → Nat → Option Wit
  | [], _ => none
  | est :: r, i => match tornIn x a ps o i est x.ct with
    | some w => some w
    | none => tornOut x a ps o r (i + 1)
structure tornOk (x : Sys) (a : Aut) (ps : List (Int × Int)) (o : Aut) (es : List (List Int)) : Prop where
  st : stOk x a ps
  go : gAut o es.length
  el : es.length ≤ 4095
  len : ps.length ≤ 12
  srt : ∀ est ∈ es, est.Pairwise (· < ·)
  rng : ∀ est ∈ es, est ≠ [] ∧ est.length ≤ 4096 ∧ ∀ s ∈ est, 0 ≤ s ∧ s < (ps.length : Int)
  h1 : ∀ (i : Nat) est, es[i]? = some est → (∃ z, obsQ o i = some z) ∧ (obsW o i).length ≤ 4096
  h2 : ∀ (i : Nat) est, es[i]? = some est → ∀ sts : List Int, (∀ s ∈ sts, s ∈ est) → 0 < sts.length → ∃ z, leastR a.edges x.ob (obsW o i) sts = some z
abbrev witC (w : Wit) : List D := [ints w.1, ints w.2.1, ii w.2.2]
abbrev zWit : Wit := ([], [], 0)
set_option maxHeartbeats 8000000 in
theorem torn52 (O : List Heap) (x : Sys) (a : Aut) (ps : List (Int × Int)) (o : Aut) (es : List (List Int)) (h : tornOk x a ps o es) :
    ASpec Tryz.prog 52 [studG x a ps o es] O (.tup [.agg (witC ((tornOut x a ps o es 0).getD zWit)), bb (tornOut x a ps o es 0).isSome]) [] O := by
  have hst := h.st
  have hctl := h.st.sm.ct
  have hdv := fun O est ev (hm : est ∈ es) => divide57 O x a ps o es hst est ev (h.rng est hm).2.2 (by have := (h.rng est hm).2.1; omega)
  have hob : ∀ O (i : Nat) est, es[i]? = some est → ASpec Tryz.prog 107 [studG x a ps o es, ii i] O (ints (obsW o i)) [] O := fun O i est he => by
    obtain ⟨⟨z, hz⟩, _⟩ := h.h1 i est he
    have := observation107 O x a ps o es es.length h.go h.el (by have := (List.getElem?_eq_some_iff.1 he).1; omega) i z hz
    unfold obsW
    rw [hz]
    exact this
  have hle : ∀ O (i : Nat) est, es[i]? = some est → ∀ sts : List Int, sts.Pairwise (· < ·) → (∀ s ∈ sts, s ∈ est) → 0 < sts.length → sts.length ≤ 4096 → ASpec Tryz.prog 108 [studG x a ps o es, ints (obsW o i), ints sts] O (ints (leastW a.edges x.ob (obsW o i) sts)) [] O := fun O i est he sts hs hi h0 hl => by
    obtain ⟨z, hz⟩ := h.h2 i est he sts hi h0
    have hps : 0 < ps.length := by
      cases hsts : sts with
      | nil => rw [hsts] at h0; simp at h0
      | cons s r =>
        have := (h.rng est (List.mem_of_getElem? he)).2.2 s (hi s (by rw [hsts]; simp))
        omega
    have := least108 O x a ps o es hst hps (obsW o i) sts hs (by omega) (h.h1 i est he).2 h.len z hz
    unfold leastW
    rw [hz]
    exact this
  have hsrt := h.srt
  have hrng := h.rng
  obtain ⟨R, hR⟩ : ∃ R, R = tornOut x a ps o (es.drop 0) 0 := ⟨_, rfl⟩
  have e0 : tornOut x a ps o es 0 = R := hR.symm
  rw [e0]
  have hel := h.el
  clear h hst e0
  refine aspec_stop [] Tk Tryz.func52 rfl Tryz.call52 Tryz.ntmps52 (Nat.le_of_ble_eq_true rfl) fun E => ?_
  refine g_run Tk Tryz.func52 ?_
  first | refine g_elem Tk Tryz.func52 (rfl) ?_ | refine s_elem Tk (rfl) ?_
  refine g_loop ?_
  refine rch_loop2 (fun i : Nat => [(0, studG x a ps o es), (2, .own 0 2 0 0), (14, .i (rowsS es)), (15, ii es.length), (16, ii i)]) (fun _ => [(2, .box [.i (.v (.slice none 0 0)), .i (.v (.slice none 0 0)), ii 0])]) (fun _ => O) 62
    (fun i => i ≤ es.length ∧ R = tornOut x a ps o (es.drop i) i) (fun i => es.length - i) 0 ⟨Nat.zero_le _, hR⟩ ⟨rfl, rfl, rfl, rfl, rfl, trivial⟩ rfl ⟨rfl, trivial⟩ rfl rfl ?_
  clear hR
  rintro i ⟨hi, hno⟩ ih
  have hj0 : ii (IntKind.i64.wrap ((i : Int) + 1)) = ii ((i + 1 : Nat) : Int) := congrArg ii (wsucc (n := 5000) (by omega) (by decide))
  refine g_run Tk Tryz.func52 ?_
  first | refine g_cnd Tk Tryz.func52 rfl (fun g1 => ?_) (fun g1 => ?_) | refine g_know Tk Tryz.func52 rfl (fun g1 => ?_) (fun g1 => ?_) | refine s_know Tk (fun g1 => ?_) (fun g1 => ?_)
  · have h2 : i < es.length := by simpa using g1
    have ge : (es.map fun r => [intsI r])[(i : Int).toNat]? = some [intsI es[i]] := get_mapZ (f := fun r => [intsI r]) h2
    have hei : es[i]? = some es[i] := List.getElem?_eq_getElem h2
    have hm := List.getElem_mem h2
    rw [List.drop_eq_getElem_cons h2] at hno
    simp only [tornOut] at hno
    generalize es[i] = est at *
    have hdv1 := fun O ev => hdv O est ev hm
    have hob1 := fun O => hob O i est hei
    have hle1 := fun O => hle O i est hei
    have hs1 := hsrt est hm
    have hl1 := (hrng est hm).2.1
    have hno : R = match tornIn x a ps o i est (x.ct.drop 0) with
      | some w => some w
      | none => tornOut x a ps o (es.drop (i + 1)) (i + 1) := hno
    first | refine g_need Tk Tryz.func52 (by exact ⟨by omega, by show (i : Int) < (es.length : Int); omega⟩) ?_ | refine s_need Tk (by exact ⟨by omega, by show (i : Int) < (es.length : Int); omega⟩) ?_
    first | refine g_elem Tk Tryz.func52 (ge) ?_ | refine s_elem Tk (ge) ?_
    first | refine g_elem Tk Tryz.func52 (rfl) ?_ | refine s_elem Tk (rfl) ?_
    refine g_loop ?_
    refine rch_loop2 (fun j : Nat => [(0, studG x a ps o es), (2, .own 0 2 0 0), (14, .i (rowsS es)), (15, ii es.length), (16, ii i), (4, ii i), (5, ints est), (25, ints x.ct), (26, ii x.ct.length), (27, ii j)]) (fun _ => [(2, .box [.i (.v (.slice none 0 0)), .i (.v (.slice none 0 0)), ii 0])]) (fun _ => O) 62
      (fun j => j ≤ x.ct.length ∧ R = match tornIn x a ps o i est (x.ct.drop j) with
        | some w => some w
        | none => tornOut x a ps o (es.drop (i + 1)) (i + 1)) (fun j => x.ct.length - j) 0 ⟨Nat.zero_le _, hno⟩ ⟨rfl, rfl, rfl, rfl, rfl, rfl, rfl, rfl, rfl, rfl, trivial⟩ rfl ⟨rfl, trivial⟩ rfl rfl ?_
    clear hno
    rintro j ⟨hj, hno⟩ ih2
    have hj1 : ii (IntKind.i64.wrap ((j : Int) + 1)) = ii ((j + 1 : Nat) : Int) := congrArg ii (wsucc (n := 1000001) (by omega) (by decide))
    refine g_run Tk Tryz.func52 ?_
    first | refine g_cnd Tk Tryz.func52 rfl (fun g2 => ?_) (fun g2 => ?_) | refine g_know Tk Tryz.func52 rfl (fun g2 => ?_) (fun g2 => ?_) | refine s_know Tk (fun g2 => ?_) (fun g2 => ?_)
    · have h3 : j < x.ct.length := by simpa using g2
      have gc : (x.ct.map fun x => [vi x])[(j : Int).toNat]? = some [vi x.ct[j]] := get_mapZ (f := fun x => [vi x]) h3
      rw [List.drop_eq_getElem_cons h3] at hno
      simp only [tornIn] at hno
      generalize x.ct[j] = e at *
      have hdv2 := fun O => hdv1 O e
      have lA := hle1
      have pA : (divP a est e).Pairwise (· < ·) := hs1.filter _
      have pB : (divR x a ps est e).Pairwise (· < ·) := hs1.filter _
      have sA : ∀ s ∈ divP a est e, s ∈ est := fun s hs => (List.mem_filter.1 hs).1
      have sB : ∀ s ∈ divR x a ps est e, s ∈ est := fun s hs => (List.mem_filter.1 hs).1
      have nA : (divP a est e).length ≤ 4096 := Nat.le_trans (List.length_filter_le _ _) hl1
      have nB : (divR x a ps est e).length ≤ 4096 := Nat.le_trans (List.length_filter_le _ _) hl1
      have hA := fun O h0 => hle1 O _ pA sA h0 nA
      have hB := fun O h0 => hle1 O _ pB sB h0 nB
      have hdv2 : ∀ O, ASpec Tryz.prog 57 [studG x a ps o es, ints est, ii e] O (.tup [ints (divP a est e), ints (divR x a ps est e)]) [] O := hdv2
      generalize divP a est e = A at *
      generalize divR x a ps est e = B at *
      generalize leastW a.edges x.ob (obsW o i) A = wA at *
      generalize leastW a.edges x.ob (obsW o i) B = wB at *
      generalize obsW o i = w0 at *
      first | refine g_need Tk Tryz.func52 (by exact ⟨by omega, by show (j : Int) < (x.ct.length : Int); omega⟩) ?_ | refine s_need Tk (by exact ⟨by omega, by show (j : Int) < (x.ct.length : Int); omega⟩) ?_
      first | refine g_elem Tk Tryz.func52 (gc) ?_ | refine s_elem Tk (gc) ?_
      first | refine g_call Tk Tryz.func52 (hdv2 _) rfl rfl rfl rfl rfl ?_ | refine s_callq Tk (fun _ => hdv2 _) rfl rfl rfl ?_
      first | refine g_cnd Tk Tryz.func52 rfl (fun c1 => ?_) (fun c1 => ?_) | refine g_know Tk Tryz.func52 rfl (fun c1 => ?_) (fun c1 => ?_) | refine s_know Tk (fun c1 => ?_) (fun c1 => ?_)
      · have c1 : ((A.length : Nat) : Int) > 0 := of_decide_eq_true c1
        have c1 : 0 < A.length := by omega
        first | refine g_cnd Tk Tryz.func52 rfl (fun c2 => ?_) (fun c2 => ?_) | refine g_know Tk Tryz.func52 rfl (fun c2 => ?_) (fun c2 => ?_) | refine s_know Tk (fun c2 => ?_) (fun c2 => ?_)
        · have c2 : ((B.length : Nat) : Int) > 0 := of_decide_eq_true c2
          have c2 : 0 < B.length := by omega
          rw [if_pos ⟨c1, c2⟩] at hno
          simp only at hno
          subst hno
          first | refine g_call Tk Tryz.func52 (hob1 _) rfl rfl rfl rfl rfl ?_ | refine s_callq Tk (fun _ => hob1 _) rfl rfl rfl ?_
          first | refine g_call Tk Tryz.func52 (hA _ c1) rfl rfl rfl rfl rfl ?_ | refine s_callq Tk (fun _ => hA _ c1) rfl rfl rfl ?_
          first | refine g_call Tk Tryz.func52 (hB _ c2) rfl rfl rfl rfl rfl ?_ | refine s_callq Tk (fun _ => hB _ c2) rfl rfl rfl ?_
          refine g_ret Tk (r := .tup [.agg [ints wA, ints wB, ii e], bb true]) rfl rfl rfl trivial rfl rfl ?_
          rfl
        · have c2 : ¬ ((B.length : Nat) : Int) > 0 := of_decide_eq_false c2
          rw [if_neg (fun h => c2 (by omega))] at hno
          refine g_loop ?_
          exact ih2 (j + 1) _ _ ⟨h3, hno⟩ (by omega) ⟨rfl, rfl, rfl, rfl, rfl, rfl, rfl, rfl, rfl, hj1, trivial⟩ rfl ⟨rfl, trivial⟩ rfl rfl
      · have c1 : ¬ ((A.length : Nat) : Int) > 0 := of_decide_eq_false c1
        rw [if_neg (fun h => c1 (by omega))] at hno
        repeat (first | refine gcT Tk Tryz.func52 rfl ?_ | refine gkT Tk Tryz.func52 rfl ?_ | refine skT Tk ?_ | refine gcF Tk Tryz.func52 rfl ?_ | refine gkF Tk Tryz.func52 rfl ?_ | refine skF Tk ?_)
        refine g_loop ?_
        exact ih2 (j + 1) _ _ ⟨h3, hno⟩ (by omega) ⟨rfl, rfl, rfl, rfl, rfl, rfl, rfl, rfl, rfl, hj1, trivial⟩ rfl ⟨rfl, trivial⟩ rfl rfl
    · have h3 : x.ct.length ≤ j := by simpa using g2
      rw [List.drop_eq_nil_of_le h3] at hno
      simp only [tornIn] at hno
      refine g_loop ?_
      exact ih (i + 1) _ _ ⟨h2, hno⟩ (by omega) ⟨rfl, rfl, rfl, rfl, hj0, trivial⟩ rfl ⟨rfl, trivial⟩ rfl rfl
  · have h2 : es.length ≤ i := by simpa using g1
    rw [List.drop_eq_nil_of_le h2] at hno
    simp only [tornOut] at hno
    subst hno
    refine g_ret_co Tk (r := .tup [.agg [.i (.v (.slice none 0 0)), .i (.v (.slice none 0 0)), ii 0], bb false]) rfl rfl rfl trivial rfl rfl ?_
    repeat' (first | refine coD_tup ?_ | refine coD_agg ?_ | refine coD_i ?_ | refine CoDL.cons ?_ ?_ | exact CoDL.nil | exact coI_nil | refine coI_sl ?_ | refine CoLL.cons ?_ ?_ | exact CoLL.nil | refine CoL.cons ?_ ?_ | exact CoL.nil | exact CoI.refl _ | exact CoL.refl _ | exact CoLL.refl _ | exact CoDL.refl _ | exact CoD.refl _)
end Go.AI


namespace Go.AI
open Go.Proofs
set_option maxRecDepth 20000
structure obOk (x : Sys) : Prop where
  sm : smallS x
  hx : gSys x
  h64 : x.p.states ≤ 64 ∧ x.s.states ≤ 64
  hV : (lpV x).length ≤ 4095
  hn : (lpR x).2.length ≤ 12
  tn : tornOk x (lpR x).1 (lpR x).2 (esR x).1 (esR x).2
abbrev tornR (x : Sys) : Option Wit := tornOut x (lpR x).1 (lpR x).2 (esR x).1 (esR x).2 0
theorem observable14e {g : Nat} {ty : TypeId} {fr : Nat × Nat} (O : List Heap) (x : Sys) (h : smallS x) (he : chkSys x ≠ 0) : ASpecT g (ptab ty fr) Tryz.prog 14 [sysD x] O (.tup [.agg [.i (.v (.slice none 0 0)), .i (.v (.slice none 0 0)), ii 0], bb false, ii (chkSys x)]) [] O := by
  have h1 := fun O => open51e (g := g) (ty := ty) (fr := fr) O x h he
  generalize chkSys x = e at *
  clear h
  obtain ⟨⟨al, st, mk, es⟩, ⟨al', st', mk', es'⟩, ob, ct⟩ := x
  refine aspecT_stop [] Tk Tryz.func14 rfl Tryz.call14 Tryz.ntmps14 (Nat.le_of_ble_eq_true rfl) fun E hE => ?_
  refine g_run Tk Tryz.func14 ?_
  refine g_callT Tk Tryz.func14 hE (h1 _) rfl rfl rfl rfl rfl rfl ?_
  first | refine g_cnd Tk Tryz.func14 rfl (fun _ => ?_) (fun h => absurd h (by simpa using he)) | refine g_know Tk Tryz.func14 rfl (fun _ => ?_) (fun h => absurd h (by simpa using he)) | refine s_know Tk (fun _ => ?_) (fun h => absurd h (by simpa using he))
  refine g_ret Tk (r := .tup [.agg [.i (.v (.slice none 0 0)), .i (.v (.slice none 0 0)), ii 0], bb false, ii e]) rfl rfl rfl trivial rfl rfl ?_
  rfl
theorem observable14 {g : Nat} (hg : IsTab g) {ty : TypeId} {fr : Nat × Nat} (O : List Heap) (x : Sys) (h : obOk x) : ASpecT g (ptab ty fr) Tryz.prog 14 [sysD x] O (.tup [.agg (witC ((tornR x).getD zWit)), bb (!(tornR x).isSome), ii 0]) [] O := by
  have h1 := fun O => open51 hg (ty := ty) (fr := fr) O x h.sm h.hx h.h64 h.hV h.hn
  have h2 := fun O => torn52 O x _ _ _ _ h.tn
  have h1 : ∀ O, ASpecT g (ptab ty fr) Tryz.prog 51 [sysD x] O (.tup [studG x (lpR x).1 (lpR x).2 (esR x).1 (esR x).2, ii 0]) [] O := h1
  show ASpecT g (ptab ty fr) Tryz.prog 14 [sysD x] O (.tup [.agg (witC ((tornOut x (lpR x).1 (lpR x).2 (esR x).1 (esR x).2 0).getD zWit)), bb (!(tornOut x (lpR x).1 (lpR x).2 (esR x).1 (esR x).2 0).isSome), ii 0]) [] O
  generalize tornOut x (lpR x).1 (lpR x).2 (esR x).1 (esR x).2 0 = T at *
  have h2 : ∀ O, ASpec Tryz.prog 52 [studG x (lpR x).1 (lpR x).2 (esR x).1 (esR x).2] O (.tup [.agg (witC (T.getD zWit)), bb T.isSome]) [] O := h2
  generalize (lpR x).1 = a at *
  generalize (lpR x).2 = ps at *
  generalize (esR x).1 = o at *
  generalize (esR x).2 = es at *
  generalize T.isSome = b at *
  generalize T.getD zWit = w at *
  obtain ⟨w1, w2, w3⟩ := w
  clear h
  obtain ⟨⟨al, st, mk, eds⟩, ⟨al', st', mk', eds'⟩, ob, ct⟩ := x
  refine aspecT_stop [] Tk Tryz.func14 rfl Tryz.call14 Tryz.ntmps14 (Nat.le_of_ble_eq_true rfl) fun E hE => ?_
  refine g_run Tk Tryz.func14 ?_
  refine g_callT Tk Tryz.func14 hE (h1 _) rfl rfl rfl rfl rfl rfl ?_
  repeat (first | refine gcT Tk Tryz.func14 rfl ?_ | refine gkT Tk Tryz.func14 rfl ?_ | refine skT Tk ?_ | refine gcF Tk Tryz.func14 rfl ?_ | refine gkF Tk Tryz.func14 rfl ?_ | refine skF Tk ?_)
  first | refine g_call Tk Tryz.func14 (h2 _) rfl rfl rfl rfl rfl ?_ | refine s_callq Tk (fun _ => h2 _) rfl rfl rfl ?_
  refine g_ret Tk (r := .tup [.agg [ints w1, ints w2, ii w3], bb (!b), ii 0]) rfl rfl rfl trivial rfl rfl ?_
  rfl
theorem estimates27e {g : Nat} {ty : TypeId} {fr : Nat × Nat} (O : List Heap) (x : Sys) (h : smallS x) (he : chkSys x ≠ 0) : ASpecT g (ptab ty fr) Tryz.prog 27 [sysD x] O (.tup [zAutD, .i (.v (.slice none 0 0)), ii (chkSys x)]) [] O := by
  have h1 := fun O => open51e (g := g) (ty := ty) (fr := fr) O x h he
  generalize chkSys x = e at *
  clear h
  obtain ⟨⟨al, st, mk, es⟩, ⟨al', st', mk', es'⟩, ob, ct⟩ := x
  refine aspecT_stop [] Tk Tryz.func27 rfl Tryz.call27 Tryz.ntmps27 (Nat.le_of_ble_eq_true rfl) fun E hE => ?_
  refine g_run Tk Tryz.func27 ?_
  refine g_callT Tk Tryz.func27 hE (h1 _) rfl rfl rfl rfl rfl rfl ?_
  first | refine g_cnd Tk Tryz.func27 rfl (fun _ => ?_) (fun h => absurd h (by simpa using he)) | refine g_know Tk Tryz.func27 rfl (fun _ => ?_) (fun h => absurd h (by simpa using he)) | refine s_know Tk (fun _ => ?_) (fun h => absurd h (by simpa using he))
  refine g_ret Tk (r := .tup [zAutD, .i (.v (.slice none 0 0)), ii e]) rfl rfl rfl trivial rfl rfl ?_
  rfl
def ctlR (x : Sys) (a : Aut) (es : List (List Int)) : List (List Int) := es.map fun est => x.ct.filter fun e => decide (0 < (divP a est e).length)
abbrev zCtl : D := .agg [.i (.v (.slice none 0 0)), ii 0, .i (.v (.slice none 0 0)), .i (.v (.slice none 0 0)), .i (.v (.slice none 0 0))]
theorem implement19e {g : Nat} {ty : TypeId} {fr : Nat × Nat} (O : List Heap) (x : Sys) (h : smallS x) (he : chkSys x ≠ 0) : ASpecT g (ptab ty fr) Tryz.prog 19 [sysD x] O (.tup [zCtl, ii (chkSys x)]) [] O := by
  have h1 := fun O => open51e (g := g) (ty := ty) (fr := fr) O x h he
  generalize chkSys x = e at *
  clear h
  obtain ⟨⟨al, st, mk, es⟩, ⟨al', st', mk', es'⟩, ob, ct⟩ := x
  refine aspecT_stop [] Tk Tryz.func19 rfl Tryz.call19 Tryz.ntmps19 (Nat.le_of_ble_eq_true rfl) fun E hE => ?_
  refine g_run Tk Tryz.func19 ?_
  refine g_callT Tk Tryz.func19 hE (h1 _) rfl rfl rfl rfl rfl rfl ?_
  first | refine g_cnd Tk Tryz.func19 rfl (fun _ => ?_) (fun h => absurd h (by simpa using he)) | refine g_know Tk Tryz.func19 rfl (fun _ => ?_) (fun h => absurd h (by simpa using he)) | refine s_know Tk (fun _ => ?_) (fun h => absurd h (by simpa using he))
  refine g_ret Tk (r := .tup [zCtl, ii e]) rfl rfl rfl trivial rfl rfl ?_
  rfl
abbrev ctlD (o : Aut) (rows : List (List Int)) : D := .agg [ints o.alpha, ii o.states, ints o.marked, edgs o.edges, .i (rowsS rows)]
set_option maxHeartbeats 8000000 in
theorem implement19 {g : Nat} (hg : IsTab g) {ty : TypeId} {fr : Nat × Nat} (O : List Heap) (x : Sys) (h : obOk x) (ht : (tornR x).isSome = false) : ASpecT g (ptab ty fr) Tryz.prog 19 [sysD x] O (.tup [ctlD (esR x).1 (ctlR x (lpR x).1 (esR x).2), ii 0]) [] O := by
  have h1 : ∀ O, ASpecT g (ptab ty fr) Tryz.prog 51 [sysD x] O (.tup [studG x (lpR x).1 (lpR x).2 (esR x).1 (esR x).2, ii 0]) [] O := fun O => open51 hg (ty := ty) (fr := fr) O x h.sm h.hx h.h64 h.hV h.hn
  have h2 := fun O => torn52 O x _ _ _ _ h.tn
  have ht : (tornOut x (lpR x).1 (lpR x).2 (esR x).1 (esR x).2 0).isSome = false := ht
  simp only [ht] at h2
  have hdv := fun O est ev (hm : est ∈ (esR x).2) => divide57 O x (lpR x).1 (lpR x).2 (esR x).1 (esR x).2 h.tn.st est ev (h.tn.rng est hm).2.2 (by have := (h.tn.rng est hm).2.1; omega)
  have hdv : ∀ O est ev, est ∈ (esR x).2 → ASpec Tryz.prog 57 [studG x (lpR x).1 (lpR x).2 (esR x).1 (esR x).2, ints est, ii ev] O (.tup [ints (divP (lpR x).1 est ev), ints (divR x (lpR x).1 (lpR x).2 est ev)]) [] O := hdv
  have hel := h.tn.el
  have hctl := h.sm.ct
  unfold ctlR
  generalize (tornOut x (lpR x).1 (lpR x).2 (esR x).1 (esR x).2 0).getD zWit = w at *
  clear ht h
  generalize (lpR x).1 = a at *
  generalize (lpR x).2 = ps at *
  generalize (esR x).1 = o at *
  generalize (esR x).2 = es at *
  obtain ⟨w1, w2, w3⟩ := w
  obtain ⟨pf, hpf⟩ : ∃ pf : List Int → Int → Bool, pf = fun est e => decide (0 < (divP a est e).length) := ⟨_, rfl⟩
  have hpe : ∀ est e, decide (0 < (divP a est e).length) = pf est e := fun est e => by rw [hpf]
  simp only [hpe]
  have hpd : ∀ est e, decide (((divP a est e).length : Int) > 0) = pf est e := fun est e => by rw [hpf]; exact decide_eq_decide.2 (by omega)
  clear hpf hpe
  obtain ⟨oal, ost, omk, oes⟩ := o
  obtain ⟨⟨al, st, mk, eds⟩, ⟨al', st', mk', eds'⟩, ob, ct⟩ := x
  simp only at hctl hel
  refine aspecT_stop [19, 21] Tk Tryz.func19 rfl Tryz.call19 Tryz.ntmps19 (Nat.le_of_ble_eq_true rfl) fun E hE => ?_
  refine g_run Tk Tryz.func19 ?_
  refine g_callT Tk Tryz.func19 hE (h1 _) rfl rfl rfl rfl rfl rfl ?_
  repeat (first | refine gcT Tk Tryz.func19 rfl ?_ | refine gkT Tk Tryz.func19 rfl ?_ | refine skT Tk ?_ | refine gcF Tk Tryz.func19 rfl ?_ | refine gkF Tk Tryz.func19 rfl ?_ | refine skF Tk ?_)
  first | refine g_call Tk Tryz.func19 (h2 _) rfl rfl rfl rfl rfl ?_ | refine s_callq Tk (fun _ => h2 _) rfl rfl rfl ?_
  repeat (first | refine gcT Tk Tryz.func19 rfl ?_ | refine gkT Tk Tryz.func19 rfl ?_ | refine skT Tk ?_ | refine gcF Tk Tryz.func19 rfl ?_ | refine gkF Tk Tryz.func19 rfl ?_ | refine skF Tk ?_)
  first | refine g_elem Tk Tryz.func19 (rfl) ?_ | refine s_elem Tk (rfl) ?_
  first | refine g_elem Tk Tryz.func19 (rfl) ?_ | refine s_elem Tk (rfl) ?_
  refine g_loop ?_
  refine rch_wk (wk_nilbox2 8 72 31 1 (pre := [ints oal, ii ost, ints omk, edgs oes]) (post := []) rfl rfl rfl) ?_
  refine rch_loop2 (fun i : Nat => [(1, .own 0 1 0 0), (2, .own 0 2 0 0), (4, studG ⟨⟨al, st, mk, eds⟩, ⟨al', st', mk', eds'⟩, ob, ct⟩ a ps ⟨oal, ost, omk, oes⟩ es), (8, .own 0 8 0 0), (40, .i (rowsS es)), (41, ii es.length), (42, ii i)])
    (fun i => [(1, .box (sysC ⟨⟨al, st, mk, eds⟩, ⟨al', st', mk', eds'⟩, ob, ct⟩)), (2, .box [.i (.v (.slice none 0 0)), ii 0, .i (.v (.slice none 0 0)), .i (.v (.slice none 0 0)), .i (.v (.slice none 0 0))]), (8, .box [ints oal, ii ost, ints omk, edgs oes, .osl 0 72]), (72, orows ((es.take i).map fun est => ct.filter (pf est)))]) (fun _ => O) 76
    (fun i => i ≤ es.length) (fun i => es.length - i) 0 (Nat.zero_le _) ⟨rfl, rfl, rfl, rfl, rfl, rfl, rfl, trivial⟩ rfl ⟨rfl, rfl, rfl, rfl, trivial⟩ rfl rfl ?_
  rintro i hi ih
  have hj0 : ii (IntKind.i64.wrap ((i : Int) + 1)) = ii ((i + 1 : Nat) : Int) := congrArg ii (wsucc (n := 5000) (by omega) (by decide))
  refine g_run Tk Tryz.func19 ?_
  first | refine g_cnd Tk Tryz.func19 rfl (fun g1 => ?_) (fun g1 => ?_) | refine g_know Tk Tryz.func19 rfl (fun g1 => ?_) (fun g1 => ?_) | refine s_know Tk (fun g1 => ?_) (fun g1 => ?_)
  · have hh2 : i < es.length := by simpa using g1
    have ge : (es.map fun r => [intsI r])[(i : Int).toNat]? = some [intsI es[i]] := get_mapZ (f := fun r => [intsI r]) hh2
    have hm := List.getElem_mem hh2
    have htk := take_map_succ (f := fun est => ct.filter (pf est)) hh2
    have hl0 : ((es.take i).map fun est => ct.filter (pf est)).length = i := by rw [List.length_map, List.length_take]; omega
    generalize es[i] = est at *
    generalize hQ : (es.take i).map (fun est => ct.filter (pf est)) = Q at *
    have hdv1 := fun O ev => hdv O est ev hm
    have hpd1 := hpd est
    generalize pf est = pf1 at *
    first | refine g_need Tk Tryz.func19 (by exact ⟨by omega, by show (i : Int) < (es.length : Int); omega⟩) ?_ | refine s_need Tk (by exact ⟨by omega, by show (i : Int) < (es.length : Int); omega⟩) ?_
    first | refine g_elem Tk Tryz.func19 (ge) ?_ | refine s_elem Tk (ge) ?_
    refine g_loop ?_
    refine rch_wk (wk_nil 11 66 3 1 rfl rfl rfl) ?_
    refine rch_loop2 (fun j : Nat => [(1, .own 0 1 0 0), (2, .own 0 2 0 0), (4, studG ⟨⟨al, st, mk, eds⟩, ⟨al', st', mk', eds'⟩, ob, ct⟩ a ps ⟨oal, ost, omk, oes⟩ es), (8, .own 0 8 0 0), (40, .i (rowsS es)), (41, ii es.length), (42, ii i), (10, ints est), (11, .osl 0 66), (47, ints ct), (48, ii ct.length), (49, ii j)])
      (fun j => [(1, .box (sysC ⟨⟨al, st, mk, eds⟩, ⟨al', st', mk', eds'⟩, ob, ct⟩)), (2, .box [.i (.v (.slice none 0 0)), ii 0, .i (.v (.slice none 0 0)), .i (.v (.slice none 0 0)), .i (.v (.slice none 0 0))]), (8, .box [ints oal, ii ost, ints omk, edgs oes, .osl 0 72]), (72, orows Q), (66, oints ((ct.take j).filter pf1))]) (fun _ => O) 76
      (fun j => j ≤ ct.length) (fun j => ct.length - j) 0 (Nat.zero_le _) ⟨rfl, rfl, rfl, rfl, rfl, rfl, rfl, rfl, rfl, rfl, rfl, rfl, trivial⟩ rfl ⟨rfl, rfl, rfl, rfl, rfl, trivial⟩ rfl rfl ?_
    rintro j hj ih2
    have hj1 : ii (IntKind.i64.wrap ((j : Int) + 1)) = ii ((j + 1 : Nat) : Int) := congrArg ii (wsucc (n := 1000001) (by omega) (by decide))
    refine g_run Tk Tryz.func19 ?_
    first | refine g_cnd Tk Tryz.func19 rfl (fun g2 => ?_) (fun g2 => ?_) | refine g_know Tk Tryz.func19 rfl (fun g2 => ?_) (fun g2 => ?_) | refine s_know Tk (fun g2 => ?_) (fun g2 => ?_)
    · have h3 : j < ct.length := by simpa using g2
      have gc : (ct.map fun x => [vi x])[(j : Int).toNat]? = some [vi ct[j]] := get_mapZ (f := fun x => [vi x]) h3
      have htk2 : ct.take (j + 1) = ct.take j ++ [ct[j]] := List.take_succ_eq_append_getElem h3
      have hA := filt_snoc pf1 (ct.take j) ct[j]
      rw [← htk2] at hA
      have lA : ((ct.take j).filter pf1).length ≤ 1000000 := Nat.le_trans (List.length_filter_le _ _) (by rw [List.length_take]; omega)
      generalize ct[j] = e at *
      clear htk2
      generalize (ct.take j).filter pf1 = A at *
      first | refine g_need Tk Tryz.func19 (by exact ⟨by omega, by show (j : Int) < (ct.length : Int); omega⟩) ?_ | refine s_need Tk (by exact ⟨by omega, by show (j : Int) < (ct.length : Int); omega⟩) ?_
      first | refine g_elem Tk Tryz.func19 (gc) ?_ | refine s_elem Tk (gc) ?_
      first | refine g_call Tk Tryz.func19 (hdv1 _ _) rfl rfl rfl rfl rfl ?_ | refine s_callq Tk (fun _ => hdv1 _ _) rfl rfl rfl ?_
      first | refine g_cnd Tk Tryz.func19 rfl (fun c1 => ?_) (fun c1 => ?_) | refine g_know Tk Tryz.func19 rfl (fun c1 => ?_) (fun c1 => ?_) | refine s_know Tk (fun c1 => ?_) (fun c1 => ?_)
      · have c1 : decide (((divP a est e).length : Int) > 0) = true := c1
        rw [hpd1] at c1
        rw [if_pos c1] at hA
        first | refine g_need Tk Tryz.func19 (by exact ⟨by show (A.length + 1) * 8 ≤ 140737488355328; omega, by show A.length + 1 ≤ 9223372036854775807; omega⟩) ?_ | refine s_need Tk (by exact ⟨by show (A.length + 1) * 8 ≤ 140737488355328; omega, by show A.length + 1 ≤ 9223372036854775807; omega⟩) ?_
        refine g_loop ?_
        exact ih2 (j + 1) _ _ h3 (by omega) ⟨rfl, rfl, rfl, rfl, rfl, rfl, rfl, rfl, rfl, rfl, rfl, hj1, trivial⟩ rfl ⟨rfl, rfl, rfl, rfl, by rw [hA]; exact congrArg some (oints_app A e), trivial⟩ rfl rfl
      · have c1 : decide (((divP a est e).length : Int) > 0) = false := c1
        rw [hpd1] at c1
        rw [if_neg (by rw [c1]; decide), List.append_nil] at hA
        refine g_loop ?_
        exact ih2 (j + 1) _ _ h3 (by omega) ⟨rfl, rfl, rfl, rfl, rfl, rfl, rfl, rfl, rfl, rfl, rfl, hj1, trivial⟩ rfl ⟨rfl, rfl, rfl, rfl, by rw [hA]; rfl, trivial⟩ rfl rfl
    · have h3 : ct.length ≤ j := by simpa using g2
      rw [List.take_of_length_le h3]
      refine g_stop ?_
      refine rch_wk (wk_freeze 66 rfl rfl) ?_
      refine g_run Tk Tryz.func19 ?_
      refine g_go Tk Tryz.func19 ?_
      first | refine g_need Tk Tryz.func19 (by exact ⟨by show (Q.length + 1) * 24 ≤ 140737488355328; omega, by show Q.length + 1 ≤ 9223372036854775807; omega⟩) ?_ | refine s_need Tk (by exact ⟨by show (Q.length + 1) * 24 ≤ 140737488355328; omega, by show Q.length + 1 ≤ 9223372036854775807; omega⟩) ?_
      refine g_loop ?_
      refine ih (i + 1) _ _ hh2 (by omega) ⟨rfl, rfl, rfl, rfl, rfl, rfl, hj0, trivial⟩ rfl ⟨rfl, rfl, rfl, ?_, trivial⟩ rfl rfl
      rw [htk]
      exact congrArg some (orows_app Q (ct.filter pf1))
  · have hh2 : es.length ≤ i := by simpa using g1
    rw [List.take_of_length_le hh2]
    refine g_stop ?_
    refine rch_wk (wk_freeze 72 rfl rfl) ?_
    refine g_run Tk Tryz.func19 ?_
    refine g_go Tk Tryz.func19 ?_
    refine g_ret Tk (r := .tup [ctlD ⟨oal, ost, omk, oes⟩ (es.map fun est => ct.filter (pf est)), ii 0]) rfl rfl rfl trivial rfl rfl ?_
    rfl
end Go.AI


namespace Go.AI
theorem kOf_src : ∀ {l : List Edg} {k0 n : Nat}, kOf l k0 = some n → ∀ k, k0 ≤ k → k < n → ∃ e ∈ l, e.2.2 = (k : Int) ∧ 0 ≤ e.1 ∧ e.1 < (k : Int)
  | [], k0, n, h, k, h1, h2 => by simp only [kOf, Option.some.injEq] at h; omega
  | e :: r, k0, n, h, k, h1, h2 => by
    simp only [kOf] at h
    by_cases c : (0 ≤ e.1 ∧ e.1 < k0) ∧ 0 ≤ e.2.2 ∧ e.2.2 ≤ k0
    · rw [if_pos c] at h
      by_cases c2 : e.2.2 = k0
      · rw [if_pos c2] at h
        by_cases c3 : k = k0
        · subst c3
          exact ⟨e, by simp, c2, c.1.1, c.1.2⟩
        · obtain ⟨e', a1, a2⟩ := kOf_src h k (by omega) h2
          exact ⟨e', by simp [a1], a2⟩
      · rw [if_neg c2] at h
        obtain ⟨e', a1, a2⟩ := kOf_src h k h1 h2
        exact ⟨e', by simp [a1], a2⟩
    · rw [if_neg c] at h; cases h
theorem subs_sorted : ∀ {n : Nat} {l : List Int}, l ∈ subs n → l.Pairwise (· < ·)
  | 0, l, h => by simp [subs] at h; subst h; exact .nil
  | n + 1, l, h => by
    rw [subs, List.mem_append] at h
    rcases h with h | h
    · exact subs_sorted h
    · obtain ⟨m, hm, rfl⟩ := List.mem_map.1 h
      rw [List.pairwise_append]
      refine ⟨subs_sorted hm, List.pairwise_singleton _ _, fun a ha b hb => ?_⟩
      rw [List.mem_singleton] at hb
      have := (mem_subs hm).2 a ha
      omega
theorem srch {S : Type} [DecidableEq S] {V : List S} {nx : S → Int → S} {evs : S → List Int} {x0 : S} {N : Nat} (h0 : x0 ∈ V) (hv : ∀ x ∈ V, ∀ ev ∈ evs x, nx x ev ∈ V) (hN : V.length < N) :
    ∃ L : List (S × List Int), (x0, []) ∈ L ∧ (∀ z ∈ L, ∀ ev ∈ evs z.1, ∃ w ∈ L, w.1 = nx z.1 ev) ∧ (∀ z ∈ L, runG nx (fun _ => true) evs x0 z.2 = some z.1) ∧ bOk V L ∧
      ∀ bad : S → Bool, bsr nx (fun _ => true) evs bad N 0 [(x0, [])] = L.find? fun z => bad z.1 := by
  have hB := bOk_one (V := V) h0
  refine ⟨bfull nx (fun _ => true) evs N 0 [(x0, [])], (bfull_pre nx (fun _ => true) evs N 0 [(x0, [])]).subset (by simp), ?_, ?_, ?_, fun bad => ?_⟩
  · intro z hz ev hev
    exact bfull_closed (V := V) (fun x hx ev he _ => hv x hx ev he) hN N 0 _ rfl (by simp) hB (by simp) z hz ev hev rfl
  · exact bfull_run N 0 _ (by simp [runG])
  · exact bfull_ok (fun x hx ev he _ => hv x hx ev he) N 0 _ hB
  · exact bsr_find (fun x hx ev he _ => hv x hx ev he) hN N 0 _ rfl (by simp) hB (by simp)
theorem find_some {α : Type} {p : α → Bool} {l : List α} (h : ∃ x ∈ l, p x = true) : ∃ z, l.find? p = some z := by
  cases e : l.find? p with
  | some z => exact ⟨z, rfl⟩
  | none =>
    obtain ⟨x, hx, hp⟩ := h
    exact absurd hp (List.find?_eq_none.1 e x hx)
section
variable {a : Aut} {n : Nat} {on : List Int} {V : Unf (List Int)}
structure prjU (a : Aut) (n : Nat) (on : List Int) (V : Unf (List Int)) : Prop where
  g : gAut a n
  n0 : 0 < n
  hn : n ≤ 11
  hV : prjR a on n = .ok V
  hU : UAt (marksR a) (keptR a on) (estP n) (pStep a on n) V.sts.length V
theorem prj_u (h : gAut a n) (h0 : 0 < n) (hn : n ≤ 11) (on : List Int) : ∃ V, prjU a n on V := by
  obtain ⟨V, h1, h2⟩ := prj_some3 h on (by omega) h0
  exact ⟨V, h, h0, hn, h1, h2⟩
theorem prjU.fst (h : prjU a n on V) : V.sts[0]? = some (clo a.edges (lowP on [] false) n [0]) := by
  have hpre := uloop_pre (show uloop eqB false (pStep a on n) (marksR a) (keptR a on) 4097 0 (unf0 (clo a.edges (lowP on [] false) n [0])) = .ok V from h.hV)
  obtain ⟨r, hr⟩ := hpre
  rw [← hr]
  rfl
theorem prjU.kp (h : prjU a n on V) : (keptR a on).Pairwise (· < ·) := (checkSet_sorted (chk_parts h.g.c).1).1.filter _
theorem prjU.few (h : prjU a n on V) : V.sts.length ≤ 2048 := by
  have := nodup_sub h.hU.nd (fun s hs => (h.hU.ok s hs).1)
  rw [subs_len] at this
  have : 2 ^ n ≤ 2 ^ 11 := Nat.pow_le_pow_right (by decide) h.hn
  omega
theorem prjU.og (h : prjU a n on V) : gAut (unfA (keptR a on) V) V.sts.length := uat_g h.hU (kept_chk h.g on) (by have := h.few; omega)
theorem prjU.stp (h : prjU a n on V) {i : Nat} {E : List Int} (hE : V.sts[i]? = some E) {ev : Int} (hev : ev ∈ keptR a on) :
    (nxt a.edges (lowP on [] false) n E ev = [] ∧ stp3 V.eds i ev = -1) ∨ (nxt a.edges (lowP on [] false) n E ev ≠ [] ∧ ∃ j : Nat, stp3 V.eds i ev = (j : Int) ∧ V.sts[j]? = some (nxt a.edges (lowP on [] false) n E ev)) := by
  have hs : ∀ s ev, (pStep a on n s ev).2.1 = decide ((nxt a.edges (lowP on [] false) n s ev).length ≠ 0) := fun _ _ => rfl
  rcases uat_stp h.hU h.kp hE hev with ⟨h1, h2⟩ | ⟨h1, h2⟩
  · rw [hs] at h1
    have := of_decide_eq_false h1
    exact .inl ⟨List.eq_nil_of_length_eq_zero (by omega), h2⟩
  · rw [hs] at h1
    have := of_decide_eq_true h1
    exact .inr ⟨fun e => this (by rw [e]; rfl), h2⟩
theorem evC_kept (h : prjU a n on V) {s ev : Int} (he : ev ∈ evC V.eds s) : ev ∈ keptR a on ∧ 0 ≤ stp3 V.eds s ev := by
  have hm := evC_stp (uat_pw h.hU h.kp) he
  have h1 := h.og.ev _ hm
  have h2 := h.og.to _ hm
  exact ⟨h1, h2.1⟩
theorem run_est (h : prjU a n on V) : ∀ (w : List Int) (i : Nat) (E : List Int) (s : Int), V.sts[i]? = some E → runG (stp3 V.eds) (fun _ => true) (evC V.eds) (i : Int) w = some s → (∀ e ∈ w, e ∈ keptR a on) ∧ ∃ j : Nat, s = (j : Int) ∧ V.sts[j]? = some (nxtL a.edges (lowP on [] false) n E w)
  | [], i, E, s, hE, hr => by
    simp only [runG, Option.some.injEq] at hr
    exact ⟨by simp, i, hr.symm, hE⟩
  | ev :: w, i, E, s, hE, hr => by
    simp only [runG] at hr
    by_cases c : ev ∈ evC V.eds i ∧ True
    · rw [if_pos (by simpa using c)] at hr
      obtain ⟨h1, h2⟩ := evC_kept h c.1
      rcases h.stp hE h1 with ⟨_, h4⟩ | ⟨_, j, h4, h5⟩
      · omega
      · rw [h4] at hr
        obtain ⟨a1, j', a2, a3⟩ := run_est h w j _ s h5 hr
        refine ⟨fun e he => ?_, j', a2, a3⟩
        rcases List.mem_cons.1 he with rfl | he
        · exact h1
        · exact a1 e he
    · rw [if_neg (by simpa using c)] at hr; cases hr
theorem obs_found (h : prjU a n on V) {i : Nat} {E : List Int} (hE : V.sts[i]? = some E) : ∃ z, obsQ (unfA (keptR a on) V) i = some z ∧ z.2.length ≤ 4096 ∧ (∀ e ∈ z.2, e ∈ keptR a on) ∧ nxtL a.edges (lowP on [] false) n (clo a.edges (lowP on [] false) n [0]) z.2 = E := by
  have hg := h.og
  have hfew := h.few
  have hi := (List.getElem?_eq_some_iff.1 hE).1
  have hpw := uat_pw h.hU h.kp
  obtain ⟨L, l1, l2, l3, l4, l5⟩ := srch (V := intsV V.sts.length) (nx := stp3 V.eds) (evs := evC V.eds) (x0 := (0 : Int)) (N := 4096) (mem_intsV.2 (by omega)) (fun x _ ev he => mem_intsV.2 (hg.to _ (evC_stp hpw he))) (by rw [intsV_len]; omega)
  have hall : ∀ k : Nat, k < V.sts.length → ∃ z ∈ L, z.1 = (k : Int) := by
    intro k
    induction k using Nat.strongRecOn with
    | ind k ih =>
      intro hk
      by_cases hk0 : k = 0
      · subst hk0; exact ⟨_, l1, rfl⟩
      · obtain ⟨e, he, h1, h2, h3⟩ := kOf_src h.hU.fr k (by omega) hk
        obtain ⟨z, hz, hz1⟩ := ih e.1.toNat (by omega) (by omega)
        have hz1 : z.1 = e.1 := by omega
        have hev : e.2.1 ∈ evC V.eds z.1 := by
          rw [hz1]
          exact List.mem_map.2 ⟨e, List.mem_filter.2 ⟨he, by simp⟩, rfl⟩
        obtain ⟨w, hw, hw1⟩ := l2 z hz _ hev
        refine ⟨w, hw, ?_⟩
        rw [hw1, hz1, stp3_of hpw he, h1]
  obtain ⟨z, hz⟩ := find_some (p := fun z : Int × List Int => decide (z.1 = (i : Int))) (by obtain ⟨z, h1, h2⟩ := hall i hi; exact ⟨z, h1, by simpa using h2⟩)
  refine ⟨z, ?_, ?_, ?_⟩
  · unfold obsQ
    exact (l5 _).trans hz
  · obtain ⟨j, hj⟩ := List.getElem?_of_mem (List.mem_of_find?_eq_some hz)
    have := l4.wl j z hj
    have := bOk_len l4
    have := (List.getElem?_eq_some_iff.1 hj).1
    rw [intsV_len] at *
    omega
  · have hr := l3 z (List.mem_of_find?_eq_some hz)
    have hz1 : z.1 = (i : Int) := by have := List.find?_some hz; simpa using this
    obtain ⟨b1, j, b2, b3⟩ := run_est h z.2 0 _ _ h.fst hr
    rw [hz1] at b2
    have : j = i := by omega
    subst this
    rw [hE] at b3
    exact ⟨b1, (Option.some.inj b3).symm⟩
theorem least_found (h : gAut a n) (h0 : 0 < n) (hn : n ≤ 11) {obs : List Int} (hob : ∀ e ∈ obs, e ∈ on) (hol : obs.length ≤ 4096) {sts : List Int} (hs : ∃ s ∈ sts, s ∈ nxtL a.edges (lowP on [] false) n (clo a.edges (lowP on [] false) n [0]) obs) : ∃ z, leastR a.edges on obs sts = some z := by
  have hpw := h.pw
  have hto := h.to
  have hvl : (lsV n obs.length).length < 100000 := by
    rw [lsV_len]
    have : n * (obs.length + 1) ≤ 11 * 4097 := Nat.mul_le_mul hn (by omega)
    omega
  obtain ⟨L, l1, l2, l3, l4, l5⟩ := srch (V := lsV n obs.length) (nx := nxQ a.edges on) (evs := evQ a.edges on obs) (x0 := ((0, 0) : LS)) (N := 100000) (mem_lsV ⟨by simp; omega, by simp⟩) (fun x hx ev he => by
    have hx := lsV_mem hx
    obtain ⟨h1, h2⟩ := List.mem_filter.1 he
    refine mem_lsV ⟨hto _ (evC_stp hpw h1), ?_⟩
    show 0 ≤ (if ev ∈ on then x.2 + 1 else x.2) ∧ (if ev ∈ on then x.2 + 1 else x.2) ≤ (obs.length : Int)
    by_cases c : ev ∈ on
    · rw [if_pos c]
      unfold okQ at h2
      rw [decide_eq_true c] at h2
      simp only [Bool.not_true, Bool.false_or, decide_eq_true_eq] at h2
      have := (List.getElem?_eq_some_iff.1 h2).1
      omega
    · rw [if_neg c]; exact hx.2) hvl
  have hclo : ∀ (k : Nat) (m : List Int), (∀ s ∈ m, ∃ z ∈ L, z.1 = (s, (k : Int))) → ∀ s, Rc a.edges (lowP on [] false) m s → ∃ z ∈ L, z.1 = (s, (k : Int)) := by
    intro k m hm s hr
    induction hr with
    | base hb => exact hm _ hb
    | @step e hr he hp ih =>
      obtain ⟨z, hz, hz1⟩ := ih
      have hno : e.2.1 ∉ on := by
        unfold lowP at hp
        simpa using hp
      obtain ⟨w, hw, hw1⟩ := l2 z hz e.2.1 (by
        rw [hz1]
        refine List.mem_filter.2 ⟨List.mem_map.2 ⟨e, List.mem_filter.2 ⟨he, by simp⟩, rfl⟩, ?_⟩
        unfold okQ
        rw [decide_eq_false hno]; rfl)
      refine ⟨w, hw, ?_⟩
      rw [hw1, hz1]
      show (stp3 a.edges e.1 e.2.1, if e.2.1 ∈ on then ((k : Int)) + 1 else (k : Int)) = _
      rw [if_neg hno, stp3_of hpw he]
  have hpre : ∀ (r p : List Int), p ++ r = obs → (∀ s ∈ nxtL a.edges (lowP on [] false) n (clo a.edges (lowP on [] false) n [0]) p, ∃ z ∈ L, z.1 = (s, (p.length : Int))) → ∀ s ∈ nxtL a.edges (lowP on [] false) n (clo a.edges (lowP on [] false) n [0]) obs, ∃ z ∈ L, z.1 = (s, (obs.length : Int)) := by
    intro r
    induction r with
    | nil =>
      intro p hp hq
      rw [List.append_nil] at hp
      subst hp
      exact hq
    | cons c r ih =>
      intro p hp hq
      refine ih (p ++ [c]) (by rw [List.append_assoc]; exact hp) ?_
      intro s hs
      rw [nxtL_snoc] at hs
      have hs := ((mem_clo hto).1 hs).2
      have hlen : ((p ++ [c]).length : Int) = ((p.length + 1 : Nat) : Int) := by simp
      rw [hlen]
      refine hclo (p.length + 1) _ (fun t ht => ?_) s hs
      obtain ⟨e, he, h1, h2, h3⟩ := mem_tgtE.1 ht
      obtain ⟨z, hz, hz1⟩ := hq e.1 h1
      have hgc : obs[p.length]? = some c := by rw [← hp]; simp
      have hcon : e.2.1 ∈ on := by rw [h2]; exact hob c (by rw [← hp]; simp)
      obtain ⟨w, hw, hw1⟩ := l2 z hz e.2.1 (by
        rw [hz1]
        refine List.mem_filter.2 ⟨List.mem_map.2 ⟨e, List.mem_filter.2 ⟨he, by simp⟩, rfl⟩, ?_⟩
        unfold okQ
        rw [decide_eq_true hcon]
        simp only [Int.toNat_natCast, hgc, h2, decide_true, Bool.or_true])
      refine ⟨w, hw, ?_⟩
      rw [hw1, hz1]
      show (stp3 a.edges e.1 e.2.1, if e.2.1 ∈ on then ((p.length : Nat) : Int) + 1 else ((p.length : Nat) : Int)) = _
      rw [if_pos hcon, stp3_of hpw he, h3]
      simp
  obtain ⟨s, hs1, hs2⟩ := hs
  obtain ⟨z, hz, hz1⟩ := hpre obs [] rfl (fun s hs => hclo 0 [0] (fun t ht => by rw [List.mem_singleton] at ht; subst ht; exact ⟨_, l1, rfl⟩) s ((mem_clo hto).1 hs).2) s hs2
  obtain ⟨z', hz'⟩ := find_some (p := fun z : LS × List Int => badQ obs sts z.1) ⟨z, hz, by rw [hz1]; unfold badQ; simp [hs1]⟩
  exact ⟨z', by unfold leastR; exact (l5 _).trans hz'⟩
end
theorem torn_ok {x : Sys} (hx : gSys x) (hsm : smallS x) (hV : (lpV x).length ≤ 4095) (hn : (lpR x).2.length ≤ 11) (hin : ∀ z ∈ (lpR x).2, 0 ≤ z.1 ∧ z.1 < x.p.states) : tornOk x (lpR x).1 (lpR x).2 (esR x).1 (esR x).2 := by
  obtain ⟨hg, hal⟩ := lp_g hx hV
  have hst : stOk x (lpR x).1 (lpR x).2 := ⟨hx, hsm, hg, hin, by omega⟩
  obtain ⟨eg, eal, ein⟩ := es_g hx hV (by omega)
  have hsub : ∀ est, est ∈ subs (lpR x).2.length → est.Pairwise (· < ·) := fun est h => subs_sorted h
  by_cases h0 : (lpR x).2.length = 0
  · have he : (esR x).2 = [] := by unfold esR; rw [if_pos h0]
    refine ⟨hst, eg, by rw [he]; simp, by omega, by rw [he]; simp, by rw [he]; simp, fun i est h => by rw [he] at h; simp at h, fun i est h => by rw [he] at h; simp at h⟩
  · obtain ⟨V, hU⟩ := prj_u hg (by omega) hn x.ob
    have he : esR x = (unfA (keptR (lpR x).1 x.ob) V, V.sts) := by unfold esR; rw [if_neg h0, hU.hV]
    rw [he] at eg ⊢
    have hfew := hU.few
    have hkob : ∀ e ∈ keptR (lpR x).1 x.ob, e ∈ x.ob := fun e h => by have := (List.mem_filter.1 h).2; simpa using this
    refine ⟨hst, eg, by show V.sts.length ≤ 4095; omega, by omega, fun est h => hsub est (hU.hU.ok est h).1, fun est h => ⟨(hU.hU.ok est h).2, by have := (mem_subs (hU.hU.ok est h).1).1; omega, (mem_subs (hU.hU.ok est h).1).2⟩, fun i est h => ?_, fun i est h sts hs h1 => ?_⟩
    · obtain ⟨z, z1, z2, _⟩ := obs_found hU h
      refine ⟨⟨z, z1⟩, ?_⟩
      unfold obsW
      simp only [z1]
      exact z2
    · obtain ⟨z, z1, z2, z3, z4⟩ := obs_found hU h
      have hw : obsW (unfA (keptR (lpR x).1 x.ob) V) i = z.2 := by unfold obsW; simp only [z1]
      show ∃ z, leastR (lpR x).1.edges x.ob (obsW (unfA (keptR (lpR x).1 x.ob) V) i) sts = some z
      rw [hw]
      refine least_found hg (by omega) hn (fun e he => hkob e (z3 e he)) z2 ?_
      cases hsts : sts with
      | nil => rw [hsts] at h1; simp at h1
      | cons s r => exact ⟨s, by simp, by rw [z4]; exact hs s (by rw [hsts]; simp)⟩
end Go.AI


namespace Go.AI
open Go.Proofs
set_option maxRecDepth 20000
end Go.AI


namespace Go.AI
open Go.Proofs
set_option maxRecDepth 20000
def back (frm : List (Int × Int)) : Nat → Int × Int → List Int
  | 0, _ => []
  | f + 1, p => if p.1 < 0 then [] else p.2 :: back frm f (frm.getD p.1.toNat (-1, -1))
structure Linked (S : Srch) : Prop where
  len : S.frm.length = S.sts.length
  frm : ∀ k (h : k < S.frm.length), S.frm[k].1 < k
  flt : S.flt.1 < S.sts.length
  most : S.sts.length ≤ 4096
end Go.AI


namespace Go.AI
open Go.Proofs
set_option maxRecDepth 20000
end Go.AI


namespace Go.AI
open Go.Proofs
set_option maxRecDepth 20000
end Go.AI


namespace Go.AI
set_option maxRecDepth 20000
section
variable {h : Int} (h1 : 1 ≤ h) (h2 : h ≤ 8191)
include h1 h2
variable {k : Int} (k1 : 0 ≤ k) (k2 : k ≤ h)
omit h1 in
include k1 k2 in
include k1 k2 in
omit h1 in
include k1 k2 in
omit h1 in
include k1 k2 in
omit h1 in
include k1 k2 in
include k1 k2 in
include k1 k2 in
end
end Go.AI


namespace Go.AI
set_option maxRecDepth 20000
section
variable {H : Nat} (h1 : 1 ≤ H) (h2 : H ≤ 8191)
include h1 h2
end
end Go.AI


namespace Go.AI
open Go.Proofs
set_option maxRecDepth 20000
theorem ASpecT.co {g : Nat} {tab : Obj} {P : Program} {f : FuncId} {args args' : List D} {O O' : List Heap} {res : D} {Hr : Heap} (h : ASpecT g tab P f args' O res Hr O') (hc : CoDL args args') : ASpecT g tab P f args O res Hr O' :=
  fun E K ρ w vs hw ht hr => h E K ρ w vs hw ht (hc.rep hr)
end Go.AI


namespace Go.AI
open Go.Proofs
set_option maxRecDepth 20000
theorem lp_in {x : Sys} (hx : gSys x) (hV : (lpV x).length ≤ 4095) : ∀ z ∈ (lpR x).2, lpIn x z := by
  unfold lpR
  by_cases h0 : 0 < x.p.states ∧ 0 < x.s.states
  · obtain ⟨V, hV1, hU⟩ := lp_some hx h0 (by omega)
    rw [if_pos h0, hV1]
    exact hU.ok
  · rw [if_neg h0]
    simp
theorem ob_ok {x : Sys} (hx : gSys x) (hs : smallS x) (h64 : x.p.states ≤ 64 ∧ x.s.states ≤ 64) (hV : (lpV x).length ≤ 4095) (hn : (lpR x).2.length ≤ 11) : obOk x :=
  ⟨hs, hx, h64, hV, by omega, torn_ok hx hs hV hn fun z hz => (lp_in hx hV z hz).1⟩
def exP : Aut := ⟨[0, 1, 2], 4, [0], [(0, 0, 1), (0, 1, 2), (1, 2, 3), (2, 2, 3)]⟩
def exQ : Aut := ⟨[0, 1, 2], 4, [0], [(0, 0, 1), (0, 1, 2), (1, 2, 3)]⟩
abbrev exX (ob ct : List Int) : Sys := ⟨exP, exQ, ob, ct⟩
theorem ex_g {ob ct : List Int} (h1 : checkSet 32 ob none = 0) (h2 : checkSet 32 ct none = 0) (h3 : ∀ e ∈ ob, e ∈ exP.alpha) (h4 : ∀ e ∈ ct, e ∈ exP.alpha) : gSys (exX ob ct) := ⟨by kernel_rfl, by kernel_rfl, rfl, h1, h2, h3, h4⟩
theorem exP_s : smallA exP := ⟨by decide, by decide, by decide⟩
theorem exQ_s : smallA exQ := ⟨by decide, by decide, by decide⟩
theorem ex_s {ob ct : List Int} (h1 : ob.length ≤ 1000000) (h2 : ct.length ≤ 1000000) : smallS (exX ob ct) := ⟨exP_s, exQ_s, h1, h2⟩
theorem ex_l1 : (lpR (exX [0, 1] [2])).2.length = 4 := by kernel_rfl
theorem ex_l2 : (lpR (exX [2] [2])).2.length = 4 := by kernel_rfl
theorem ex_l3 : (lpR (exX [2] [])).2.length = 4 := by kernel_rfl
theorem ex_ok1 : obOk (exX [0, 1] [2]) := ob_ok (ex_g (by decide) (by decide) (by decide) (by decide)) (ex_s (by decide) (by decide)) ⟨by decide, by decide⟩ (by rw [lpV_len]; decide) (by rw [ex_l1]; decide)
theorem ex_ok2 : obOk (exX [2] [2]) := ob_ok (ex_g (by decide) (by decide) (by decide) (by decide)) (ex_s (by decide) (by decide)) ⟨by decide, by decide⟩ (by rw [lpV_len]; decide) (by rw [ex_l2]; decide)
theorem ex_ok3 : obOk (exX [2] []) := ob_ok (ex_g (by decide) (by decide) (by decide) (by decide)) (ex_s (by decide) (by decide)) ⟨by decide, by decide⟩ (by rw [lpV_len]; decide) (by rw [ex_l3]; decide)
theorem ex_t1 : tornR (exX [0, 1] [2]) = none := by kernel_rfl
theorem ex_t2 : tornR (exX [2] [2]) = some ([0], [1], 2) := by kernel_rfl
theorem ex_t3 : tornR (exX [2] []) = none := by kernel_rfl
theorem ex_c1 : ctlR (exX [0, 1] [2]) (lpR (exX [0, 1] [2])).1 (esR (exX [0, 1] [2])).2 = [[], [2], []] := by kernel_rfl
theorem clone105 (O : List Heap) (l : List Edg) (hl : l.length ≤ 1000000) : ASpec Tryz.prog 105 [edgs l] O (edgs l) [] O := by
  refine aspec_intro Tk Tryz.func105 rfl Tryz.call105 Tryz.ntmps105 (Nat.le_of_ble_eq_true rfl) fun E => ?_
  refine g_run Tk Tryz.func105 ?_
  refine g_anyb Tk Tryz.func105 rfl rfl fun b hb => ?_
  first | refine g_cnd Tk Tryz.func105 rfl (fun h1 => ?_) (fun h1 => ?_) | refine g_know Tk Tryz.func105 rfl (fun h1 => ?_) (fun h1 => ?_) | refine s_know Tk (fun h1 => ?_) (fun h1 => ?_)
  · have hl0 : l = [] := List.eq_nil_of_length_eq_zero (hb h1)
    subst hl0
    refine g_ret_co Tk (r := .i (.v (.slice none 0 0))) rfl rfl rfl trivial rfl rfl ?_
    exact coD_i coI_nil
  · first | refine g_need Tk Tryz.func105 (by exact ⟨by show (0 + l.length) * 24 ≤ 140737488355328; omega, by show 0 + l.length ≤ 9223372036854775807; omega⟩) ?_ | refine s_need Tk (by exact ⟨by show (0 + l.length) * 24 ≤ 140737488355328; omega, by show 0 + l.length ≤ 9223372036854775807; omega⟩) ?_
    refine g_rwk (wk_cut (l := [(2, .osl 0 7)]) (Hv := [(7, .arr 117 3 (0 + l.length) ([] ++ l.map edgI) true)]) ⟨rfl, trivial⟩ rfl ⟨rfl, trivial⟩ rfl rfl) ?_
    rw [Nat.zero_add, List.nil_append]
    refine g_rwk (wk_freeze 7 rfl rfl) ?_
    refine g_ret Tk (r := edgs l) rfl rfl rfl trivial rfl rfl ?_
    rfl
theorem example50 (O : List Heap) (ob : List Int) : ASpec Tryz.prog 50 [ints ob] O (sysD (exX ob [2])) [] O := by
  have h1 := fun O => clone105 O exQ.edges (by decide)
  refine aspec_intro Tk Tryz.func50 rfl Tryz.call50 Tryz.ntmps50 (Nat.le_of_ble_eq_true rfl) fun E => ?_
  refine g_run Tk Tryz.func50 ?_
  first | refine g_need Tk Tryz.func50 (by exact ⟨by decide, by decide⟩) ?_ | refine s_need Tk (by exact ⟨by decide, by decide⟩) ?_
  first | refine g_call Tk Tryz.func50 (h1 _) rfl rfl rfl rfl rfl ?_ | refine s_callq Tk (fun _ => h1 _) rfl rfl rfl ?_
  refine g_ret Tk (r := sysD (exX ob [2])) rfl rfl rfl trivial rfl rfl ?_
  rfl
set_option maxHeartbeats 4000000 in
theorem known12 {g : Nat} (hg : IsTab g) {ty : TypeId} {fr : Nat × Nat} (O : List Heap) : ASpecT g (ptab ty fr) Tryz.prog 12 [] O (bb true) [] O := by
  have hA := fun O => observable14 hg (ty := ty) (fr := fr) O _ ex_ok1
  rw [ex_t1] at hA
  have hB := fun O => observable14 hg (ty := ty) (fr := fr) O _ ex_ok2
  rw [ex_t2] at hB
  have hC := fun O => observable14 hg (ty := ty) (fr := fr) O _ ex_ok3
  rw [ex_t3] at hC
  have hD := fun O => implement19 hg (ty := ty) (fr := fr) O _ ex_ok1 (by rw [ex_t1]; rfl)
  rw [ex_c1] at hD
  obtain ⟨⟨oal, ost, omk, oes⟩, hM⟩ : ∃ o, o = (esR (exX [0, 1] [2])).1 := ⟨_, rfl⟩
  rw [← hM] at hD
  have hX := fun O ob => example50 O ob
  have hC : ∀ O, ASpecT g (ptab ty fr) Tryz.prog 14 [.agg [ints [0, 1, 2], ii 4, ints [0], edgs exP.edges, ints [0, 1, 2], ii 4, ints [0], edgs exQ.edges, ints [2], .i (.v (.slice none 0 0))]] O _ [] O := fun O => (hC O).co (by
    repeat' (first | refine coD_tup ?_ | refine coD_agg ?_ | refine coD_i ?_ | refine CoDL.cons ?_ ?_ | exact CoDL.nil | exact coI_nil | refine coI_sl ?_ | refine CoLL.cons ?_ ?_ | exact CoLL.nil | refine CoL.cons ?_ ?_ | exact CoL.nil | exact CoI.refl _ | exact CoL.refl _ | exact CoLL.refl _ | exact CoDL.refl _ | exact CoD.refl _)
    )
  refine aspecT_stop [] Tk Tryz.func12 rfl Tryz.call12 Tryz.ntmps12 (Nat.le_of_ble_eq_true rfl) fun E hE => ?_
  refine g_run Tk Tryz.func12 ?_
  first | refine g_call Tk Tryz.func12 (hX _ [0, 1]) rfl rfl rfl rfl rfl ?_ | refine s_callq Tk (fun _ => hX _ [0, 1]) rfl rfl rfl ?_
  refine g_callT Tk Tryz.func12 hE (hA _) rfl rfl rfl rfl rfl rfl ?_
  first | refine g_call Tk Tryz.func12 (hX _ [2]) rfl rfl rfl rfl rfl ?_ | refine s_callq Tk (fun _ => hX _ [2]) rfl rfl rfl ?_
  refine g_callT Tk Tryz.func12 hE (hB _) rfl rfl rfl rfl rfl rfl ?_
  first | refine g_call Tk Tryz.func12 (hX _ [2]) rfl rfl rfl rfl rfl ?_ | refine s_callq Tk (fun _ => hX _ [2]) rfl rfl rfl ?_
  refine g_callT Tk Tryz.func12 hE (hC _) rfl rfl rfl rfl rfl rfl ?_
  first | refine g_call Tk Tryz.func12 (hX _ [0, 1]) rfl rfl rfl rfl rfl ?_ | refine s_callq Tk (fun _ => hX _ [0, 1]) rfl rfl rfl ?_
  refine g_callT Tk Tryz.func12 hE (hD _) rfl rfl rfl rfl rfl rfl ?_
  clear hA hB hC hD hX hM
  refine g_drawn Tk Tryz.func12 mixedT rfl ?_
  repeat (first | refine gcT Tk Tryz.func12 rfl ?_ | refine gkT Tk Tryz.func12 rfl ?_ | refine skT Tk ?_ | refine gcF Tk Tryz.func12 rfl ?_ | refine gkF Tk Tryz.func12 rfl ?_ | refine skF Tk ?_)
  first | refine g_call Tk Tryz.func12 (equal47 _ [0] [0] (by decide)) rfl rfl rfl rfl rfl ?_ | refine s_callq Tk (fun _ => equal47 _ [0] [0] (by decide)) rfl rfl rfl ?_
  repeat (first | refine gcT Tk Tryz.func12 rfl ?_ | refine gkT Tk Tryz.func12 rfl ?_ | refine skT Tk ?_ | refine gcF Tk Tryz.func12 rfl ?_ | refine gkF Tk Tryz.func12 rfl ?_ | refine skF Tk ?_)
  first | refine g_call Tk Tryz.func12 (equal47 _ [1] [1] (by decide)) rfl rfl rfl rfl rfl ?_ | refine s_callq Tk (fun _ => equal47 _ [1] [1] (by decide)) rfl rfl rfl ?_
  repeat (first | refine gcT Tk Tryz.func12 rfl ?_ | refine gkT Tk Tryz.func12 rfl ?_ | refine skT Tk ?_ | refine gcF Tk Tryz.func12 rfl ?_ | refine gkF Tk Tryz.func12 rfl ?_ | refine skF Tk ?_)
  first | refine g_need Tk Tryz.func12 (by exact ⟨by decide, by decide⟩) ?_ | refine s_need Tk (by exact ⟨by decide, by decide⟩) ?_
  first | refine g_elem Tk Tryz.func12 (rfl) ?_ | refine s_elem Tk (rfl) ?_
  first | refine g_call Tk Tryz.func12 (equal47 _ [2] [2] (by decide)) rfl rfl rfl rfl rfl ?_ | refine s_callq Tk (fun _ => equal47 _ [2] [2] (by decide)) rfl rfl rfl ?_
  repeat (first | refine gcT Tk Tryz.func12 rfl ?_ | refine gkT Tk Tryz.func12 rfl ?_ | refine skT Tk ?_ | refine gcF Tk Tryz.func12 rfl ?_ | refine gkF Tk Tryz.func12 rfl ?_ | refine skF Tk ?_)
  first | refine g_need Tk Tryz.func12 (by exact ⟨by decide, by decide⟩) ?_ | refine s_need Tk (by exact ⟨by decide, by decide⟩) ?_
  first | refine g_elem Tk Tryz.func12 (rfl) ?_ | refine s_elem Tk (rfl) ?_
  first | refine g_need Tk Tryz.func12 (by exact ⟨by decide, by decide⟩) ?_ | refine s_need Tk (by exact ⟨by decide, by decide⟩) ?_
  first | refine g_elem Tk Tryz.func12 (rfl) ?_ | refine s_elem Tk (rfl) ?_
  refine e_done Tk Tryz.func12 (by kernel_rfl) ?_
  refine g_ret Tk (r := bb true) rfl rfl rfl trivial rfl rfl ?_
  rfl
end Go.AI


namespace Go.AI
open Go.Proofs
set_option maxRecDepth 20000
def fewB (a : Aut) : Bool := decide (a.states ≤ 8) && decide ((a.alpha.length : Int) ≤ 40) && decide ((a.marked.length : Int) ≤ 40) && decide ((a.edges.length : Int) ≤ 40)
theorem few24 (O : List Heap) (a : Aut) : ASpec Tryz.prog 24 [autD a] O (bb (fewB a)) [] O := by
  unfold fewB
  obtain ⟨al, st, mk, es⟩ := a
  simp only
  refine aspec_intro Tk Tryz.func24 rfl Tryz.call24 Tryz.ntmps24 (Nat.le_of_ble_eq_true rfl) fun E => ?_
  refine g_run Tk Tryz.func24 ?_
  first | refine g_cnd Tk Tryz.func24 rfl (fun c1 => ?_) (fun c1 => ?_) | refine g_know Tk Tryz.func24 rfl (fun c1 => ?_) (fun c1 => ?_) | refine s_know Tk (fun c1 => ?_) (fun c1 => ?_)
  · have c1 : decide (st ≤ 8) = true := c1
    rw [c1, Bool.true_and]
    first | refine g_cnd Tk Tryz.func24 rfl (fun c2 => ?_) (fun c2 => ?_) | refine g_know Tk Tryz.func24 rfl (fun c2 => ?_) (fun c2 => ?_) | refine s_know Tk (fun c2 => ?_) (fun c2 => ?_)
    · have c2 : decide ((al.length : Int) ≤ 40) = true := c2
      rw [c2, Bool.true_and]
      first | refine g_cnd Tk Tryz.func24 rfl (fun c3 => ?_) (fun c3 => ?_) | refine g_know Tk Tryz.func24 rfl (fun c3 => ?_) (fun c3 => ?_) | refine s_know Tk (fun c3 => ?_) (fun c3 => ?_)
      · have c3 : decide ((mk.length : Int) ≤ 40) = true := c3
        rw [c3, Bool.true_and]
        refine g_ret Tk (r := bb (decide ((es.length : Int) ≤ 40))) rfl rfl rfl trivial rfl rfl ?_
        rfl
      · have c3 : decide ((mk.length : Int) ≤ 40) = false := c3
        rw [c3, Bool.false_and]
        refine g_ret Tk (r := bb false) rfl rfl rfl trivial rfl rfl ?_
        rfl
    · have c2 : decide ((al.length : Int) ≤ 40) = false := c2
      rw [c2, Bool.false_and, Bool.false_and]
      repeat (first | refine gcT Tk Tryz.func24 rfl ?_ | refine gkT Tk Tryz.func24 rfl ?_ | refine skT Tk ?_ | refine gcF Tk Tryz.func24 rfl ?_ | refine gkF Tk Tryz.func24 rfl ?_ | refine skF Tk ?_)
      refine g_ret Tk (r := bb false) rfl rfl rfl trivial rfl rfl ?_
      rfl
  · have c1 : decide (st ≤ 8) = false := c1
    rw [c1, Bool.false_and, Bool.false_and, Bool.false_and]
    repeat (first | refine gcT Tk Tryz.func24 rfl ?_ | refine gkT Tk Tryz.func24 rfl ?_ | refine skT Tk ?_ | refine gcF Tk Tryz.func24 rfl ?_ | refine gkF Tk Tryz.func24 rfl ?_ | refine skF Tk ?_)
    refine g_ret Tk (r := bb false) rfl rfl rfl trivial rfl rfl ?_
    rfl
def chkSetsL (al : List Int) : List (List Int) → Int
  | [] => 0
  | l :: r => if checkSet 32 l none ≠ 0 then checkSet 32 l none else if (l.any fun e => !decide (e ∈ al)) = true then 9 else chkSetsL al r
def chkLaw (x : Sys) : Int := if chkA x.p ≠ 0 then chkA x.p else if chkA x.s ≠ 0 then chkA x.s else if x.p.alpha ≠ x.s.alpha then 13 else chkSetsL x.p.alpha [x.ob, x.ct]
theorem chkLaw_eq (x : Sys) : chkLaw x = chkSys x := by
  unfold chkLaw chkSys
  by_cases h1 : chkA x.p ≠ 0
  · rw [if_pos h1, if_pos h1]
  rw [if_neg h1, if_neg h1]
  have hal := (checkSet_sorted (chk_parts (by simpa using h1 : chkA x.p = 0)).1).1
  have key : ∀ L : List (List Int), chkSetsL x.p.alpha L = chkSets x.p.alpha L := by
    intro L
    induction L with
    | nil => rfl
    | cons l r ih =>
      simp only [chkSetsL, chkSets]
      by_cases c : checkSet 32 l none ≠ 0
      · rw [if_pos c, if_pos c]
      · rw [if_neg c, if_neg c, ih]
        have hl := (checkSet_sorted (by simpa using c : checkSet 32 l none = 0)).1
        have hs := mrg_sub hl hal
        by_cases d : (mrgR minK l x.p.alpha).length = 0
        · have hany : ¬ (l.any fun e => !decide (e ∈ x.p.alpha)) = true := by
            simp only [List.any_eq_true, Bool.not_eq_true', decide_eq_false_iff_not, not_exists, not_and]
            exact fun e he hn => hn (hs.1 d e he)
          have hd : ¬ (mrgR minK l x.p.alpha).length ≠ 0 := by omega
          rw [if_neg hany, if_neg hd]
        · have hany : (l.any fun e => !decide (e ∈ x.p.alpha)) = true := by
            simp only [List.any_eq_true, Bool.not_eq_true', decide_eq_false_iff_not]
            exact Classical.byContradiction fun hn => d (hs.2 fun e he => Classical.byContradiction fun h => hn ⟨e, he, h⟩)
          have hd : (mrgR minK l x.p.alpha).length ≠ 0 := d
          rw [if_pos hany, if_pos hd]
  rw [key]
theorem notIn68 (O : List Heap) (x : Sys) (e : Int) (hl : x.p.alpha.length ≤ 1000000) (d nm : Nat) (ho : objAt O d nm = some (.box (sysC x))) : ASpec Tryz.prog 68 [ii e, .own d nm 0 0] O (bb (!decide (e ∈ x.p.alpha))) [] O := by
  have h := fun O => contains110 O x.p.alpha e (by simp only [max63]; omega)
  obtain ⟨⟨al, st, mk, es⟩, ⟨al', st', mk', es'⟩, ob, ct⟩ := x
  simp only at h ⊢
  refine aspec_intro Tk Tryz.func68 rfl Tryz.call68 Tryz.ntmps68 (Nat.le_of_ble_eq_true rfl) fun E => ?_
  refine g_run Tk Tryz.func68 ?_
  first | refine g_obj Tk Tryz.func68 (up_obj ho) ?_ | refine s_obj Tk (up_obj ho) ?_
  first | refine g_call Tk Tryz.func68 (h _) rfl rfl rfl rfl rfl ?_ | refine s_callq Tk (fun _ => h _) rfl rfl rfl ?_
  refine g_ret Tk (r := bb (!decide (e ∈ al))) rfl rfl rfl trivial rfl rfl ?_
  rfl
set_option maxHeartbeats 4000000 in
theorem check25 (O : List Heap) (x : Sys) (h : smallS x) : ASpec Tryz.prog 25 [sysD x] O (ii (chkLaw x)) [] O := by
  have hA := fun (a : Aut) (ha : smallA a) O => check116 O a (by have := ha.ed; simp only [max63]; omega) (by have := ha.al; simp only [max63]; omega) (by have := ha.mkd; simp only [max63]; omega)
  have h1 := hA x.p h.p
  have h2 := hA x.s h.s
  have h3 := fun O => equal47 O x.p.alpha x.s.alpha (by have := h.p.al; simp only [max63]; omega)
  have h4 := fun O => checkSet59 O x.ob 32 (by have := h.ob; simp only [max63]; omega)
  have h5 := fun O => checkSet59 O x.ct 32 (by have := h.ct; simp only [max63]; omega)
  have h6 := fun O ho => containsFunc68 O x.ob 68 0 1 (fun e => !decide (e ∈ x.p.alpha)) (by have := h.ob; simp only [max63]; omega) (fun e _ => notIn68 _ x e h.p.al 2 1 ho)
  have h7 := fun O ho => containsFunc68 O x.ct 68 0 1 (fun e => !decide (e ∈ x.p.alpha)) (by have := h.ct; simp only [max63]; omega) (fun e _ => notIn68 _ x e h.p.al 2 1 ho)
  generalize hR : chkLaw x = R
  unfold chkLaw at hR
  simp only [chkSetsL] at hR
  generalize chkA x.p = e1 at *
  generalize chkA x.s = e2 at *
  generalize checkSet 32 x.ob none = e4 at *
  generalize checkSet 32 x.ct none = e5 at *
  generalize (x.ob.any fun e => !decide (e ∈ x.p.alpha)) = e6 at *
  generalize (x.ct.any fun e => !decide (e ∈ x.p.alpha)) = e7 at *
  clear h hA
  obtain ⟨⟨al, st, mk, es⟩, ⟨al', st', mk', es'⟩, ob, ct⟩ := x
  simp only at hR h1 h2 h3 h4 h5 h6 h7
  refine aspec_stop [] Tk Tryz.func25 rfl Tryz.call25 Tryz.ntmps25 (Nat.le_of_ble_eq_true rfl) fun E => ?_
  refine g_run Tk Tryz.func25 ?_
  refine g_loop ?_
  refine g_run Tk Tryz.func25 ?_
  first | refine gcT Tk Tryz.func25 rfl ?_ | refine gkT Tk Tryz.func25 rfl ?_ | refine skT Tk ?_
  first | refine g_need Tk Tryz.func25 (by exact ⟨by decide, by decide⟩) ?_ | refine s_need Tk (by exact ⟨by decide, by decide⟩) ?_
  first | refine g_elem Tk Tryz.func25 (rfl) ?_ | refine s_elem Tk (rfl) ?_
  first | refine g_call Tk Tryz.func25 (h1 _) rfl rfl rfl rfl rfl ?_ | refine s_callq Tk (fun _ => h1 _) rfl rfl rfl ?_
  first | refine g_cnd Tk Tryz.func25 rfl (fun c1 => ?_) (fun c1 => ?_) | refine g_know Tk Tryz.func25 rfl (fun c1 => ?_) (fun c1 => ?_) | refine s_know Tk (fun c1 => ?_) (fun c1 => ?_)
  · have c1 : e1 ≠ 0 := bneT c1
    rw [if_pos c1] at hR
    subst hR
    refine g_ret Tk (r := ii e1) rfl rfl rfl trivial rfl rfl ?_
    rfl
  have c1 : e1 = 0 := bneF c1
  rw [if_neg (fun h => h c1)] at hR
  refine g_loop ?_
  refine rch_cut2 (l := [(1, .own 0 1 0 0), (13, .i (.sl 4 2 [autM ⟨al, st, mk, es⟩, autM ⟨al', st', mk', es'⟩])), (14, ii 2), (15, ii 1)]) (Hv := [(1, .box (sysC ⟨⟨al, st, mk, es⟩, ⟨al', st', mk', es'⟩, ob, ct⟩))]) (O := O) (n := 52) ⟨rfl, rfl, rfl, rfl, trivial⟩ rfl ⟨rfl, trivial⟩ rfl rfl ?_
  refine g_run Tk Tryz.func25 ?_
  first | refine gcT Tk Tryz.func25 rfl ?_ | refine gkT Tk Tryz.func25 rfl ?_ | refine skT Tk ?_
  first | refine g_need Tk Tryz.func25 (by exact ⟨by decide, by decide⟩) ?_ | refine s_need Tk (by exact ⟨by decide, by decide⟩) ?_
  first | refine g_elem Tk Tryz.func25 (rfl) ?_ | refine s_elem Tk (rfl) ?_
  first | refine g_call Tk Tryz.func25 (h2 _) rfl rfl rfl rfl rfl ?_ | refine s_callq Tk (fun _ => h2 _) rfl rfl rfl ?_
  first | refine g_cnd Tk Tryz.func25 rfl (fun c2 => ?_) (fun c2 => ?_) | refine g_know Tk Tryz.func25 rfl (fun c2 => ?_) (fun c2 => ?_) | refine s_know Tk (fun c2 => ?_) (fun c2 => ?_)
  · have c2 : e2 ≠ 0 := bneT c2
    rw [if_pos c2] at hR
    subst hR
    refine g_ret Tk (r := ii e2) rfl rfl rfl trivial rfl rfl ?_
    rfl
  have c2 : e2 = 0 := bneF c2
  rw [if_neg (fun h => h c2)] at hR
  refine g_loop ?_
  refine g_run Tk Tryz.func25 ?_
  first | refine gcF Tk Tryz.func25 rfl ?_ | refine gkF Tk Tryz.func25 rfl ?_ | refine skF Tk ?_
  first | refine g_call Tk Tryz.func25 (h3 _) rfl rfl rfl rfl rfl ?_ | refine s_callq Tk (fun _ => h3 _) rfl rfl rfl ?_
  first | refine g_cnd Tk Tryz.func25 rfl (fun c3 => ?_) (fun c3 => ?_) | refine g_know Tk Tryz.func25 rfl (fun c3 => ?_) (fun c3 => ?_) | refine s_know Tk (fun c3 => ?_) (fun c3 => ?_)
  · have c3 : ¬ al = al' := of_decide_eq_false (notT c3)
    rw [if_pos c3] at hR
    subst hR
    refine g_ret Tk (r := ii 13) rfl rfl rfl trivial rfl rfl ?_
    rfl
  have c3 : al = al' := of_decide_eq_true (notF c3)
  rw [if_neg (fun h => h c3)] at hR
  clear c3
  refine g_loop ?_
  refine g_run Tk Tryz.func25 ?_
  first | refine gcT Tk Tryz.func25 rfl ?_ | refine gkT Tk Tryz.func25 rfl ?_ | refine skT Tk ?_
  first | refine g_need Tk Tryz.func25 (by exact ⟨by decide, by decide⟩) ?_ | refine s_need Tk (by exact ⟨by decide, by decide⟩) ?_
  first | refine g_elem Tk Tryz.func25 (rfl) ?_ | refine s_elem Tk (rfl) ?_
  first | refine g_call Tk Tryz.func25 (h4 _) rfl rfl rfl rfl rfl ?_ | refine s_callq Tk (fun _ => h4 _) rfl rfl rfl ?_
  first | refine g_cnd Tk Tryz.func25 rfl (fun c4 => ?_) (fun c4 => ?_) | refine g_know Tk Tryz.func25 rfl (fun c4 => ?_) (fun c4 => ?_) | refine s_know Tk (fun c4 => ?_) (fun c4 => ?_)
  · have c4 : e4 ≠ 0 := bneT c4
    rw [if_pos c4] at hR
    subst hR
    refine g_ret Tk (r := ii e4) rfl rfl rfl trivial rfl rfl ?_
    rfl
  have c4 : e4 = 0 := bneF c4
  rw [if_neg (fun h => h c4)] at hR
  first | refine g_call Tk Tryz.func25 (h6 _ rfl) rfl rfl rfl rfl rfl ?_ | refine s_callq Tk (fun _ => h6 _ rfl) rfl rfl rfl ?_
  first | refine g_cnd Tk Tryz.func25 rfl (fun c5 => ?_) (fun c5 => ?_) | refine g_know Tk Tryz.func25 rfl (fun c5 => ?_) (fun c5 => ?_) | refine s_know Tk (fun c5 => ?_) (fun c5 => ?_)
  · have c5 : e6 = true := c5
    rw [if_pos c5] at hR
    subst hR
    refine g_ret Tk (r := ii 9) rfl rfl rfl trivial rfl rfl ?_
    rfl
  have c5 : e6 = false := c5
  rw [if_neg (by rw [c5]; decide)] at hR
  refine g_loop ?_
  refine g_run Tk Tryz.func25 ?_
  first | refine gcT Tk Tryz.func25 rfl ?_ | refine gkT Tk Tryz.func25 rfl ?_ | refine skT Tk ?_
  first | refine g_need Tk Tryz.func25 (by exact ⟨by decide, by decide⟩) ?_ | refine s_need Tk (by exact ⟨by decide, by decide⟩) ?_
  first | refine g_elem Tk Tryz.func25 (rfl) ?_ | refine s_elem Tk (rfl) ?_
  first | refine g_call Tk Tryz.func25 (h5 _) rfl rfl rfl rfl rfl ?_ | refine s_callq Tk (fun _ => h5 _) rfl rfl rfl ?_
  first | refine g_cnd Tk Tryz.func25 rfl (fun c6 => ?_) (fun c6 => ?_) | refine g_know Tk Tryz.func25 rfl (fun c6 => ?_) (fun c6 => ?_) | refine s_know Tk (fun c6 => ?_) (fun c6 => ?_)
  · have c6 : e5 ≠ 0 := bneT c6
    rw [if_pos c6] at hR
    subst hR
    refine g_ret Tk (r := ii e5) rfl rfl rfl trivial rfl rfl ?_
    rfl
  have c6 : e5 = 0 := bneF c6
  rw [if_neg (fun h => h c6)] at hR
  first | refine g_call Tk Tryz.func25 (h7 _ rfl) rfl rfl rfl rfl rfl ?_ | refine s_callq Tk (fun _ => h7 _ rfl) rfl rfl rfl ?_
  first | refine g_cnd Tk Tryz.func25 rfl (fun c7 => ?_) (fun c7 => ?_) | refine g_know Tk Tryz.func25 rfl (fun c7 => ?_) (fun c7 => ?_) | refine s_know Tk (fun c7 => ?_) (fun c7 => ?_)
  · have c7 : e7 = true := c7
    rw [if_pos c7] at hR
    subst hR
    refine g_ret Tk (r := ii 9) rfl rfl rfl trivial rfl rfl ?_
    rfl
  have c7 : e7 = false := c7
  rw [if_neg (by rw [c7]; decide)] at hR
  subst hR
  refine g_loop ?_
  refine g_run Tk Tryz.func25 ?_
  first | refine gcF Tk Tryz.func25 rfl ?_ | refine gkF Tk Tryz.func25 rfl ?_ | refine skF Tk ?_
  refine g_ret Tk (r := ii 0) rfl rfl rfl trivial rfl rfl ?_
  rfl
theorem verify23e {g : Nat} {ty : TypeId} {fr : Nat × Nat} (O : List Heap) (x : Sys) (w : Wit) (h : smallS x) (he : chkSys x ≠ 0) : ASpecT g (ptab ty fr) Tryz.prog 23 [sysD x, .agg (witC w)] O (ii (chkSys x)) [] O := by
  have h1 := fun O => open51e (g := g) (ty := ty) (fr := fr) O x h he
  generalize chkSys x = e at *
  clear h
  obtain ⟨w1, w2, w3⟩ := w
  obtain ⟨⟨al, st, mk, es⟩, ⟨al', st', mk', es'⟩, ob, ct⟩ := x
  refine aspecT_stop [] Tk Tryz.func23 rfl Tryz.call23 Tryz.ntmps23 (Nat.le_of_ble_eq_true rfl) fun E hE => ?_
  refine g_run Tk Tryz.func23 ?_
  refine g_callT Tk Tryz.func23 hE (h1 _) rfl rfl rfl rfl rfl rfl ?_
  first | refine g_cnd Tk Tryz.func23 rfl (fun _ => ?_) (fun h => absurd h (by simpa using he)) | refine g_know Tk Tryz.func23 rfl (fun _ => ?_) (fun h => absurd h (by simpa using he)) | refine s_know Tk (fun _ => ?_) (fun h => absurd h (by simpa using he))
  refine g_ret Tk (r := ii e) rfl rfl rfl trivial rfl rfl ?_
  rfl
theorem permits20e (O : List Heap) (x : Sys) (o : Aut) (rows : List (List Int)) (w : List Int) (h : smallS x) (he : chkSys x ≠ 0) : ASpec Tryz.prog 20 [sysD x, ctlD o rows, ints w] O (.tup [bb false, ii (chkSys x)]) [] O := by
  have h1 := fun O => check26 O x h
  generalize chkSys x = e at *
  clear h
  obtain ⟨oal, ost, omk, oes⟩ := o
  obtain ⟨⟨al, st, mk, es⟩, ⟨al', st', mk', es'⟩, ob, ct⟩ := x
  refine aspec_intro Tk Tryz.func20 rfl Tryz.call20 Tryz.ntmps20 (Nat.le_of_ble_eq_true rfl) fun E => ?_
  refine g_run Tk Tryz.func20 ?_
  first | refine g_call Tk Tryz.func20 (h1 _) rfl rfl rfl rfl rfl ?_ | refine s_callq Tk (fun _ => h1 _) rfl rfl rfl ?_
  first | refine g_cnd Tk Tryz.func20 rfl (fun _ => ?_) (fun h => absurd h (by simpa using he)) | refine g_know Tk Tryz.func20 rfl (fun _ => ?_) (fun h => absurd h (by simpa using he)) | refine s_know Tk (fun _ => ?_) (fun h => absurd h (by simpa using he))
  refine g_ret Tk (r := .tup [bb false, ii e]) rfl rfl rfl trivial rfl rfl ?_
  rfl
structure lenS (x : Sys) : Prop where
  pa : x.p.alpha.length ≤ max63
  pm : x.p.marked.length ≤ max63
  pe : x.p.edges.length ≤ max63
  sa : x.s.alpha.length ≤ max63
  sm : x.s.marked.length ≤ max63
  se : x.s.edges.length ≤ max63
  ob : x.ob.length ≤ max63
  ct : x.ct.length ≤ max63
theorem few_small {a : Aut} (h : fewB a = true) : smallA a := by
  unfold fewB at h
  simp only [Bool.and_eq_true, decide_eq_true_eq] at h
  exact ⟨by omega, by omega, by omega⟩
set_option maxHeartbeats 8000000 in
theorem refuses6 {g : Nat} (hg : IsTab g) {ty : TypeId} {fr : Nat × Nat} (O : List Heap) (x : Sys) : ASpecT g (ptab ty fr) Tryz.prog 6 [sysD x] O (bb true) [] O := by
  have hk := fun O => known12 hg (ty := ty) (fr := fr) O
  have f1 := fun O => few24 O x.p
  have f2 := fun O => few24 O x.s
  by_cases hall : fewB x.p = true ∧ fewB x.s = true ∧ (x.ob.length : Int) ≤ 40 ∧ (x.ct.length : Int) ≤ 40
  · obtain ⟨a1, a2, a3, a4⟩ := hall
    have hs : smallS x := ⟨few_small a1, few_small a2, by omega, by omega⟩
    rw [a1] at f1
    rw [a2] at f2
    have c1 := fun O => check25 O x hs
    rw [chkLaw_eq] at c1
    have c2 := fun O => check26 O x hs
    by_cases he : chkSys x = 0
    · rw [he] at c1 c2
      clear he hs a1 a2
      obtain ⟨⟨al, st, mk, es⟩, ⟨al', st', mk', es'⟩, ob, ct⟩ := x
      simp only at a3 a4
      refine aspecT_stop [] Tk Tryz.func6 rfl Tryz.call6 Tryz.ntmps6 (Nat.le_of_ble_eq_true rfl) fun E hE => ?_
      refine g_run Tk Tryz.func6 ?_
      refine g_callT Tk Tryz.func6 hE (hk _) rfl rfl rfl rfl rfl rfl ?_
      repeat (first | refine gcT Tk Tryz.func6 rfl ?_ | refine gkT Tk Tryz.func6 rfl ?_ | refine skT Tk ?_ | refine gcF Tk Tryz.func6 rfl ?_ | refine gkF Tk Tryz.func6 rfl ?_ | refine skF Tk ?_)
      first | refine g_call Tk Tryz.func6 (f1 _) rfl rfl rfl rfl rfl ?_ | refine s_callq Tk (fun _ => f1 _) rfl rfl rfl ?_
      repeat (first | refine gcT Tk Tryz.func6 rfl ?_ | refine gkT Tk Tryz.func6 rfl ?_ | refine skT Tk ?_ | refine gcF Tk Tryz.func6 rfl ?_ | refine gkF Tk Tryz.func6 rfl ?_ | refine skF Tk ?_)
      first | refine g_call Tk Tryz.func6 (f2 _) rfl rfl rfl rfl rfl ?_ | refine s_callq Tk (fun _ => f2 _) rfl rfl rfl ?_
      repeat (first | refine gcT Tk Tryz.func6 rfl ?_ | refine gkT Tk Tryz.func6 rfl ?_ | refine skT Tk ?_ | refine gcF Tk Tryz.func6 rfl ?_ | refine gkF Tk Tryz.func6 rfl ?_ | refine skF Tk ?_)
      first | refine g_cnd Tk Tryz.func6 rfl (fun h => absurd h (by simp; omega)) (fun _ => ?_) | refine g_know Tk Tryz.func6 rfl (fun h => absurd h (by simp; omega)) (fun _ => ?_) | refine s_know Tk (fun h => absurd h (by simp; omega)) (fun _ => ?_)
      first | refine g_cnd Tk Tryz.func6 rfl (fun h => absurd h (by simp; omega)) (fun _ => ?_) | refine g_know Tk Tryz.func6 rfl (fun h => absurd h (by simp; omega)) (fun _ => ?_) | refine s_know Tk (fun h => absurd h (by simp; omega)) (fun _ => ?_)
      first | refine g_call Tk Tryz.func6 (c1 _) rfl rfl rfl rfl rfl ?_ | refine s_callq Tk (fun _ => c1 _) rfl rfl rfl ?_
      first | refine g_call Tk Tryz.func6 (c2 _) rfl rfl rfl rfl rfl ?_ | refine s_callq Tk (fun _ => c2 _) rfl rfl rfl ?_
      repeat (first | refine gcT Tk Tryz.func6 rfl ?_ | refine gkT Tk Tryz.func6 rfl ?_ | refine skT Tk ?_ | refine gcF Tk Tryz.func6 rfl ?_ | refine gkF Tk Tryz.func6 rfl ?_ | refine skF Tk ?_)
      refine g_ret Tk (r := bb true) rfl rfl rfl trivial rfl rfl ?_
      rfl
    · have d1 := fun O => loop16e (g := g) (ty := ty) (fr := fr) O x hs he
      have d2 := fun O => estimates27e (g := g) (ty := ty) (fr := fr) O x hs he
      have d3 := fun O => observable14e (g := g) (ty := ty) (fr := fr) O x hs he
      have d4 := fun O => verify23e (g := g) (ty := ty) (fr := fr) O x zWit hs he
      have d5 := fun O => implement19e (g := g) (ty := ty) (fr := fr) O x hs he
      have d6 := fun O => permits20e O x ⟨[], 0, [], []⟩ [] [] hs he
      have d4 : ∀ O, ASpecT g (ptab ty fr) Tryz.prog 23 [sysD x, .agg [.i (.v (.slice none 0 0)), .i (.v (.slice none 0 0)), ii 0]] O _ [] O := fun O => (d4 O).co (by
        repeat' (first | refine coD_tup ?_ | refine coD_agg ?_ | refine coD_i ?_ | refine CoDL.cons ?_ ?_ | exact CoDL.nil | exact coI_nil | refine coI_sl ?_ | refine CoLL.cons ?_ ?_ | exact CoLL.nil | refine CoL.cons ?_ ?_ | exact CoL.nil | exact CoI.refl _ | exact CoL.refl _ | exact CoLL.refl _ | exact CoDL.refl _ | exact CoD.refl _)
        )
      have d6 : ∀ O, ASpec Tryz.prog 20 [sysD x, zCtl, .i (.v (.slice none 0 0))] O _ [] O := fun O => (d6 O).co (by
        repeat' (first | refine coD_tup ?_ | refine coD_agg ?_ | refine coD_i ?_ | refine CoDL.cons ?_ ?_ | exact CoDL.nil | exact coI_nil | refine coI_sl ?_ | refine CoLL.cons ?_ ?_ | exact CoLL.nil | refine CoL.cons ?_ ?_ | exact CoL.nil | exact CoI.refl _ | exact CoL.refl _ | exact CoLL.refl _ | exact CoDL.refl _ | exact CoD.refl _)
        )
      generalize chkSys x = e at *
      clear hs a1 a2
      obtain ⟨⟨al, st, mk, es⟩, ⟨al', st', mk', es'⟩, ob, ct⟩ := x
      simp only at a3 a4
      refine aspecT_stop [] Tk Tryz.func6 rfl Tryz.call6 Tryz.ntmps6 (Nat.le_of_ble_eq_true rfl) fun E hE => ?_
      refine g_run Tk Tryz.func6 ?_
      refine g_callT Tk Tryz.func6 hE (hk _) rfl rfl rfl rfl rfl rfl ?_
      repeat (first | refine gcT Tk Tryz.func6 rfl ?_ | refine gkT Tk Tryz.func6 rfl ?_ | refine skT Tk ?_ | refine gcF Tk Tryz.func6 rfl ?_ | refine gkF Tk Tryz.func6 rfl ?_ | refine skF Tk ?_)
      first | refine g_call Tk Tryz.func6 (f1 _) rfl rfl rfl rfl rfl ?_ | refine s_callq Tk (fun _ => f1 _) rfl rfl rfl ?_
      repeat (first | refine gcT Tk Tryz.func6 rfl ?_ | refine gkT Tk Tryz.func6 rfl ?_ | refine skT Tk ?_ | refine gcF Tk Tryz.func6 rfl ?_ | refine gkF Tk Tryz.func6 rfl ?_ | refine skF Tk ?_)
      first | refine g_call Tk Tryz.func6 (f2 _) rfl rfl rfl rfl rfl ?_ | refine s_callq Tk (fun _ => f2 _) rfl rfl rfl ?_
      repeat (first | refine gcT Tk Tryz.func6 rfl ?_ | refine gkT Tk Tryz.func6 rfl ?_ | refine skT Tk ?_ | refine gcF Tk Tryz.func6 rfl ?_ | refine gkF Tk Tryz.func6 rfl ?_ | refine skF Tk ?_)
      first | refine g_cnd Tk Tryz.func6 rfl (fun h => absurd h (by simp; omega)) (fun _ => ?_) | refine g_know Tk Tryz.func6 rfl (fun h => absurd h (by simp; omega)) (fun _ => ?_) | refine s_know Tk (fun h => absurd h (by simp; omega)) (fun _ => ?_)
      first | refine g_cnd Tk Tryz.func6 rfl (fun h => absurd h (by simp; omega)) (fun _ => ?_) | refine g_know Tk Tryz.func6 rfl (fun h => absurd h (by simp; omega)) (fun _ => ?_) | refine s_know Tk (fun h => absurd h (by simp; omega)) (fun _ => ?_)
      first | refine g_call Tk Tryz.func6 (c1 _) rfl rfl rfl rfl rfl ?_ | refine s_callq Tk (fun _ => c1 _) rfl rfl rfl ?_
      first | refine g_call Tk Tryz.func6 (c2 _) rfl rfl rfl rfl rfl ?_ | refine s_callq Tk (fun _ => c2 _) rfl rfl rfl ?_
      first | refine g_cnd Tk Tryz.func6 rfl (fun h => absurd h (by simp)) (fun _ => ?_) | refine g_know Tk Tryz.func6 rfl (fun h => absurd h (by simp)) (fun _ => ?_) | refine s_know Tk (fun h => absurd h (by simp)) (fun _ => ?_)
      first | refine g_cnd Tk Tryz.func6 rfl (fun h => absurd h (by simpa using he)) (fun _ => ?_) | refine g_know Tk Tryz.func6 rfl (fun h => absurd h (by simpa using he)) (fun _ => ?_) | refine s_know Tk (fun h => absurd h (by simpa using he)) (fun _ => ?_)
      refine g_callT Tk Tryz.func6 hE (d1 _) rfl rfl rfl rfl rfl rfl ?_
      refine g_callT Tk Tryz.func6 hE (d2 _) rfl rfl rfl rfl rfl rfl ?_
      refine g_callT Tk Tryz.func6 hE (d3 _) rfl rfl rfl rfl rfl rfl ?_
      refine g_callT Tk Tryz.func6 hE (d4 _) rfl rfl rfl rfl rfl rfl ?_
      refine g_callT Tk Tryz.func6 hE (d5 _) rfl rfl rfl rfl rfl rfl ?_
      first | refine g_call Tk Tryz.func6 (d6 _) rfl rfl rfl rfl rfl ?_ | refine s_callq Tk (fun _ => d6 _) rfl rfl rfl ?_
      first | refine g_cnd Tk Tryz.func6 rfl (fun _ => ?_) (fun h => absurd h (by simp)) | refine g_know Tk Tryz.func6 rfl (fun _ => ?_) (fun h => absurd h (by simp)) | refine s_know Tk (fun _ => ?_) (fun h => absurd h (by simp))
      first | refine g_cnd Tk Tryz.func6 rfl (fun _ => ?_) (fun h => absurd h (by simp)) | refine g_know Tk Tryz.func6 rfl (fun _ => ?_) (fun h => absurd h (by simp)) | refine s_know Tk (fun _ => ?_) (fun h => absurd h (by simp))
      first | refine g_cnd Tk Tryz.func6 rfl (fun _ => ?_) (fun h => absurd h (by simp)) | refine g_know Tk Tryz.func6 rfl (fun _ => ?_) (fun h => absurd h (by simp)) | refine s_know Tk (fun _ => ?_) (fun h => absurd h (by simp))
      first | refine g_cnd Tk Tryz.func6 rfl (fun _ => ?_) (fun h => absurd h (by simp)) | refine g_know Tk Tryz.func6 rfl (fun _ => ?_) (fun h => absurd h (by simp)) | refine s_know Tk (fun _ => ?_) (fun h => absurd h (by simp))
      first | refine g_cnd Tk Tryz.func6 rfl (fun _ => ?_) (fun h => absurd h (by simp)) | refine g_know Tk Tryz.func6 rfl (fun _ => ?_) (fun h => absurd h (by simp)) | refine s_know Tk (fun _ => ?_) (fun h => absurd h (by simp))
      first | refine g_cnd Tk Tryz.func6 rfl (fun _ => ?_) (fun h => absurd h (by simp)) | refine g_know Tk Tryz.func6 rfl (fun _ => ?_) (fun h => absurd h (by simp)) | refine s_know Tk (fun _ => ?_) (fun h => absurd h (by simp))
      repeat (first | refine gcT Tk Tryz.func6 rfl ?_ | refine gkT Tk Tryz.func6 rfl ?_ | refine skT Tk ?_ | refine gcF Tk Tryz.func6 rfl ?_ | refine gkF Tk Tryz.func6 rfl ?_ | refine skF Tk ?_)
      refine g_ret Tk (r := bb true) rfl rfl rfl trivial rfl rfl ?_
      rfl
  · generalize hF1 : fewB x.p = b1 at *
    generalize hF2 : fewB x.s = b2 at *
    clear hF1 hF2
    obtain ⟨⟨al, st, mk, es⟩, ⟨al', st', mk', es'⟩, ob, ct⟩ := x
    simp only at hall
    refine aspecT_stop [] Tk Tryz.func6 rfl Tryz.call6 Tryz.ntmps6 (Nat.le_of_ble_eq_true rfl) fun E hE => ?_
    refine g_run Tk Tryz.func6 ?_
    refine g_callT Tk Tryz.func6 hE (hk _) rfl rfl rfl rfl rfl rfl ?_
    repeat (first | refine gcT Tk Tryz.func6 rfl ?_ | refine gkT Tk Tryz.func6 rfl ?_ | refine skT Tk ?_ | refine gcF Tk Tryz.func6 rfl ?_ | refine gkF Tk Tryz.func6 rfl ?_ | refine skF Tk ?_)
    first | refine g_call Tk Tryz.func6 (f1 _) rfl rfl rfl rfl rfl ?_ | refine s_callq Tk (fun _ => f1 _) rfl rfl rfl ?_
    first | refine g_cnd Tk Tryz.func6 rfl (fun c1 => ?_) (fun c1 => ?_) | refine g_know Tk Tryz.func6 rfl (fun c1 => ?_) (fun c1 => ?_) | refine s_know Tk (fun c1 => ?_) (fun c1 => ?_)
    · repeat (first | refine gcT Tk Tryz.func6 rfl ?_ | refine gkT Tk Tryz.func6 rfl ?_ | refine skT Tk ?_ | refine gcF Tk Tryz.func6 rfl ?_ | refine gkF Tk Tryz.func6 rfl ?_ | refine skF Tk ?_)
      refine g_callT Tk Tryz.func6 hE (hk _) rfl rfl rfl rfl rfl rfl ?_
      refine g_ret Tk (r := bb true) rfl rfl rfl trivial rfl rfl ?_
      rfl
    have c1 : b1 = true := notF c1
    first | refine g_call Tk Tryz.func6 (f2 _) rfl rfl rfl rfl rfl ?_ | refine s_callq Tk (fun _ => f2 _) rfl rfl rfl ?_
    first | refine g_cnd Tk Tryz.func6 rfl (fun c2 => ?_) (fun c2 => ?_) | refine g_know Tk Tryz.func6 rfl (fun c2 => ?_) (fun c2 => ?_) | refine s_know Tk (fun c2 => ?_) (fun c2 => ?_)
    · repeat (first | refine gcT Tk Tryz.func6 rfl ?_ | refine gkT Tk Tryz.func6 rfl ?_ | refine skT Tk ?_ | refine gcF Tk Tryz.func6 rfl ?_ | refine gkF Tk Tryz.func6 rfl ?_ | refine skF Tk ?_)
      refine g_callT Tk Tryz.func6 hE (hk _) rfl rfl rfl rfl rfl rfl ?_
      refine g_ret Tk (r := bb true) rfl rfl rfl trivial rfl rfl ?_
      rfl
    have c2 : b2 = true := notF c2
    first | refine g_cnd Tk Tryz.func6 rfl (fun c3 => ?_) (fun c3 => ?_) | refine g_know Tk Tryz.func6 rfl (fun c3 => ?_) (fun c3 => ?_) | refine s_know Tk (fun c3 => ?_) (fun c3 => ?_)
    · repeat (first | refine gcT Tk Tryz.func6 rfl ?_ | refine gkT Tk Tryz.func6 rfl ?_ | refine skT Tk ?_ | refine gcF Tk Tryz.func6 rfl ?_ | refine gkF Tk Tryz.func6 rfl ?_ | refine skF Tk ?_)
      refine g_callT Tk Tryz.func6 hE (hk _) rfl rfl rfl rfl rfl rfl ?_
      refine g_ret Tk (r := bb true) rfl rfl rfl trivial rfl rfl ?_
      rfl
    have c3 : ¬ ((ob.length : Nat) : Int) > 40 := of_decide_eq_false c3
    first | refine g_cnd Tk Tryz.func6 rfl (fun c4 => ?_) (fun c4 => ?_) | refine g_know Tk Tryz.func6 rfl (fun c4 => ?_) (fun c4 => ?_) | refine s_know Tk (fun c4 => ?_) (fun c4 => ?_)
    · refine g_callT Tk Tryz.func6 hE (hk _) rfl rfl rfl rfl rfl rfl ?_
      refine g_ret Tk (r := bb true) rfl rfl rfl trivial rfl rfl ?_
      rfl
    have c4 : ¬ ((ct.length : Nat) : Int) > 40 := of_decide_eq_false c4
    exact absurd ⟨c1, c2, by omega, by omega⟩ hall
end Go.AI


namespace Go.Proofs.YtlcekmemdnjjbaaGreatDoor
open Go.ChangeShapes Go.WideShapes Go.ChangeAt Go.RowKit
set_option maxRecDepth 100000
theorem Tryz.own : ownKnob Tryz.prog.godebug = none := by kernel_rfl
theorem powG : Tryz.prog.globalNamed "internal/strconv.uint64pow10" = some 0 := by kernel_rfl
theorem isTab0 : AI.IsTab 0 := fun _ _ _ h => AI.tabIs_of powG h
theorem tab_of_laid {W : World} (h : laidMetH Tryz.prog [("math/bits.deBruijn32tab", Rows.laid_math_bits_deBruijn32tab), ("math/bits.deBruijn64tab", Rows.laid_math_bits_deBruijn64tab), ("internal/strconv.uint64pow10", Rows.laid_internal_strconv_uint64pow10)] W) :
    ∃ ty fr, W.heap[0]? = some (AI.ptab ty fr) := by
  rw [MakeChecks.laidMetH_plain _ _ _ (by kernel_rfl)] at h
  have h3 := laidMet.tail (laidMet.tail h)
  have hT : Lib.TabIs Tryz.prog W "internal/strconv.uint64pow10" .u64 Lib.pow10Tab :=
    Lib.tabIs_of_head (t := 312) (e := 277) (n := 20) powG (by kernel_rfl) (by kernel_rfl) (by kernel_rfl) (by kernel_rfl) (by kernel_rfl) (rest := []) h3
  unfold Lib.TabIs World.var? at hT
  rw [powG] at hT
  simp only [Option.bind_some] at hT
  cases hc : W.heap[0]? with
  | none => rw [hc] at hT; cases hT
  | some o =>
    rw [hc] at hT
    cases o with
    | cells cs ty fr =>
      simp only [Option.some.injEq] at hT
      subst hT
      exact ⟨ty, fr, rfl⟩
    | _ => cases hT
theorem calls_of {f : FuncId} {args : List AI.D} {vs : List Value} {b : Bool} {W : World} {ty : TypeId} {fr : Nat × Nat} (h0 : W.heap[0]? = some (AI.ptab ty fr))
    (hcall : ∀ a w, (callFunc f a).run Tryz.prog w = .ok (.enter f a) w) (hs : AI.ASpecT 0 (AI.ptab ty fr) Tryz.prog f args [] (AI.bb b) [] [])
    {K : AI.Kn} (hK : ∀ bl o x, K bl o = some x → W.cell? ⟨bl, o, none⟩ = some x) (hr : ∀ ρ sh, AI.RepDL K ρ sh vs args) :
    Calls Tryz.prog f vs.toArray W fun e W' => e = .returned (.bool b) ∧ (∀ i, i < W.heap.size → W'.heap[i]? = W.heap[i]?) ∧ W'.os = W.os ∧ W'.output = W.output := by
  let ρ : Nat → Nat → AI.Loc := fun _ _ => ⟨0, 0, none⟩
  have hobj : ∀ d n, AI.objAt [] d n = none := fun d n => by simp [AI.objAt]
  have hI : AI.HInv (AI.Env.of K ρ W) K ρ [] W :=
    ⟨hK, (fun d n ob e => absurd ((hobj d n).symm.trans e) (by simp)), (fun d n ob d' n' ob' e => absurd ((hobj d n).symm.trans e) (by simp)), Nat.le_refl _, fun _ _ _ => rfl, (fun n ob e => absurd ((hobj 0 n).symm.trans e) (by simp)), fun _ => rfl, fun _ _ _ h => h, fun _ _ _ h => .inl h, rfl, rfl, rfl⟩
  have ht : AI.TabQ 0 (AI.ptab ty fr) [] ρ W := ⟨h0, fun d n x e => by simp [AI.shape, hobj] at e⟩
  rcases hs _ K ρ W vs hI ht (hr _ _) with ⟨_, h⟩ | ⟨v, w', h, _⟩
  · refine h.mono fun e W' => ?_
    rintro ⟨v, rfl, K', ρ', h1, h2⟩
    obtain rfl := AI.inv_v h2
    refine ⟨rfl, fun i hi => h1.old i hi fun d n ob e => ?_, h1.rest.2.1, h1.rest.2.2⟩
    simp [AI.objAt] at e
  · rw [hcall] at h
    cases h
theorem kept_of {W W' : World} {P : MemPlace → Prop} (h : ∀ i, i < W.heap.size → W'.heap[i]? = W.heap[i]?) (h1 : W'.os = W.os) (h2 : W'.output = W.output) : W.keptBut W' P := by
  refine ⟨h1, h2, fun i hi => ?_⟩
  rw [h i hi]
  exact (World.keptBut_refl W P).2.2 i hi
end Go.Proofs.YtlcekmemdnjjbaaGreatDoor
