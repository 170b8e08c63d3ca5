/- The layer of abstract runs, part 44. -/
import Derived.Test.YtdehnnadfbildaaGreatDoorStpZQ
import Derived.KernelRfl
set_option linter.unusedSimpArgs false
set_option linter.unusedVariables false
set_option linter.all false

/- The examples of the chapter (19). -/
namespace Go.AI
open Go.Proofs
set_option maxRecDepth 20000
def plusE (op n : Int) : Ex := .mk op 0 0 [nE, kE n]
def counter19 (g : Ex) : Ext := ⟨[0, 1], 1, 0, [], [nVr 2], [⟨0, 0, 0, g, [⟨0, plusE 2 1⟩]⟩, ⟨0, 1, 0, plusE 6 2, [⟨0, zeroE⟩]⟩]⟩
theorem plus103 (O : List Heap) (op n : Int) : ASpec Tryz.prog 33 [ii op, ii n] O (exA (plusE op n)) [] O := by
  refine aspec_intro Tk Tryz.func33 rfl Tryz.call33 Tryz.ntmps33 (Nat.le_of_ble_eq_true rfl) fun E => ?_
  refine g_run Tk Tryz.func33 ?_
  refine g_ret_co Tk (r := _) rfl rfl rfl trivial rfl rfl ?_
  repeat' (first | refine coD_tup ?_ | refine coD_agg ?_ | refine coD_i ?_ | refine CoDL.cons ?_ ?_ | exact CoDL.nil | exact coI_nil | refine coI_sl ?_ | refine CoLL.cons ?_ ?_ | exact CoLL.nil | refine CoL.cons ?_ ?_ | exact CoL.nil | exact CoI.refl _ | exact CoL.refl _ | exact CoLL.refl _ | exact CoDL.refl _ | exact CoD.refl _)
theorem counter102 (O : List Heap) (x : Ex) : ASpec Tryz.prog 32 [exA x] O (extD (counter19 x)) [] O := by
  have hp := fun op n O => plus103 O op n
  refine aspec_intro Tk Tryz.func32 rfl Tryz.call32 Tryz.ntmps32 (Nat.le_of_ble_eq_true rfl) fun E => ?_
  refine g_run Tk Tryz.func32 ?_
  refine g_drawn Tk Tryz.func32 mixedT rfl ?_
  first | refine g_call Tk Tryz.func32 (hp 2 1 _) rfl rfl rfl rfl rfl ?_ | refine s_callq Tk (fun _ => hp 2 1 _) rfl rfl rfl ?_
  first | refine g_call Tk Tryz.func32 (hp 6 2 _) rfl rfl rfl rfl rfl ?_ | refine s_callq Tk (fun _ => hp 6 2 _) rfl rfl rfl ?_
  refine s_put Tk rfl rfl rfl ?_
  refine e_done Tk Tryz.func32 (by kernel_rfl) ?_
  refine g_ret_co Tk (r := _) rfl rfl rfl trivial rfl rfl ?_
  repeat' (first | refine coD_tup ?_ | refine coD_agg ?_ | refine coD_i ?_ | refine CoDL.cons ?_ ?_ | exact CoDL.nil | exact coI_nil | refine coI_sl ?_ | refine CoLL.cons ?_ ?_ | exact CoLL.nil | refine CoL.cons ?_ ?_ | exact CoL.nil | exact CoI.refl _ | exact CoL.refl _ | exact CoLL.refl _ | exact CoDL.refl _ | exact CoD.refl _)
theorem plus_ok (op n : Int) : exOk (plusE op n) := exOk_two (exOk_leaf _ _ _) (exOk_leaf _ _ _)
theorem cnt19_ok {x : Ex} (hx : exOk x) : extOk (counter19 x) := by
  refine ⟨by simp [counter19, max63], by simp [counter19, max63], by simp [counter19, max63], fun v hv => ?_, by simp [counter19, max63], fun x hx => ?_⟩
  · simp only [counter19, List.mem_singleton] at hv
    subst hv
    show (1 : Nat) ≤ max63
    decide
  · simp only [counter19, List.mem_cons, List.mem_nil_iff, or_false] at hx
    rcases hx with rfl | rfl
    · refine ⟨by assumption, by simp [max63], fun u hu => ?_⟩
      simp only [List.mem_singleton] at hu
      subst hu
      exact plus_ok _ _
    · refine ⟨plus_ok _ _, by simp [max63], fun u hu => ?_⟩
      simp only [List.mem_singleton] at hu
      subst hu
      exact exOk_leaf _ _ _
def knU : Unf Sta := ⟨[⟨0, [0]⟩, ⟨0, [1]⟩, ⟨0, [2]⟩], [], [(0, 0, 1), (1, 0, 2), (2, 1, 0)]⟩
theorem unf_known : unfoldR (counter19 (plusE 8 2)) = .ok knU := by kernel_rfl
theorem unf_known2 : unfoldR (counter19 trueE) = .error 17 := by kernel_rfl
theorem where_known : whereR (counter19 (plusE 8 2)) knU.sts (plusE 6 2) = ([2], 0) := by kernel_rfl
theorem known48 {g : Nat} (hg : IsTab g) {ty : TypeId} {fr : Nat × Nat} (O : List Heap) : ASpecT g (ptab ty fr) Tryz.prog 8 [] O (bb true) [] O := by
  have hp := fun op n O => plus103 O op n
  have hc := fun x O => counter102 O x
  have hu := fun O => Unfold50 hg (ty := ty) (fr := fr) O (counter19 (plusE 8 2)) (cnt19_ok (plus_ok _ _))
  simp only [unf_known] at hu
  have hu2 := fun O => Unfold50 hg (ty := ty) (fr := fr) O (counter19 trueE) (cnt19_ok (exOk_two (exOk_leaf _ _ _) (exOk_leaf _ _ _)))
  simp only [unf_known2] at hu2
  have hw := fun O => where52 O (counter19 (plusE 8 2)) knU.sts (plusE 6 2) (cnt19_ok (plus_ok _ _)) (plus_ok _ _) (by decide) (by decide)
  simp only [where_known] at hw
  have ht := fun O => true42 O
  have hs := fun O => sameInts36 O [2] [2] (by decide)
  refine aspecT_stop [] Tk Tryz.func8 rfl Tryz.call8 Tryz.ntmps8 (Nat.le_of_ble_eq_true rfl) fun E hE => ?_
  refine g_run Tk Tryz.func8 ?_
  first | refine g_call Tk Tryz.func8 (hp 8 2 _) rfl rfl rfl rfl rfl ?_ | refine s_callq Tk (fun _ => hp 8 2 _) rfl rfl rfl ?_
  first | refine g_call Tk Tryz.func8 (hc (plusE 8 2) _) rfl rfl rfl rfl rfl ?_ | refine s_callq Tk (fun _ => hc (plusE 8 2) _) rfl rfl rfl ?_
  refine g_callT Tk Tryz.func8 hE (hu _) rfl rfl rfl rfl rfl rfl ?_
  first | refine g_call Tk Tryz.func8 (ht _) rfl rfl rfl rfl rfl ?_ | refine s_callq Tk (fun _ => ht _) rfl rfl rfl ?_
  first | refine g_call Tk Tryz.func8 (hc trueE _) rfl rfl rfl rfl rfl ?_ | refine s_callq Tk (fun _ => hc trueE _) rfl rfl rfl ?_
  refine g_callT Tk Tryz.func8 hE (hu2 _) rfl rfl rfl rfl rfl rfl ?_
  first | refine g_call Tk Tryz.func8 (hp 8 2 _) rfl rfl rfl rfl rfl ?_ | refine s_callq Tk (fun _ => hp 8 2 _) rfl rfl rfl ?_
  first | refine g_call Tk Tryz.func8 (hc (plusE 8 2) _) rfl rfl rfl rfl rfl ?_ | refine s_callq Tk (fun _ => hc (plusE 8 2) _) rfl rfl rfl ?_
  first | refine g_call Tk Tryz.func8 (hp 6 2 _) rfl rfl rfl rfl rfl ?_ | refine s_callq Tk (fun _ => hp 6 2 _) rfl rfl rfl ?_
  first | refine g_call Tk Tryz.func8 (hw _) rfl rfl rfl rfl rfl ?_ | refine s_callq Tk (fun _ => hw _) rfl rfl rfl ?_
  repeat (first | refine g_cnd Tk Tryz.func8 rfl (fun _ => ?_) (fun h => absurd h (by decide)) | refine g_know Tk Tryz.func8 rfl (fun _ => ?_) (fun h => absurd h (by decide)) | refine s_know Tk (fun _ => ?_) (fun h => absurd h (by decide)) | refine g_cnd Tk Tryz.func8 rfl (fun h => absurd h (by decide)) (fun _ => ?_) | refine g_know Tk Tryz.func8 rfl (fun h => absurd h (by decide)) (fun _ => ?_) | refine s_know Tk (fun h => absurd h (by decide)) (fun _ => ?_) | refine g_cnd Tk Tryz.func8 rfl (fun _ => ?_) (fun h => absurd (show true = false from h) (by decide)) | refine g_know Tk Tryz.func8 rfl (fun _ => ?_) (fun h => absurd (show true = false from h) (by decide)) | refine s_know Tk (fun _ => ?_) (fun h => absurd (show true = false from h) (by decide)) | refine g_cnd Tk Tryz.func8 rfl (fun h => absurd (show false = true from h) (by decide)) (fun _ => ?_) | refine g_know Tk Tryz.func8 rfl (fun h => absurd (show false = true from h) (by decide)) (fun _ => ?_) | refine s_know Tk (fun h => absurd (show false = true from h) (by decide)) (fun _ => ?_))
  first | refine g_need Tk Tryz.func8 (by exact ⟨by decide, by decide⟩) ?_ | refine s_need Tk (by exact ⟨by decide, by decide⟩) ?_
  first | refine g_elem Tk Tryz.func8 (rfl) ?_ | refine s_elem Tk (rfl) ?_
  repeat (first | refine g_cnd Tk Tryz.func8 rfl (fun _ => ?_) (fun h => absurd h (by decide)) | refine g_know Tk Tryz.func8 rfl (fun _ => ?_) (fun h => absurd h (by decide)) | refine s_know Tk (fun _ => ?_) (fun h => absurd h (by decide)) | refine g_cnd Tk Tryz.func8 rfl (fun h => absurd h (by decide)) (fun _ => ?_) | refine g_know Tk Tryz.func8 rfl (fun h => absurd h (by decide)) (fun _ => ?_) | refine s_know Tk (fun h => absurd h (by decide)) (fun _ => ?_) | refine g_cnd Tk Tryz.func8 rfl (fun _ => ?_) (fun h => absurd (show true = false from h) (by decide)) | refine g_know Tk Tryz.func8 rfl (fun _ => ?_) (fun h => absurd (show true = false from h) (by decide)) | refine s_know Tk (fun _ => ?_) (fun h => absurd (show true = false from h) (by decide)) | refine g_cnd Tk Tryz.func8 rfl (fun h => absurd (show false = true from h) (by decide)) (fun _ => ?_) | refine g_know Tk Tryz.func8 rfl (fun h => absurd (show false = true from h) (by decide)) (fun _ => ?_) | refine s_know Tk (fun h => absurd (show false = true from h) (by decide)) (fun _ => ?_))
  first | refine g_call Tk Tryz.func8 (hs _) rfl rfl rfl rfl rfl ?_ | refine s_callq Tk (fun _ => hs _) rfl rfl rfl ?_
  refine g_ret Tk (r := bb true) rfl rfl rfl trivial rfl rfl ?_
  rfl
end Go.AI


/- FlattenAlone. -/
namespace Go.AI
open Go.Proofs
set_option maxRecDepth 20000
theorem chkJ_made {l : List Ext} (h : jMade l) : chkJ l = 0 := by
  have h1 := h.len
  have h2 : chkAllE l = 0 := by
    have : ∀ k : List Ext, (∀ m ∈ k, chk m = 0) → chkAllE k = 0 := by
      intro k
      induction k with
      | nil => intro _; rfl
      | cons m r ih =>
        intro hk
        simp only [chkAllE]
        rw [hk m (by simp), if_neg (by simp)]
        exact ih fun n hn => hk n (by simp [hn])
    exact this l h.chk
  unfold chkJ
  rw [if_neg (by omega), if_neg (by omega), h2, if_neg (by simp), if_neg]
  simp only [List.any_eq_true, decide_eq_true_eq, not_exists, not_and]
  intro m hm hc
  exact hc (h.jn.same m (List.mem_of_mem_tail hm))
theorem ev_012 : Lib.compact (sortI [0, 1, 2]) = [0, 1, 2] := by
  have h : sortI [0, 1, 2] = [0, 1, 2] := by unfold sortI; simp [List.mergeSort, List.MergeSort.Internal.splitInTwo]
  rw [h]
  decide
theorem ev_012012 : Lib.compact (sortI [0, 1, 2, 0, 1, 2]) = [0, 1, 2] := by
  have h : sortI [0, 1, 2, 0, 1, 2] = [0, 0, 1, 1, 2, 2] := by unfold sortI; simp [List.mergeSort, List.MergeSort.Internal.splitInTwo]
  rw [h]
  decide
theorem ev_01212 : Lib.compact (sortI [0, 1, 2, 1, 2]) = [0, 1, 2] := by
  have h : sortI [0, 1, 2, 1, 2] = [0, 1, 1, 2, 2] := by unfold sortI; simp [List.mergeSort, List.MergeSort.Internal.splitInTwo]
  rw [h]
  decide
theorem events_made {l : List Ext} (h : jMade l) : eventsR l = [0, 1, 2] ∧ 0 < (l.flatMap (·.alpha)).length := by
  have h0 := h.al0
  unfold eventsR
  match l, h.len, h.al, h0 with
  | [m], _, _, h0 =>
    simp only [List.getD_cons_zero] at h0
    simp only [List.flatMap_cons, List.flatMap_nil, h0, List.append_nil]
    exact ⟨ev_012, by simp⟩
  | [m, n], _, hal, h0 =>
    simp only [List.getD_cons_zero] at h0
    simp only [List.flatMap_cons, List.flatMap_nil, h0, List.append_nil]
    rcases hal n (by simp) with h | h
    · rw [h]; exact ⟨ev_012012, by simp⟩
    · rw [h]; exact ⟨ev_01212, by simp⟩
  | [], h, _, _ => simp at h
  | _ :: _ :: _ :: _, h, _, _ => simp at h
end Go.AI


/- The law's lists of pairs, and their first origin. -/
namespace Go.AI
open Go.Proofs
set_option maxRecDepth 20000
set_option maxHeartbeats 1000000 in
theorem keep36 (O : List Heap) (l : List Mv) (hl : l.length ≤ 4096) : ASpec Tryz.prog 36 [mvs l] O (mvs (l.filter fun x => decide (x.ev ≠ 0))) [] O := by
  have hR : [] ++ (l.drop 0).filter (fun x => decide (x.ev ≠ 0)) = l.filter fun x => decide (x.ev ≠ 0) := rfl
  generalize l.filter (fun x => decide (x.ev ≠ 0)) = R at *
  refine aspec_intro Tk Tryz.func36 rfl Tryz.call36 Tryz.ntmps36 (Nat.le_of_ble_eq_true rfl) fun E => ?_
  refine g_run Tk Tryz.func36 ?_
  refine g_loop ?_
  refine rch_wk (wk_nil 3 23 107 8 rfl rfl rfl) ?_
  refine rch_loop2 (fun x : Nat × List Mv => [(0, mvs l), (3, .osl 0 23), (4, ii x.1)]) (fun x => [(23, omvs x.2)]) (fun _ => O) 25
    (fun x => x.1 ≤ l.length ∧ x.2.length ≤ x.1 ∧ x.2 ++ (l.drop x.1).filter (fun x => decide (x.ev ≠ 0)) = R) (fun x => l.length - x.1) (0, []) ⟨Nat.zero_le _, Nat.le_refl _, hR⟩ ⟨rfl, rfl, rfl, trivial⟩ rfl ⟨rfl, trivial⟩ rfl rfl ?_
  clear hR
  rintro ⟨i, acc⟩ ⟨hi, hal, hno⟩ ih
  simp only at hi hal hno
  refine g_run Tk Tryz.func36 ?_
  first | refine g_cnd Tk Tryz.func36 rfl (fun g1 => ?_) (fun g1 => ?_) | refine g_know Tk Tryz.func36 rfl (fun g1 => ?_) (fun g1 => ?_) | refine s_know Tk (fun g1 => ?_) (fun g1 => ?_)
  · have h1 : i < l.length := by simpa using g1
    clear g1
    have gx : (l.map mvI)[(i : Int).toNat]? = some (mvI l[i]) := get_mapZ h1
    rw [List.drop_eq_getElem_cons h1, List.filter_cons] at hno
    generalize l[i] = x at *
    obtain ⟨xf, xe, xt, xg, xu⟩ := x
    simp only [decide_eq_true_eq] at hno
    have n1 : 0 ≤ (i : Int) ∧ (i : Int) < (l.length : Int) := by omega
    have hi1 : ii (IntKind.i64.wrap ((i : Int) + 1)) = ii ((i + 1 : Nat) : Int) := congrArg ii (wsucc (n := 4096) (by omega) (by decide))
    first | refine g_need Tk Tryz.func36 (n1) ?_ | refine s_need Tk (n1) ?_
    first | refine g_elem Tk Tryz.func36 (gx) ?_ | refine s_elem Tk (gx) ?_
    first | refine g_cnd Tk Tryz.func36 rfl (fun g2 => ?_) (fun g2 => ?_) | refine g_know Tk Tryz.func36 rfl (fun g2 => ?_) (fun g2 => ?_) | refine s_know Tk (fun g2 => ?_) (fun g2 => ?_)
    · have g2 : xe ≠ 0 := bneT g2
      rw [if_pos g2] at hno
      first | refine g_need Tk Tryz.func36 (n1) ?_ | refine s_need Tk (n1) ?_
      first | refine g_elem Tk Tryz.func36 (gx) ?_ | refine s_elem Tk (gx) ?_
      first | refine g_need Tk Tryz.func36 (by exact ⟨by show (acc.length + 1) * 96 ≤ 140737488355328; omega, by show acc.length + 1 ≤ 9223372036854775807; omega⟩) ?_ | refine s_need Tk (by exact ⟨by show (acc.length + 1) * 96 ≤ 140737488355328; omega, by show acc.length + 1 ≤ 9223372036854775807; omega⟩) ?_
      refine g_loop ?_
      refine ih (i + 1, acc ++ [⟨xf, xe, xt, xg, xu⟩]) _ _ ⟨h1, by simp only [List.length_append, List.length_singleton]; omega, by rw [← hno]; simp⟩ (by simp only; omega) ⟨rfl, rfl, hi1, trivial⟩ rfl ⟨?_, trivial⟩ rfl rfl
      exact congrArg some (omvs_app acc ⟨xf, xe, xt, xg, xu⟩)
    · have g2 : ¬ xe ≠ 0 := by simpa using bneF g2
      rw [if_neg g2] at hno
      refine g_loop ?_
      exact ih (i + 1, acc) _ _ ⟨h1, by simp only; omega, hno⟩ (by simp only; omega) ⟨rfl, rfl, hi1, trivial⟩ rfl ⟨rfl, trivial⟩ rfl rfl
  · have h1 : l.length ≤ i := by simpa using g1
    rw [List.drop_eq_nil_of_le h1] at hno
    simp only [List.filter_nil, List.append_nil] at hno
    subst hno
    refine g_rwk (wk_freeze 23 rfl rfl) ?_
    refine g_ret Tk (r := mvs acc) rfl rfl rfl trivial rfl rfl ?_
    rfl
abbrev pairD (a b : Sk) : D := .agg (skC a ++ skC b)
set_option maxHeartbeats 1000000 in
theorem list9 (O : List Heap) (a b : Sk) (n : Int) (ha : skOk a) (hb : skOk b) (hn : 0 ≤ n ∧ n ≤ 255) : ASpec Tryz.prog 9 [pairD a b, u8D n] O (exts (pairL a b n)) [] O := by
  have hm1 := fun O => make16 O a ha
  have hm2 := fun O => make16 O ⟨b.locs, b.marks, a.rngs, b.lines⟩ (pair_sk ha hb)
  have hml := (make_made (pair_sk ha hb)).ml
  have hmod : n.tmod 3 = n % 3 := Int.tmod_eq_emod_of_nonneg hn.1
  unfold pairL
  generalize makeR ⟨b.locs, b.marks, a.rngs, b.lines⟩ = m2 at *
  generalize makeR a = m1 at *
  have hke := fun O => keep36 O m2.moves (by omega)
  obtain ⟨al, am, ar, an⟩ := a
  obtain ⟨bl, bm, br, bn⟩ := b
  refine aspec_intro Tk Tryz.func9 rfl Tryz.call9 Tryz.ntmps9 (Nat.le_of_ble_eq_true rfl) fun E => ?_
  refine g_run Tk Tryz.func9 ?_
  first | refine g_call Tk Tryz.func9 (hm1 _) rfl rfl rfl rfl rfl ?_ | refine s_callq Tk (fun _ => hm1 _) rfl rfl rfl ?_
  first | refine g_call Tk Tryz.func9 (hm2 _) rfl rfl rfl rfl rfl ?_ | refine s_callq Tk (fun _ => hm2 _) rfl rfl rfl ?_
  have h3 : (3 : Int) ≠ 0 := by decide
  first | refine g_need Tk Tryz.func9 (h3) ?_ | refine s_need Tk (h3) ?_
  first | refine g_cnd Tk Tryz.func9 rfl (fun g1 => ?_) (fun g1 => ?_) | refine g_know Tk Tryz.func9 rfl (fun g1 => ?_) (fun g1 => ?_) | refine s_know Tk (fun g1 => ?_) (fun g1 => ?_)
  · have g1 : n % 3 = 1 := by rw [← hmod]; exact beqT g1
    rw [if_neg (by omega), if_pos g1]
    first | refine g_call Tk Tryz.func9 (hke _) rfl rfl rfl rfl rfl ?_ | refine s_callq Tk (fun _ => hke _) rfl rfl rfl ?_
    first | refine g_need Tk Tryz.func9 (h3) ?_ | refine s_need Tk (h3) ?_
    first | refine g_cnd Tk Tryz.func9 rfl (fun g2 => ?_) (fun g2 => ?_) | refine g_know Tk Tryz.func9 rfl (fun g2 => ?_) (fun g2 => ?_) | refine s_know Tk (fun g2 => ?_) (fun g2 => ?_)
    · exact absurd (beqT g2) (by rw [hmod, g1]; decide)
    refine g_ret Tk (r := exts [m1, keptM m2]) rfl rfl rfl trivial rfl rfl ?_
    rfl
  have g1 : n % 3 ≠ 1 := by rw [← hmod]; exact beqF g1
  first | refine g_need Tk Tryz.func9 (h3) ?_ | refine s_need Tk (h3) ?_
  first | refine g_cnd Tk Tryz.func9 rfl (fun g2 => ?_) (fun g2 => ?_) | refine g_know Tk Tryz.func9 rfl (fun g2 => ?_) (fun g2 => ?_) | refine s_know Tk (fun g2 => ?_) (fun g2 => ?_)
  · have g2 : n % 3 = 2 := by rw [← hmod]; exact beqT g2
    rw [if_pos g2]
    refine g_ret Tk (r := exts [m1]) rfl rfl rfl trivial rfl rfl ?_
    rfl
  have g2 : n % 3 ≠ 2 := by rw [← hmod]; exact beqF g2
  rw [if_neg g2, if_neg g1]
  refine g_ret Tk (r := exts [m1, m2]) rfl rfl rfl trivial rfl rfl ?_
  rfl
end Go.AI


/- Pairs of sketches; origins: opened. -/
namespace Go.Proofs.YtdehnnadfbildaaGreatDoor
open Go.ChangeShapes Go.WideShapes Go.ChangeAt Go.RowKit Go.Deep Go.WideElems
set_option maxRecDepth 100000
section
variable {H : Type} {enc : TypeId × Value → H} {W : World}
theorem opn_pairsk : Opn enc Tryz.prog W 27 fun is => ∃ a b : AI.Sk, is = skI a ++ skI b ∧ AI.skOk a ∧ AI.skOk b := by
  intro n cs x h
  obtain ⟨is, hr, p, q, rfl, ⟨a, rfl, ha⟩, ⟨b, rfl, hb⟩⟩ := opn_struct2 Tryz.underlying27 (z0 := 4) (z1 := 4) (by kernel_rfl) (by kernel_rfl) (by kernel_rfl) rfl rfl opn_sk opn_sk n cs x h
  exact ⟨_, hr, a, b, rfl, ha, hb⟩
theorem open_pair {r : Reach} {b0 : Nat} {v : Value} {d : DataW H} {p : List MemPlace} (hv : Value.okWide Tryz.prog W r b0 27 v) (h : DataW.Trod enc Tryz.prog W 0 (fun _ => true) true 27 v d p) :
    ∃ k : AI.Sk × AI.Sk, (AI.skOk k.1 ∧ AI.skOk k.2) ∧ ∀ ρ sh, AI.RepD (KW W) ρ sh v (AI.pairD k.1 k.2) := by
  obtain ⟨cs, rfl, _⟩ := okWide_struct Tryz.underlying27 hv
  obtain ⟨n, hn⟩ := h
  obtain ⟨is, hr, a, b, rfl, ha, hb⟩ := opn_pairsk n _ _ hn
  refine ⟨(a, b), ⟨ha, hb⟩, fun ρ sh => ?_⟩
  have := AI.RepD.agg (AI.RepDL.ofL (ρ := ρ) (sh := sh) hr)
  simpa [Value.cells, AI.pairD, AI.skC, AI.r8s] using this
end
end Go.Proofs.YtdehnnadfbildaaGreatDoor


/- Origins, and numbers: opened. -/
namespace Go.Proofs.YtdehnnadfbildaaGreatDoor
open Go.ChangeShapes Go.WideShapes Go.ChangeAt Go.RowKit Go.Deep Go.WideElems
set_option maxRecDepth 100000
section
variable {H : Type} {enc : TypeId × Value → H} {W : World}
theorem opn_org : Opn enc Tryz.prog W 43 fun is => ∃ o : AI.Org, is = AI.orgI o ∧ o.locs.length ≤ AI.max63 ∧ o.vals.length ≤ AI.max63 := by
  intro n cs x h
  obtain ⟨is, hr, p, q, rfl, ⟨a, rfl, ha⟩, ⟨b, rfl, hb⟩⟩ := opn_struct2 Tryz.underlying43 (z0 := 1) (z1 := 1) (by kernel_rfl) (by kernel_rfl) (by kernel_rfl) rfl rfl opn_ints opn_ints n cs x h
  exact ⟨_, hr, ⟨a, b⟩, rfl, ha, hb⟩
theorem open_org {r : Reach} {b0 : Nat} {v : Value} {d : DataW H} {p : List MemPlace} (hv : Value.okWide Tryz.prog W r b0 43 v) (h : DataW.Trod enc Tryz.prog W 0 (fun _ => true) true 43 v d p) :
    ∃ o : AI.Org, (o.locs.length ≤ AI.max63 ∧ o.vals.length ≤ AI.max63) ∧ ∀ ρ sh, AI.RepD (KW W) ρ sh v (AI.orgD o) := by
  obtain ⟨cs, rfl, _⟩ := okWide_struct Tryz.underlying43 hv
  obtain ⟨n, hn⟩ := h
  obtain ⟨is, hr, o, rfl, ho⟩ := opn_org n _ _ hn
  refine ⟨o, ho, fun ρ sh => ?_⟩
  have := AI.RepD.agg (AI.RepDL.ofL (ρ := ρ) (sh := sh) hr)
  simpa [Value.cells] using this
theorem open_i64x {r : Reach} {b0 : Nat} {v : Value} {d : DataW H} {p : List MemPlace} (hv : Value.okWide Tryz.prog W r b0 3 v) (h : DataW.Trod enc Tryz.prog W 0 (fun _ => true) true 3 v d p) :
    ∃ n : Int, True ∧ ∀ ρ sh, AI.RepD (KW W) ρ sh v (AI.ii n) := by
  obtain ⟨x, rfl, _, _, _⟩ := open_int Tryz.underlying3 hv h
  exact ⟨x, trivial, fun ρ sh => .i (.v rfl)⟩
end
end Go.Proofs.YtdehnnadfbildaaGreatDoor


/- The law's first origin and its step. -/
namespace Go.AI
open Go.Proofs
set_option maxRecDepth 20000
set_option maxHeartbeats 1000000 in
theorem start25 (O : List Heap) (l : List Ext) (hpos : 0 < l.length) (hl12 : l.length ≤ 12) (hv16 : (vars0 l).length ≤ 16) : ASpec Tryz.prog 25 [exts l] O (orgD (startO l)) [] O := by
  have g0 : (l.map extI)[(0 : Int).toNat]? = some (extI l[0]) := get_mapZ (i := 0) hpos
  have e0 : vars0 l = l[0].vars := by
    unfold vars0
    rw [List.getD_eq_getElem?_getD, List.getElem?_eq_getElem hpos]; rfl
  have hst : startO l = ⟨l.map (·.init), (l[0].vars).map (·.init)⟩ := by unfold startO; rw [e0]
  have n0 : 0 ≤ (0 : Int) ∧ (0 : Int) < (l.length : Int) := by omega
  rw [hst]
  rw [e0] at hv16
  generalize l[0] = m0 at *
  refine aspec_stop [10] Tk Tryz.func25 rfl Tryz.call25 Tryz.ntmps25 (Nat.le_of_ble_eq_true rfl) fun E => ?_
  refine g_run Tk Tryz.func25 ?_
  refine g_loop ?_
  refine rch_wk (wk_nilbox2 3 20 3 1 (pre := []) (post := [.i (.v (.slice none 0 0))]) rfl rfl rfl) ?_
  refine rch_loop2 (fun i : Nat => [(0, exts l), (2, .own 0 2 0 0), (3, .own 0 3 0 0), (4, ii i)]) (fun i => [(2, .box [.i (.v (.slice none 0 0)), .i (.v (.slice none 0 0))]), (3, .box [.osl 0 20, .i (.v (.slice none 0 0))]), (20, oints ((l.take i).map (·.init)))]) (fun _ => O) 45
    (fun i => i ≤ l.length) (fun i => l.length - i) 0 (Nat.zero_le _) ⟨rfl, rfl, rfl, rfl, trivial⟩ rfl ⟨rfl, rfl, rfl, trivial⟩ rfl rfl ?_
  rintro i hi ih
  refine g_run Tk Tryz.func25 ?_
  first | refine g_cnd Tk Tryz.func25 rfl (fun g1 => ?_) (fun g1 => ?_) | refine g_know Tk Tryz.func25 rfl (fun g1 => ?_) (fun g1 => ?_) | refine s_know Tk (fun g1 => ?_) (fun g1 => ?_)
  · have h1 : i < l.length := by simpa using g1
    clear g1
    have gm : (l.map extI)[(i : Int).toNat]? = some (extI l[i]) := get_mapZ h1
    have e : (l.take (i + 1)).map (·.init) = (l.take i).map (·.init) ++ [l[i].init] := take_map_succ h1
    have hal : ((l.take i).map (·.init)).length = i := by simp; omega
    generalize l[i] = m at *
    generalize (l.take i).map (·.init) = acc at *
    refine g_drawn Tk Tryz.func25 mixedT rfl ?_
    first | refine g_need Tk Tryz.func25 (by exact ⟨by omega, by show (i : Int) < (l.length : Int); omega⟩) ?_ | refine s_need Tk (by exact ⟨by omega, by show (i : Int) < (l.length : Int); omega⟩) ?_
    first | refine g_elem Tk Tryz.func25 (gm) ?_ | refine s_elem Tk (gm) ?_
    refine e_tail Tk Tryz.func25 ([8, 9, 10]) (by kernel_rfl) (by kernel_rfl) ?_
    first | refine g_need Tk Tryz.func25 (by exact ⟨by show (acc.length + 1) * 8 ≤ 140737488355328; omega, by show acc.length + 1 ≤ 9223372036854775807; omega⟩) ?_ | refine s_need Tk (by exact ⟨by show (acc.length + 1) * 8 ≤ 140737488355328; omega, by show acc.length + 1 ≤ 9223372036854775807; omega⟩) ?_
    refine g_loop ?_
    refine ih (i + 1) _ _ h1 (by omega) ⟨rfl, rfl, rfl, congrArg ii (wsucc (n := 4096) (by omega) (by decide)), trivial⟩ rfl ⟨rfl, rfl, ?_, trivial⟩ rfl rfl
    rw [e]; exact congrArg some (oints_app acc m.init)
  have h1 : l.length ≤ i := by simpa using g1
  rw [List.take_of_length_le h1]
  clear ih g1
  refine g_loop ?_
  refine rch_wk (wk_nilbox2 3 42 3 1 (pre := [.osl 0 20]) (post := []) rfl rfl rfl) ?_
  refine rch_loop2 (fun i : Nat => [(0, exts l), (2, .own 0 2 0 0), (3, .own 0 3 0 0), (5, ii i)]) (fun i => [(2, .box [.i (.v (.slice none 0 0)), .i (.v (.slice none 0 0))]), (3, .box [.osl 0 20, .osl 0 42]), (20, oints (l.map (·.init))), (42, oints ((m0.vars.take i).map (·.init)))]) (fun _ => O) 45
    (fun i => i ≤ m0.vars.length) (fun i => m0.vars.length - i) 0 (Nat.zero_le _) ⟨rfl, rfl, rfl, rfl, trivial⟩ rfl ⟨rfl, rfl, rfl, rfl, trivial⟩ rfl rfl ?_
  rintro i hi ih
  refine g_run Tk Tryz.func25 ?_
  first | refine g_need Tk Tryz.func25 (n0) ?_ | refine s_need Tk (n0) ?_
  first | refine g_elem Tk Tryz.func25 (g0) ?_ | refine s_elem Tk (g0) ?_
  first | refine g_cnd Tk Tryz.func25 rfl (fun g1 => ?_) (fun g1 => ?_) | refine g_know Tk Tryz.func25 rfl (fun g1 => ?_) (fun g1 => ?_) | refine s_know Tk (fun g1 => ?_) (fun g1 => ?_)
  · have h1 : i < m0.vars.length := by simpa using g1
    clear g1
    have gm : (m0.vars.map vrI)[(i : Int).toNat]? = some (vrI m0.vars[i]) := get_mapZ h1
    have e : (m0.vars.take (i + 1)).map (·.init) = (m0.vars.take i).map (·.init) ++ [m0.vars[i].init] := take_map_succ h1
    have hal : ((m0.vars.take i).map (·.init)).length = i := by simp; omega
    generalize m0.vars[i] = v at *
    generalize (m0.vars.take i).map (·.init) = acc at *
    refine g_drawn Tk Tryz.func25 mixedT rfl ?_
    first | refine g_need Tk Tryz.func25 (n0) ?_ | refine s_need Tk (n0) ?_
    first | refine g_elem Tk Tryz.func25 (g0) ?_ | refine s_elem Tk (g0) ?_
    first | refine g_need Tk Tryz.func25 (by exact ⟨by omega, by show (i : Int) < (m0.vars.length : Int); omega⟩) ?_ | refine s_need Tk (by exact ⟨by omega, by show (i : Int) < (m0.vars.length : Int); omega⟩) ?_
    first | refine g_elem Tk Tryz.func25 (gm) ?_ | refine s_elem Tk (gm) ?_
    refine e_tail Tk Tryz.func25 ([11, 12, 13]) (by kernel_rfl) (by kernel_rfl) ?_
    first | refine g_need Tk Tryz.func25 (by exact ⟨by show (acc.length + 1) * 8 ≤ 140737488355328; omega, by show acc.length + 1 ≤ 9223372036854775807; omega⟩) ?_ | refine s_need Tk (by exact ⟨by show (acc.length + 1) * 8 ≤ 140737488355328; omega, by show acc.length + 1 ≤ 9223372036854775807; omega⟩) ?_
    refine g_loop ?_
    refine ih (i + 1) _ _ h1 (by omega) ⟨rfl, rfl, rfl, congrArg ii (wsucc (n := 16) (by omega) (by decide)), trivial⟩ rfl ⟨rfl, rfl, rfl, ?_, trivial⟩ rfl rfl
    rw [e]; exact congrArg some (oints_app acc v.init)
  have h1 : m0.vars.length ≤ i := by simpa using g1
  rw [List.take_of_length_le h1]
  clear ih g1
  refine g_stop ?_
  refine rch_wk (wk_freeze 20 rfl rfl) ?_
  refine rch_wk (wk_freeze 42 rfl rfl) ?_
  refine rch_wk (wk_imm rfl) ?_
  refine g_run Tk Tryz.func25 ?_
  refine g_go Tk Tryz.func25 ?_
  refine g_ret Tk (r := orgD ⟨l.map (·.init), m0.vars.map (·.init)⟩) rfl rfl rfl trivial rfl rfl ?_
  rfl
end Go.AI


/- The law's step. -/
namespace Go.AI
open Go.Proofs
set_option maxRecDepth 20000
def kP : Option (Option Nat) → Int
  | none => -1
  | some k => kI k
theorem kI_nonneg (k : Option Nat) : decide (kI k ≥ 0) = k.isSome := by
  cases k with
  | none => rfl
  | some k => simp [kI]
def rowK (n : Nat) (ps : List (Option (Option Nat))) : List Int := ps.map kP ++ List.replicate (n - ps.length) 0
theorem rowK_len {n : Nat} {ps : List (Option (Option Nat))} (h : ps.length ≤ n) : (rowK n ps).length = n := by
  simp [rowK]; omega
theorem rowK_set {n : Nat} {ps : List (Option (Option Nat))} (h : ps.length < n) (p : Option (Option Nat)) : (rowK n ps).set ps.length (kP p) = rowK n (ps ++ [p]) := by
  unfold rowK
  rw [List.set_append_right _ _ (by simp)]
  simp only [List.length_map, Nat.sub_self, List.map_append, List.length_append, List.length_singleton, List.append_assoc]
  rw [show n - ps.length = (n - (ps.length + 1)) + 1 by omega, List.replicate_succ]
  rfl
theorem rowK_set2 {n : Nat} {ps : List (Option (Option Nat))} (h : ps.length < n) (p q : Option (Option Nat)) : (rowK n (ps ++ [p])).set ps.length (kP q) = rowK n (ps ++ [q]) := by
  rw [← rowK_set h p, List.set_set, rowK_set h q]
theorem rowK_full {n : Nat} {ps : List (Option (Option Nat))} (h : ps.length = n) : rowK n ps = ps.map kP := by
  unfold rowK
  rw [h, Nat.sub_self]
  simp
def gB (n : Nat) (G : List Int) : List Bool := (List.range n).map fun (j : Nat) => decide ((j : Int) ∈ G)
theorem gB_len (n : Nat) (G : List Int) : (gB n G).length = n := by simp [gB]
theorem gB_get {n : Nat} {G : List Int} {k : Nat} (h : k < n) : (gB n G)[k]? = some (decide ((k : Int) ∈ G)) := by
  unfold gB
  rw [List.getElem?_map, List.getElem?_range h]
  rfl
theorem gB_set {n : Nat} {G : List Int} {k : Nat} (h : k < n) : (gB n G).set k true = gB n (if (k : Int) ∈ G then G else G ++ [(k : Int)]) := by
  apply List.ext_getElem?
  intro j
  rw [List.getElem?_set]
  by_cases hj : j < n
  · rw [gB_get (G := if (k : Int) ∈ G then G else G ++ [(k : Int)]) hj, gB_len]
    by_cases hk : k = j
    · subst hk
      rw [if_pos rfl, if_pos h]
      by_cases hg : (k : Int) ∈ G <;> simp [hg]
    · rw [if_neg hk, gB_get hj]
      congr 1
      apply decide_eq_decide.2
      by_cases hg : (k : Int) ∈ G
      · rw [if_pos hg]
      · rw [if_neg hg, List.mem_append, List.mem_singleton]
        constructor
        · exact .inl
        · rintro (h | h)
          · exact h
          · exfalso; omega
  · have h1 : (gB n G)[j]? = none := List.getElem?_eq_none (by rw [gB_len]; omega)
    have h2 : (gB n (if (k : Int) ∈ G then G else G ++ [(k : Int)]))[j]? = none := List.getElem?_eq_none (by rw [gB_len]; omega)
    rw [h2, if_neg (by omega), h1]
theorem gB_nil (n : Nat) : gB n [] = List.replicate n false := by
  unfold gB
  apply List.ext_getElem?
  intro j
  by_cases hj : j < n
  · simp [List.getElem?_replicate, hj, List.getElem?_range hj]
  · rw [List.getElem?_eq_none (by simp; omega), List.getElem?_eq_none (by simp; omega)]
theorem okP_get : ∀ {l : List Ext} {ps : List (Option (Option Nat))}, okP l ps → ∀ i (h : i < l.length) (h' : i < ps.length) k, ps[i] = some (some k) → k < l[i].moves.length
  | [], _, _, i, h, _, _, _ => absurd h (Nat.not_lt_zero _)
  | _ :: _, [], h, _, _, _, _, _ => h.elim
  | m :: r, p :: ps, h, 0, _, _, k, e => h.1 k e
  | m :: r, p :: ps, h, i + 1, h1, h2, k, e => okP_get h.2 i (by simpa using h1) (by simpa using h2) k (by simpa using e)
theorem canO_get {ps : List (Option (Option Nat))} (h : canO ps = true) : ∀ p ∈ ps, p ≠ some none := by
  unfold canO at h
  intro p hp e
  subst e
  have : ps.contains (some none) = true := by rw [List.contains_eq_any_beq, List.any_eq_true]; exact ⟨_, hp, by simp⟩
  rw [this] at h
  cases h
theorem getD_elem {l : List Int} {k : Nat} (h : k < l.length) : (l.map fun x => [vi x])[(k : Int).toNat]? = some [vi (l.getD k 0)] := by
  rw [get_mapZ (f := fun x => [vi x]) h, List.getD_eq_getElem?_getD, List.getElem?_eq_getElem h]
  rfl
set_option maxHeartbeats 8000000 in
theorem stepL27 (O : List Heap) (l : List Ext) (o : Org) (ev : Int) (hj : jMade l) (ho : okO l o) :
    ASpec Tryz.prog 27 [exts l, orgD o, ii ev] O (.tup [orgD (stepO l o ev).1, bb (stepO l o ev).2.1, ii (stepO l o ev).2.2]) [] O := by
  have hl12 := hj.jn.len
  have hv16 := jnt_v16 hj.jn
  obtain ⟨hlo, hlv⟩ := jnt_vals hj.jn ho
  have hwi := ho.vals
  have hP : pickO o ev l 0 [] = pickO o ev (l.drop 0) 0 [] := rfl
  have hps : ∀ ps, pickO o ev l 0 [] = .ok ps → okP l ps := fun ps h => by
    rw [pickO_Q] at h
    cases hq : pickQ o ev l 0 with
    | error e => rw [hq] at h; cases h
    | ok q =>
      rw [hq] at h
      simp only [List.nil_append, Except.ok.injEq] at h
      subst h
      exact pickQ_ok hq
  unfold stepO
  generalize pickO o ev l 0 [] = R at *
  refine aspec_stop [15, 32, 33] Tk Tryz.func27 rfl Tryz.call27 Tryz.ntmps27 (Nat.le_of_ble_eq_true rfl) fun E => ?_
  refine g_run Tk Tryz.func27 ?_
  first | refine g_need Tk Tryz.func27 (by exact ⟨by omega, Int.le_refl _, by show (l.length : Int) * 8 ≤ 140737488355328; omega, by omega⟩) ?_ | refine s_need Tk (by exact ⟨by omega, Int.le_refl _, by show (l.length : Int) * 8 ≤ 140737488355328; omega, by omega⟩) ?_
  have hr0 : some (Ob.arr 3 TryzI3.size (l.length : Int).toNat (List.replicate (l.length : Int).toNat (List.map I.v TryzI3.zero)) true) = some (oints (rowK l.length [])) := by
    show some (Ob.arr 3 1 l.length (List.replicate l.length [vi 0]) true) = _
    simp [rowK]
  refine g_loop ?_
  refine rch_loop2 (fun x : Nat × List (Option (Option Nat)) => [(0, exts l), (2, ii ev), (4, .own 0 4 0 0), (6, .own 0 6 0 0), (9, .osl 0 25), (10, bb (canO x.2)), (11, ii x.1)])
    (fun x => [(4, .box [ints o.locs, ints o.vals]), (6, .box [.i (.v (.slice none 0 0)), .i (.v (.slice none 0 0))]), (25, oints (rowK l.length x.2))]) (fun _ => O) 192
    (fun x => x.1 ≤ l.length ∧ x.2.length = x.1 ∧ R = pickO o ev (l.drop x.1) x.1 x.2) (fun x => l.length - x.1) (0, []) ⟨Nat.zero_le _, rfl, hP⟩ ⟨rfl, rfl, rfl, rfl, rfl, rfl, rfl, trivial⟩ rfl ⟨rfl, rfl, hr0, trivial⟩ rfl rfl ?_
  clear hP hr0
  rintro ⟨i, ps⟩ ⟨hi, hpl, hno⟩ ih
  simp only at hi hpl hno
  have hrl := rowK_len (n := l.length) (ps := ps) (by omega)
  refine g_run Tk Tryz.func27 ?_
  first | refine g_cnd Tk Tryz.func27 rfl (fun g1 => ?_) (fun g1 => ?_) | refine g_know Tk Tryz.func27 rfl (fun g1 => ?_) (fun g1 => ?_) | refine s_know Tk (fun g1 => ?_) (fun g1 => ?_)
  · have h1 : i < l.length := by simpa using g1
    clear g1
    have gm : (l.map extI)[(i : Int).toNat]? = some (extI l[i]) := get_mapZ h1
    have dm : l.drop i = l[i] :: l.drop (i + 1) := List.drop_eq_getElem_cons h1
    have hok := hj.jn.ok _ (List.getElem_mem h1)
    have hvm := hj.jn.same _ (List.getElem_mem h1)
    have hevl := hj.ev _ (List.getElem_mem h1) o.vals hwi
    have gx : (o.locs.map fun x => [vi x])[(i : Int).toNat]? = some [vi (o.locs.getD i 0)] := by
      rw [get_mapZ (f := fun x => [vi x]) (show i < o.locs.length by omega), List.getD_eq_getElem?_getD, List.getElem?_eq_getElem (show i < o.locs.length by omega)]
      rfl
    rw [dm] at hno
    simp only [pickO] at hno
    clear dm
    have hcl := fun O => has68 O l[i].alpha ev hok.al
    have hch := fun O => choose61 O l[i] (o.locs.getD i 0) ev o.vals hok (by simp only [max63]; omega) hevl
    generalize o.locs.getD i 0 = loc at *
    generalize l[i] = m at *
    have hne := @chos_sel m loc ev o.vals
    have n1 : 0 ≤ (i : Int) ∧ (i : Int) < (l.length : Int) := by omega
    have n2 : 0 ≤ (i : Int) ∧ (i : Int) < (o.locs.length : Int) := by omega
    have n3 : 0 ≤ (i : Int) ∧ (i : Int) < ((rowK l.length ps).length : Int) := by omega
    have hi1 : ii (IntKind.i64.wrap ((i : Int) + 1)) = ii ((i + 1 : Nat) : Int) := congrArg ii (wsucc (n := 4096) (by omega) (by decide))
    have hs1 := fun p => rowK_set (n := l.length) (ps := ps) (by omega) p
    have hs2 := fun p q => rowK_set2 (n := l.length) (ps := ps) (by omega) p q
    rw [hpl] at hs1 hs2
    first | refine g_need Tk Tryz.func27 (n3) ?_ | refine s_need Tk (n3) ?_
    first | refine g_need Tk Tryz.func27 (n1) ?_ | refine s_need Tk (n1) ?_
    first | refine g_elem Tk Tryz.func27 (gm) ?_ | refine s_elem Tk (gm) ?_
    first | refine g_call Tk Tryz.func27 (hcl _) rfl rfl rfl rfl rfl ?_ | refine s_callq Tk (fun _ => hcl _) rfl rfl rfl ?_
    first | refine g_cnd Tk Tryz.func27 rfl (fun g2 => ?_) (fun g2 => ?_) | refine g_know Tk Tryz.func27 rfl (fun g2 => ?_) (fun g2 => ?_) | refine s_know Tk (fun g2 => ?_) (fun g2 => ?_)
    · have g2 : ev ∉ m.alpha := by simpa using g2
      rw [if_pos g2] at hno
      refine g_loop ?_
      refine ih (i + 1, ps ++ [none]) _ _ ⟨h1, by simp [hpl], hno⟩ (by simp only; omega) ⟨rfl, rfl, rfl, rfl, rfl, congrArg bb (canO_none ps).symm, hi1, trivial⟩ rfl ⟨rfl, rfl, ?_, trivial⟩ rfl rfl
      rw [← hs1 none]
      show some (Ob.arr 3 1 (rowK l.length ps).length (((rowK l.length ps).map fun x => [vi x]).set i [vi (-1)]) true) = some (oints ((rowK l.length ps).set i (kP none)))
      simp [List.map_set, kP]
    have g2 : ev ∈ m.alpha := by simpa using g2
    rw [if_neg (by simpa using g2)] at hno
    generalize selK m loc ev o.vals = K at *
    cases K with
    | error e =>
      simp only at hno
      subst hno
      have hne := hne.1
      refine g_drawn Tk Tryz.func27 mixedT rfl ?_
      first | refine g_need Tk Tryz.func27 (n1) ?_ | refine s_need Tk (n1) ?_
      first | refine g_elem Tk Tryz.func27 (gm) ?_ | refine s_elem Tk (gm) ?_
      first | refine g_need Tk Tryz.func27 (n2) ?_ | refine s_need Tk (n2) ?_
      first | refine g_elem Tk Tryz.func27 (gx) ?_ | refine s_elem Tk (gx) ?_
      first | refine g_call Tk Tryz.func27 (hch _) rfl rfl rfl rfl rfl ?_ | refine s_callq Tk (fun _ => hch _) rfl rfl rfl ?_
      refine e_done Tk Tryz.func27 (by kernel_rfl) ?_
      first | refine g_cnd Tk Tryz.func27 rfl (fun g3 => ?_) (fun g3 => ?_) | refine g_know Tk Tryz.func27 rfl (fun g3 => ?_) (fun g3 => ?_) | refine s_know Tk (fun g3 => ?_) (fun g3 => ?_)
      rotate_left
      · exact absurd (bneF g3) hne
      refine g_ret_co Tk (r := _) rfl rfl rfl trivial rfl rfl ?_
      exact coZO
    | ok k =>
      simp only at hno
      have hC := canO_app ps k
      have hkn := kI_nonneg k
      have hrow : some (Ob.arr 3 1 (rowK l.length ps).length ((((rowK l.length ps).map fun x => [vi x]).set i [vi (-1)]).set i [vi (kI k)]) true) = some (oints (rowK l.length (ps ++ [some k]))) := by
        rw [← hs2 none (some k), ← hs1 none]
        simp [List.map_set, kP]
      refine g_drawn Tk Tryz.func27 mixedT rfl ?_
      first | refine g_need Tk Tryz.func27 (n1) ?_ | refine s_need Tk (n1) ?_
      first | refine g_elem Tk Tryz.func27 (gm) ?_ | refine s_elem Tk (gm) ?_
      first | refine g_need Tk Tryz.func27 (n2) ?_ | refine s_need Tk (n2) ?_
      first | refine g_elem Tk Tryz.func27 (gx) ?_ | refine s_elem Tk (gx) ?_
      first | refine g_call Tk Tryz.func27 (hch _) rfl rfl rfl rfl rfl ?_ | refine s_callq Tk (fun _ => hch _) rfl rfl rfl ?_
      refine e_done Tk Tryz.func27 (by kernel_rfl) ?_
      repeat (first | refine g_cnd Tk Tryz.func27 rfl (fun _ => ?_) (fun h => absurd h (by decide)) | refine g_know Tk Tryz.func27 rfl (fun _ => ?_) (fun h => absurd h (by decide)) | refine s_know Tk (fun _ => ?_) (fun h => absurd h (by decide)) | refine g_cnd Tk Tryz.func27 rfl (fun h => absurd h (by decide)) (fun _ => ?_) | refine g_know Tk Tryz.func27 rfl (fun h => absurd h (by decide)) (fun _ => ?_) | refine s_know Tk (fun h => absurd h (by decide)) (fun _ => ?_) | refine g_cnd Tk Tryz.func27 rfl (fun _ => ?_) (fun h => absurd (show true = false from h) (by decide)) | refine g_know Tk Tryz.func27 rfl (fun _ => ?_) (fun h => absurd (show true = false from h) (by decide)) | refine s_know Tk (fun _ => ?_) (fun h => absurd (show true = false from h) (by decide)) | refine g_cnd Tk Tryz.func27 rfl (fun h => absurd (show false = true from h) (by decide)) (fun _ => ?_) | refine g_know Tk Tryz.func27 rfl (fun h => absurd (show false = true from h) (by decide)) (fun _ => ?_) | refine s_know Tk (fun h => absurd (show false = true from h) (by decide)) (fun _ => ?_))
      first | refine g_need Tk Tryz.func27 (n3) ?_ | refine s_need Tk (n3) ?_
      cases hcp : canO ps with
      | true =>
        rw [hcp] at hC
        repeat (first | refine g_cnd Tk Tryz.func27 rfl (fun _ => ?_) (fun h => absurd h (by decide)) | refine g_know Tk Tryz.func27 rfl (fun _ => ?_) (fun h => absurd h (by decide)) | refine s_know Tk (fun _ => ?_) (fun h => absurd h (by decide)) | refine g_cnd Tk Tryz.func27 rfl (fun h => absurd h (by decide)) (fun _ => ?_) | refine g_know Tk Tryz.func27 rfl (fun h => absurd h (by decide)) (fun _ => ?_) | refine s_know Tk (fun h => absurd h (by decide)) (fun _ => ?_) | refine g_cnd Tk Tryz.func27 rfl (fun _ => ?_) (fun h => absurd (show true = false from h) (by decide)) | refine g_know Tk Tryz.func27 rfl (fun _ => ?_) (fun h => absurd (show true = false from h) (by decide)) | refine s_know Tk (fun _ => ?_) (fun h => absurd (show true = false from h) (by decide)) | refine g_cnd Tk Tryz.func27 rfl (fun h => absurd (show false = true from h) (by decide)) (fun _ => ?_) | refine g_know Tk Tryz.func27 rfl (fun h => absurd (show false = true from h) (by decide)) (fun _ => ?_) | refine s_know Tk (fun h => absurd (show false = true from h) (by decide)) (fun _ => ?_))
        refine g_loop ?_
        exact ih (i + 1, ps ++ [some k]) _ _ ⟨h1, by simp [hpl], hno⟩ (by simp only; omega) ⟨rfl, rfl, rfl, rfl, rfl, congrArg bb (hkn.trans (hC.trans (Bool.true_and _)).symm), hi1, trivial⟩ rfl ⟨rfl, rfl, hrow, trivial⟩ rfl rfl
      | false =>
        rw [hcp] at hC
        repeat (first | refine g_cnd Tk Tryz.func27 rfl (fun _ => ?_) (fun h => absurd h (by decide)) | refine g_know Tk Tryz.func27 rfl (fun _ => ?_) (fun h => absurd h (by decide)) | refine s_know Tk (fun _ => ?_) (fun h => absurd h (by decide)) | refine g_cnd Tk Tryz.func27 rfl (fun h => absurd h (by decide)) (fun _ => ?_) | refine g_know Tk Tryz.func27 rfl (fun h => absurd h (by decide)) (fun _ => ?_) | refine s_know Tk (fun h => absurd h (by decide)) (fun _ => ?_) | refine g_cnd Tk Tryz.func27 rfl (fun _ => ?_) (fun h => absurd (show true = false from h) (by decide)) | refine g_know Tk Tryz.func27 rfl (fun _ => ?_) (fun h => absurd (show true = false from h) (by decide)) | refine s_know Tk (fun _ => ?_) (fun h => absurd (show true = false from h) (by decide)) | refine g_cnd Tk Tryz.func27 rfl (fun h => absurd (show false = true from h) (by decide)) (fun _ => ?_) | refine g_know Tk Tryz.func27 rfl (fun h => absurd (show false = true from h) (by decide)) (fun _ => ?_) | refine s_know Tk (fun h => absurd (show false = true from h) (by decide)) (fun _ => ?_))
        refine g_loop ?_
        exact ih (i + 1, ps ++ [some k]) _ _ ⟨h1, by simp [hpl], hno⟩ (by simp only; omega) ⟨rfl, rfl, rfl, rfl, rfl, congrArg bb (hC.trans (Bool.false_and _)).symm, hi1, trivial⟩ rfl ⟨rfl, rfl, hrow, trivial⟩ rfl rfl
  · have h1 : l.length ≤ i := by simpa using g1
    rw [List.drop_eq_nil_of_le h1] at hno
    simp only [pickO] at hno
    subst hno
    have hP := hps ps rfl
    clear ih g1 hps
    simp only
    cases hcp : canO ps with
    | false =>
      repeat (first | refine g_cnd Tk Tryz.func27 rfl (fun _ => ?_) (fun h => absurd h (by decide)) | refine g_know Tk Tryz.func27 rfl (fun _ => ?_) (fun h => absurd h (by decide)) | refine s_know Tk (fun _ => ?_) (fun h => absurd h (by decide)) | refine g_cnd Tk Tryz.func27 rfl (fun h => absurd h (by decide)) (fun _ => ?_) | refine g_know Tk Tryz.func27 rfl (fun h => absurd h (by decide)) (fun _ => ?_) | refine s_know Tk (fun h => absurd h (by decide)) (fun _ => ?_) | refine g_cnd Tk Tryz.func27 rfl (fun _ => ?_) (fun h => absurd (show true = false from h) (by decide)) | refine g_know Tk Tryz.func27 rfl (fun _ => ?_) (fun h => absurd (show true = false from h) (by decide)) | refine s_know Tk (fun _ => ?_) (fun h => absurd (show true = false from h) (by decide)) | refine g_cnd Tk Tryz.func27 rfl (fun h => absurd (show false = true from h) (by decide)) (fun _ => ?_) | refine g_know Tk Tryz.func27 rfl (fun h => absurd (show false = true from h) (by decide)) (fun _ => ?_) | refine s_know Tk (fun h => absurd (show false = true from h) (by decide)) (fun _ => ?_))
      refine g_ret_co Tk (r := _) rfl rfl rfl trivial rfl rfl ?_
      exact coZO
    | true =>
      simp only [Bool.true_eq_false, if_false]
      repeat (first | refine g_cnd Tk Tryz.func27 rfl (fun _ => ?_) (fun h => absurd h (by decide)) | refine g_know Tk Tryz.func27 rfl (fun _ => ?_) (fun h => absurd h (by decide)) | refine s_know Tk (fun _ => ?_) (fun h => absurd h (by decide)) | refine g_cnd Tk Tryz.func27 rfl (fun h => absurd h (by decide)) (fun _ => ?_) | refine g_know Tk Tryz.func27 rfl (fun h => absurd h (by decide)) (fun _ => ?_) | refine s_know Tk (fun h => absurd h (by decide)) (fun _ => ?_) | refine g_cnd Tk Tryz.func27 rfl (fun _ => ?_) (fun h => absurd (show true = false from h) (by decide)) | refine g_know Tk Tryz.func27 rfl (fun _ => ?_) (fun h => absurd (show true = false from h) (by decide)) | refine s_know Tk (fun _ => ?_) (fun h => absurd (show true = false from h) (by decide)) | refine g_cnd Tk Tryz.func27 rfl (fun h => absurd (show false = true from h) (by decide)) (fun _ => ?_) | refine g_know Tk Tryz.func27 rfl (fun h => absurd (show false = true from h) (by decide)) (fun _ => ?_) | refine s_know Tk (fun h => absurd (show false = true from h) (by decide)) (fun _ => ?_))
      rw [rowK_full (by omega)] at *
      refine g_stop ?_
      refine rch_wk (wk_freeze 25 rfl rfl) ?_
      refine g_run Tk Tryz.func27 ?_
      refine g_go Tk Tryz.func27 ?_
      refine g_drawn Tk Tryz.func27 mixedT rfl ?_
      refine s_old Tk ?_
      refine d_need Tk (by exact ⟨by show (0 + o.locs.length) * 8 ≤ 140737488355328; omega, by show 0 + o.locs.length ≤ 9223372036854775807; omega⟩) ?_
      refine d_mod Tk (p := ⟨[(78, .osl 0 78), (75, .dead)], [(78, .arr 3 1 (0 + o.locs.length) ([] ++ o.locs.map fun x => [vi x]) true)], some 75⟩) rfl rfl rfl ?_
      refine d_need Tk (by exact ⟨by show (0 + o.vals.length) * 8 ≤ 140737488355328; omega, by show 0 + o.vals.length ≤ 9223372036854775807; omega⟩) ?_
      refine d_mod Tk (p := ⟨[(82, .osl 0 82), (79, .dead)], [(82, .arr 3 1 (0 + o.vals.length) ([] ++ o.vals.map fun x => [vi x]) true)], some 79⟩) rfl rfl rfl ?_
      refine d_mod Tk (p := ⟨[], [(14, .box [.osl 0 78, .osl 0 82])], none⟩) rfl rfl rfl ?_
      refine d_done Tk Tryz.func27 (by kernel_rfl) (GM.h ?_)
      have hn0 : (0 : Int) ≤ (o.vals.length : Int) ∧ (o.vals.length : Int) ≤ (o.vals.length : Int) ∧ (o.vals.length : Int) * 1 ≤ 140737488355328 ∧ (o.vals.length : Int) ≤ 140737488355328 := by omega
      first | refine g_need Tk Tryz.func27 (hn0) ?_ | refine s_need Tk (hn0) ?_
      have hpg := okP_get hP
      have hcg := canO_get hcp
      have hA0 : asgM (vars0 l) o.vals (mvsO l ps) o.vals [] = asgM (vars0 l) o.vals (mvsO (l.drop 0) (ps.drop 0)) o.vals [] := rfl
      have hae := fun e => @asgM_err (vars0 l) o.vals (mvsO l ps) o.vals [] e
      generalize asgM (vars0 l) o.vals (mvsO l ps) o.vals [] = A at *
      have hk0 : (ps.map kP).length = l.length := by rw [List.length_map]; omega
      have hr1 : some (Ob.arr 3 1 (0 + o.locs.length) ([] ++ o.locs.map fun x => [vi x]) true) = some (oints (locsO l o.locs (ps.take 0))) := by
        rw [List.take_zero, locsO_nil]; simp
      have hr2 : some (Ob.arr 3 1 (0 + o.vals.length) ([] ++ o.vals.map fun x => [vi x]) true) = some (oints o.vals) := by simp
      have hr3 : some (Ob.arr 4 TryzI4.size (o.vals.length : Int).toNat (List.replicate (o.vals.length : Int).toNat (List.map I.v TryzI4.zero)) true) = some (obools (gB o.vals.length [])) := by
        rw [gB_nil]
        show some (Ob.arr 4 1 o.vals.length (List.replicate o.vals.length [.v (.bool false)]) true) = _
        simp
      refine g_loop ?_
      refine rch_loop2 (fun x : Nat × List Int × List Int => [(0, exts l), (4, .own 0 4 0 0), (6, .own 0 6 0 0), (9, ints (ps.map kP)), (14, .own 0 14 0 0), (15, .osl 0 87), (16, ii x.1)])
        (fun x => [(4, .box [ints o.locs, ints o.vals]), (6, .box [.i (.v (.slice none 0 0)), .i (.v (.slice none 0 0))]), (14, .box [.osl 0 78, .osl 0 82]), (78, oints (locsO l o.locs (ps.take x.1))), (82, oints x.2.1), (87, obools (gB o.vals.length x.2.2))]) (fun _ => O) 192
        (fun x => x.1 ≤ l.length ∧ x.2.1.length = o.vals.length ∧ A = asgM (vars0 l) o.vals (mvsO (l.drop x.1) (ps.drop x.1)) x.2.1 x.2.2) (fun x => l.length - x.1) (0, o.vals, []) ⟨Nat.zero_le _, rfl, hA0⟩ ⟨rfl, rfl, rfl, rfl, rfl, rfl, rfl, trivial⟩ rfl ⟨rfl, rfl, rfl, hr1, hr2, hr3, trivial⟩ rfl rfl ?_
      clear hA0 hr1 hr2 hr3 hn0
      rintro ⟨i, out, G⟩ ⟨hi, hol, hA⟩ ih
      simp only at hi hol hA
      refine g_run Tk Tryz.func27 ?_
      first | refine g_cnd Tk Tryz.func27 rfl (fun g1 => ?_) (fun g1 => ?_) | refine g_know Tk Tryz.func27 rfl (fun g1 => ?_) (fun g1 => ?_) | refine s_know Tk (fun g1 => ?_) (fun g1 => ?_)
      rotate_left
      · have h1 : l.length ≤ i := by simpa using g1
        rw [List.drop_eq_nil_of_le h1] at hA
        simp only [mvsO, asgM] at hA
        subst hA
        rw [List.take_of_length_le (by omega)]
        refine g_stop ?_
        refine rch_wk (wk_freeze 78 rfl rfl) ?_
        refine rch_wk (wk_freeze 82 rfl rfl) ?_
        refine rch_wk (wk_imm rfl) ?_
        refine g_run Tk Tryz.func27 ?_
        refine g_go Tk Tryz.func27 ?_
        refine g_ret Tk (r := .tup [orgD ⟨locsO l o.locs ps, out⟩, bb true, ii 0]) rfl rfl rfl trivial rfl rfl ?_
        rfl
      have h1 : i < l.length := by simpa using g1
      clear g1
      have hip : i < ps.length := by omega
      have gm : (l.map extI)[(i : Int).toNat]? = some (extI l[i]) := get_mapZ h1
      have gp : ((ps.map kP).map fun x => [vi x])[(i : Int).toNat]? = some [vi (kP ps[i])] := by
        rw [get_mapZ (f := fun x => [vi x]) (show i < (ps.map kP).length by omega)]
        simp
      have dm : l.drop i = l[i] :: l.drop (i + 1) := List.drop_eq_getElem_cons h1
      have dp : ps.drop i = ps[i] :: ps.drop (i + 1) := List.drop_eq_getElem_cons hip
      have tp : ps.take (i + 1) = ps.take i ++ [ps[i]] := by rw [List.take_add_one, List.getElem?_eq_getElem hip]; rfl
      have hok := hj.jn.ok _ (List.getElem_mem h1)
      have hrt := hj.jn.right _ (List.getElem_mem h1)
      have hvm := hj.jn.same _ (List.getElem_mem h1)
      have hpk := hpg i h1 hip
      have hpc := hcg _ (List.getElem_mem hip)
      have hL1 := fun k => locsO_app l o.locs (ps.take i) k (by rw [List.length_take]; omega)
      have htl : (ps.take i).length = i := by rw [List.length_take]; omega
      simp only [htl] at hL1
      have hLl : (locsO l o.locs (ps.take i)).length = o.locs.length := locsO_len l o.locs (ps.take i)
      rw [dm, dp] at hA
      clear dm dp
      generalize ps[i] = p at *
      generalize l[i] = m at *
      have n1 : 0 ≤ (i : Int) ∧ (i : Int) < (l.length : Int) := by omega
      have nP : 0 ≤ (i : Int) ∧ (i : Int) < ((ps.map kP).length : Int) := by omega
      have hi1 : ii (IntKind.i64.wrap ((i : Int) + 1)) = ii ((i + 1 : Nat) : Int) := congrArg ii (wsucc (n := 4096) (by omega) (by decide))
      first | refine g_need Tk Tryz.func27 (nP) ?_ | refine s_need Tk (nP) ?_
      first | refine g_elem Tk Tryz.func27 (gp) ?_ | refine s_elem Tk (gp) ?_
      match p, hpc, hpk, gp, tp, hA with
      | some none, h, _, _, _, _ => exact absurd rfl h
      | none, _, _, gp, tp, hA =>
        simp only [mvsO] at hA
        repeat (first | refine g_cnd Tk Tryz.func27 rfl (fun _ => ?_) (fun h => absurd h (by decide)) | refine g_know Tk Tryz.func27 rfl (fun _ => ?_) (fun h => absurd h (by decide)) | refine s_know Tk (fun _ => ?_) (fun h => absurd h (by decide)) | refine g_cnd Tk Tryz.func27 rfl (fun h => absurd h (by decide)) (fun _ => ?_) | refine g_know Tk Tryz.func27 rfl (fun h => absurd h (by decide)) (fun _ => ?_) | refine s_know Tk (fun h => absurd h (by decide)) (fun _ => ?_) | refine g_cnd Tk Tryz.func27 rfl (fun _ => ?_) (fun h => absurd (show true = false from h) (by decide)) | refine g_know Tk Tryz.func27 rfl (fun _ => ?_) (fun h => absurd (show true = false from h) (by decide)) | refine s_know Tk (fun _ => ?_) (fun h => absurd (show true = false from h) (by decide)) | refine g_cnd Tk Tryz.func27 rfl (fun h => absurd (show false = true from h) (by decide)) (fun _ => ?_) | refine g_know Tk Tryz.func27 rfl (fun h => absurd (show false = true from h) (by decide)) (fun _ => ?_) | refine s_know Tk (fun h => absurd (show false = true from h) (by decide)) (fun _ => ?_))
        refine g_loop ?_
        refine ih (i + 1, out, G) _ _ ⟨h1, hol, hA⟩ (by simp only; omega) ⟨rfl, rfl, rfl, rfl, rfl, rfl, hi1, trivial⟩ rfl ⟨rfl, rfl, rfl, ?_, rfl, rfl, trivial⟩ rfl rfl
        rw [tp, locsO_none]
        rfl
      | some (some k), _, hpk, gp, tp, hA =>
        have hk := hpk k rfl
        simp only [mvsO, asgM] at hA
        have hmv : mvAt m.moves (some k) = m.moves[k] := by simp [mvAt, List.getD_eq_getElem?_getD, List.getElem?_eq_getElem hk]
        have hL1 := hL1 (some k)
        rw [hmv] at hA hL1
        have gk : (m.moves.map mvI)[(k : Int).toNat]? = some (mvI m.moves[k]) := get_mapZ hk
        have hmk := hok.mv _ (List.getElem_mem hk)
        have hur := updErr_range (hrt.mv _ (List.getElem_mem hk)).us
        rw [hvm] at hur
        generalize m.moves[k] = x at *
        obtain ⟨xf, xe, xt, xg, us⟩ := x
        obtain ⟨_, hul, huo⟩ := hmk
        simp only at hA hL1 hul huo hur
        have nk : 0 ≤ (k : Int) ∧ (k : Int) < (m.moves.length : Int) := by omega
        have nL : 0 ≤ (i : Int) ∧ (i : Int) < ((locsO l o.locs (ps.take i)).length : Int) := by omega
        have hrL : some (Ob.arr 3 1 (locsO l o.locs (ps.take i)).length (((locsO l o.locs (ps.take i)).map fun x => [vi x]).set i [vi xt]) true) = some (oints (locsO l o.locs (ps.take (i + 1)))) := by
          rw [tp, hL1]
          simp [List.map_set]
        first | refine g_cnd Tk Tryz.func27 rfl (fun g1 => ?_) (fun g1 => ?_) | refine g_know Tk Tryz.func27 rfl (fun g1 => ?_) (fun g1 => ?_) | refine s_know Tk (fun g1 => ?_) (fun g1 => ?_)
        · exact absurd (of_decide_eq_true g1) (by simp [kP, kI])
        clear g1
        refine g_drawn Tk Tryz.func27 mixedT rfl ?_
        first | refine g_need Tk Tryz.func27 (n1) ?_ | refine s_need Tk (n1) ?_
        first | refine g_elem Tk Tryz.func27 (gm) ?_ | refine s_elem Tk (gm) ?_
        first | refine g_need Tk Tryz.func27 (nP) ?_ | refine s_need Tk (nP) ?_
        first | refine g_elem Tk Tryz.func27 (gp) ?_ | refine s_elem Tk (gp) ?_
        first | refine g_need Tk Tryz.func27 (nk) ?_ | refine s_need Tk (nk) ?_
        first | refine g_elem Tk Tryz.func27 (gk) ?_ | refine s_elem Tk (gk) ?_
        refine s_put Tk rfl rfl rfl ?_
        refine e_done Tk Tryz.func27 (by kernel_rfl) ?_
        first | refine g_need Tk Tryz.func27 (nL) ?_ | refine s_need Tk (nL) ?_
        have hU0 : asgU (vars0 l) o.vals us out G = asgU (vars0 l) o.vals (us.drop 0) out G := rfl
        generalize asgU (vars0 l) o.vals us out G = U at *
        refine g_loop ?_
        refine rch_loop2 (fun x : Nat × List Int × List Int => [(0, exts l), (4, .own 0 4 0 0), (6, .own 0 6 0 0), (9, ints (ps.map kP)), (14, .own 0 14 0 0), (15, .osl 0 87), (16, ii i), (17, .own 0 17 0 0), (18, ii x.1)])
          (fun x => [(4, .box [ints o.locs, ints o.vals]), (6, .box [.i (.v (.slice none 0 0)), .i (.v (.slice none 0 0))]), (14, .box [.osl 0 78, .osl 0 82]), (17, .box (mvC ⟨xf, xe, xt, xg, us⟩)), (78, oints (locsO l o.locs (ps.take (i + 1)))), (82, oints x.2.1), (87, obools (gB o.vals.length x.2.2))]) (fun _ => O) 192
          (fun x => x.1 ≤ us.length ∧ x.2.1.length = o.vals.length ∧ U = asgU (vars0 l) o.vals (us.drop x.1) x.2.1 x.2.2) (fun x => us.length - x.1) (0, out, G) ⟨Nat.zero_le _, hol, hU0⟩ ⟨rfl, rfl, rfl, rfl, rfl, rfl, rfl, rfl, rfl, trivial⟩ rfl ⟨rfl, rfl, rfl, rfl, hrL, rfl, rfl, trivial⟩ rfl rfl ?_
        clear hU0 hol hrL
        rintro ⟨j, out, G⟩ ⟨hjl, hol, hU⟩ ih2
        simp only at hjl hol hU
        refine g_run Tk Tryz.func27 ?_
        first | refine g_cnd Tk Tryz.func27 rfl (fun g2 => ?_) (fun g2 => ?_) | refine g_know Tk Tryz.func27 rfl (fun g2 => ?_) (fun g2 => ?_) | refine s_know Tk (fun g2 => ?_) (fun g2 => ?_)
        rotate_left
        · have h2 : us.length ≤ j := by simpa using g2
          rw [List.drop_eq_nil_of_le h2] at hU
          simp only [asgU] at hU
          subst hU
          simp only at hA
          refine g_loop ?_
          exact ih (i + 1, out, G) _ _ ⟨h1, hol, hA⟩ (by simp only; omega) ⟨rfl, rfl, rfl, rfl, rfl, rfl, hi1, trivial⟩ rfl ⟨rfl, rfl, rfl, rfl, rfl, rfl, trivial⟩ rfl rfl
        have h2 : j < us.length := by simpa using g2
        clear g2
        have gu : (us.map updI)[(j : Int).toNat]? = some (updI us[j]) := get_mapZ h2
        have du : us.drop j = us[j] :: us.drop (j + 1) := List.drop_eq_getElem_cons h2
        have hux := huo _ (List.getElem_mem h2)
        have huv := hur _ (List.getElem_mem h2)
        rw [du] at hU
        simp only [asgU] at hU
        clear du
        generalize us[j] = u at *
        have hev := fun O => evaluate51A O u.x o.vals hux (by simp only [max63]; omega)
        generalize evalX u.x o.vals = W at *
        obtain ⟨uv, ux⟩ := u
        obtain ⟨xo, xv, xi, xa⟩ := ux
        obtain ⟨y, e⟩ := W
        simp only at hU hev hux huv
        obtain ⟨q, rfl⟩ := Int.eq_ofNat_of_zero_le huv.1
        have hq : q < (vars0 l).length := by omega
        have gv : (m.vars.map vrI)[(q : Int).toNat]? = some (vrI (vars0 l)[q]) := by rw [hvm]; exact get_mapZ hq
        have lq : (vars0 l)[(q : Int).toNat]? = some (vars0 l)[q] := by rw [Int.toNat_natCast]; exact List.getElem?_eq_getElem hq
        have gy := getD_elem (l := out) (k := q) (by omega)
        have gg : ((gB o.vals.length G).map fun b => [.v (.bool b)])[(q : Int).toNat]? = some [I.v (.bool (decide ((q : Int) ∈ G)))] := by
          rw [List.getElem?_map, Int.toNat_natCast, gB_get (by omega)]
          rfl
        have hgs := gB_set (n := o.vals.length) (G := G) (k := q) (by omega)
        have hgl := gB_len o.vals.length G
        rw [lq] at hU
        simp only [Option.any_some, Int.toNat_natCast] at hU
        clear lq
        generalize (vars0 l)[q] = a at *
        obtain ⟨an, al, ah, aj⟩ := a
        simp only at hU
        have nu : 0 ≤ (j : Int) ∧ (j : Int) < (us.length : Int) := by omega
        have nv : 0 ≤ (q : Int) ∧ (q : Int) < (m.vars.length : Int) := by rw [hvm]; omega
        have no : 0 ≤ (q : Int) ∧ (q : Int) < (out.length : Int) := by omega
        have ng : 0 ≤ (q : Int) ∧ (q : Int) < ((gB o.vals.length G).length : Int) := by omega
        have hj1 : ii (IntKind.i64.wrap ((j : Int) + 1)) = ii ((j + 1 : Nat) : Int) := congrArg ii (wsucc h2 hul)
        refine g_drawn Tk Tryz.func27 mixedT rfl ?_
        first | refine g_need Tk Tryz.func27 (n1) ?_ | refine s_need Tk (n1) ?_
        first | refine g_elem Tk Tryz.func27 (gm) ?_ | refine s_elem Tk (gm) ?_
        first | refine g_need Tk Tryz.func27 (nu) ?_ | refine s_need Tk (nu) ?_
        first | refine g_elem Tk Tryz.func27 (gu) ?_ | refine s_elem Tk (gu) ?_
        first | refine g_need Tk Tryz.func27 (nv) ?_ | refine s_need Tk (nv) ?_
        first | refine g_elem Tk Tryz.func27 (gv) ?_ | refine s_elem Tk (gv) ?_
        first | refine g_need Tk Tryz.func27 (nu) ?_ | refine s_need Tk (nu) ?_
        first | refine g_elem Tk Tryz.func27 (gu) ?_ | refine s_elem Tk (gu) ?_
        refine s_put Tk rfl rfl rfl ?_
        refine e_done Tk Tryz.func27 (by kernel_rfl) ?_
        refine g_drawn Tk Tryz.func27 mixedT rfl ?_
        first | refine g_need Tk Tryz.func27 (nu) ?_ | refine s_need Tk (nu) ?_
        first | refine g_elem Tk Tryz.func27 (gu) ?_ | refine s_elem Tk (gu) ?_
        first | refine g_call Tk Tryz.func27 (hev _) rfl rfl rfl rfl rfl ?_ | refine s_callq Tk (fun _ => hev _) rfl rfl rfl ?_
        refine e_done Tk Tryz.func27 (by kernel_rfl) ?_
        first | refine g_cnd Tk Tryz.func27 rfl (fun g2 => ?_) (fun g2 => ?_) | refine g_know Tk Tryz.func27 rfl (fun g2 => ?_) (fun g2 => ?_) | refine s_know Tk (fun g2 => ?_) (fun g2 => ?_)
        · have g2 := bneT g2
          rw [if_pos (.inl g2)] at hU
          subst hU
          simp only at hA
          subst hA
          repeat (first | refine g_cnd Tk Tryz.func27 rfl (fun _ => ?_) (fun h => absurd h (by decide)) | refine g_know Tk Tryz.func27 rfl (fun _ => ?_) (fun h => absurd h (by decide)) | refine s_know Tk (fun _ => ?_) (fun h => absurd h (by decide)) | refine g_cnd Tk Tryz.func27 rfl (fun h => absurd h (by decide)) (fun _ => ?_) | refine g_know Tk Tryz.func27 rfl (fun h => absurd h (by decide)) (fun _ => ?_) | refine s_know Tk (fun h => absurd h (by decide)) (fun _ => ?_) | refine g_cnd Tk Tryz.func27 rfl (fun _ => ?_) (fun h => absurd (show true = false from h) (by decide)) | refine g_know Tk Tryz.func27 rfl (fun _ => ?_) (fun h => absurd (show true = false from h) (by decide)) | refine s_know Tk (fun _ => ?_) (fun h => absurd (show true = false from h) (by decide)) | refine g_cnd Tk Tryz.func27 rfl (fun h => absurd (show false = true from h) (by decide)) (fun _ => ?_) | refine g_know Tk Tryz.func27 rfl (fun h => absurd (show false = true from h) (by decide)) (fun _ => ?_) | refine s_know Tk (fun h => absurd (show false = true from h) (by decide)) (fun _ => ?_))
          refine g_ret_co Tk (r := _) rfl rfl rfl trivial rfl rfl ?_
          exact coZO
        have g2 := bneF g2
        first | refine g_cnd Tk Tryz.func27 rfl (fun g3 => ?_) (fun g3 => ?_) | refine g_know Tk Tryz.func27 rfl (fun g3 => ?_) (fun g3 => ?_) | refine s_know Tk (fun g3 => ?_) (fun g3 => ?_)
        · have g3 : y < al := of_decide_eq_true g3
          rw [if_pos (by simp [g3])] at hU
          subst hU
          simp only at hA
          subst hA
          repeat (first | refine g_cnd Tk Tryz.func27 rfl (fun _ => ?_) (fun h => absurd h (by decide)) | refine g_know Tk Tryz.func27 rfl (fun _ => ?_) (fun h => absurd h (by decide)) | refine s_know Tk (fun _ => ?_) (fun h => absurd h (by decide)) | refine g_cnd Tk Tryz.func27 rfl (fun h => absurd h (by decide)) (fun _ => ?_) | refine g_know Tk Tryz.func27 rfl (fun h => absurd h (by decide)) (fun _ => ?_) | refine s_know Tk (fun h => absurd h (by decide)) (fun _ => ?_) | refine g_cnd Tk Tryz.func27 rfl (fun _ => ?_) (fun h => absurd (show true = false from h) (by decide)) | refine g_know Tk Tryz.func27 rfl (fun _ => ?_) (fun h => absurd (show true = false from h) (by decide)) | refine s_know Tk (fun _ => ?_) (fun h => absurd (show true = false from h) (by decide)) | refine g_cnd Tk Tryz.func27 rfl (fun h => absurd (show false = true from h) (by decide)) (fun _ => ?_) | refine g_know Tk Tryz.func27 rfl (fun h => absurd (show false = true from h) (by decide)) (fun _ => ?_) | refine s_know Tk (fun h => absurd (show false = true from h) (by decide)) (fun _ => ?_))
          refine g_ret_co Tk (r := _) rfl rfl rfl trivial rfl rfl ?_
          exact coZO
        have g3 : ¬ y < al := of_decide_eq_false g3
        first | refine g_cnd Tk Tryz.func27 rfl (fun g4 => ?_) (fun g4 => ?_) | refine g_know Tk Tryz.func27 rfl (fun g4 => ?_) (fun g4 => ?_) | refine s_know Tk (fun g4 => ?_) (fun g4 => ?_)
        · have g4 : y > ah := of_decide_eq_true g4
          rw [if_pos (by simp [g4])] at hU
          subst hU
          simp only at hA
          subst hA
          refine g_ret_co Tk (r := _) rfl rfl rfl trivial rfl rfl ?_
          exact coZO
        have g4 : ¬ y > ah := of_decide_eq_false g4
        rw [if_neg (by simp [g2]; omega)] at hU
        first | refine g_need Tk Tryz.func27 (ng) ?_ | refine s_need Tk (ng) ?_
        first | refine g_elem Tk Tryz.func27 (gg) ?_ | refine s_elem Tk (gg) ?_
        apply join_p (P := ¬ ((q : Int) ∈ G ∧ out.getD q 0 ≠ y)) (s6 := { σ := [(0, exts l), (4, .own 0 4 0 0), (6, .own 0 6 0 0), (9, ints (ps.map kP)), (14, .own 0 14 0 0), (15, .osl 0 87), (16, ii i), (17, .own 0 17 0 0), (18, ii j), (20, ii q), (21, ii y)], S := [(4, .box [ints o.locs, ints o.vals]), (6, .box [.i (.v (.slice none 0 0)), .i (.v (.slice none 0 0))]), (14, .box [.osl 0 78, .osl 0 82]), (17, .box (mvC ⟨xf, xe, xt, xg, us⟩)), (78, oints (locsO l o.locs (ps.take (i + 1)))), (82, oints out), (87, obools (gB o.vals.length G))] :: O, n := 192 })
        · intro J
          first | refine g_cnd Tk Tryz.func27 rfl (fun g5 => ?_) (fun g5 => ?_) | refine g_know Tk Tryz.func27 rfl (fun g5 => ?_) (fun g5 => ?_) | refine s_know Tk (fun g5 => ?_) (fun g5 => ?_)
          · have g5 : (q : Int) ∈ G := of_decide_eq_true g5
            first | refine g_need Tk Tryz.func27 (no) ?_ | refine s_need Tk (no) ?_
            first | refine g_elem Tk Tryz.func27 (gy) ?_ | refine s_elem Tk (gy) ?_
            first | refine g_cnd Tk Tryz.func27 rfl (fun g6 => ?_) (fun g6 => ?_) | refine g_know Tk Tryz.func27 rfl (fun g6 => ?_) (fun g6 => ?_) | refine s_know Tk (fun g6 => ?_) (fun g6 => ?_)
            · have g6 : out.getD q 0 ≠ y := bneT g6
              rw [if_pos ⟨g5, g6⟩] at hU
              subst hU
              simp only at hA
              subst hA
              refine g_ret_co Tk (r := _) rfl rfl rfl trivial rfl rfl ?_
              exact coZO
            have g6 : out.getD q 0 = y := bneF g6
            refine g_stop ?_
            refine rch_meet (J (fun h => h.2 g6)) ⟨rfl, rfl, rfl, rfl, rfl, rfl, rfl, rfl, rfl, rfl, rfl, trivial⟩ rfl ⟨rfl, rfl, rfl, rfl, rfl, rfl, rfl, trivial⟩ rfl rfl
          · have g5 : (q : Int) ∉ G := of_decide_eq_false g5
            repeat (first | refine g_cnd Tk Tryz.func27 rfl (fun _ => ?_) (fun h => absurd h (by decide)) | refine g_know Tk Tryz.func27 rfl (fun _ => ?_) (fun h => absurd h (by decide)) | refine s_know Tk (fun _ => ?_) (fun h => absurd h (by decide)) | refine g_cnd Tk Tryz.func27 rfl (fun h => absurd h (by decide)) (fun _ => ?_) | refine g_know Tk Tryz.func27 rfl (fun h => absurd h (by decide)) (fun _ => ?_) | refine s_know Tk (fun h => absurd h (by decide)) (fun _ => ?_) | refine g_cnd Tk Tryz.func27 rfl (fun _ => ?_) (fun h => absurd (show true = false from h) (by decide)) | refine g_know Tk Tryz.func27 rfl (fun _ => ?_) (fun h => absurd (show true = false from h) (by decide)) | refine s_know Tk (fun _ => ?_) (fun h => absurd (show true = false from h) (by decide)) | refine g_cnd Tk Tryz.func27 rfl (fun h => absurd (show false = true from h) (by decide)) (fun _ => ?_) | refine g_know Tk Tryz.func27 rfl (fun h => absurd (show false = true from h) (by decide)) (fun _ => ?_) | refine s_know Tk (fun h => absurd (show false = true from h) (by decide)) (fun _ => ?_))
            refine g_stop ?_
            refine rch_meet (J (fun h => g5 h.1)) ⟨rfl, rfl, rfl, rfl, rfl, rfl, rfl, rfl, rfl, rfl, rfl, trivial⟩ rfl ⟨rfl, rfl, rfl, rfl, rfl, rfl, rfl, trivial⟩ rfl rfl
        intro hPP
        rw [if_neg hPP] at hU
        have hrg : some (Ob.arr 4 1 (gB o.vals.length G).length (((gB o.vals.length G).map fun b => [.v (.bool b)]).set q [.v (.bool true)]) true) = some (obools (gB o.vals.length (if (q : Int) ∈ G then G else G ++ [(q : Int)]))) := by
          rw [← hgs]
          simp [List.map_set]
        have hro : some (Ob.arr 3 1 out.length ((out.map fun x => [vi x]).set q [vi y]) true) = some (oints (out.set q y)) := by simp [List.map_set]
        refine g_run Tk Tryz.func27 ?_
        refine g_go Tk Tryz.func27 ?_
        refine g_drawn Tk Tryz.func27 mixedT rfl ?_
        first | refine g_need Tk Tryz.func27 (ng) ?_ | refine s_need Tk (ng) ?_
        refine s_put Tk rfl rfl rfl ?_
        first | refine g_need Tk Tryz.func27 (no) ?_ | refine s_need Tk (no) ?_
        refine s_put Tk rfl rfl rfl ?_
        refine e_done Tk Tryz.func27 (by kernel_rfl) ?_
        refine g_loop ?_
        exact ih2 (j + 1, out.set q y, if (q : Int) ∈ G then G else G ++ [(q : Int)]) _ _ ⟨h2, by simpa using hol, hU⟩ (by simp only; omega) ⟨rfl, rfl, rfl, rfl, rfl, rfl, rfl, rfl, hj1, trivial⟩ rfl ⟨rfl, rfl, rfl, rfl, rfl, hro, hrg, trivial⟩ rfl rfl
end Go.AI


/- The law's unfolding of a joint list. -/
namespace Go.AI
open Go.Proofs
set_option maxRecDepth 20000
end Go.AI


/- FlattenJoins. -/
namespace Go.AI
open Go.Proofs
set_option maxRecDepth 20000
theorem sameO_refl (O : List Heap) (x : Org) (h1 : x.locs.length ≤ max63) (h2 : x.vals.length ≤ max63) : ASpec Tryz.prog 14 [orgD x, orgD x] O (bb true) [] O := by
  have h := sameOrigin14 O x x h1 h2
  rwa [decide_eq_true rfl] at h
end Go.AI


/- Origins compared and checked; flatten.Step. -/
namespace Go.AI
open Go.Proofs
set_option maxRecDepth 20000
theorem equalOrigins24 (O : List Heap) (a b : Org) (h1 : a.locs.length ≤ max63) (h2 : a.vals.length ≤ max63) : ASpec Tryz.prog 24 [orgD a, orgD b] O (bb (decide (a = b))) [] O := by
  obtain ⟨al, av⟩ := a
  obtain ⟨bl, bv⟩ := b
  have hl := fun O => equal47 O al bl h1
  have hv := fun O => equal47 O av bv h2
  refine aspec_intro Tk Tryz.func24 rfl Tryz.call24 Tryz.ntmps24 (Nat.le_of_ble_eq_true rfl) fun E => ?_
  refine g_run Tk Tryz.func24 ?_
  first | refine g_call Tk Tryz.func24 (hl _) rfl rfl rfl rfl rfl ?_ | refine s_callq Tk (fun _ => hl _) rfl rfl rfl ?_
  first | refine g_cnd Tk Tryz.func24 rfl (fun g1 => ?_) (fun g1 => ?_) | refine g_know Tk Tryz.func24 rfl (fun g1 => ?_) (fun g1 => ?_) | refine s_know Tk (fun g1 => ?_) (fun g1 => ?_)
  · have g1 : al = bl := of_decide_eq_true g1
    first | refine g_call Tk Tryz.func24 (hv _) rfl rfl rfl rfl rfl ?_ | refine s_callq Tk (fun _ => hv _) rfl rfl rfl ?_
    subst g1
    refine g_ret Tk (r := bb (decide (av = bv))) rfl rfl rfl trivial rfl rfl ?_
    simp
  · have g1 : al ≠ bl := of_decide_eq_false g1
    refine g_ret Tk (r := bb false) rfl rfl rfl trivial rfl rfl ?_
    simp [g1]
def rngL : List Ext → List Int → Bool
  | m :: r, x :: xs => !(decide (x < 0) || decide (x ≥ m.locs)) && rngL r xs
  | _, _ => true
def chkO (l : List Ext) (o : Org) : Int := if chkJ l ≠ 0 then chkJ l else if o.locs.length ≠ l.length ∨ o.vals.length ≠ (vars0 l).length then 4 else if rngL l o.locs = false then 2 else if within (vars0 l) o.vals = false then 2 else 0
theorem rngL_ok : ∀ {l : List Ext} {x : List Int}, x.length = l.length → rngL l x = true → okLo l x
  | [], [], _, _ => trivial
  | m :: r, y :: x, h, hr => by
    simp only [rngL, Bool.and_eq_true, Bool.not_eq_true', Bool.or_eq_false_iff, decide_eq_false_iff_not] at hr
    exact ⟨by omega, rngL_ok (by simpa using h) hr.2⟩
  | [], _ :: _, h, _ => by simp at h
  | _ :: _, [], h, _ => by simp at h
theorem chkO_ok {l : List Ext} {o : Org} (h : chkO l o = 0) : okO l o := by
  unfold chkO at h
  by_cases h1 : chkJ l ≠ 0
  · rw [if_pos h1] at h; exact absurd h h1
  rw [if_neg h1] at h
  by_cases h2 : o.locs.length ≠ l.length ∨ o.vals.length ≠ (vars0 l).length
  · rw [if_pos h2] at h; cases h
  rw [if_neg h2] at h
  by_cases h3 : rngL l o.locs = false
  · rw [if_pos h3] at h; cases h
  rw [if_neg h3] at h
  by_cases h4 : within (vars0 l) o.vals = false
  · rw [if_pos h4] at h; cases h
  exact ⟨rngL_ok (by omega) (by simpa using h3), by simpa using h4⟩
set_option maxHeartbeats 4000000 in
theorem checkOrigin23 (O : List Heap) (l : List Ext) (o : Org) (hok : ∀ m ∈ l, extOk m) (hl63 : l.length ≤ max63) : ASpec Tryz.prog 23 [exts l, orgD o] O (ii (chkO l o)) [] O := by
  have hck := fun O => checkJoint20 O l hok hl63
  generalize hR : chkO l o = R
  unfold chkO at hR
  obtain ⟨xl, xv⟩ := o
  simp only at hR
  by_cases hJ : chkJ l ≠ 0
  · rw [if_pos hJ] at hR
    subst hR
    refine aspec_intro Tk Tryz.func23 rfl Tryz.call23 Tryz.ntmps23 (Nat.le_of_ble_eq_true rfl) fun E => ?_
    refine g_run Tk Tryz.func23 ?_
    first | refine g_call Tk Tryz.func23 (hck _) rfl rfl rfl rfl rfl ?_ | refine s_callq Tk (fun _ => hck _) rfl rfl rfl ?_
    first | refine g_cnd Tk Tryz.func23 rfl (fun g1 => ?_) (fun g1 => ?_) | refine g_know Tk Tryz.func23 rfl (fun g1 => ?_) (fun g1 => ?_) | refine s_know Tk (fun g1 => ?_) (fun g1 => ?_)
    rotate_left
    · exact absurd (bneF g1) hJ
    refine g_ret Tk (r := ii (chkJ l)) rfl rfl rfl trivial rfl rfl ?_
    rfl
  have hJ : chkJ l = 0 := Classical.byContradiction hJ
  have hj := chkJ_ok hok hJ
  rw [if_neg (by simpa using hJ)] at hR
  rw [hJ] at hck
  have hpos : 0 < l.length := List.length_pos_iff.2 hj.pos
  have hl12 := hj.len
  have hv16 := jnt_v16 hj
  have g0 : (l.map extI)[(0 : Int).toNat]? = some (extI l[0]) := get_mapZ (i := 0) hpos
  have n0 : 0 ≤ (0 : Int) ∧ (0 : Int) < (l.length : Int) := by omega
  have e0 : vars0 l = l[0].vars := by
    unfold vars0
    rw [List.getD_eq_getElem?_getD, List.getElem?_eq_getElem hpos]; rfl
  rw [e0] at hR hv16
  have hwi := fun O => within52 O l[0].vars xv (by simp only [max63]; omega)
  generalize l[0] = m0 at *
  have bad4 : (xl.length ≠ l.length ∨ xv.length ≠ m0.vars.length) → R = 4 := fun h => by rw [← hR, if_pos h]
  refine aspec_intro Tk Tryz.func23 rfl Tryz.call23 Tryz.ntmps23 (Nat.le_of_ble_eq_true rfl) fun E => ?_
  refine g_run Tk Tryz.func23 ?_
  first | refine g_call Tk Tryz.func23 (hck _) rfl rfl rfl rfl rfl ?_ | refine s_callq Tk (fun _ => hck _) rfl rfl rfl ?_
  repeat (first | refine g_cnd Tk Tryz.func23 rfl (fun _ => ?_) (fun h => absurd h (by decide)) | refine g_know Tk Tryz.func23 rfl (fun _ => ?_) (fun h => absurd h (by decide)) | refine s_know Tk (fun _ => ?_) (fun h => absurd h (by decide)) | refine g_cnd Tk Tryz.func23 rfl (fun h => absurd h (by decide)) (fun _ => ?_) | refine g_know Tk Tryz.func23 rfl (fun h => absurd h (by decide)) (fun _ => ?_) | refine s_know Tk (fun h => absurd h (by decide)) (fun _ => ?_) | refine g_cnd Tk Tryz.func23 rfl (fun _ => ?_) (fun h => absurd (show true = false from h) (by decide)) | refine g_know Tk Tryz.func23 rfl (fun _ => ?_) (fun h => absurd (show true = false from h) (by decide)) | refine s_know Tk (fun _ => ?_) (fun h => absurd (show true = false from h) (by decide)) | refine g_cnd Tk Tryz.func23 rfl (fun h => absurd (show false = true from h) (by decide)) (fun _ => ?_) | refine g_know Tk Tryz.func23 rfl (fun h => absurd (show false = true from h) (by decide)) (fun _ => ?_) | refine s_know Tk (fun h => absurd (show false = true from h) (by decide)) (fun _ => ?_))
  refine g_drawn Tk Tryz.func23 mixedT rfl ?_
  first | refine g_cnd Tk Tryz.func23 rfl (fun g1 => ?_) (fun g1 => ?_) | refine g_know Tk Tryz.func23 rfl (fun g1 => ?_) (fun g1 => ?_) | refine s_know Tk (fun g1 => ?_) (fun g1 => ?_)
  · have g1 : xl.length ≠ l.length := by have : (xl.length : Int) ≠ l.length := bneT g1; omega
    have := bad4 (.inl g1)
    subst this
    refine e_done Tk Tryz.func23 (by kernel_rfl) ?_
    repeat (first | refine g_cnd Tk Tryz.func23 rfl (fun _ => ?_) (fun h => absurd h (by decide)) | refine g_know Tk Tryz.func23 rfl (fun _ => ?_) (fun h => absurd h (by decide)) | refine s_know Tk (fun _ => ?_) (fun h => absurd h (by decide)) | refine g_cnd Tk Tryz.func23 rfl (fun h => absurd h (by decide)) (fun _ => ?_) | refine g_know Tk Tryz.func23 rfl (fun h => absurd h (by decide)) (fun _ => ?_) | refine s_know Tk (fun h => absurd h (by decide)) (fun _ => ?_) | refine g_cnd Tk Tryz.func23 rfl (fun _ => ?_) (fun h => absurd (show true = false from h) (by decide)) | refine g_know Tk Tryz.func23 rfl (fun _ => ?_) (fun h => absurd (show true = false from h) (by decide)) | refine s_know Tk (fun _ => ?_) (fun h => absurd (show true = false from h) (by decide)) | refine g_cnd Tk Tryz.func23 rfl (fun h => absurd (show false = true from h) (by decide)) (fun _ => ?_) | refine g_know Tk Tryz.func23 rfl (fun h => absurd (show false = true from h) (by decide)) (fun _ => ?_) | refine s_know Tk (fun h => absurd (show false = true from h) (by decide)) (fun _ => ?_))
    refine g_ret Tk (r := ii 4) rfl rfl rfl trivial rfl rfl ?_
    rfl
  have g1 : xl.length = l.length := by have : (xl.length : Int) = l.length := bneF g1; omega
  first | refine g_need Tk Tryz.func23 (n0) ?_ | refine s_need Tk (n0) ?_
  first | refine g_elem Tk Tryz.func23 (g0) ?_ | refine s_elem Tk (g0) ?_
  refine e_done Tk Tryz.func23 (by kernel_rfl) ?_
  first | refine g_cnd Tk Tryz.func23 rfl (fun g2 => ?_) (fun g2 => ?_) | refine g_know Tk Tryz.func23 rfl (fun g2 => ?_) (fun g2 => ?_) | refine s_know Tk (fun g2 => ?_) (fun g2 => ?_)
  · have g2 : xv.length ≠ m0.vars.length := by have : (xv.length : Int) ≠ m0.vars.length := bneT g2; omega
    have := bad4 (.inr g2)
    subst this
    refine g_ret Tk (r := ii 4) rfl rfl rfl trivial rfl rfl ?_
    rfl
  have g2 : xv.length = m0.vars.length := by have : (xv.length : Int) = m0.vars.length := bneF g2; omega
  rw [if_neg (by omega)] at hR
  have hL0 : rngL l xl = rngL (l.drop 0) (xl.drop 0) := rfl
  generalize rngL l xl = L at *
  refine g_loop ?_
  refine rch_loop2 (fun i : Nat => [(0, exts l), (3, .own 0 3 0 0), (30, exts l), (31, ii l.length), (32, ii i)]) (fun _ => [(3, .box [ints xl, ints xv])]) (fun _ => O) 62
    (fun i => i ≤ l.length ∧ L = rngL (l.drop i) (xl.drop i)) (fun i => l.length - i) 0 ⟨Nat.zero_le _, hL0⟩ ⟨rfl, rfl, rfl, rfl, rfl, trivial⟩ rfl ⟨rfl, trivial⟩ rfl rfl ?_
  clear hL0
  rintro i ⟨hi, hno⟩ ih
  refine g_run Tk Tryz.func23 ?_
  first | refine g_cnd Tk Tryz.func23 rfl (fun g3 => ?_) (fun g3 => ?_) | refine g_know Tk Tryz.func23 rfl (fun g3 => ?_) (fun g3 => ?_) | refine s_know Tk (fun g3 => ?_) (fun g3 => ?_)
  · have h1 : i < l.length := by simpa using g3
    clear g3
    have gm : (l.map extI)[(i : Int).toNat]? = some (extI l[i]) := get_mapZ h1
    have gx : (xl.map fun x => [vi x])[(i : Int).toNat]? = some [vi (xl[i]'(by omega))] := get_mapZ (f := fun x => [vi x]) (by omega)
    rw [List.drop_eq_getElem_cons h1, List.drop_eq_getElem_cons (show i < xl.length by omega)] at hno
    simp only [rngL] at hno
    generalize l[i] = m at *
    generalize xl[i]'(by omega) = x at *
    have nx : 0 ≤ (i : Int) ∧ (i : Int) < (xl.length : Int) := by omega
    first | refine g_need Tk Tryz.func23 (by exact ⟨by omega, by show (i : Int) < (l.length : Int); omega⟩) ?_ | refine s_need Tk (by exact ⟨by omega, by show (i : Int) < (l.length : Int); omega⟩) ?_
    first | refine g_elem Tk Tryz.func23 (gm) ?_ | refine s_elem Tk (gm) ?_
    refine g_drawn Tk Tryz.func23 mixedT rfl ?_
    first | refine g_need Tk Tryz.func23 (nx) ?_ | refine s_need Tk (nx) ?_
    first | refine g_elem Tk Tryz.func23 (gx) ?_ | refine s_elem Tk (gx) ?_
    first | refine g_cnd Tk Tryz.func23 rfl (fun g4 => ?_) (fun g4 => ?_) | refine g_know Tk Tryz.func23 rfl (fun g4 => ?_) (fun g4 => ?_) | refine s_know Tk (fun g4 => ?_) (fun g4 => ?_)
    · rw [g4] at hno
      have hno : L = false := hno
      subst hno
      rw [if_pos rfl] at hR
      subst hR
      refine e_done Tk Tryz.func23 (by kernel_rfl) ?_
      repeat (first | refine g_cnd Tk Tryz.func23 rfl (fun _ => ?_) (fun h => absurd h (by decide)) | refine g_know Tk Tryz.func23 rfl (fun _ => ?_) (fun h => absurd h (by decide)) | refine s_know Tk (fun _ => ?_) (fun h => absurd h (by decide)) | refine g_cnd Tk Tryz.func23 rfl (fun h => absurd h (by decide)) (fun _ => ?_) | refine g_know Tk Tryz.func23 rfl (fun h => absurd h (by decide)) (fun _ => ?_) | refine s_know Tk (fun h => absurd h (by decide)) (fun _ => ?_) | refine g_cnd Tk Tryz.func23 rfl (fun _ => ?_) (fun h => absurd (show true = false from h) (by decide)) | refine g_know Tk Tryz.func23 rfl (fun _ => ?_) (fun h => absurd (show true = false from h) (by decide)) | refine s_know Tk (fun _ => ?_) (fun h => absurd (show true = false from h) (by decide)) | refine g_cnd Tk Tryz.func23 rfl (fun h => absurd (show false = true from h) (by decide)) (fun _ => ?_) | refine g_know Tk Tryz.func23 rfl (fun h => absurd (show false = true from h) (by decide)) (fun _ => ?_) | refine s_know Tk (fun h => absurd (show false = true from h) (by decide)) (fun _ => ?_))
      refine g_ret Tk (r := ii 2) rfl rfl rfl trivial rfl rfl ?_
      rfl
    first | refine g_need Tk Tryz.func23 (nx) ?_ | refine s_need Tk (nx) ?_
    first | refine g_elem Tk Tryz.func23 (gx) ?_ | refine s_elem Tk (gx) ?_
    refine e_done Tk Tryz.func23 (by kernel_rfl) ?_
    rw [g4] at hno
    first | refine g_cnd Tk Tryz.func23 rfl (fun g5 => ?_) (fun g5 => ?_) | refine g_know Tk Tryz.func23 rfl (fun g5 => ?_) (fun g5 => ?_) | refine s_know Tk (fun g5 => ?_) (fun g5 => ?_)
    · rw [g5] at hno
      have hno : L = false := hno
      subst hno
      rw [if_pos rfl] at hR
      subst hR
      refine g_ret Tk (r := ii 2) rfl rfl rfl trivial rfl rfl ?_
      rfl
    rw [g5] at hno
    have hno : L = rngL (l.drop (i + 1)) (xl.drop (i + 1)) := hno
    refine g_loop ?_
    exact ih (i + 1) _ _ ⟨h1, hno⟩ (by omega) ⟨rfl, rfl, rfl, rfl, congrArg ii (wsucc (n := 4096) (by omega) (by decide)), trivial⟩ rfl ⟨rfl, trivial⟩ rfl rfl
  · have h1 : l.length ≤ i := by simpa using g3
    have hno : L = true := by rw [hno, List.drop_eq_nil_of_le h1]; simp [rngL]
    subst hno
    rw [if_neg (by simp)] at hR
    refine g_drawn Tk Tryz.func23 mixedT rfl ?_
    first | refine g_need Tk Tryz.func23 (n0) ?_ | refine s_need Tk (n0) ?_
    first | refine g_elem Tk Tryz.func23 (g0) ?_ | refine s_elem Tk (g0) ?_
    first | refine g_call Tk Tryz.func23 (hwi _) rfl rfl rfl rfl rfl ?_ | refine s_callq Tk (fun _ => hwi _) rfl rfl rfl ?_
    refine e_done Tk Tryz.func23 (by kernel_rfl) ?_
    cases hw : within m0.vars xv with
    | false =>
      rw [hw, if_pos rfl] at hR
      subst hR
      repeat (first | refine g_cnd Tk Tryz.func23 rfl (fun _ => ?_) (fun h => absurd h (by decide)) | refine g_know Tk Tryz.func23 rfl (fun _ => ?_) (fun h => absurd h (by decide)) | refine s_know Tk (fun _ => ?_) (fun h => absurd h (by decide)) | refine g_cnd Tk Tryz.func23 rfl (fun h => absurd h (by decide)) (fun _ => ?_) | refine g_know Tk Tryz.func23 rfl (fun h => absurd h (by decide)) (fun _ => ?_) | refine s_know Tk (fun h => absurd h (by decide)) (fun _ => ?_) | refine g_cnd Tk Tryz.func23 rfl (fun _ => ?_) (fun h => absurd (show true = false from h) (by decide)) | refine g_know Tk Tryz.func23 rfl (fun _ => ?_) (fun h => absurd (show true = false from h) (by decide)) | refine s_know Tk (fun _ => ?_) (fun h => absurd (show true = false from h) (by decide)) | refine g_cnd Tk Tryz.func23 rfl (fun h => absurd (show false = true from h) (by decide)) (fun _ => ?_) | refine g_know Tk Tryz.func23 rfl (fun h => absurd (show false = true from h) (by decide)) (fun _ => ?_) | refine s_know Tk (fun h => absurd (show false = true from h) (by decide)) (fun _ => ?_))
      refine g_ret Tk (r := ii 2) rfl rfl rfl trivial rfl rfl ?_
      rfl
    | true =>
      rw [hw, if_neg (by simp)] at hR
      subst hR
      repeat (first | refine g_cnd Tk Tryz.func23 rfl (fun _ => ?_) (fun h => absurd h (by decide)) | refine g_know Tk Tryz.func23 rfl (fun _ => ?_) (fun h => absurd h (by decide)) | refine s_know Tk (fun _ => ?_) (fun h => absurd h (by decide)) | refine g_cnd Tk Tryz.func23 rfl (fun h => absurd h (by decide)) (fun _ => ?_) | refine g_know Tk Tryz.func23 rfl (fun h => absurd h (by decide)) (fun _ => ?_) | refine s_know Tk (fun h => absurd h (by decide)) (fun _ => ?_) | refine g_cnd Tk Tryz.func23 rfl (fun _ => ?_) (fun h => absurd (show true = false from h) (by decide)) | refine g_know Tk Tryz.func23 rfl (fun _ => ?_) (fun h => absurd (show true = false from h) (by decide)) | refine s_know Tk (fun _ => ?_) (fun h => absurd (show true = false from h) (by decide)) | refine g_cnd Tk Tryz.func23 rfl (fun h => absurd (show false = true from h) (by decide)) (fun _ => ?_) | refine g_know Tk Tryz.func23 rfl (fun h => absurd (show false = true from h) (by decide)) (fun _ => ?_) | refine s_know Tk (fun h => absurd (show false = true from h) (by decide)) (fun _ => ?_))
      refine g_ret Tk (r := ii 0) rfl rfl rfl trivial rfl rfl ?_
      rfl
def StepR (l : List Ext) (o : Org) (ev : Int) : Org × Bool × Int := if chkO l o ≠ 0 then (zeroO, false, chkO l o) else if ev ∉ eventsR l then (zeroO, false, 9) else stepO l o ev
theorem Step26 (O : List Heap) (l : List Ext) (o : Org) (ev : Int) (hok : ∀ m ∈ l, extOk m) (hl63 : l.length ≤ max63) (hpos : chkJ l = 0 → 0 < (l.flatMap (·.alpha)).length) :
    ASpec Tryz.prog 26 [exts l, orgD o, ii ev] O (.tup [orgD (StepR l o ev).1, bb (StepR l o ev).2.1, ii (StepR l o ev).2.2]) [] O := by
  have hck := fun O => checkOrigin23 O l o hok hl63
  unfold StepR
  obtain ⟨xl, xv⟩ := o
  by_cases h0 : chkO l ⟨xl, xv⟩ ≠ 0
  · simp only [if_pos h0]
    refine aspec_intro Tk Tryz.func26 rfl Tryz.call26 Tryz.ntmps26 (Nat.le_of_ble_eq_true rfl) fun E => ?_
    refine g_run Tk Tryz.func26 ?_
    first | refine g_call Tk Tryz.func26 (hck _) rfl rfl rfl rfl rfl ?_ | refine s_callq Tk (fun _ => hck _) rfl rfl rfl ?_
    first | refine g_cnd Tk Tryz.func26 rfl (fun g1 => ?_) (fun g1 => ?_) | refine g_know Tk Tryz.func26 rfl (fun g1 => ?_) (fun g1 => ?_) | refine s_know Tk (fun g1 => ?_) (fun g1 => ?_)
    rotate_left
    · exact absurd (bneF g1) h0
    refine g_ret_co Tk (r := _) rfl rfl rfl trivial rfl rfl ?_
    exact coZO
  have h0 : chkO l ⟨xl, xv⟩ = 0 := Classical.byContradiction h0
  have ho := chkO_ok h0
  have hJ : chkJ l = 0 := by
    unfold chkO at h0
    by_cases h1 : chkJ l ≠ 0
    · rw [if_pos h1] at h0; exact absurd h0 h1
    · simpa using h1
  have hj := chkJ_ok hok hJ
  have hev := fun O => events44 O l (by have := hj.len; omega) (eventsR_le hj).2 (hpos hJ)
  have hcl := fun O => contains110 O (eventsR l) ev (by have := (eventsR_le hj).1; simp only [max63]; omega)
  have hst := fun O => step40 O l ⟨xl, xv⟩ ev hj (jnt_vals hj ho).1 (jnt_vals hj ho).2
  rw [h0] at hck
  simp only [h0, ne_eq, not_true_eq_false, if_false]
  generalize eventsR l = E1 at *
  generalize stepO l ⟨xl, xv⟩ ev = N at *
  obtain ⟨⟨nl, nv⟩, np, ne⟩ := N
  refine aspec_intro Tk Tryz.func26 rfl Tryz.call26 Tryz.ntmps26 (Nat.le_of_ble_eq_true rfl) fun E => ?_
  refine g_run Tk Tryz.func26 ?_
  first | refine g_call Tk Tryz.func26 (hck _) rfl rfl rfl rfl rfl ?_ | refine s_callq Tk (fun _ => hck _) rfl rfl rfl ?_
  repeat (first | refine g_cnd Tk Tryz.func26 rfl (fun _ => ?_) (fun h => absurd h (by decide)) | refine g_know Tk Tryz.func26 rfl (fun _ => ?_) (fun h => absurd h (by decide)) | refine s_know Tk (fun _ => ?_) (fun h => absurd h (by decide)) | refine g_cnd Tk Tryz.func26 rfl (fun h => absurd h (by decide)) (fun _ => ?_) | refine g_know Tk Tryz.func26 rfl (fun h => absurd h (by decide)) (fun _ => ?_) | refine s_know Tk (fun h => absurd h (by decide)) (fun _ => ?_) | refine g_cnd Tk Tryz.func26 rfl (fun _ => ?_) (fun h => absurd (show true = false from h) (by decide)) | refine g_know Tk Tryz.func26 rfl (fun _ => ?_) (fun h => absurd (show true = false from h) (by decide)) | refine s_know Tk (fun _ => ?_) (fun h => absurd (show true = false from h) (by decide)) | refine g_cnd Tk Tryz.func26 rfl (fun h => absurd (show false = true from h) (by decide)) (fun _ => ?_) | refine g_know Tk Tryz.func26 rfl (fun h => absurd (show false = true from h) (by decide)) (fun _ => ?_) | refine s_know Tk (fun h => absurd (show false = true from h) (by decide)) (fun _ => ?_))
  first | refine g_call Tk Tryz.func26 (hev _) rfl rfl rfl rfl rfl ?_ | refine s_callq Tk (fun _ => hev _) rfl rfl rfl ?_
  first | refine g_call Tk Tryz.func26 (hcl _) rfl rfl rfl rfl rfl ?_ | refine s_callq Tk (fun _ => hcl _) rfl rfl rfl ?_
  first | refine g_cnd Tk Tryz.func26 rfl (fun g1 => ?_) (fun g1 => ?_) | refine g_know Tk Tryz.func26 rfl (fun g1 => ?_) (fun g1 => ?_) | refine s_know Tk (fun g1 => ?_) (fun g1 => ?_)
  · have g1 : ev ∉ E1 := by simpa using g1
    simp only [g1, not_false_eq_true, if_true]
    refine g_ret_co Tk (r := _) rfl rfl rfl trivial rfl rfl ?_
    exact coZO
  have g1 : ev ∈ E1 := by simpa using g1
  simp only [g1, not_true_eq_false, if_false]
  first | refine g_call Tk Tryz.func26 (hst _) rfl rfl rfl rfl rfl ?_ | refine s_callq Tk (fun _ => hst _) rfl rfl rfl ?_
  refine g_ret_co Tk (r := _) rfl rfl rfl trivial rfl rfl ?_
  exact CoD.refl _
end Go.AI
