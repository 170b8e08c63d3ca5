/- The layer of abstract runs, part 43. -/
import Derived.Test.YtonnakcgopcfnaaDoorPlumZP
set_option linter.unusedSimpArgs false
set_option linter.unusedVariables false
set_option linter.all false

/- GuardWeakest. -/
namespace Go.AI
open Go.Proofs
set_option maxRecDepth 20000
theorem weakR_small {l : List Vr} (h : small l) (us : List Upd) (t : List Bool) : weakR l us t = if updErr l.length none us ≠ 0 then ([], updErr l.length none us) else if t.length ≠ (allV l).length then ([], 4) else ((allV l).map (weakB l us t), 0) := by
  unfold weakR
  rw [h.all]
  simp
theorem coUpd (n : Int) (us : List Upd) : CoD (.i (.sl 5 (0 + 1 + us.length) ([[vi n, vi 0, vi 0, vi 0, .v (.slice none 0 0)]] ++ us.map updI))) (upds (⟨n, zeroE⟩ :: us)) := by
  rw [show 0 + 1 + us.length = us.length + 1 by omega]
  show CoD _ (.i (.sl 5 (us.length + 1) ([vi n, vi 0, vi 0, vi 0, .sl 4 0 []] :: us.map updI)))
  refine coD_i (coI_sl (.cons ?_ (CoLL.refl _)))
  repeat' (first | refine coD_tup ?_ | refine coD_agg ?_ | refine coD_i ?_ | refine CoDL.cons ?_ ?_ | exact CoDL.nil | exact coI_nil | refine coI_sl ?_ | refine CoLL.cons ?_ ?_ | exact CoLL.nil | refine CoL.cons ?_ ?_ | exact CoL.nil | exact CoI.refl _ | exact CoL.refl _ | exact CoLL.refl _ | exact CoDL.refl _ | exact CoD.refl _)
set_option maxHeartbeats 4000000 in
theorem guardWeakest10 {g : Nat} (hg : IsTab g) {ty : TypeId} {fr : Nat × Nat} (O : List Heap) (r : List (Int × Int)) (c : Chg) (o : Int) (hr : r.length ≤ max63) (hp : ∀ p ∈ r, pairOk p) (hc : chgOk c) (hcn : c.n < 18446744073709551616) (ho : 0 ≤ o ∧ o < 18446744073709551616) : ASpecT g (ptab ty fr) Tryd.prog 10 [r8s r, chgD c, u64D o] O (bb true) [] O := by
  have hkn := fun O => known15 hg (ty := ty) (fr := fr) O
  have hrg := fun O => ranges45 O r hr hp
  have hs := rngs_small hp
  generalize rngsR r = l at *
  have hl3 := hs.len
  have hmx := hs.max
  have hmost := hs.most
  have hpos := hs.pos
  have hdm := fun O => domain17 O l hs.dom.len hs.dom.b hs.dom.cnt
  have hu45 := fun O => updates45 O c l hl3 hc
  have hok := chgU_ok hc hl3
  have hul := chgU_len c l.length l.length
  have hb1 := fun O => bits18 O c.n (allV l).length hc.hn hmost
  have hb2 := fun O => bits18 O o (allV l).length ho.1 hmost
  have hb3 := fun O => bits18 O (bits .and .u64 c.n o) (allV l).length (and_pos ⟨hc.hn, hcn⟩ ho) hmost
  generalize chgU c l.length l.length = us at *
  obtain ⟨hu0, hu5, hux⟩ := hok
  have huv := updErr_ok hu0
  have hw := fun O t => weakest46 O l us t hmx.1 hmx.2 (by simp only [max63]; omega) hux
  have hw2 := fun O t => weakest46 O l (⟨l.length, zeroE⟩ :: us) t hmx.1 hmx.2 (by simp only [max63, List.length_cons]; omega) (fun u hu => by
    rcases List.mem_cons.1 hu with rfl | hu
    · exact exOk_leaf _ _ _
    · exact hux u hu)
  have hw3 := fun O t => weakest46 O l (us ++ us) t hmx.1 hmx.2 (by simp only [max63, List.length_append]; omega) (fun u hu => by
    rcases List.mem_append.1 hu with hu | hu
    · exact hux u hu
    · exact hux u hu)
  have hlaw := fun O t ht p hp => weakest47 O l us t (allV l) p hp (by omega) (fun v hv => allV_mem_len hv) (by omega) ht (by omega) (fun u hu => ⟨hux u hu, huv u hu⟩)
  simp only [weakR_small hs, hu0] at hw hw2 hw3
  have he2 : updErr l.length none (⟨l.length, zeroE⟩ :: us) = 2 := by simp [updErr]
  simp only [he2] at hw2
  have l1 := bitsR_len c.n (allV l).length
  have l2 := bitsR_len o (allV l).length
  have l3 := bitsR_len (bits .and .u64 c.n o) (allV l).length
  have hand : ∀ (i : Nat) (h : i < (allV l).length), weakB l us (bitsR (bits .and .u64 c.n o) (allV l).length) (allV l)[i] = (weakB l us (bitsR c.n (allV l).length) (allV l)[i] && weakB l us (bitsR o (allV l).length) (allV l)[i]) := fun i h => weakB_and ((allV_dom l).mem _ |>.1 (List.getElem_mem h)) ⟨hc.hn, hcn⟩ ho
  have hlaw := fun (O : List Heap) (i : Nat) (h : i < (allV l).length) => hlaw O (bitsR c.n (allV l).length) l1 i h
  have hlw : ∀ (i : Nat) (h : i < (allV l).length), lawB l us (bitsR c.n (allV l).length) (allV l) (allV l)[i] = weakB l us (bitsR c.n (allV l).length) (allV l)[i] := fun i h => lawB_weak ((allV_dom l).mem _ |>.1 (List.getElem_mem h))
  simp only [hlw] at hlaw
  have ha := fun O => hw O (bitsR c.n (allV l).length)
  have hb := fun O => hw O (bitsR o (allV l).length)
  have hd := fun O => hw O (bitsR (bits .and .u64 c.n o) (allV l).length)
  have hx := fun O => hw O ((bitsR c.n (allV l).length).drop 1)
  have hy := fun O => hw2 O (bitsR c.n (allV l).length)
  have hz := fun O => hw3 O (bitsR c.n (allV l).length)
  clear hw hw2 hw3 hlw
  have ld : ((bitsR c.n (allV l).length).drop 1).length ≠ (allV l).length := by rw [List.length_drop]; omega
  simp only [l1, l2, l3, ld, ne_eq, not_true_eq_false, if_false, not_false_eq_true, if_true, show ¬ ((2 : Int) = 0) from by decide] at ha hb hd hx hy hz
  generalize bitsR c.n (allV l).length = A at *
  generalize bitsR o (allV l).length = B at *
  generalize bitsR (bits .and .u64 c.n o) (allV l).length = F at *
  generalize allV l = dom at *
  have hA : bools (A.drop 1) = D.i (.sl 1 (A.length - 1) ((A.map fun b => [I.v (.bool b)]).drop 1)) := by
    show D.i (.sl 1 (A.drop 1).length _) = _
    rw [List.length_drop, List.map_drop]
  rw [hA] at hx
  have hy := fun O => (hy O).co (.cons (CoD.refl _) (.cons (coUpd l.length us) (.cons (CoD.refl _) .nil)))
  obtain ⟨c0, c1, c2, cn⟩ := c
  simp only at hb1 hb3 hcn
  refine aspecT_stop [200154, 200165] Tk Tryd.func10 rfl Tryd.call10 Tryd.ntmps10 (Nat.le_of_ble_eq_true rfl) fun E hE => ?_
  refine g_run Tk Tryd.func10 ?_
  refine g_callT Tk Tryd.func10 hE (hkn _) rfl rfl rfl rfl rfl rfl ?_
  repeat (first | refine g_cnd Tk Tryd.func10 rfl (fun _ => ?_) (fun h => absurd h (by decide)) | refine g_know Tk Tryd.func10 rfl (fun _ => ?_) (fun h => absurd h (by decide)) | refine s_know Tk (fun _ => ?_) (fun h => absurd h (by decide)) | refine g_cnd Tk Tryd.func10 rfl (fun h => absurd h (by decide)) (fun _ => ?_) | refine g_know Tk Tryd.func10 rfl (fun h => absurd h (by decide)) (fun _ => ?_) | refine s_know Tk (fun h => absurd h (by decide)) (fun _ => ?_) | refine g_cnd Tk Tryd.func10 rfl (fun _ => ?_) (fun h => absurd (show true = false from h) (by decide)) | refine g_know Tk Tryd.func10 rfl (fun _ => ?_) (fun h => absurd (show true = false from h) (by decide)) | refine s_know Tk (fun _ => ?_) (fun h => absurd (show true = false from h) (by decide)) | refine g_cnd Tk Tryd.func10 rfl (fun h => absurd (show false = true from h) (by decide)) (fun _ => ?_) | refine g_know Tk Tryd.func10 rfl (fun h => absurd (show false = true from h) (by decide)) (fun _ => ?_) | refine s_know Tk (fun h => absurd (show false = true from h) (by decide)) (fun _ => ?_))
  first | refine g_call Tk Tryd.func10 (hrg _) rfl rfl rfl rfl rfl ?_ | refine s_callq Tk (fun _ => hrg _) rfl rfl rfl ?_
  first | refine g_call Tk Tryd.func10 (hu45 _) rfl rfl rfl rfl rfl ?_ | refine s_callq Tk (fun _ => hu45 _) rfl rfl rfl ?_
  first | refine g_call Tk Tryd.func10 (hdm _) rfl rfl rfl rfl rfl ?_ | refine s_callq Tk (fun _ => hdm _) rfl rfl rfl ?_
  first | refine g_call Tk Tryd.func10 (hb1 _) rfl rfl rfl rfl rfl ?_ | refine s_callq Tk (fun _ => hb1 _) rfl rfl rfl ?_
  first | refine g_call Tk Tryd.func10 (hb2 _) rfl rfl rfl rfl rfl ?_ | refine s_callq Tk (fun _ => hb2 _) rfl rfl rfl ?_
  first | refine g_call Tk Tryd.func10 (hb3 _) rfl rfl rfl rfl rfl ?_ | refine s_callq Tk (fun _ => hb3 _) rfl rfl rfl ?_
  first | refine g_call Tk Tryd.func10 (ha _) rfl rfl rfl rfl rfl ?_ | refine s_callq Tk (fun _ => ha _) rfl rfl rfl ?_
  first | refine g_call Tk Tryd.func10 (hb _) rfl rfl rfl rfl rfl ?_ | refine s_callq Tk (fun _ => hb _) rfl rfl rfl ?_
  first | refine g_call Tk Tryd.func10 (hd _) rfl rfl rfl rfl rfl ?_ | refine s_callq Tk (fun _ => hd _) rfl rfl rfl ?_
  repeat (first | refine g_cnd Tk Tryd.func10 rfl (fun _ => ?_) (fun h => absurd h (by decide)) | refine g_know Tk Tryd.func10 rfl (fun _ => ?_) (fun h => absurd h (by decide)) | refine s_know Tk (fun _ => ?_) (fun h => absurd h (by decide)) | refine g_cnd Tk Tryd.func10 rfl (fun h => absurd h (by decide)) (fun _ => ?_) | refine g_know Tk Tryd.func10 rfl (fun h => absurd h (by decide)) (fun _ => ?_) | refine s_know Tk (fun h => absurd h (by decide)) (fun _ => ?_) | refine g_cnd Tk Tryd.func10 rfl (fun _ => ?_) (fun h => absurd (show true = false from h) (by decide)) | refine g_know Tk Tryd.func10 rfl (fun _ => ?_) (fun h => absurd (show true = false from h) (by decide)) | refine s_know Tk (fun _ => ?_) (fun h => absurd (show true = false from h) (by decide)) | refine g_cnd Tk Tryd.func10 rfl (fun h => absurd (show false = true from h) (by decide)) (fun _ => ?_) | refine g_know Tk Tryd.func10 rfl (fun h => absurd (show false = true from h) (by decide)) (fun _ => ?_) | refine s_know Tk (fun h => absurd (show false = true from h) (by decide)) (fun _ => ?_))
  first | refine g_cnd Tk Tryd.func10 rfl (fun g1 => ?_) (fun g1 => ?_) | refine g_know Tk Tryd.func10 rfl (fun g1 => ?_) (fun g1 => ?_) | refine s_know Tk (fun g1 => ?_) (fun g1 => ?_)
  · exact absurd (bneT g1) (by simp)
  first | refine g_cnd Tk Tryd.func10 rfl (fun g2 => ?_) (fun g2 => ?_) | refine g_know Tk Tryd.func10 rfl (fun g2 => ?_) (fun g2 => ?_) | refine s_know Tk (fun g2 => ?_) (fun g2 => ?_)
  · exact absurd (bneT g2) (by simp)
  first | refine g_cnd Tk Tryd.func10 rfl (fun g3 => ?_) (fun g3 => ?_) | refine g_know Tk Tryd.func10 rfl (fun g3 => ?_) (fun g3 => ?_) | refine s_know Tk (fun g3 => ?_) (fun g3 => ?_)
  · exact absurd (bneT g3) (by simp)
  clear g1 g2 g3
  have w1 : ∀ (i : Nat) (h : i < dom.length), ((dom.map (weakB l us A)).map fun x => [I.v (.bool x)])[(i : Int).toNat]? = some [I.v (.bool (weakB l us A dom[i]))] := fun i h => by simp [h]
  have w2 : ∀ (i : Nat) (h : i < dom.length), ((dom.map (weakB l us B)).map fun x => [I.v (.bool x)])[(i : Int).toNat]? = some [I.v (.bool (weakB l us B dom[i]))] := fun i h => by simp [h]
  have w3 : ∀ (i : Nat) (h : i < dom.length), ((dom.map (weakB l us F)).map fun x => [I.v (.bool x)])[(i : Int).toNat]? = some [I.v (.bool (weakB l us A dom[i] && weakB l us B dom[i]))] := fun i h => by rw [← hand i h]; simp [h]
  have m1 : (dom.map (weakB l us A)).length = dom.length := by simp
  have m2 : (dom.map (weakB l us B)).length = dom.length := by simp
  have m3 : (dom.map (weakB l us F)).length = dom.length := by simp
  refine g_loop ?_
  refine rch_loop2 (fun i : Nat => [(7, vrs l), (8, upds us), (9, intss dom), (10, bools A), (13, bools (dom.map (weakB l us A))), (15, bools (dom.map (weakB l us B))), (17, bools (dom.map (weakB l us F))), (19, ii i)]) (fun _ => []) (fun _ => O) 205
    (fun i => i ≤ dom.length) (fun i => dom.length - i) 0 (Nat.zero_le _) ⟨rfl, rfl, rfl, rfl, rfl, rfl, rfl, rfl, trivial⟩ rfl trivial rfl rfl ?_
  intro i hi ih
  refine g_run Tk Tryd.func10 ?_
  first | refine g_cnd Tk Tryd.func10 rfl (fun g1 => ?_) (fun g1 => ?_) | refine g_know Tk Tryd.func10 rfl (fun g1 => ?_) (fun g1 => ?_) | refine s_know Tk (fun g1 => ?_) (fun g1 => ?_)
  · have h4 : i < dom.length := by simpa using g1
    clear g1
    have v1 := w1 i h4
    have v2 := w2 i h4
    have v3 := w3 i h4
    have hlaw := fun O => hlaw O i h4
    have hi1 : ii (IntKind.i64.wrap ((i : Int) + 1)) = ii ((i + 1 : Nat) : Int) := congrArg ii (wsucc (n := 4096) (by omega) (by decide))
    have n1 : 0 ≤ (i : Int) ∧ (i : Int) < ((dom.map (weakB l us A)).length : Int) := by omega
    have n2 : 0 ≤ (i : Int) ∧ (i : Int) < ((dom.map (weakB l us B)).length : Int) := by omega
    have n3 : 0 ≤ (i : Int) ∧ (i : Int) < ((dom.map (weakB l us F)).length : Int) := by omega
    clear hand w1 w2 w3
    generalize weakB l us A dom[i] = p at *
    generalize weakB l us B dom[i] = q at *
    refine g_drawn Tk Tryd.func10 mixedT rfl ?_
    first | refine g_need Tk Tryd.func10 (n1) ?_ | refine s_need Tk (n1) ?_
    first | refine g_elem Tk Tryd.func10 (v1) ?_ | refine s_elem Tk (v1) ?_
    first | refine g_call Tk Tryd.func10 (hlaw _) rfl rfl rfl rfl rfl ?_ | refine s_callq Tk (fun _ => hlaw _) rfl rfl rfl ?_
    cases p with
    | false =>
      repeat (first | refine g_cnd Tk Tryd.func10 rfl (fun _ => ?_) (fun h => absurd h (by decide)) | refine g_know Tk Tryd.func10 rfl (fun _ => ?_) (fun h => absurd h (by decide)) | refine s_know Tk (fun _ => ?_) (fun h => absurd h (by decide)) | refine g_cnd Tk Tryd.func10 rfl (fun h => absurd h (by decide)) (fun _ => ?_) | refine g_know Tk Tryd.func10 rfl (fun h => absurd h (by decide)) (fun _ => ?_) | refine s_know Tk (fun h => absurd h (by decide)) (fun _ => ?_) | refine g_cnd Tk Tryd.func10 rfl (fun _ => ?_) (fun h => absurd (show true = false from h) (by decide)) | refine g_know Tk Tryd.func10 rfl (fun _ => ?_) (fun h => absurd (show true = false from h) (by decide)) | refine s_know Tk (fun _ => ?_) (fun h => absurd (show true = false from h) (by decide)) | refine g_cnd Tk Tryd.func10 rfl (fun h => absurd (show false = true from h) (by decide)) (fun _ => ?_) | refine g_know Tk Tryd.func10 rfl (fun h => absurd (show false = true from h) (by decide)) (fun _ => ?_) | refine s_know Tk (fun h => absurd (show false = true from h) (by decide)) (fun _ => ?_))
      first | refine g_need Tk Tryd.func10 (n3) ?_ | refine s_need Tk (n3) ?_
      first | refine g_elem Tk Tryd.func10 (v3) ?_ | refine s_elem Tk (v3) ?_
      first | refine g_need Tk Tryd.func10 (n1) ?_ | refine s_need Tk (n1) ?_
      first | refine g_elem Tk Tryd.func10 (v1) ?_ | refine s_elem Tk (v1) ?_
      repeat (first | refine g_cnd Tk Tryd.func10 rfl (fun _ => ?_) (fun h => absurd h (by decide)) | refine g_know Tk Tryd.func10 rfl (fun _ => ?_) (fun h => absurd h (by decide)) | refine s_know Tk (fun _ => ?_) (fun h => absurd h (by decide)) | refine g_cnd Tk Tryd.func10 rfl (fun h => absurd h (by decide)) (fun _ => ?_) | refine g_know Tk Tryd.func10 rfl (fun h => absurd h (by decide)) (fun _ => ?_) | refine s_know Tk (fun h => absurd h (by decide)) (fun _ => ?_) | refine g_cnd Tk Tryd.func10 rfl (fun _ => ?_) (fun h => absurd (show true = false from h) (by decide)) | refine g_know Tk Tryd.func10 rfl (fun _ => ?_) (fun h => absurd (show true = false from h) (by decide)) | refine s_know Tk (fun _ => ?_) (fun h => absurd (show true = false from h) (by decide)) | refine g_cnd Tk Tryd.func10 rfl (fun h => absurd (show false = true from h) (by decide)) (fun _ => ?_) | refine g_know Tk Tryd.func10 rfl (fun h => absurd (show false = true from h) (by decide)) (fun _ => ?_) | refine s_know Tk (fun h => absurd (show false = true from h) (by decide)) (fun _ => ?_))
      refine e_done Tk Tryd.func10 (by kernel_rfl) ?_
      repeat (first | refine g_cnd Tk Tryd.func10 rfl (fun _ => ?_) (fun h => absurd h (by decide)) | refine g_know Tk Tryd.func10 rfl (fun _ => ?_) (fun h => absurd h (by decide)) | refine s_know Tk (fun _ => ?_) (fun h => absurd h (by decide)) | refine g_cnd Tk Tryd.func10 rfl (fun h => absurd h (by decide)) (fun _ => ?_) | refine g_know Tk Tryd.func10 rfl (fun h => absurd h (by decide)) (fun _ => ?_) | refine s_know Tk (fun h => absurd h (by decide)) (fun _ => ?_) | refine g_cnd Tk Tryd.func10 rfl (fun _ => ?_) (fun h => absurd (show true = false from h) (by decide)) | refine g_know Tk Tryd.func10 rfl (fun _ => ?_) (fun h => absurd (show true = false from h) (by decide)) | refine s_know Tk (fun _ => ?_) (fun h => absurd (show true = false from h) (by decide)) | refine g_cnd Tk Tryd.func10 rfl (fun h => absurd (show false = true from h) (by decide)) (fun _ => ?_) | refine g_know Tk Tryd.func10 rfl (fun h => absurd (show false = true from h) (by decide)) (fun _ => ?_) | refine s_know Tk (fun h => absurd (show false = true from h) (by decide)) (fun _ => ?_))
      refine g_loop ?_
      exact ih (i + 1) _ _ h4 (by omega) ⟨rfl, rfl, rfl, rfl, rfl, rfl, rfl, hi1, trivial⟩ rfl trivial rfl rfl
    | true =>
      repeat (first | refine g_cnd Tk Tryd.func10 rfl (fun _ => ?_) (fun h => absurd h (by decide)) | refine g_know Tk Tryd.func10 rfl (fun _ => ?_) (fun h => absurd h (by decide)) | refine s_know Tk (fun _ => ?_) (fun h => absurd h (by decide)) | refine g_cnd Tk Tryd.func10 rfl (fun h => absurd h (by decide)) (fun _ => ?_) | refine g_know Tk Tryd.func10 rfl (fun h => absurd h (by decide)) (fun _ => ?_) | refine s_know Tk (fun h => absurd h (by decide)) (fun _ => ?_) | refine g_cnd Tk Tryd.func10 rfl (fun _ => ?_) (fun h => absurd (show true = false from h) (by decide)) | refine g_know Tk Tryd.func10 rfl (fun _ => ?_) (fun h => absurd (show true = false from h) (by decide)) | refine s_know Tk (fun _ => ?_) (fun h => absurd (show true = false from h) (by decide)) | refine g_cnd Tk Tryd.func10 rfl (fun h => absurd (show false = true from h) (by decide)) (fun _ => ?_) | refine g_know Tk Tryd.func10 rfl (fun h => absurd (show false = true from h) (by decide)) (fun _ => ?_) | refine s_know Tk (fun h => absurd (show false = true from h) (by decide)) (fun _ => ?_))
      first | refine g_need Tk Tryd.func10 (n3) ?_ | refine s_need Tk (n3) ?_
      first | refine g_elem Tk Tryd.func10 (v3) ?_ | refine s_elem Tk (v3) ?_
      first | refine g_need Tk Tryd.func10 (n1) ?_ | refine s_need Tk (n1) ?_
      first | refine g_elem Tk Tryd.func10 (v1) ?_ | refine s_elem Tk (v1) ?_
      repeat (first | refine g_cnd Tk Tryd.func10 rfl (fun _ => ?_) (fun h => absurd h (by decide)) | refine g_know Tk Tryd.func10 rfl (fun _ => ?_) (fun h => absurd h (by decide)) | refine s_know Tk (fun _ => ?_) (fun h => absurd h (by decide)) | refine g_cnd Tk Tryd.func10 rfl (fun h => absurd h (by decide)) (fun _ => ?_) | refine g_know Tk Tryd.func10 rfl (fun h => absurd h (by decide)) (fun _ => ?_) | refine s_know Tk (fun h => absurd h (by decide)) (fun _ => ?_) | refine g_cnd Tk Tryd.func10 rfl (fun _ => ?_) (fun h => absurd (show true = false from h) (by decide)) | refine g_know Tk Tryd.func10 rfl (fun _ => ?_) (fun h => absurd (show true = false from h) (by decide)) | refine s_know Tk (fun _ => ?_) (fun h => absurd (show true = false from h) (by decide)) | refine g_cnd Tk Tryd.func10 rfl (fun h => absurd (show false = true from h) (by decide)) (fun _ => ?_) | refine g_know Tk Tryd.func10 rfl (fun h => absurd (show false = true from h) (by decide)) (fun _ => ?_) | refine s_know Tk (fun h => absurd (show false = true from h) (by decide)) (fun _ => ?_))
      first | refine g_need Tk Tryd.func10 (n2) ?_ | refine s_need Tk (n2) ?_
      first | refine g_elem Tk Tryd.func10 (v2) ?_ | refine s_elem Tk (v2) ?_
      cases q with
      | false =>
        repeat (first | refine g_cnd Tk Tryd.func10 rfl (fun _ => ?_) (fun h => absurd h (by decide)) | refine g_know Tk Tryd.func10 rfl (fun _ => ?_) (fun h => absurd h (by decide)) | refine s_know Tk (fun _ => ?_) (fun h => absurd h (by decide)) | refine g_cnd Tk Tryd.func10 rfl (fun h => absurd h (by decide)) (fun _ => ?_) | refine g_know Tk Tryd.func10 rfl (fun h => absurd h (by decide)) (fun _ => ?_) | refine s_know Tk (fun h => absurd h (by decide)) (fun _ => ?_) | refine g_cnd Tk Tryd.func10 rfl (fun _ => ?_) (fun h => absurd (show true = false from h) (by decide)) | refine g_know Tk Tryd.func10 rfl (fun _ => ?_) (fun h => absurd (show true = false from h) (by decide)) | refine s_know Tk (fun _ => ?_) (fun h => absurd (show true = false from h) (by decide)) | refine g_cnd Tk Tryd.func10 rfl (fun h => absurd (show false = true from h) (by decide)) (fun _ => ?_) | refine g_know Tk Tryd.func10 rfl (fun h => absurd (show false = true from h) (by decide)) (fun _ => ?_) | refine s_know Tk (fun h => absurd (show false = true from h) (by decide)) (fun _ => ?_))
        refine e_done Tk Tryd.func10 (by kernel_rfl) ?_
        repeat (first | refine g_cnd Tk Tryd.func10 rfl (fun _ => ?_) (fun h => absurd h (by decide)) | refine g_know Tk Tryd.func10 rfl (fun _ => ?_) (fun h => absurd h (by decide)) | refine s_know Tk (fun _ => ?_) (fun h => absurd h (by decide)) | refine g_cnd Tk Tryd.func10 rfl (fun h => absurd h (by decide)) (fun _ => ?_) | refine g_know Tk Tryd.func10 rfl (fun h => absurd h (by decide)) (fun _ => ?_) | refine s_know Tk (fun h => absurd h (by decide)) (fun _ => ?_) | refine g_cnd Tk Tryd.func10 rfl (fun _ => ?_) (fun h => absurd (show true = false from h) (by decide)) | refine g_know Tk Tryd.func10 rfl (fun _ => ?_) (fun h => absurd (show true = false from h) (by decide)) | refine s_know Tk (fun _ => ?_) (fun h => absurd (show true = false from h) (by decide)) | refine g_cnd Tk Tryd.func10 rfl (fun h => absurd (show false = true from h) (by decide)) (fun _ => ?_) | refine g_know Tk Tryd.func10 rfl (fun h => absurd (show false = true from h) (by decide)) (fun _ => ?_) | refine s_know Tk (fun h => absurd (show false = true from h) (by decide)) (fun _ => ?_))
        refine g_loop ?_
        exact ih (i + 1) _ _ h4 (by omega) ⟨rfl, rfl, rfl, rfl, rfl, rfl, rfl, hi1, trivial⟩ rfl trivial rfl rfl
      | true =>
        repeat (first | refine g_cnd Tk Tryd.func10 rfl (fun _ => ?_) (fun h => absurd h (by decide)) | refine g_know Tk Tryd.func10 rfl (fun _ => ?_) (fun h => absurd h (by decide)) | refine s_know Tk (fun _ => ?_) (fun h => absurd h (by decide)) | refine g_cnd Tk Tryd.func10 rfl (fun h => absurd h (by decide)) (fun _ => ?_) | refine g_know Tk Tryd.func10 rfl (fun h => absurd h (by decide)) (fun _ => ?_) | refine s_know Tk (fun h => absurd h (by decide)) (fun _ => ?_) | refine g_cnd Tk Tryd.func10 rfl (fun _ => ?_) (fun h => absurd (show true = false from h) (by decide)) | refine g_know Tk Tryd.func10 rfl (fun _ => ?_) (fun h => absurd (show true = false from h) (by decide)) | refine s_know Tk (fun _ => ?_) (fun h => absurd (show true = false from h) (by decide)) | refine g_cnd Tk Tryd.func10 rfl (fun h => absurd (show false = true from h) (by decide)) (fun _ => ?_) | refine g_know Tk Tryd.func10 rfl (fun h => absurd (show false = true from h) (by decide)) (fun _ => ?_) | refine s_know Tk (fun h => absurd (show false = true from h) (by decide)) (fun _ => ?_))
        refine e_done Tk Tryd.func10 (by kernel_rfl) ?_
        repeat (first | refine g_cnd Tk Tryd.func10 rfl (fun _ => ?_) (fun h => absurd h (by decide)) | refine g_know Tk Tryd.func10 rfl (fun _ => ?_) (fun h => absurd h (by decide)) | refine s_know Tk (fun _ => ?_) (fun h => absurd h (by decide)) | refine g_cnd Tk Tryd.func10 rfl (fun h => absurd h (by decide)) (fun _ => ?_) | refine g_know Tk Tryd.func10 rfl (fun h => absurd h (by decide)) (fun _ => ?_) | refine s_know Tk (fun h => absurd h (by decide)) (fun _ => ?_) | refine g_cnd Tk Tryd.func10 rfl (fun _ => ?_) (fun h => absurd (show true = false from h) (by decide)) | refine g_know Tk Tryd.func10 rfl (fun _ => ?_) (fun h => absurd (show true = false from h) (by decide)) | refine s_know Tk (fun _ => ?_) (fun h => absurd (show true = false from h) (by decide)) | refine g_cnd Tk Tryd.func10 rfl (fun h => absurd (show false = true from h) (by decide)) (fun _ => ?_) | refine g_know Tk Tryd.func10 rfl (fun h => absurd (show false = true from h) (by decide)) (fun _ => ?_) | refine s_know Tk (fun h => absurd (show false = true from h) (by decide)) (fun _ => ?_))
        refine g_loop ?_
        exact ih (i + 1) _ _ h4 (by omega) ⟨rfl, rfl, rfl, rfl, rfl, rfl, rfl, hi1, trivial⟩ rfl trivial rfl rfl
  · clear ih w1 w2 w3 hand hlaw
    first | refine g_need Tk Tryd.func10 (by exact ⟨by decide, by show (1 : Int) ≤ (A.length : Int); omega⟩) ?_ | refine s_need Tk (by exact ⟨by decide, by show (1 : Int) ≤ (A.length : Int); omega⟩) ?_
    first | refine g_call Tk Tryd.func10 (hx _) rfl rfl rfl rfl rfl ?_ | refine s_callq Tk (fun _ => hx _) rfl rfl rfl ?_
    first | refine g_need Tk Tryd.func10 (by exact ⟨by show (0 + 1 + us.length) * 56 ≤ 140737488355328; omega, by show 0 + 1 + us.length ≤ 9223372036854775807; omega⟩) ?_ | refine s_need Tk (by exact ⟨by show (0 + 1 + us.length) * 56 ≤ 140737488355328; omega, by show 0 + 1 + us.length ≤ 9223372036854775807; omega⟩) ?_
    refine g_pause Tk Tryd.func10 rfl rfl (Wk.trans (wk_freeze 152 rfl rfl) (wk_imm rfl)) ?_
    first | refine g_call Tk Tryd.func10 (hy _) rfl rfl rfl rfl rfl ?_ | refine s_callq Tk (fun _ => hy _) rfl rfl rfl ?_
    first | refine g_need Tk Tryd.func10 (by exact ⟨by show (0 + us.length) * 56 ≤ 140737488355328; omega, by show 0 + us.length ≤ 9223372036854775807; omega⟩) ?_ | refine s_need Tk (by exact ⟨by show (0 + us.length) * 56 ≤ 140737488355328; omega, by show 0 + us.length ≤ 9223372036854775807; omega⟩) ?_
    first | refine g_need Tk Tryd.func10 (by exact ⟨by show (0 + us.length + us.length) * 56 ≤ 140737488355328; omega, by show 0 + us.length + us.length ≤ 9223372036854775807; omega⟩) ?_ | refine s_need Tk (by exact ⟨by show (0 + us.length + us.length) * 56 ≤ 140737488355328; omega, by show 0 + us.length + us.length ≤ 9223372036854775807; omega⟩) ?_
    refine g_pause Tk Tryd.func10 rfl rfl (Wk.trans (wk_freeze 163 rfl rfl) (wk_imm rfl)) ?_
    have e6 : upds (us ++ us) = D.i (.sl 5 (0 + us.length + us.length) ([] ++ us.map updI ++ us.map updI)) := by
      show D.i (.sl 5 (us ++ us).length ((us ++ us).map updI)) = _
      rw [List.length_append, List.map_append, Nat.zero_add, List.nil_append]
    rw [e6] at hz
    by_cases hus : us = []
    · subst hus
      have e7 : updErr l.length none ([] ++ []) = 0 := hu0
      simp only [e7, not_true_eq_false, if_false] at hz
      first | refine g_call Tk Tryd.func10 (hz _) rfl rfl rfl rfl rfl ?_ | refine s_callq Tk (fun _ => hz _) rfl rfl rfl ?_
      repeat (first | refine g_cnd Tk Tryd.func10 rfl (fun _ => ?_) (fun h => absurd h (by decide)) | refine g_know Tk Tryd.func10 rfl (fun _ => ?_) (fun h => absurd h (by decide)) | refine s_know Tk (fun _ => ?_) (fun h => absurd h (by decide)) | refine g_cnd Tk Tryd.func10 rfl (fun h => absurd h (by decide)) (fun _ => ?_) | refine g_know Tk Tryd.func10 rfl (fun h => absurd h (by decide)) (fun _ => ?_) | refine s_know Tk (fun h => absurd h (by decide)) (fun _ => ?_) | refine g_cnd Tk Tryd.func10 rfl (fun _ => ?_) (fun h => absurd (show true = false from h) (by decide)) | refine g_know Tk Tryd.func10 rfl (fun _ => ?_) (fun h => absurd (show true = false from h) (by decide)) | refine s_know Tk (fun _ => ?_) (fun h => absurd (show true = false from h) (by decide)) | refine g_cnd Tk Tryd.func10 rfl (fun h => absurd (show false = true from h) (by decide)) (fun _ => ?_) | refine g_know Tk Tryd.func10 rfl (fun h => absurd (show false = true from h) (by decide)) (fun _ => ?_) | refine s_know Tk (fun h => absurd (show false = true from h) (by decide)) (fun _ => ?_))
      refine g_ret Tk (r := bb true) rfl rfl rfl trivial rfl rfl ?_
      rfl
    · have e7 := hu5 hus
      simp only [e7, show ¬ ((5 : Int) = 0) from by decide, not_false_eq_true, if_true] at hz
      have hpos2 : 0 < us.length := List.length_pos_iff.2 hus
      first | refine g_call Tk Tryd.func10 (hz _) rfl rfl rfl rfl rfl ?_ | refine s_callq Tk (fun _ => hz _) rfl rfl rfl ?_
      repeat (first | refine g_cnd Tk Tryd.func10 rfl (fun _ => ?_) (fun h => absurd h (by decide)) | refine g_know Tk Tryd.func10 rfl (fun _ => ?_) (fun h => absurd h (by decide)) | refine s_know Tk (fun _ => ?_) (fun h => absurd h (by decide)) | refine g_cnd Tk Tryd.func10 rfl (fun h => absurd h (by decide)) (fun _ => ?_) | refine g_know Tk Tryd.func10 rfl (fun h => absurd h (by decide)) (fun _ => ?_) | refine s_know Tk (fun h => absurd h (by decide)) (fun _ => ?_) | refine g_cnd Tk Tryd.func10 rfl (fun _ => ?_) (fun h => absurd (show true = false from h) (by decide)) | refine g_know Tk Tryd.func10 rfl (fun _ => ?_) (fun h => absurd (show true = false from h) (by decide)) | refine s_know Tk (fun _ => ?_) (fun h => absurd (show true = false from h) (by decide)) | refine g_cnd Tk Tryd.func10 rfl (fun h => absurd (show false = true from h) (by decide)) (fun _ => ?_) | refine g_know Tk Tryd.func10 rfl (fun h => absurd (show false = true from h) (by decide)) (fun _ => ?_) | refine s_know Tk (fun h => absurd (show false = true from h) (by decide)) (fun _ => ?_))
      first | refine g_cnd Tk Tryd.func10 rfl (fun g4 => ?_) (fun g4 => ?_) | refine g_know Tk Tryd.func10 rfl (fun g4 => ?_) (fun g4 => ?_) | refine s_know Tk (fun g4 => ?_) (fun g4 => ?_)
      · have := beqT g4
        omega
      repeat (first | refine g_cnd Tk Tryd.func10 rfl (fun _ => ?_) (fun h => absurd h (by decide)) | refine g_know Tk Tryd.func10 rfl (fun _ => ?_) (fun h => absurd h (by decide)) | refine s_know Tk (fun _ => ?_) (fun h => absurd h (by decide)) | refine g_cnd Tk Tryd.func10 rfl (fun h => absurd h (by decide)) (fun _ => ?_) | refine g_know Tk Tryd.func10 rfl (fun h => absurd h (by decide)) (fun _ => ?_) | refine s_know Tk (fun h => absurd h (by decide)) (fun _ => ?_) | refine g_cnd Tk Tryd.func10 rfl (fun _ => ?_) (fun h => absurd (show true = false from h) (by decide)) | refine g_know Tk Tryd.func10 rfl (fun _ => ?_) (fun h => absurd (show true = false from h) (by decide)) | refine s_know Tk (fun _ => ?_) (fun h => absurd (show true = false from h) (by decide)) | refine g_cnd Tk Tryd.func10 rfl (fun h => absurd (show false = true from h) (by decide)) (fun _ => ?_) | refine g_know Tk Tryd.func10 rfl (fun h => absurd (show false = true from h) (by decide)) (fun _ => ?_) | refine s_know Tk (fun h => absurd (show false = true from h) (by decide)) (fun _ => ?_))
      first | refine g_cnd Tk Tryd.func10 rfl (fun g5 => ?_) (fun g5 => ?_) | refine g_know Tk Tryd.func10 rfl (fun g5 => ?_) (fun g5 => ?_) | refine s_know Tk (fun g5 => ?_) (fun g5 => ?_)
      rotate_left
      · exact absurd (of_decide_eq_false g5) (by omega)
      repeat (first | refine g_cnd Tk Tryd.func10 rfl (fun _ => ?_) (fun h => absurd h (by decide)) | refine g_know Tk Tryd.func10 rfl (fun _ => ?_) (fun h => absurd h (by decide)) | refine s_know Tk (fun _ => ?_) (fun h => absurd h (by decide)) | refine g_cnd Tk Tryd.func10 rfl (fun h => absurd h (by decide)) (fun _ => ?_) | refine g_know Tk Tryd.func10 rfl (fun h => absurd h (by decide)) (fun _ => ?_) | refine s_know Tk (fun h => absurd h (by decide)) (fun _ => ?_) | refine g_cnd Tk Tryd.func10 rfl (fun _ => ?_) (fun h => absurd (show true = false from h) (by decide)) | refine g_know Tk Tryd.func10 rfl (fun _ => ?_) (fun h => absurd (show true = false from h) (by decide)) | refine s_know Tk (fun _ => ?_) (fun h => absurd (show true = false from h) (by decide)) | refine g_cnd Tk Tryd.func10 rfl (fun h => absurd (show false = true from h) (by decide)) (fun _ => ?_) | refine g_know Tk Tryd.func10 rfl (fun h => absurd (show false = true from h) (by decide)) (fun _ => ?_) | refine s_know Tk (fun h => absurd (show false = true from h) (by decide)) (fun _ => ?_))
      refine g_ret Tk (r := bb true) rfl rfl rfl trivial rfl rfl ?_
      rfl
end Go.AI
