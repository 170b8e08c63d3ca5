/- The layer of abstract runs, part 13. -/
import Derived.Test.YtbknncolmohdlaaDoorLayerL
import Derived.KernelRfl
set_option linter.unusedSimpArgs false
set_option linter.unusedVariables false
set_option linter.all false
namespace Go.AI
open Go.Proofs
set_option maxRecDepth 20000
/-- Back from a place to the start. -/
def back (frm : List (Int × Int)) : Nat → Int × Int → List Int
  | 0, _ => []
  | f + 1, p => if p.1 < 0 then [] else p.2 :: back frm f (frm.getD p.1.toNat (-1, -1))
/-- Fault. -/
def faultR (m : Ext) : List Int × Bool × Int × Int := if chk m ≠ 0 then ([], false, 0, chk m) else match searchR m with
  | none => ([], false, 0, 3)
  | some S => if S.kind = 0 then ([], false, 0, 0) else ((back S.frm 5000 S.flt).reverse, true, S.kind, 0)
/-- Each place was found from an earlier one. -/
structure Linked (S : Srch) : Prop where
  len : S.frm.length = S.sts.length
  frm : ∀ k (h : k < S.frm.length), S.frm[k].1 < k
  flt : S.flt.1 < S.sts.length
  most : S.sts.length ≤ 4096
theorem visit_linked {m : Ext} {i : Nat} {s : Sta} {ev : Int} {S S' : Srch} (h : visit m i s ev S = some S') (hl : Linked S) (hi : i < S.sts.length) : Linked S' ∧ S.sts.length ≤ S'.sts.length := by
  have hlen := visit_len h hl.most
  unfold visit at h
  simp only at h
  generalize hS1 : (if (stepR m s ev).2.2 ≠ 0 ∧ S.kind = 0 then { S with kind := (stepR m s ev).2.2, flt := ((i : Int), ev) } else S) = S1 at h
  have e1 : S1.sts = S.sts := by rw [← hS1]; split <;> rfl
  have e2 : S1.frm = S.frm := by rw [← hS1]; split <;> rfl
  have e3 : S1.flt.1 < S.sts.length := by
    rw [← hS1]
    split
    · simp only; omega
    · exact hl.flt
  split at h
  · simp only [Option.some.injEq] at h
    subst h
    exact ⟨⟨by rw [e1, e2]; exact hl.len, by rw [e2]; exact hl.frm, by rw [e1]; exact e3, by rw [e1]; exact hl.most⟩, by rw [e1]; exact Nat.le_refl _⟩
  · split at h
    · cases h
    · simp only [Option.some.injEq] at h
      subst h
      refine ⟨⟨by simp [e1, e2, hl.len], fun k hk => ?_, by simp only [e1, List.length_append, List.length_cons, List.length_nil]; omega, hlen.1⟩, hlen.2.1⟩
      simp only [e2, List.length_append, List.length_cons, List.length_nil] at hk
      simp only [e2]
      rw [List.getElem_append]
      split
      · rename_i h1; exact hl.frm k h1
      · rename_i h1
        simp only [List.getElem_singleton]
        have := hl.len
        omega
theorem visits_linked {m : Ext} {i : Nat} {s : Sta} : ∀ {l : List Int} {S S' : Srch}, visits m i s l S = some S' → Linked S → i < S.sts.length → Linked S' ∧ S.sts.length ≤ S'.sts.length
  | [], S, S', h, hl, _ => by simp only [visits, Option.some.injEq] at h; subst h; exact ⟨hl, Nat.le_refl _⟩
  | ev :: r, S, S', h, hl, hi => by
    simp only [visits] at h
    cases hv : visit m i s ev S with
    | none => rw [hv] at h; cases h
    | some S1 =>
      rw [hv] at h
      obtain ⟨a, b⟩ := visit_linked hv hl hi
      obtain ⟨c, d⟩ := visits_linked h a (by omega)
      exact ⟨c, by omega⟩
theorem searchL_linked {m : Ext} : ∀ {f i : Nat} {S S' : Srch}, searchL m f i S = some S' → Linked S → Linked S'
  | 0, i, S, S', h, hl => by simp only [searchL, Option.some.injEq] at h; subst h; exact hl
  | f + 1, i, S, S', h, hl => by
    simp only [searchL] at h
    cases hs : S.sts[i]? with
    | none => rw [hs] at h; simp only [Option.some.injEq] at h; subst h; exact hl
    | some s =>
      rw [hs] at h
      simp only at h
      cases hv : visits m i s m.alpha S with
      | none => rw [hv] at h; cases h
      | some S1 =>
        rw [hv] at h
        exact searchL_linked h (visits_linked hv hl (List.getElem?_eq_some_iff.1 hs).1).1
theorem search_linked {m : Ext} {S : Srch} (h : searchR m = some S) : Linked S := by
  refine searchL_linked h ⟨rfl, fun k hk => ?_, by simp [search0], by simp [search0]⟩
  simp only [search0, List.length_cons, List.length_nil] at hk
  have : k = 0 := by omega
  subst this
  simp [search0]
theorem back_fuel {S : Srch} (hl : Linked S) : ∀ (f g : Nat) (p : Int × Int), p.1 < f → p.1 < g → p.1 < S.frm.length → back S.frm (f + 1) p = back S.frm (g + 1) p := by
  intro f
  induction f with
  | zero =>
    intro g p h1 h2 h3
    simp only [back]
    rw [if_pos (by omega), if_pos (by omega)]
  | succ f ih =>
    intro g p h1 h2 h3
    rw [back]
    rw [show back S.frm (g + 1) p = if p.1 < 0 then [] else p.2 :: back S.frm g (S.frm.getD p.1.toNat (-1, -1)) from rfl]
    by_cases hp : p.1 < 0
    · rw [if_pos hp, if_pos hp]
    · rw [if_neg hp, if_neg hp]
      have hk : p.1.toNat < S.frm.length := by omega
      have h4 := hl.frm _ hk
      have e : S.frm.getD p.1.toNat (-1, -1) = S.frm[p.1.toNat] := by rw [List.getD_eq_getElem?_getD, List.getElem?_eq_getElem hk]; rfl
      rw [e]
      obtain ⟨g', rfl⟩ : ∃ g', g = g' + 1 := ⟨g - 1, by omega⟩
      rw [ih g' _ (by omega) (by omega) (by omega)]
theorem back_step {S : Srch} (hl : Linked S) {p : Int × Int} (h0 : 0 ≤ p.1) (h1 : p.1 < S.frm.length) :
    back S.frm ((p.1 + 1).toNat + 1) p = p.2 :: back S.frm (((S.frm[p.1.toNat]'(by omega)).1 + 1).toNat + 1) (S.frm[p.1.toNat]'(by omega)) := by
  have hk : p.1.toNat < S.frm.length := by omega
  have h4 := hl.frm _ hk
  rw [back, if_neg (by omega)]
  have e : S.frm.getD p.1.toNat (-1, -1) = S.frm[p.1.toNat] := by rw [List.getD_eq_getElem?_getD, List.getElem?_eq_getElem hk]; rfl
  rw [e, show (p.1 + 1).toNat = p.1.toNat + 1 by omega]
  rw [back_fuel hl p.1.toNat ((S.frm[p.1.toNat].1 + 1).toNat) _ (by omega) (by omega) (by omega)]
theorem fault15 {g : Nat} (hg : IsTab g) {ty : TypeId} {fr : Nat × Nat} (O : List Heap) (m : Ext) (hok : extOk m) : ASpecT g (ptab ty fr) Tryd.prog 15 [extD m] O (.tup [ints (faultR m).1, bb (faultR m).2.1, ii (faultR m).2.2.1, ii (faultR m).2.2.2]) [] O := by
  generalize hR : faultR m = R
  unfold faultR at hR
  refine aspecT_stop [12] TrydT_ok Tryd.func15 rfl Tryd.call15 Tryd.ntmps15 (Nat.le_of_ble_eq_true rfl) fun E hE => ?_
  refine g_run TrydT_ok Tryd.func15 ?_
  first | refine g_call TrydT_ok Tryd.func15 (check40 _ m hok) rfl rfl rfl rfl rfl ?_ | refine s_callq TrydT_ok (fun _ => check40 _ m hok) rfl rfl rfl ?_
  first | refine g_cnd TrydT_ok Tryd.func15 rfl (fun h1 => ?_) (fun h1 => ?_) | refine g_know TrydT_ok Tryd.func15 rfl (fun h1 => ?_) (fun h1 => ?_) | refine s_know TrydT_ok (fun h1 => ?_) (fun h1 => ?_)
  · have h1 := bneT h1
    rw [if_pos h1] at hR
    subst hR
    refine g_ret_co TrydT_ok (r := _) rfl rfl rfl trivial rfl rfl ?_
    repeat' (first | refine coD_tup ?_ | refine coD_agg ?_ | refine coD_i ?_ | refine CoDL.cons ?_ ?_ | exact CoDL.nil | exact coI_nil | refine coI_sl ?_ | refine CoLL.cons ?_ ?_ | exact CoLL.nil | refine CoL.cons ?_ ?_ | exact CoL.nil | exact CoI.refl _ | exact CoL.refl _ | exact CoLL.refl _ | exact CoDL.refl _ | exact CoD.refl _)
  have h1 := bneF h1
  rw [if_neg (by simpa using h1)] at hR
  cases hs : searchR m with
  | none =>
    rw [hs] at hR
    subst hR
    have hsp := fun O => search43 hg (ty := ty) (fr := fr) O m hok (chk_right h1) (R := .tup [.i (.sl 2 0 []), .i (.sl 2 0 []), .agg [ii 0, ii 0], ii 0, ii 3]) (by rw [hs])
    refine g_callT TrydT_ok Tryd.func15 hE (hsp _) rfl rfl rfl rfl rfl rfl ?_
    repeat (first | refine g_cnd TrydT_ok Tryd.func15 rfl (fun _ => ?_) (fun h => absurd h (by decide)) | refine g_cnd TrydT_ok Tryd.func15 rfl (fun h => absurd h (by decide)) (fun _ => ?_) | refine g_know TrydT_ok Tryd.func15 rfl (fun _ => ?_) (fun h => absurd h (by decide)) | refine g_know TrydT_ok Tryd.func15 rfl (fun h => absurd h (by decide)) (fun _ => ?_) | refine s_know TrydT_ok (fun _ => ?_) (fun h => absurd h (by decide)) | refine s_know TrydT_ok (fun h => absurd h (by decide)) (fun _ => ?_))
    refine g_ret_co TrydT_ok (r := _) rfl rfl rfl trivial rfl rfl ?_
    repeat' (first | refine coD_tup ?_ | refine coD_agg ?_ | refine coD_i ?_ | refine CoDL.cons ?_ ?_ | exact CoDL.nil | exact coI_nil | refine coI_sl ?_ | refine CoLL.cons ?_ ?_ | exact CoLL.nil | refine CoL.cons ?_ ?_ | exact CoL.nil | exact CoI.refl _ | exact CoL.refl _ | exact CoLL.refl _ | exact CoDL.refl _ | exact CoD.refl _)
  | some S =>
    rw [hs] at hR
    simp only at hR
    have hlk := search_linked hs
    have hsp := fun O => search43 hg (ty := ty) (fr := fr) O m hok (chk_right h1) (R := .tup [.i (.sl 2 S.sts.length (S.sts.map staI)), .i (.sl 2 S.frm.length (S.frm.map pairI)), .agg [ii S.flt.1, ii S.flt.2], ii S.kind, ii 0]) (by rw [hs])
    refine g_callT TrydT_ok Tryd.func15 hE (hsp _) rfl rfl rfl rfl rfl rfl ?_
    repeat (first | refine g_cnd TrydT_ok Tryd.func15 rfl (fun _ => ?_) (fun h => absurd h (by decide)) | refine g_cnd TrydT_ok Tryd.func15 rfl (fun h => absurd h (by decide)) (fun _ => ?_) | refine g_know TrydT_ok Tryd.func15 rfl (fun _ => ?_) (fun h => absurd h (by decide)) | refine g_know TrydT_ok Tryd.func15 rfl (fun h => absurd h (by decide)) (fun _ => ?_) | refine s_know TrydT_ok (fun _ => ?_) (fun h => absurd h (by decide)) | refine s_know TrydT_ok (fun h => absurd h (by decide)) (fun _ => ?_))
    first | refine g_cnd TrydT_ok Tryd.func15 rfl (fun h2 => ?_) (fun h2 => ?_) | refine g_know TrydT_ok Tryd.func15 rfl (fun h2 => ?_) (fun h2 => ?_) | refine s_know TrydT_ok (fun h2 => ?_) (fun h2 => ?_)
    · have h2 : S.kind = 0 := beqT h2
      rw [if_pos h2] at hR
      subst hR
      refine g_ret_co TrydT_ok (r := _) rfl rfl rfl trivial rfl rfl ?_
      repeat' (first | refine coD_tup ?_ | refine coD_agg ?_ | refine coD_i ?_ | refine CoDL.cons ?_ ?_ | exact CoDL.nil | exact coI_nil | refine coI_sl ?_ | refine CoLL.cons ?_ ?_ | exact CoLL.nil | refine CoL.cons ?_ ?_ | exact CoL.nil | exact CoI.refl _ | exact CoL.refl _ | exact CoLL.refl _ | exact CoDL.refl _ | exact CoD.refl _)
    have h2 : S.kind ≠ 0 := beqF h2
    rw [if_neg h2] at hR
    have hm := hlk.most
    have hfl := hlk.len
    have hf0 := hlk.flt
    have hb0 : back S.frm 5000 S.flt = back S.frm ((S.flt.1 + 1).toNat + 1) S.flt := back_fuel hlk 4999 _ _ (by omega) (by omega) (by omega)
    refine g_loop ?_
    refine rch_wk (wk_nil 2 44 3 1 rfl rfl rfl) ?_
    refine rch_loop2 (fun x : (Int × Int) × List Int => [(2, .osl 0 44), (4, ii S.kind), (8, .i (.sl 2 S.frm.length (S.frm.map pairI))), (10, .own 0 10 0 0)]) (fun x => [(44, oints x.2), (10, .box [ii x.1.1, ii x.1.2])]) (fun _ => O) 50
      (fun x => x.1.1 < S.frm.length ∧ x.2.length + (x.1.1 + 1).toNat ≤ 4096 ∧ back S.frm 5000 S.flt = x.2 ++ back S.frm ((x.1.1 + 1).toNat + 1) x.1) (fun x => (x.1.1 + 1).toNat) (S.flt, [])
      ⟨by simp only; omega, by simp only [List.length_nil]; omega, by rw [hb0]; rfl⟩ ⟨rfl, rfl, rfl, rfl, trivial⟩ rfl ⟨rfl, rfl, trivial⟩ rfl rfl ?_
    rintro ⟨⟨p1, p2⟩, acc⟩ ⟨hp, hlen, hno⟩ ih
    simp only at hp hlen hno
    refine g_run TrydT_ok Tryd.func15 ?_
    first | refine g_cnd TrydT_ok Tryd.func15 rfl (fun h3 => ?_) (fun h3 => ?_) | refine g_know TrydT_ok Tryd.func15 rfl (fun h3 => ?_) (fun h3 => ?_) | refine s_know TrydT_ok (fun h3 => ?_) (fun h3 => ?_)
    · have h3 : 0 ≤ p1 := of_decide_eq_true h3
      first | refine g_need TrydT_ok Tryd.func15 (by exact ⟨by show (acc.length + 1) * 8 ≤ 140737488355328; omega, by show acc.length + 1 ≤ 9223372036854775807; omega⟩) ?_ | refine s_need TrydT_ok (by exact ⟨by show (acc.length + 1) * 8 ≤ 140737488355328; omega, by show acc.length + 1 ≤ 9223372036854775807; omega⟩) ?_
      have hbs := back_step hlk (p := (p1, p2)) h3 hp
      simp only at hbs
      have hk : p1.toNat < S.frm.length := by omega
      have hlt := hlk.frm _ hk
      have hgk : (S.frm.map pairI)[p1.toNat]? = some (pairI S.frm[p1.toNat]) := by simp [hk]
      generalize S.frm[p1.toNat] = q at *
      obtain ⟨q1, q2⟩ := q
      simp only at hlt
      refine g_stop ?_
      refine rch_cut2 (l := [(2, .osl 0 44), (4, ii S.kind), (8, .i (.sl 2 S.frm.length (S.frm.map pairI))), (45, .agg [ii p1, ii p2])]) (Hv := [(44, oints (acc ++ [p2]))]) ⟨rfl, rfl, rfl, rfl, trivial⟩ rfl ⟨congrArg some (oints_app acc p2), trivial⟩ rfl rfl ?_
      refine g_run TrydT_ok Tryd.func15 ?_
      refine g_go TrydT_ok Tryd.func15 ?_
      first | refine g_need TrydT_ok Tryd.func15 (by exact ⟨h3, hp⟩) ?_ | refine s_need TrydT_ok (by exact ⟨h3, hp⟩) ?_
      first | refine g_elem TrydT_ok Tryd.func15 (hgk) ?_ | refine s_elem TrydT_ok (hgk) ?_
      refine g_loop ?_
      refine ih ((q1, q2), acc ++ [p2]) _ _ ⟨by simp only; omega, by simp only [List.length_append, List.length_cons, List.length_nil]; omega, by rw [hno, hbs]; simp⟩ (by simp only; omega) ⟨rfl, rfl, rfl, rfl, trivial⟩ rfl ⟨rfl, rfl, trivial⟩ rfl rfl
    · have h3 : ¬ 0 ≤ p1 := of_decide_eq_false h3
      have hbn : back S.frm ((p1 + 1).toNat + 1) (p1, p2) = [] := by rw [back, if_pos (by simp only; omega)]
      rw [hbn, List.append_nil] at hno
      rw [hno] at hR
      subst hR
      refine g_call TrydT_ok Tryd.func15 (reverse44 _ 0 44 acc (by simp only [max63]; omega) rfl) rfl rfl rfl (shape_over (ob := oints acc) rfl (by simp [Ob.sh])) rfl ?_
      refine g_rwk (wk_freeze 44 rfl rfl) ?_
      refine g_ret TrydT_ok (r := .tup [ints acc.reverse, bb true, ii S.kind, ii 0]) rfl rfl rfl trivial rfl rfl ?_
      rfl
end Go.AI

namespace Go.AI
open Go.Proofs
set_option maxRecDepth 20000
def runL (m : Ext) : List Int → Sta → Int → Sta × Int × Int
  | [], s, n => (s, n, 0)
  | ev :: r, s, n => if (stepR m s ev).2.2 ≠ 0 then (zeroS, 0, (stepR m s ev).2.2) else if (stepR m s ev).2.1 = false then (s, n, 0) else runL m r (stepR m s ev).1 (n + 1)
/-- Run. -/
def runR (m : Ext) (w : List Int) : Sta × Int × Int :=
  if chk m ≠ 0 then (zeroS, 0, chk m) else if w.any (fun ev => decide (ev ∉ m.alpha)) then (zeroS, 0, 9) else runL m w (startR m) 0
theorem run21 (O : List Heap) (m : Ext) (w : List Int) (hok : extOk m) (hw : w.length ≤ max63) : ASpec Tryd.prog 21 [extD m, ints w] O (.tup [staD (runR m w).1, ii (runR m w).2.1, ii (runR m w).2.2]) [] O := by
  generalize hR : runR m w = R
  unfold runR at hR
  refine aspec_stop [10] TrydT_ok Tryd.func21 rfl Tryd.call21 Tryd.ntmps21 (Nat.le_of_ble_eq_true rfl) fun E => ?_
  refine g_run TrydT_ok Tryd.func21 ?_
  first | refine g_call TrydT_ok Tryd.func21 (check40 _ m hok) rfl rfl rfl rfl rfl ?_ | refine s_callq TrydT_ok (fun _ => check40 _ m hok) rfl rfl rfl ?_
  first | refine g_cnd TrydT_ok Tryd.func21 rfl (fun h1 => ?_) (fun h1 => ?_) | refine g_know TrydT_ok Tryd.func21 rfl (fun h1 => ?_) (fun h1 => ?_) | refine s_know TrydT_ok (fun h1 => ?_) (fun h1 => ?_)
  · have h1 := bneT h1
    rw [if_pos h1] at hR
    subst hR
    refine g_ret_co TrydT_ok (r := _) rfl rfl rfl trivial rfl rfl ?_
    repeat' (first | refine coD_tup ?_ | refine coD_agg ?_ | refine coD_i ?_ | refine CoDL.cons ?_ ?_ | exact CoDL.nil | exact coI_nil | refine coI_sl ?_ | refine CoLL.cons ?_ ?_ | exact CoLL.nil | refine CoL.cons ?_ ?_ | exact CoL.nil | exact CoI.refl _ | exact CoL.refl _ | exact CoLL.refl _ | exact CoDL.refl _ | exact CoD.refl _)
  have h1 := bneF h1
  rw [if_neg (by simpa using h1)] at hR
  have hr := chk_right h1
  have hs := (checkSet_sorted hr.alpha).1
  have hal := hok.al
  apply join_p (P := w.any (fun ev => decide (ev ∉ m.alpha)) = false) (s6 := { σ := [(1, ints w), (2, .own 0 2 0 0), (4, .own 0 4 0 0), (5, ii 0), (6, ii 0)], S := [(4, .box [ii 0, .i (.v (.slice none 0 0))]), (2, .box (extC m))] :: O, n := 60 })
  · intro J
    refine g_loop ?_
    refine rch_loop2 (fun i : Nat => [(1, ints w), (2, .own 0 2 0 0), (4, .own 0 4 0 0), (5, ii 0), (6, ii 0), (19, ints w), (20, ii w.length), (21, ii i)]) (fun _ => [(4, .box [ii 0, .i (.v (.slice none 0 0))]), (2, .box (extC m))]) (fun _ => O) 60
      (fun i => i ≤ w.length ∧ w.any (fun ev => decide (ev ∉ m.alpha)) = (w.drop i).any (fun ev => decide (ev ∉ m.alpha))) (fun i => w.length - i) 0 ⟨Nat.zero_le _, rfl⟩ ⟨rfl, rfl, rfl, rfl, rfl, rfl, rfl, rfl, trivial⟩ rfl ⟨rfl, rfl, trivial⟩ rfl rfl ?_
    rintro i ⟨hi, hno⟩ ih
    refine g_run TrydT_ok Tryd.func21 ?_
    first | refine g_cnd TrydT_ok Tryd.func21 rfl (fun h2 => ?_) (fun h2 => ?_) | refine g_know TrydT_ok Tryd.func21 rfl (fun h2 => ?_) (fun h2 => ?_) | refine s_know TrydT_ok (fun h2 => ?_) (fun h2 => ?_)
    · have h2 : i < w.length := by simpa using h2
      have hd : w.drop i = w[i] :: w.drop (i + 1) := List.drop_eq_getElem_cons h2
      have hg : (w.map fun x => [vi x])[(i : Int).toNat]? = some [vi w[i]] := get_mapZ (f := fun x => [vi x]) h2
      generalize w[i] = ev at hd hg
      rw [hd, List.any_cons] at hno
      first | refine g_need TrydT_ok Tryd.func21 (by omega) ?_ | refine s_need TrydT_ok (by omega) ?_
      first | refine g_elem TrydT_ok Tryd.func21 (hg) ?_ | refine s_elem TrydT_ok (hg) ?_
      first | refine g_call TrydT_ok Tryd.func21 (contains49 _ m.alpha ev hal hs) rfl rfl rfl rfl rfl ?_ | refine s_callq TrydT_ok (fun _ => contains49 _ m.alpha ev hal hs) rfl rfl rfl ?_
      first | refine g_cnd TrydT_ok Tryd.func21 rfl (fun h3 => ?_) (fun h3 => ?_) | refine g_know TrydT_ok Tryd.func21 rfl (fun h3 => ?_) (fun h3 => ?_) | refine s_know TrydT_ok (fun h3 => ?_) (fun h3 => ?_)
      · have h3 : ev ∉ m.alpha := by simpa using h3
        rw [decide_eq_true h3, Bool.true_or] at hno
        rw [if_pos hno] at hR
        subst hR
        refine g_ret_co TrydT_ok (r := _) rfl rfl rfl trivial rfl rfl ?_
        repeat' (first | refine coD_tup ?_ | refine coD_agg ?_ | refine coD_i ?_ | refine CoDL.cons ?_ ?_ | exact CoDL.nil | exact coI_nil | refine coI_sl ?_ | refine CoLL.cons ?_ ?_ | exact CoLL.nil | refine CoL.cons ?_ ?_ | exact CoL.nil | exact CoI.refl _ | exact CoL.refl _ | exact CoLL.refl _ | exact CoDL.refl _ | exact CoD.refl _)
      · have h3 : ev ∈ m.alpha := by simpa using h3
        rw [decide_eq_false (by simpa using h3), Bool.false_or] at hno
        refine g_loop ?_
        refine ih (i + 1) _ _ ⟨h2, hno⟩ (by omega) ⟨rfl, rfl, rfl, rfl, rfl, rfl, rfl, congrArg ii (wsucc h2 hw), trivial⟩ rfl ⟨rfl, rfl, trivial⟩ rfl rfl
    · have h2 : w.length ≤ i := by simpa using h2
      rw [List.drop_eq_nil_of_le h2] at hno
      refine g_stop ?_
      refine rch_meet (J hno) ⟨rfl, rfl, rfl, rfl, rfl, trivial⟩ rfl ⟨rfl, rfl, trivial⟩ rfl rfl
  · intro hP
    rw [if_neg (by rw [hP]; simp)] at hR
    refine g_run TrydT_ok Tryd.func21 ?_
    refine g_go TrydT_ok Tryd.func21 ?_
    first | refine g_call TrydT_ok Tryd.func21 (start48 _ m (vars_len hr.vars)) rfl rfl rfl rfl rfl ?_ | refine s_callq TrydT_ok (fun _ => start48 _ m (vars_len hr.vars)) rfl rfl rfl ?_
    refine g_loop ?_
    refine rch_loop2 (fun x : Nat × Sta => [(1, ints w), (2, .own 0 2 0 0), (4, .own 0 4 0 0), (5, ii x.1), (6, ii 0)]) (fun x => [(4, .box [ii x.2.loc, ints x.2.vals]), (2, .box (extC m))]) (fun _ => O) 60
      (fun x => x.1 ≤ w.length ∧ okS m x.2 ∧ runL m (w.drop x.1) x.2 x.1 = R) (fun x => w.length - x.1) (0, startR m) ⟨Nat.zero_le _, start_ok hr, hR⟩ ⟨rfl, rfl, rfl, rfl, rfl, trivial⟩ rfl ⟨rfl, rfl, trivial⟩ rfl rfl ?_
    rintro ⟨i, s⟩ ⟨hi, hsk, hno⟩ ih
    clear hR
    simp only at hi hsk hno
    refine g_run TrydT_ok Tryd.func21 ?_
    first | refine g_cnd TrydT_ok Tryd.func21 rfl (fun h2 => ?_) (fun h2 => ?_) | refine g_know TrydT_ok Tryd.func21 rfl (fun h2 => ?_) (fun h2 => ?_) | refine s_know TrydT_ok (fun h2 => ?_) (fun h2 => ?_)
    · have h2 : i < w.length := by simpa using h2
      have hd : w.drop i = w[i] :: w.drop (i + 1) := List.drop_eq_getElem_cons h2
      have hg : (w.map fun x => [vi x])[(i : Int).toNat]? = some [vi w[i]] := get_mapZ (f := fun x => [vi x]) h2
      generalize w[i] = ev at hd hg
      rw [hd] at hno
      simp only [runL] at hno
      have hstep := fun O => step50 O m s ev hok hr (okS_bounds hr hsk).2.2.2.1
      have hnext := fun h => step_ok hr hsk (ev := ev) h
      generalize stepR m s ev = n at *
      obtain ⟨⟨nl, nv⟩, np, ne⟩ := n
      simp only at hno hstep hnext
      refine g_drawn TrydT_ok Tryd.func21 mixedT rfl ?_
      first | refine g_need TrydT_ok Tryd.func21 (by exact ⟨by omega, by show (i : Int) < (w.length : Int); omega⟩) ?_ | refine s_need TrydT_ok (by exact ⟨by omega, by show (i : Int) < (w.length : Int); omega⟩) ?_
      first | refine g_elem TrydT_ok Tryd.func21 (hg) ?_ | refine s_elem TrydT_ok (hg) ?_
      first | refine g_call TrydT_ok Tryd.func21 (hstep _) rfl rfl rfl rfl rfl ?_ | refine s_callq TrydT_ok (fun _ => hstep _) rfl rfl rfl ?_
      refine s_put TrydT_ok rfl rfl rfl ?_
      refine e_done TrydT_ok Tryd.func21 (by kernel_rfl) ?_
      first | refine g_cnd TrydT_ok Tryd.func21 rfl (fun h3 => ?_) (fun h3 => ?_) | refine g_know TrydT_ok Tryd.func21 rfl (fun h3 => ?_) (fun h3 => ?_) | refine s_know TrydT_ok (fun h3 => ?_) (fun h3 => ?_)
      · have h3 := bneT h3
        rw [if_pos h3] at hno
        subst hno
        refine g_ret_co TrydT_ok (r := _) rfl rfl rfl trivial rfl rfl ?_
        repeat' (first | refine coD_tup ?_ | refine coD_agg ?_ | refine coD_i ?_ | refine CoDL.cons ?_ ?_ | exact CoDL.nil | exact coI_nil | refine coI_sl ?_ | refine CoLL.cons ?_ ?_ | exact CoLL.nil | refine CoL.cons ?_ ?_ | exact CoL.nil | exact CoI.refl _ | exact CoL.refl _ | exact CoLL.refl _ | exact CoDL.refl _ | exact CoD.refl _)
      have h3 := bneF h3
      rw [if_neg (by simpa using h3)] at hno
      first | refine g_cnd TrydT_ok Tryd.func21 rfl (fun h4 => ?_) (fun h4 => ?_) | refine g_know TrydT_ok Tryd.func21 rfl (fun h4 => ?_) (fun h4 => ?_) | refine s_know TrydT_ok (fun h4 => ?_) (fun h4 => ?_)
      · have h4 := notT h4
        rw [if_pos h4] at hno
        subst hno
        refine g_ret_co TrydT_ok (r := _) rfl rfl rfl trivial rfl rfl ?_
        repeat' (first | refine coD_tup ?_ | refine coD_agg ?_ | refine coD_i ?_ | refine CoDL.cons ?_ ?_ | exact CoDL.nil | exact coI_nil | refine coI_sl ?_ | refine CoLL.cons ?_ ?_ | exact CoLL.nil | refine CoL.cons ?_ ?_ | exact CoL.nil | exact CoI.refl _ | exact CoL.refl _ | exact CoLL.refl _ | exact CoDL.refl _ | exact CoD.refl _)
      · have h4 := notF h4
        rw [if_neg (by rw [h4]; simp)] at hno
        refine g_loop ?_
        refine ih (i + 1, ⟨nl, nv⟩) _ _ ⟨h2, hnext h4, hno⟩ (by simp only; omega) ⟨rfl, rfl, rfl, congrArg ii (wsucc h2 hw), rfl, trivial⟩ rfl ⟨rfl, rfl, trivial⟩ rfl rfl
    · have h2 : w.length ≤ i := by simpa using h2
      rw [List.drop_eq_nil_of_le h2] at hno
      simp only [runL] at hno
      subst hno
      refine g_ret_co TrydT_ok (r := _) rfl rfl rfl trivial rfl rfl ?_
      repeat' (first | refine coD_tup ?_ | refine coD_agg ?_ | refine coD_i ?_ | refine CoDL.cons ?_ ?_ | exact CoDL.nil | exact coI_nil | refine coI_sl ?_ | refine CoLL.cons ?_ ?_ | exact CoLL.nil | refine CoL.cons ?_ ?_ | exact CoL.nil | exact CoI.refl _ | exact CoL.refl _ | exact CoLL.refl _ | exact CoDL.refl _ | exact CoD.refl _)
end Go.AI

namespace Go.AI
open Go.Proofs
set_option maxRecDepth 20000
theorem run_known : runR (counterE false) [0, 0, 1] = (⟨0, [0]⟩, 3, 0) := by kernel_rfl
theorem reach_known : reachR (counterE true) = ([⟨0, [0]⟩, ⟨0, [1]⟩, ⟨0, [2]⟩], 0) := by kernel_rfl
theorem fault_known : faultR (counterE false) = ([0,0,0], true, 17, 0) := by kernel_rfl
theorem exOk_leaf (o v i : Int) : exOk (.mk o v i []) := ⟨Nat.zero_le _, trivial⟩
theorem exOk_two {o v i : Int} {a b : Ex} (ha : exOk a) (hb : exOk b) : exOk (.mk o v i [a, b]) := ⟨by simp [max63], ha, hb, trivial⟩
theorem counter_ok (g : Bool) : extOk (counterE g) := by
  refine ⟨by simp [counterE, max63], by simp [counterE, max63], by simp [counterE, max63], fun v hv => ?_, by simp [counterE, max63], fun x hx => ?_⟩
  · simp only [counterE, List.mem_singleton] at hv
    subst hv
    show (1 : Nat) ≤ max63
    decide
  · simp only [counterE, List.mem_cons, List.mem_nil_iff, or_false] at hx
    rcases hx with rfl | rfl
    · refine ⟨?_, by simp [upMv, max63], fun u hu => ?_⟩
      · cases g
        · exact exOk_two (exOk_leaf _ _ _) (exOk_leaf _ _ _)
        · exact exOk_two (exOk_leaf _ _ _) (exOk_leaf _ _ _)
      · simp only [upMv, List.mem_singleton] at hu
        subst hu
        exact exOk_two (exOk_leaf _ _ _) (exOk_leaf _ _ _)
    · refine ⟨exOk_two (exOk_leaf _ _ _) (exOk_leaf _ _ _), by simp [backMv, max63], fun u hu => ?_⟩
      simp only [backMv, List.mem_singleton] at hu
      subst hu
      exact exOk_leaf _ _ _
theorem known11 {g : Nat} (hg : IsTab g) {ty : TypeId} {fr : Nat × Nat} (O : List Heap) : ASpecT g (ptab ty fr) Tryd.prog 11 [] O (bb true) [] O := by
  have hrun := fun O => run21 O (counterE false) [0, 0, 1] (counter_ok false) (by decide)
  simp only [run_known] at hrun
  have hfault := fun O => fault15 hg (ty := ty) (fr := fr) O (counterE false) (counter_ok false)
  simp only [fault_known] at hfault
  have hreach := fun O => reach14 hg (ty := ty) (fr := fr) O (counterE true) (counter_ok true)
  simp only [reach_known] at hreach
  have ht := fun O => true42 O
  have he := fun O => equal41 (SizeOf.sizeOf trueE + 1) trueE trueE (by omega) (exOk_two (exOk_leaf _ _ _) (exOk_leaf _ _ _)) O
  have hw := fun O => wordEqual19 O [0, 0, 0] [0, 0, 0] (by decide)
  have hco : CoDL [exD trueE, .agg [ii 6, ii 0, ii 0, .i (.sl 4 2 [[vi 0, vi 0, vi 0, .v (.slice none 0 0)], [vi 0, vi 0, vi 0, .v (.slice none 0 0)]])]] [exD trueE, exD trueE] := by
    refine .cons (CoD.refl _) (.cons ?_ .nil)
    repeat' (first | refine coD_tup ?_ | refine coD_agg ?_ | refine coD_i ?_ | refine CoDL.cons ?_ ?_ | exact CoDL.nil | exact coI_nil | refine coI_sl ?_ | refine CoLL.cons ?_ ?_ | exact CoLL.nil | refine CoL.cons ?_ ?_ | exact CoL.nil | exact CoI.refl _ | exact CoL.refl _ | exact CoLL.refl _ | exact CoDL.refl _ | exact CoD.refl _)
  have he2 := fun O => ASpec.co (he O) hco
  refine aspecT_stop [] TrydT_ok Tryd.func11 rfl Tryd.call11 Tryd.ntmps11 (Nat.le_of_ble_eq_true rfl) fun E hE => ?_
  refine g_run TrydT_ok Tryd.func11 ?_
  first | refine g_call TrydT_ok Tryd.func11 (counter12f _) rfl rfl rfl rfl rfl ?_ | refine s_callq TrydT_ok (fun _ => counter12f _) rfl rfl rfl ?_
  first | refine g_call TrydT_ok Tryd.func11 (hrun _) rfl rfl rfl rfl rfl ?_ | refine s_callq TrydT_ok (fun _ => hrun _) rfl rfl rfl ?_
  first | refine g_call TrydT_ok Tryd.func11 (counter12f _) rfl rfl rfl rfl rfl ?_ | refine s_callq TrydT_ok (fun _ => counter12f _) rfl rfl rfl ?_
  refine g_callT TrydT_ok Tryd.func11 hE (hfault _) rfl rfl rfl rfl rfl rfl ?_
  first | refine g_call TrydT_ok Tryd.func11 (counter12t _) rfl rfl rfl rfl rfl ?_ | refine s_callq TrydT_ok (fun _ => counter12t _) rfl rfl rfl ?_
  refine g_callT TrydT_ok Tryd.func11 hE (hreach _) rfl rfl rfl rfl rfl rfl ?_
  first | refine g_call TrydT_ok Tryd.func11 (ht _) rfl rfl rfl rfl rfl ?_ | refine s_callq TrydT_ok (fun _ => ht _) rfl rfl rfl ?_
  first | refine g_call TrydT_ok Tryd.func11 (expr13n _ 6 2 _) rfl rfl rfl rfl rfl ?_ | refine s_callq TrydT_ok (fun _ => expr13n _ 6 2 _) rfl rfl rfl ?_
  first | refine g_call TrydT_ok Tryd.func11 (he2 _) rfl rfl rfl rfl rfl ?_ | refine s_callq TrydT_ok (fun _ => he2 _) rfl rfl rfl ?_
  repeat (first | refine g_cnd TrydT_ok Tryd.func11 rfl (fun _ => ?_) (fun h => absurd h (by decide)) | refine g_cnd TrydT_ok Tryd.func11 rfl (fun h => absurd h (by decide)) (fun _ => ?_) | refine g_know TrydT_ok Tryd.func11 rfl (fun _ => ?_) (fun h => absurd h (by decide)) | refine g_know TrydT_ok Tryd.func11 rfl (fun h => absurd h (by decide)) (fun _ => ?_) | refine s_know TrydT_ok (fun _ => ?_) (fun h => absurd h (by decide)) | refine s_know TrydT_ok (fun h => absurd h (by decide)) (fun _ => ?_))
  first | refine g_need TrydT_ok Tryd.func11 (by simp) ?_ | refine s_need TrydT_ok (by simp) ?_
  first | refine g_elem TrydT_ok Tryd.func11 (rfl) ?_ | refine s_elem TrydT_ok (rfl) ?_
  repeat (first | refine g_cnd TrydT_ok Tryd.func11 rfl (fun _ => ?_) (fun h => absurd h (by decide)) | refine g_cnd TrydT_ok Tryd.func11 rfl (fun h => absurd h (by decide)) (fun _ => ?_) | refine g_know TrydT_ok Tryd.func11 rfl (fun _ => ?_) (fun h => absurd h (by decide)) | refine g_know TrydT_ok Tryd.func11 rfl (fun h => absurd h (by decide)) (fun _ => ?_) | refine s_know TrydT_ok (fun _ => ?_) (fun h => absurd h (by decide)) | refine s_know TrydT_ok (fun h => absurd h (by decide)) (fun _ => ?_))
  first | refine g_call TrydT_ok Tryd.func11 (hw _) rfl rfl rfl rfl rfl ?_ | refine s_callq TrydT_ok (fun _ => hw _) rfl rfl rfl ?_
  repeat (first | refine g_cnd TrydT_ok Tryd.func11 rfl (fun _ => ?_) (fun h => absurd h (by decide)) | refine g_cnd TrydT_ok Tryd.func11 rfl (fun h => absurd h (by decide)) (fun _ => ?_) | refine g_know TrydT_ok Tryd.func11 rfl (fun _ => ?_) (fun h => absurd h (by decide)) | refine g_know TrydT_ok Tryd.func11 rfl (fun h => absurd h (by decide)) (fun _ => ?_) | refine s_know TrydT_ok (fun _ => ?_) (fun h => absurd h (by decide)) | refine s_know TrydT_ok (fun h => absurd h (by decide)) (fun _ => ?_))
  refine g_ret TrydT_ok (r := bb true) rfl rfl rfl trivial rfl rfl ?_
  rfl
end Go.AI

/- Plain laws: decimal texts; the counter up to a number. -/
namespace Go.AI
set_option maxRecDepth 20000
def decVal (l : List UInt8) : Nat := l.foldl (fun a d => a * 10 + (d.toNat - 48)) 0
theorem decVal_dec : ∀ u : Nat, decVal (Lib.decDigits u) = u := by
  intro u
  induction u using Nat.strongRecOn with
  | ind u ih =>
    unfold Lib.decDigits
    split
    · rename_i h
      have : (UInt8.ofNat (48 + u)).toNat = 48 + u := by simp [UInt8.toNat_ofNat']; omega
      simp only [decVal, List.foldl_cons, List.foldl_nil, this]
      omega
    · rename_i h
      have h1 := ih (u / 10) (by omega)
      have : (UInt8.ofNat (48 + u % 10)).toNat = 48 + u % 10 := by simp [UInt8.toNat_ofNat']; omega
      unfold decVal at h1 ⊢
      rw [List.foldl_append, h1]
      simp only [List.foldl_cons, List.foldl_nil, this]
      omega
theorem decDigits_inj {a b : Nat} (h : Lib.decDigits a = Lib.decDigits b) : a = b := by
  rw [← decVal_dec a, ← decVal_dec b, h]
theorem itoaB_inj {a b : Int} (ha : 0 ≤ a) (hb : 0 ≤ b) (h : itoaB a = itoaB b) : a = b := by
  have h1 : Lib.itoa a = Lib.itoa b := by
    have := congrArg (fun x => x.data.toList) h
    simpa [itoaB] using this
  unfold Lib.itoa at h1
  rw [if_neg (by omega), if_neg (by omega)] at h1
  have := decDigits_inj h1
  omega
theorem ba_cancel {a b c : ByteArray} (h : a ++ b = a ++ c) : b = c := by
  have h1 := congrArg (fun x => x.data.toList) h
  simp only [ByteArray.data_append, Array.toList_append, List.append_cancel_left_eq] at h1
  cases b; cases c
  simpa using h1
theorem key_one {a b : Int} (ha : 0 ≤ a) (hb : 0 ≤ b) : (keyOf ⟨0, [a]⟩ == keyOf ⟨0, [b]⟩) = decide (a = b) := by
  by_cases h : a = b
  · subst h
    rw [decide_eq_true rfl, ba_eq]
  · rw [decide_eq_false h]
    cases hk : keyOf ⟨0, [a]⟩ == keyOf ⟨0, [b]⟩ with
    | false => rfl
    | true =>
      rw [ba_eq] at hk
      simp only [keyOf, keyS, List.foldl_cons, List.foldl_nil] at hk
      exact absurd (itoaB_inj ha hb (ba_cancel (ba_cancel hk))) h
/-- The counter up to a number. -/
def limM (h : Int) : Ext := ⟨[0, 1], 1, 0, [0], [nVr h], [⟨0, 0, 0, .mk 8 0 0 [nE, kE h], [⟨0, .mk 2 0 0 [nE, kE 1]⟩]⟩, backMv]⟩
section
variable {h : Int} (h1 : 1 ≤ h) (h2 : h ≤ 8191)
include h1 h2
theorem lim_check : checkX (.mk 8 0 0 [nE, kE h]) 1 = (2, 0) := by
  have e1 : formHead 0 h 0 0 1 = 0 := by
    unfold formHead
    rw [if_neg (by decide), if_neg (by decide), if_neg (by omega), if_neg (by omega)]
  have e2 : formR (.mk 8 0 0 [nE, kE h]) 1 1 0 = (0, 3) := by
    simp only [formR, formRs, nE, kE]
    simp [e1, show formHead 8 0 0 2 1 = 0 from by decide, show formHead 1 0 0 0 1 = 0 from by decide]
  unfold checkX
  rw [if_neg (by decide), e2]
  have e3 : kindR (.mk 8 0 0 [nE, kE h]) = 2 := rfl
  rw [e3]
  rfl
variable {k : Int} (k1 : 0 ≤ k) (k2 : k ≤ h)
omit h1 in
include k1 k2 in
theorem not_large : ([k].any fun n => largeB n 65536) = false := by
  simp [largeB]; omega
include k1 k2 in
theorem eval_guard : evalX (.mk 8 0 0 [nE, kE h]) [k] = (tr (k < h), 0) := by
  unfold evalX
  rw [show (([k] : List Int).length : Int) = 1 from rfl, lim_check h1 h2, if_neg (by decide), not_large h2 k1 k2, if_neg (by decide)]
  have e : evalR [k] (.mk 8 0 0 [nE, kE h]) = (tr (k < h), true) := by
    simp only [evalR, evalRs, nE, kE]
    by_cases hk : k < h
    · simp [applyR, ap2, tr, hk, largeB]
    · simp [applyR, ap2, tr, hk, largeB]
  rw [e]
  rfl
omit h1 in
include k1 k2 in
theorem eval_up : evalX (.mk 2 0 0 [nE, kE 1]) [k] = (k + 1, 0) := by
  unfold evalX
  rw [show (([k] : List Int).length : Int) = 1 from rfl, show checkX (.mk 2 0 0 [nE, kE 1]) 1 = (1, 0) from rfl, if_neg (by decide), not_large h2 k1 k2, if_neg (by decide)]
  have e : evalR [k] (.mk 2 0 0 [nE, kE 1]) = (k + 1, true) := by
    simp only [evalR, evalRs, nE, kE]
    have : ¬ (1073741824 < k + 1 ∨ k + 1 < -1073741824) := by omega
    simp [applyR, ap2, largeB]
    omega
  rw [e]
  rfl
omit h1 in
include k1 k2 in
theorem eval_two : evalX (.mk 6 0 0 [nE, kE 2]) [k] = (tr (k = 2), 0) := by
  unfold evalX
  rw [show (([k] : List Int).length : Int) = 1 from rfl, show checkX (.mk 6 0 0 [nE, kE 2]) 1 = (2, 0) from rfl, if_neg (by decide), not_large h2 k1 k2, if_neg (by decide)]
  have e : evalR [k] (.mk 6 0 0 [nE, kE 2]) = (tr (k = 2), true) := by
    simp only [evalR, evalRs, nE, kE]
    by_cases hk : k = 2
    · subst hk; rfl
    · simp [applyR, ap2, tr, hk, largeB]
  rw [e]
  rfl
omit h1 in
include k1 k2 in
theorem eval_zero : evalX zeroE [k] = (0, 0) := by
  unfold evalX
  rw [show (([k] : List Int).length : Int) = 1 from rfl, show checkX zeroE 1 = (1, 0) from rfl, if_neg (by decide), not_large h2 k1 k2, if_neg (by decide)]
  rfl
include k1 k2 in
theorem step_up : stepR (limM h) ⟨0, [k]⟩ 0 = if k < h then (⟨0, [k + 1]⟩, true, 0) else (zeroS, false, 0) := by
  have eg := eval_guard h1 h2 k1 k2
  have eu := eval_up h2 k1 k2
  unfold stepR limM
  simp only [chs, backMv, eg]
  by_cases hk : k < h
  · simp [tr, hk, updR, nVr, eu]
    rw [if_neg (by omega)]
  · simp [tr, hk]
include k1 k2 in
theorem step_back : stepR (limM h) ⟨0, [k]⟩ 1 = if k = 2 then (⟨0, [0]⟩, true, 0) else (zeroS, false, 0) := by
  have eg := eval_two h2 k1 k2
  have eu := eval_zero h2 k1 k2
  unfold stepR limM
  simp only [chs, backMv, eg]
  by_cases hk : k = 2
  · subst hk
    simp [tr, updR, nVr, eu]
    rw [if_neg (by omega)]
  · simp [tr, hk]
end
end Go.AI

/- Plain law: what is reached of the counter up to a number. -/
namespace Go.AI
set_option maxRecDepth 20000
def cnt (n : Nat) : List Sta := (List.range n).map fun (i : Nat) => (⟨0, [(i : Int)]⟩ : Sta)
theorem cnt_len (n : Nat) : (cnt n).length = n := by simp [cnt]
theorem cnt_succ (n : Nat) : cnt (n + 1) = cnt n ++ [⟨0, [(n : Int)]⟩] := by simp [cnt, List.range_succ]
theorem cnt_get {n k : Nat} (h : k < n) : (cnt n)[k]? = some ⟨0, [(k : Int)]⟩ := by
  unfold cnt
  rw [List.getElem?_map, List.getElem?_range h]
  rfl
theorem cnt_none (n : Nat) : (cnt n)[n]? = none := List.getElem?_eq_none (by rw [cnt_len]; exact Nat.le_refl _)
theorem cnt_any {n k : Nat} : ((cnt n).any fun t => keyOf ⟨0, [(k : Int)]⟩ == keyOf t) = decide (k < n) := by
  induction n with
  | zero => rfl
  | succ n ih =>
    rw [cnt_succ, List.any_append, ih, List.any_cons, List.any_nil, Bool.or_false, key_one (by omega) (by omega)]
    by_cases h : k < n
    · simp [h]; omega
    · by_cases h2 : k = n
      · simp [h2]
      · have h3 : ¬ ((k : Int) = n) := by omega
        have h4 : ¬ k < n + 1 := by omega
        rw [decide_eq_false h, decide_eq_false h3, decide_eq_false h4]
        rfl
section
variable {H : Nat} (h1 : 1 ≤ H) (h2 : H ≤ 8191)
include h1 h2
theorem lim_chk : chk (limM H) = 0 := by
  have a1 : varsErr (limM H).vars = 0 := by
    unfold varsErr limM
    rw [if_neg (by simp)]
    simp only [checkVrs]
    have : checkVr (List.take 0 [nVr H]) (nVr H) = none := by
      unfold checkVr
      rw [if_neg (by simp [nVr]; decide), if_neg (by simp), if_neg (by simp [nVr, checkVr.large, show ¬ ((65536 : Int) < H) by omega, show ¬ ((H : Int) < -65536) by omega]), if_neg (by simp only [nVr]; omega), if_neg (by simp only [nVr]; omega)]
    rw [this]
  have a2 := lim_check (h := (H : Int)) (by omega) (by omega)
  have a3 : mvsErr (limM H) none (limM H).moves = 0 := by
    simp only [limM, mvsErr]
    have b1 : mvErr (limM H) none ⟨0, 0, 0, .mk 8 0 0 [nE, kE H], [⟨0, .mk 2 0 0 [nE, kE 1]⟩]⟩ = 0 := by
      unfold mvErr
      rw [if_neg (by simp [limM]), if_neg (by simp [limM]), if_neg (by simp)]
      have c : typedX (.mk 8 0 0 [nE, kE H]) ((limM H).vars.length) 2 = 0 := by
        show typedX (.mk 8 0 0 [nE, kE H]) 1 2 = 0
        unfold typedX
        simp [a2]
      rw [if_neg (by rw [c]; decide)]
      rfl
    have b2 : mvErr (limM H) (some ⟨0, 0, 0, .mk 8 0 0 [nE, kE H], [⟨0, .mk 2 0 0 [nE, kE 1]⟩]⟩) backMv = 0 := by
      unfold mvErr
      rw [if_neg (by simp [limM, backMv]), if_neg (by simp [limM, backMv]), if_neg (by simp [backMv])]
      rfl
    rw [if_neg (by simp only [limM] at b1; rw [b1]; decide), if_neg (by simp only [limM] at b2; rw [b2]; decide)]
  unfold chk
  rw [if_neg (show ¬ checkSet 32 (limM H).alpha none ≠ 0 from (by decide : ¬ checkSet 32 [0, 1] none ≠ 0)), if_neg (by simp [limM]), if_neg (show ¬ checkSet (limM H).locs (limM H).marked none ≠ 0 from (by decide : ¬ checkSet 1 [0] none ≠ 0)), if_neg (by rw [a1]; decide), if_neg (by simp [limM]), a3]
theorem lim_visits {k : Nat} (hk : k ≤ H) {S : Srch} (hs : S.sts = cnt (k + 1)) : visits (limM H) k ⟨0, [(k : Int)]⟩ (limM H).alpha S = if k < H then (if k + 1 = 4096 then none else some { S with sts := cnt (k + 2), frm := S.frm ++ [((k : Int), 0)] }) else some S := by
  have su := step_up (h := (H : Int)) (k := (k : Int)) (by omega) (by omega) (by omega) (by omega)
  have sb := step_back (h := (H : Int)) (k := (k : Int)) (by omega) (by omega) (by omega) (by omega)
  have hb : ∀ S : Srch, (∃ n, 1 ≤ n ∧ S.sts = cnt n) → visit (limM H) k ⟨0, [(k : Int)]⟩ 1 S = some S := by
    rintro S ⟨n, hn, e⟩
    unfold visit
    simp only [sb, e]
    by_cases h : (k : Int) = 2
    · have := cnt_any (n := n) (k := 0)
      rw [if_pos h]
      simp only [ne_eq, not_true_eq_false, false_and, if_false]
      have t : ((cnt n).any fun t => keyOf ⟨0, [0]⟩ == keyOf t) = true := this.trans (decide_eq_true (by omega))
      rw [if_pos (.inr t)]
    · rw [if_neg h]
      simp only [ne_eq, not_true_eq_false, false_and, if_false]
      rw [if_pos (.inl trivial)]
  show (match visit (limM H) k ⟨0, [(k : Int)]⟩ 0 S with
    | none => none
    | some S' => visits (limM H) k ⟨0, [(k : Int)]⟩ [1] S') = _
  by_cases h : k < H
  · have hv : visit (limM H) k ⟨0, [(k : Int)]⟩ 0 S = if k + 1 = 4096 then none else some { S with sts := cnt (k + 2), frm := S.frm ++ [((k : Int), 0)] } := by
      unfold visit
      have su : stepR (limM H) ⟨0, [(k : Int)]⟩ 0 = (⟨0, [((k + 1 : Nat) : Int)]⟩, true, 0) := by
        rw [su, if_pos (show (k : Int) < H by omega)]
        rfl
      rw [su]
      simp only [ne_eq, not_true_eq_false, false_and, if_false, hs]
      have t : ((cnt (k + 1)).any fun t => keyOf ⟨0, [((k + 1 : Nat) : Int)]⟩ == keyOf t) = false := by
        rw [cnt_any (n := k + 1) (k := k + 1)]
        simp
      rw [t, if_neg (by simp), cnt_len, ← cnt_succ (k + 1)]
    rw [hv, if_pos h]
    by_cases h4 : k + 1 = 4096
    · rw [if_pos h4]
    · rw [if_neg h4]
      simp only [visits]
      rw [hb _ ⟨k + 2, by omega, rfl⟩]
  · have hv : visit (limM H) k ⟨0, [(k : Int)]⟩ 0 S = some S := by
      unfold visit
      rw [su, if_neg (show ¬ (k : Int) < H by omega)]
      simp only [ne_eq, not_true_eq_false, false_and, if_false]
      rw [if_pos (.inl trivial)]
    rw [hv, if_neg h]
    simp only [visits]
    rw [hb _ ⟨k + 1, by omega, hs⟩]
theorem lim_loop : ∀ (f k : Nat) (S : Srch), k ≤ H → S.sts = cnt (k + 1) → S.kind = 0 → k < 4096 → 4096 < f + k →
    (H + 1 ≤ 4096 → ∃ S', searchL (limM H) f k S = some S' ∧ S'.sts = cnt (H + 1) ∧ S'.kind = 0) ∧ (4096 < H + 1 → searchL (limM H) f k S = none)
  | 0, k, S, _, _, _, a, b => by omega
  | f + 1, k, S, hk, hs, h0, a, b => by
    unfold searchL
    rw [hs, cnt_get (by omega)]
    simp only
    rw [lim_visits h1 h2 hk hs]
    by_cases h : k < H
    · rw [if_pos h]
      by_cases h4 : k + 1 = 4096
      · rw [if_pos h4]
        exact ⟨fun h => by omega, fun _ => rfl⟩
      · rw [if_neg h4]
        exact lim_loop f (k + 1) _ (by omega) rfl h0 (by omega) (by omega)
    · rw [if_neg h]
      refine ⟨fun _ => ⟨S, ?_, by rw [hs, show k = H by omega], h0⟩, fun h => by omega⟩
      simp only
      unfold searchL
      cases f with
      | zero => rfl
      | succ f =>
        simp only
        rw [hs, show k = H by omega, cnt_none]
theorem lim_search : (H + 1 ≤ 4096 → ∃ S', searchR (limM H) = some S' ∧ S'.sts = cnt (H + 1) ∧ S'.kind = 0) ∧ (4096 < H + 1 → searchR (limM H) = none) :=
  lim_loop h1 h2 4097 0 (search0 (limM H)) (by omega) rfl rfl (by omega) (by omega)
theorem lim_reach : reachR (limM H) = if 4096 < H + 1 then ([], 3) else (cnt (H + 1), 0) := by
  unfold reachR
  rw [lim_chk h1 h2, if_neg (by decide)]
  by_cases h : 4096 < H + 1
  · rw [(lim_search h1 h2).2 h, if_pos h]
  · obtain ⟨S, e, a, b⟩ := (lim_search h1 h2).1 (by omega)
    rw [e, if_neg h]
    simp only [a]
theorem lim_fault : faultR (limM H) = if 4096 < H + 1 then ([], false, 0, 3) else ([], false, 0, 0) := by
  unfold faultR
  rw [lim_chk h1 h2, if_neg (by decide)]
  by_cases h : 4096 < H + 1
  · rw [(lim_search h1 h2).2 h, if_pos h]
  · obtain ⟨S, e, a, b⟩ := (lim_search h1 h2).1 (by omega)
    rw [e, if_neg h]
    simp only [b, if_true]
end
end Go.AI

namespace Go.AI
open Go.Proofs
set_option maxRecDepth 20000
/-- Arguments in other words. -/
theorem ASpecT.co {g : Nat} {tab : Obj} {P : Program} {f : FuncId} {args args' : List D} {O O' : List Heap} {res : D} {Hr : Heap} (h : ASpecT g tab P f args' O res Hr O') (hc : CoDL args args') : ASpecT g tab P f args O res Hr O' :=
  fun E K ρ w vs hw ht hr => h E K ρ w vs hw ht (hc.rep hr)
abbrev lfI (o v : Int) : List I := [vi o, vi v, vi 0, .v (.slice none 0 0)]
abbrev cVr (h : Int) : Ob := .arr 31 4 1 [vrI (nVr h)] true
abbrev upL (h : Int) : List I := [vi 0, vi 0, vi 0, vi 8, vi 0, vi 0, .sl 4 2 [lfI 1 0, lfI 0 h], .sl 5 1 [[vi 0, vi 2, vi 0, vi 0, .sl 4 2 [lfI 1 0, lfI 0 1]]]]
abbrev backL : List I := [vi 0, vi 1, vi 0, vi 6, vi 0, vi 0, .sl 4 2 [lfI 1 0, lfI 0 2], .sl 5 1 [[vi 0, vi 0, vi 0, vi 0, .v (.slice none 0 0)]]]
abbrev cMv (h : Int) : Ob := .arr 38 8 2 [upL h, backL] true
theorem counter12o (O : List Heap) : ASpec Tryd.prog 12 [bb true] O (.agg [ints [0, 1], ii 1, ii 0, ints [0], .osl 0 11, .osl 0 36]) [(36, cMv 2), (11, cVr 2)] O := by
  have ht := fun O => true42 O
  refine aspec_stop [100011, 100036] TrydT_ok Tryd.func12 rfl Tryd.call12 Tryd.ntmps12 (Nat.le_of_ble_eq_true rfl) fun E => ?_
  refine g_run TrydT_ok Tryd.func12 ?_
  refine g_drawn TrydT_ok Tryd.func12 mixedT rfl ?_
  first | refine g_call TrydT_ok Tryd.func12 (ht _) rfl rfl rfl rfl rfl ?_ | refine s_callq TrydT_ok (fun _ => ht _) rfl rfl rfl ?_
  first | refine g_call TrydT_ok Tryd.func12 (expr13n _ 2 2 _) rfl rfl rfl rfl rfl ?_ | refine s_callq TrydT_ok (fun _ => expr13n _ 2 2 _) rfl rfl rfl ?_
  refine s_put TrydT_ok rfl rfl rfl ?_
  refine e_done TrydT_ok Tryd.func12 (by kernel_rfl) ?_
  repeat (first | refine g_cnd TrydT_ok Tryd.func12 rfl (fun _ => ?_) (fun h => absurd h (by decide)) | refine g_cnd TrydT_ok Tryd.func12 rfl (fun h => absurd h (by decide)) (fun _ => ?_) | refine g_know TrydT_ok Tryd.func12 rfl (fun _ => ?_) (fun h => absurd h (by decide)) | refine g_know TrydT_ok Tryd.func12 rfl (fun h => absurd h (by decide)) (fun _ => ?_) | refine s_know TrydT_ok (fun _ => ?_) (fun h => absurd h (by decide)) | refine s_know TrydT_ok (fun h => absurd h (by decide)) (fun _ => ?_))
  first | refine g_call TrydT_ok Tryd.func12 (expr13n _ 8 2 _) rfl rfl rfl rfl rfl ?_ | refine s_callq TrydT_ok (fun _ => expr13n _ 8 2 _) rfl rfl rfl ?_
  first | refine g_call TrydT_ok Tryd.func12 (expr13n _ 6 2 _) rfl rfl rfl rfl rfl ?_ | refine s_callq TrydT_ok (fun _ => expr13n _ 6 2 _) rfl rfl rfl ?_
  refine g_ret_co TrydT_ok (r := _) rfl rfl rfl ⟨⟨_, rfl, rfl⟩, ⟨_, rfl, rfl⟩, trivial⟩ rfl rfl ?_
  repeat' (first | refine coD_tup ?_ | refine coD_agg ?_ | refine coD_i ?_ | refine CoDL.cons ?_ ?_ | exact CoDL.nil | exact coI_nil | refine coI_sl ?_ | refine CoLL.cons ?_ ?_ | exact CoLL.nil | refine CoL.cons ?_ ?_ | exact CoL.nil | exact CoI.refl _ | exact CoL.refl _ | exact CoLL.refl _ | exact CoDL.refl _ | exact CoD.refl _)
end Go.AI

namespace Go.AI
open Go.Proofs
set_option maxRecDepth 20000
instance staDec : DecidableEq Sta := fun a b => decidable_of_iff (a.loc = b.loc ∧ a.vals = b.vals) ⟨fun ⟨h1, h2⟩ => by cases a; cases b; cases h1; cases h2; rfl, fun h => by subst h; exact ⟨rfl, rfl⟩⟩
theorem same22 (O : List Heap) (a b : Sta) (ha : a.vals.length ≤ max63) : ASpec Tryd.prog 22 [staD a, staD b] O (bb (decide (a = b))) [] O := by
  obtain ⟨al, av⟩ := a
  obtain ⟨bl, bv⟩ := b
  simp only at ha
  refine aspec_intro TrydT_ok Tryd.func22 rfl Tryd.call22 Tryd.ntmps22 (Nat.le_of_ble_eq_true rfl) fun E => ?_
  refine g_run TrydT_ok Tryd.func22 ?_
  have hne : al ≠ bl → decide ((⟨al, av⟩ : Sta) = ⟨bl, bv⟩) = false := fun h => decide_eq_false fun e => h (congrArg Sta.loc e)
  have hnv : av ≠ bv → decide ((⟨al, av⟩ : Sta) = ⟨bl, bv⟩) = false := fun h => decide_eq_false fun e => h (congrArg Sta.vals e)
  first | refine g_cnd TrydT_ok Tryd.func22 rfl (fun h1 => ?_) (fun h1 => ?_) | refine g_know TrydT_ok Tryd.func22 rfl (fun h1 => ?_) (fun h1 => ?_) | refine s_know TrydT_ok (fun h1 => ?_) (fun h1 => ?_)
  · have h1 := bneT h1
    rw [hne h1]
    repeat (first | refine g_cnd TrydT_ok Tryd.func22 rfl (fun _ => ?_) (fun h => absurd h (by decide)) | refine g_cnd TrydT_ok Tryd.func22 rfl (fun h => absurd h (by decide)) (fun _ => ?_) | refine g_know TrydT_ok Tryd.func22 rfl (fun _ => ?_) (fun h => absurd h (by decide)) | refine g_know TrydT_ok Tryd.func22 rfl (fun h => absurd h (by decide)) (fun _ => ?_) | refine s_know TrydT_ok (fun _ => ?_) (fun h => absurd h (by decide)) | refine s_know TrydT_ok (fun h => absurd h (by decide)) (fun _ => ?_))
    refine g_ret TrydT_ok (r := bb false) rfl rfl rfl trivial rfl rfl ?_
    rfl
  have h1 := bneF h1
  first | refine g_cnd TrydT_ok Tryd.func22 rfl (fun h2 => ?_) (fun h2 => ?_) | refine g_know TrydT_ok Tryd.func22 rfl (fun h2 => ?_) (fun h2 => ?_) | refine s_know TrydT_ok (fun h2 => ?_) (fun h2 => ?_)
  · have h2 := bneT h2
    rw [hnv fun e => by rw [e] at h2; exact h2 rfl]
    refine g_ret TrydT_ok (r := bb false) rfl rfl rfl trivial rfl rfl ?_
    rfl
  have h2 := bneF h2
  have hlen : av.length = bv.length := by
    have : ((av.length : Nat) : Int) = bv.length := by simpa using h2
    omega
  refine g_loop ?_
  refine rch_loop2 (fun i : Nat => [(2, .own 0 2 0 0), (3, .own 0 3 0 0), (5, ii i)]) (fun i => [(2, .box [ii al, ints av]), (3, .box [ii bl, ints bv])]) (fun _ => O) 38
    (fun i => i ≤ av.length ∧ ∀ (j : Nat) (h : j < av.length), j < i → av[j] = bv[j]'(by omega)) (fun i => av.length - i) 0 ⟨Nat.zero_le _, fun j _ h => by omega⟩ ⟨rfl, rfl, rfl, trivial⟩ rfl ⟨rfl, rfl, trivial⟩ rfl rfl ?_
  rintro i ⟨hi, hno⟩ ih
  refine g_run TrydT_ok Tryd.func22 ?_
  first | refine g_cnd TrydT_ok Tryd.func22 rfl (fun h3 => ?_) (fun h3 => ?_) | refine g_know TrydT_ok Tryd.func22 rfl (fun h3 => ?_) (fun h3 => ?_) | refine s_know TrydT_ok (fun h3 => ?_) (fun h3 => ?_)
  · have h3 : i < av.length := by simpa using h3
    refine g_drawn TrydT_ok Tryd.func22 mixedT rfl ?_
    first | refine g_need TrydT_ok Tryd.func22 (by omega) ?_ | refine s_need TrydT_ok (by omega) ?_
    first | refine g_elem TrydT_ok Tryd.func22 ((get_mapZ h3)) ?_ | refine s_elem TrydT_ok ((get_mapZ h3)) ?_
    first | refine g_need TrydT_ok Tryd.func22 (by omega) ?_ | refine s_need TrydT_ok (by omega) ?_
    first | refine g_elem TrydT_ok Tryd.func22 ((get_mapZ (show i < bv.length by omega))) ?_ | refine s_elem TrydT_ok ((get_mapZ (show i < bv.length by omega))) ?_
    refine e_done TrydT_ok Tryd.func22 (by kernel_rfl) ?_
    first | refine g_cnd TrydT_ok Tryd.func22 rfl (fun h4 => ?_) (fun h4 => ?_) | refine g_know TrydT_ok Tryd.func22 rfl (fun h4 => ?_) (fun h4 => ?_) | refine s_know TrydT_ok (fun h4 => ?_) (fun h4 => ?_)
    · have h4 := bneT h4
      rw [hnv fun e => by subst e; exact h4 rfl]
      refine g_ret TrydT_ok (r := bb false) rfl rfl rfl trivial rfl rfl ?_
      rfl
    · have h4 := bneF h4
      refine g_loop ?_
      refine ih (i + 1) _ _ ⟨h3, fun j hj hji => ?_⟩ (by omega) ⟨rfl, rfl, congrArg ii (wsucc h3 ha), trivial⟩ rfl ⟨rfl, rfl, trivial⟩ rfl rfl
      by_cases hji' : j = i
      · subst hji'
        simpa using h4
      · exact hno j hj (by omega)
  · have h3 : av.length ≤ i := by simpa using h3
    have hv : av = bv := List.ext_getElem hlen fun j h h' => hno j h (by omega)
    have hl : al = bl := by simpa using h1
    rw [decide_eq_true (by rw [hv, hl])]
    refine g_ret TrydT_ok (r := bb true) rfl rfl rfl trivial rfl rfl ?_
    rfl
end Go.AI

namespace Go.AI
open Go.Proofs
set_option maxRecDepth 20000
/-- Start. -/
def begR (m : Ext) : Sta × Int := if chk m ≠ 0 then (zeroS, chk m) else (startR m, 0)
theorem begin20 (O : List Heap) (m : Ext) (hok : extOk m) : ASpec Tryd.prog 20 [extD m] O (.tup [staD (begR m).1, ii (begR m).2]) [] O := by
  have hv : chk m = 0 → m.vars.length ≤ 16 := by
    intro h
    by_cases h2 : m.vars.length ≤ 16
    · exact h2
    · exfalso
      have e : varsErr m.vars = 3 := by
        unfold varsErr
        rw [if_pos (by omega)]
      unfold chk at h
      rw [e] at h
      revert h
      repeat' split
      all_goals omega
  generalize hR : begR m = R
  unfold begR at hR
  refine aspec_intro TrydT_ok Tryd.func20 rfl Tryd.call20 Tryd.ntmps20 (Nat.le_of_ble_eq_true rfl) fun E => ?_
  refine g_run TrydT_ok Tryd.func20 ?_
  first | refine g_call TrydT_ok Tryd.func20 (check40 _ m hok) rfl rfl rfl rfl rfl ?_ | refine s_callq TrydT_ok (fun _ => check40 _ m hok) rfl rfl rfl ?_
  first | refine g_cnd TrydT_ok Tryd.func20 rfl (fun h1 => ?_) (fun h1 => ?_) | refine g_know TrydT_ok Tryd.func20 rfl (fun h1 => ?_) (fun h1 => ?_) | refine s_know TrydT_ok (fun h1 => ?_) (fun h1 => ?_)
  · have h1 := bneT h1
    rw [if_pos h1] at hR
    subst hR
    refine g_ret_co TrydT_ok (r := _) rfl rfl rfl trivial rfl rfl ?_
    repeat' (first | refine coD_tup ?_ | refine coD_agg ?_ | refine coD_i ?_ | refine CoDL.cons ?_ ?_ | exact CoDL.nil | exact coI_nil | refine coI_sl ?_ | refine CoLL.cons ?_ ?_ | exact CoLL.nil | refine CoL.cons ?_ ?_ | exact CoL.nil | exact CoI.refl _ | exact CoL.refl _ | exact CoLL.refl _ | exact CoDL.refl _ | exact CoD.refl _)
  have h1 := bneF h1
  rw [if_neg (by simpa using h1)] at hR
  subst hR
  first | refine g_call TrydT_ok Tryd.func20 (start48 _ m (hv (by simpa using h1))) rfl rfl rfl rfl rfl ?_ | refine s_callq TrydT_ok (fun _ => start48 _ m (hv (by simpa using h1))) rfl rfl rfl ?_
  refine g_ret TrydT_ok (r := .tup [staD (startR m), ii 0]) rfl rfl rfl trivial rfl rfl ?_
  rfl
end Go.AI

namespace Go.AI
open Go.Proofs
set_option maxRecDepth 20000
theorem none26 (O : List Heap) (s : Sta) (hl : s.vals.length ≤ max63) : ASpec Tryd.prog 26 [staD s] O (bb (decide (s = zeroS))) [] O := by
  have hco : CoDL [staD s, .agg [ii 0, .i (.v (.slice none 0 0))]] [staD s, staD zeroS] := by
    refine .cons (CoD.refl _) (.cons ?_ .nil)
    repeat' (first | refine coD_tup ?_ | refine coD_agg ?_ | refine coD_i ?_ | refine CoDL.cons ?_ ?_ | exact CoDL.nil | exact coI_nil | refine coI_sl ?_ | refine CoLL.cons ?_ ?_ | exact CoLL.nil | refine CoL.cons ?_ ?_ | exact CoL.nil | exact CoI.refl _ | exact CoL.refl _ | exact CoLL.refl _ | exact CoDL.refl _ | exact CoD.refl _)
  have hs := fun O => ASpec.co (same22 O s zeroS hl) hco
  generalize decide (s = zeroS) = R at *
  obtain ⟨sl, sv⟩ := s
  refine aspec_intro TrydT_ok Tryd.func26 rfl Tryd.call26 Tryd.ntmps26 (Nat.le_of_ble_eq_true rfl) fun E => ?_
  refine g_run TrydT_ok Tryd.func26 ?_
  first | refine g_call TrydT_ok Tryd.func26 (hs _) rfl rfl rfl rfl rfl ?_ | refine s_callq TrydT_ok (fun _ => hs _) rfl rfl rfl ?_
  refine g_ret TrydT_ok (r := bb R) rfl rfl rfl trivial rfl rfl ?_
  rfl
end Go.AI

namespace Go.AI
open Go.Proofs
set_option maxRecDepth 20000
/-- CheckState. -/
def ckS (m : Ext) (s : Sta) : Int :=
  if chk m ≠ 0 then chk m else if s.loc < 0 ∨ s.loc ≥ m.locs then 2 else if s.vals.length ≠ m.vars.length then 4 else if within m.vars s.vals = false then 2 else 0
theorem checkState28 (O : List Heap) (m : Ext) (s : Sta) (hok : extOk m) : ASpec Tryd.prog 28 [extD m, staD s] O (ii (ckS m s)) [] O := by
  generalize hR : ckS m s = R
  unfold ckS at hR
  obtain ⟨sl, sv⟩ := s
  simp only at hR
  have hw := fun O => within52 O m.vars sv hok.va
  generalize within m.vars sv = W at hw hR
  refine aspec_intro TrydT_ok Tryd.func28 rfl Tryd.call28 Tryd.ntmps28 (Nat.le_of_ble_eq_true rfl) fun E => ?_
  refine g_run TrydT_ok Tryd.func28 ?_
  first | refine g_call TrydT_ok Tryd.func28 (check40 _ m hok) rfl rfl rfl rfl rfl ?_ | refine s_callq TrydT_ok (fun _ => check40 _ m hok) rfl rfl rfl ?_
  first | refine g_cnd TrydT_ok Tryd.func28 rfl (fun h1 => ?_) (fun h1 => ?_) | refine g_know TrydT_ok Tryd.func28 rfl (fun h1 => ?_) (fun h1 => ?_) | refine s_know TrydT_ok (fun h1 => ?_) (fun h1 => ?_)
  · have h1 := bneT h1
    rw [if_pos h1] at hR
    refine g_ret TrydT_ok (r := ii (chk m)) rfl rfl rfl trivial rfl rfl ?_
    exact congrArg ii hR
  have h1 := bneF h1
  rw [if_neg (by simpa using h1)] at hR
  first | refine g_cnd TrydT_ok Tryd.func28 rfl (fun h2 => ?_) (fun h2 => ?_) | refine g_know TrydT_ok Tryd.func28 rfl (fun h2 => ?_) (fun h2 => ?_) | refine s_know TrydT_ok (fun h2 => ?_) (fun h2 => ?_)
  · have h2 : sl < 0 := by simpa using h2
    rw [if_pos (.inl h2)] at hR
    repeat (first | refine g_cnd TrydT_ok Tryd.func28 rfl (fun _ => ?_) (fun h => absurd h (by decide)) | refine g_cnd TrydT_ok Tryd.func28 rfl (fun h => absurd h (by decide)) (fun _ => ?_) | refine g_know TrydT_ok Tryd.func28 rfl (fun _ => ?_) (fun h => absurd h (by decide)) | refine g_know TrydT_ok Tryd.func28 rfl (fun h => absurd h (by decide)) (fun _ => ?_) | refine s_know TrydT_ok (fun _ => ?_) (fun h => absurd h (by decide)) | refine s_know TrydT_ok (fun h => absurd h (by decide)) (fun _ => ?_))
    refine g_ret TrydT_ok (r := ii 2) rfl rfl rfl trivial rfl rfl ?_
    exact congrArg ii hR
  have h2 : ¬ sl < 0 := by simpa using h2
  first | refine g_cnd TrydT_ok Tryd.func28 rfl (fun h3 => ?_) (fun h3 => ?_) | refine g_know TrydT_ok Tryd.func28 rfl (fun h3 => ?_) (fun h3 => ?_) | refine s_know TrydT_ok (fun h3 => ?_) (fun h3 => ?_)
  · have h3 : m.locs ≤ sl := by simpa using h3
    rw [if_pos (.inr h3)] at hR
    refine g_ret TrydT_ok (r := ii 2) rfl rfl rfl trivial rfl rfl ?_
    exact congrArg ii hR
  have h3 : ¬ m.locs ≤ sl := by simpa using h3
  rw [if_neg (by rintro (h | h); exact h2 h; exact h3 h)] at hR
  first | refine g_cnd TrydT_ok Tryd.func28 rfl (fun h4 => ?_) (fun h4 => ?_) | refine g_know TrydT_ok Tryd.func28 rfl (fun h4 => ?_) (fun h4 => ?_) | refine s_know TrydT_ok (fun h4 => ?_) (fun h4 => ?_)
  · have h4 := bneT h4
    rw [if_pos (by intro e; exact h4 (by rw [e]))] at hR
    refine g_ret TrydT_ok (r := ii 4) rfl rfl rfl trivial rfl rfl ?_
    exact congrArg ii hR
  have h4 := bneF h4
  have h4 : sv.length = m.vars.length := by
    have : ((sv.length : Nat) : Int) = m.vars.length := by simpa using h4
    omega
  rw [if_neg (by rw [h4]; simp)] at hR
  first | refine g_call TrydT_ok Tryd.func28 (hw _) rfl rfl rfl rfl rfl ?_ | refine s_callq TrydT_ok (fun _ => hw _) rfl rfl rfl ?_
  cases W with
  | false =>
    repeat (first | refine g_cnd TrydT_ok Tryd.func28 rfl (fun _ => ?_) (fun h => absurd h (by decide)) | refine g_cnd TrydT_ok Tryd.func28 rfl (fun h => absurd h (by decide)) (fun _ => ?_) | refine g_know TrydT_ok Tryd.func28 rfl (fun _ => ?_) (fun h => absurd h (by decide)) | refine g_know TrydT_ok Tryd.func28 rfl (fun h => absurd h (by decide)) (fun _ => ?_) | refine s_know TrydT_ok (fun _ => ?_) (fun h => absurd h (by decide)) | refine s_know TrydT_ok (fun h => absurd h (by decide)) (fun _ => ?_))
    refine g_ret TrydT_ok (r := ii 2) rfl rfl rfl trivial rfl rfl ?_
    exact congrArg ii hR
  | true =>
    repeat (first | refine g_cnd TrydT_ok Tryd.func28 rfl (fun _ => ?_) (fun h => absurd h (by decide)) | refine g_cnd TrydT_ok Tryd.func28 rfl (fun h => absurd h (by decide)) (fun _ => ?_) | refine g_know TrydT_ok Tryd.func28 rfl (fun _ => ?_) (fun h => absurd h (by decide)) | refine g_know TrydT_ok Tryd.func28 rfl (fun h => absurd h (by decide)) (fun _ => ?_) | refine s_know TrydT_ok (fun _ => ?_) (fun h => absurd h (by decide)) | refine s_know TrydT_ok (fun h => absurd h (by decide)) (fun _ => ?_))
    refine g_ret TrydT_ok (r := ii 0) rfl rfl rfl trivial rfl rfl ?_
    exact congrArg ii hR
end Go.AI

namespace Go.AI
open Go.Proofs
set_option maxRecDepth 20000
theorem start23 (O : List Heap) (m : Ext) (hv : m.vars.length ≤ 16) : ASpec Tryd.prog 23 [extD m] O (staD (startR m)) [] O := by
  refine aspec_intro TrydT_ok Tryd.func23 rfl Tryd.call23 Tryd.ntmps23 (Nat.le_of_ble_eq_true rfl) fun E => ?_
  refine g_run TrydT_ok Tryd.func23 ?_
  refine g_loop ?_
  refine rch_wk (wk_nilbox2 3 24 3 1 (pre := [ii m.init]) (post := []) rfl rfl rfl) ?_
  refine rch_loop2 (fun i : Nat => [(1, .own 0 1 0 0), (2, .own 0 2 0 0), (3, .own 0 3 0 0), (4, ii i)]) (fun i => [(1, .box (extC m)), (3, .box [ii m.init, .osl 0 24]), (24, oints ((m.vars.take i).map (·.init))), (2, .box [ii 0, .i (.v (.slice none 0 0))])]) (fun _ => O) 27
    (fun i => i ≤ m.vars.length) (fun i => m.vars.length - i) 0 (Nat.zero_le _) ⟨rfl, rfl, rfl, rfl, trivial⟩ rfl ⟨rfl, rfl, rfl, rfl, trivial⟩ rfl rfl ?_
  rintro i hi ih
  refine g_run TrydT_ok Tryd.func23 ?_
  first | refine g_cnd TrydT_ok Tryd.func23 rfl (fun h1 => ?_) (fun h1 => ?_) | refine g_know TrydT_ok Tryd.func23 rfl (fun h1 => ?_) (fun h1 => ?_) | refine s_know TrydT_ok (fun h1 => ?_) (fun h1 => ?_)
  · have h1 : i < m.vars.length := by simpa using h1
    have hl : ((m.vars.take i).map (·.init)).length = i := by simp; omega
    have e : (m.vars.take (i + 1)).map (·.init) = (m.vars.take i).map (·.init) ++ [m.vars[i].init] := take_map_succ h1
    have hg : (m.vars.map vrI)[(i : Int).toNat]? = some (vrI m.vars[i]) := get_mapZ h1
    generalize m.vars[i] = v at e hg
    generalize (m.vars.take i).map (·.init) = l at *
    refine g_drawn TrydT_ok Tryd.func23 mixedT rfl ?_
    first | refine g_need TrydT_ok Tryd.func23 (by omega) ?_ | refine s_need TrydT_ok (by omega) ?_
    first | refine g_elem TrydT_ok Tryd.func23 (hg) ?_ | refine s_elem TrydT_ok (hg) ?_
    refine e_tail TrydT_ok Tryd.func23 ([9, 10, 11]) (by kernel_rfl) (by kernel_rfl) ?_
    first | refine g_need TrydT_ok Tryd.func23 (by exact ⟨by show (l.length + 1) * 8 ≤ 140737488355328; omega, by show l.length + 1 ≤ 9223372036854775807; omega⟩) ?_ | refine s_need TrydT_ok (by exact ⟨by show (l.length + 1) * 8 ≤ 140737488355328; omega, by show l.length + 1 ≤ 9223372036854775807; omega⟩) ?_
    refine g_loop ?_
    refine ih (i + 1) _ _ h1 (by omega) ⟨rfl, rfl, rfl, congrArg ii (wsucc (n := 16) (by omega) (by decide)), trivial⟩ rfl ⟨rfl, rfl, by rw [e]; exact congrArg some (oints_app l v.init), rfl, trivial⟩ rfl rfl
  · have h1 : m.vars.length ≤ i := by simpa using h1
    rw [List.take_of_length_le h1]
    refine g_rwk (wk_freeze 24 rfl rfl) ?_
    refine g_rwk (wk_imm rfl) ?_
    refine g_ret TrydT_ok (r := staD (startR m)) rfl rfl rfl trivial rfl rfl ?_
    rfl
theorem has24 (O : List Heap) (l : List Int) (n : Int) (hl : l.length ≤ max63) : ASpec Tryd.prog 24 [ints l, ii n] O (bb (decide (n ∈ l))) [] O := by
  refine aspec_intro TrydT_ok Tryd.func24 rfl Tryd.call24 Tryd.ntmps24 (Nat.le_of_ble_eq_true rfl) fun E => ?_
  refine g_run TrydT_ok Tryd.func24 ?_
  refine g_loop ?_
  refine rch_loop2 (fun i : Nat => [(0, ints l), (1, ii n), (5, ii i)]) (fun _ => []) (fun _ => O) 18
    (fun i => i ≤ l.length ∧ n ∉ l.take i) (fun i => l.length - i) 0 ⟨Nat.zero_le _, by simp⟩ ⟨rfl, rfl, rfl, trivial⟩ rfl trivial rfl rfl ?_
  rintro i ⟨hi, hno⟩ ih
  refine g_run TrydT_ok Tryd.func24 ?_
  first | refine g_cnd TrydT_ok Tryd.func24 rfl (fun h1 => ?_) (fun h1 => ?_) | refine g_know TrydT_ok Tryd.func24 rfl (fun h1 => ?_) (fun h1 => ?_) | refine s_know TrydT_ok (fun h1 => ?_) (fun h1 => ?_)
  · have h1 : i < l.length := by simpa using h1
    have hg : (l.map fun x => [vi x])[(i : Int).toNat]? = some [vi l[i]] := get_mapZ (f := fun x => [vi x]) h1
    have ht : l.take (i + 1) = l.take i ++ [l[i]] := by rw [List.take_add_one, List.getElem?_eq_getElem h1]; rfl
    have hm := List.getElem_mem h1
    generalize l[i] = x at *
    first | refine g_need TrydT_ok Tryd.func24 (by omega) ?_ | refine s_need TrydT_ok (by omega) ?_
    first | refine g_elem TrydT_ok Tryd.func24 (hg) ?_ | refine s_elem TrydT_ok (hg) ?_
    first | refine g_cnd TrydT_ok Tryd.func24 rfl (fun h2 => ?_) (fun h2 => ?_) | refine g_know TrydT_ok Tryd.func24 rfl (fun h2 => ?_) (fun h2 => ?_) | refine s_know TrydT_ok (fun h2 => ?_) (fun h2 => ?_)
    · have h2 := beqT h2
      subst h2
      rw [decide_eq_true hm]
      refine g_ret TrydT_ok (r := bb true) rfl rfl rfl trivial rfl rfl ?_
      rfl
    · have h2 := beqF h2
      refine g_loop ?_
      refine ih (i + 1) _ _ ⟨h1, ?_⟩ (by omega) ⟨rfl, rfl, congrArg ii (wsucc h1 hl), trivial⟩ rfl trivial rfl rfl
      rw [ht]
      simp only [List.mem_append, List.mem_singleton]
      rintro (h | h)
      · exact hno h
      · exact h2 h.symm
  · have h1 : l.length ≤ i := by simpa using h1
    rw [List.take_of_length_le h1] at hno
    rw [decide_eq_false hno]
    refine g_ret TrydT_ok (r := bb false) rfl rfl rfl trivial rfl rfl ?_
    rfl
theorem sameStates18 (O : List Heap) (a b : List Sta) (ha : a.length ≤ max63) (hv : ∀ s ∈ a, s.vals.length ≤ max63) : ASpec Tryd.prog 18 [stasD a, stasD b] O (bb (decide (a = b))) [] O := by
  refine aspec_intro TrydT_ok Tryd.func18 rfl Tryd.call18 Tryd.ntmps18 (Nat.le_of_ble_eq_true rfl) fun E => ?_
  refine g_run TrydT_ok Tryd.func18 ?_
  first | refine g_cnd TrydT_ok Tryd.func18 rfl (fun h1 => ?_) (fun h1 => ?_) | refine g_know TrydT_ok Tryd.func18 rfl (fun h1 => ?_) (fun h1 => ?_) | refine s_know TrydT_ok (fun h1 => ?_) (fun h1 => ?_)
  · have h1 := bneT h1
    rw [decide_eq_false fun e => h1 (by rw [e])]
    refine g_ret TrydT_ok (r := bb false) rfl rfl rfl trivial rfl rfl ?_
    rfl
  have h1 := bneF h1
  have hlen : a.length = b.length := by
    have : ((a.length : Nat) : Int) = b.length := by simpa using h1
    omega
  refine g_loop ?_
  refine rch_loop2 (fun i : Nat => [(0, stasD a), (1, stasD b), (5, ii i)]) (fun _ => []) (fun _ => O) 27
    (fun i => i ≤ a.length ∧ ∀ (j : Nat) (h : j < a.length), j < i → a[j] = b[j]'(by omega)) (fun i => a.length - i) 0 ⟨Nat.zero_le _, fun j _ h => by omega⟩ ⟨rfl, rfl, rfl, trivial⟩ rfl trivial rfl rfl ?_
  rintro i ⟨hi, hno⟩ ih
  refine g_run TrydT_ok Tryd.func18 ?_
  first | refine g_cnd TrydT_ok Tryd.func18 rfl (fun h2 => ?_) (fun h2 => ?_) | refine g_know TrydT_ok Tryd.func18 rfl (fun h2 => ?_) (fun h2 => ?_) | refine s_know TrydT_ok (fun h2 => ?_) (fun h2 => ?_)
  · have h2 : i < a.length := by simpa using h2
    have ga : (a.map staI)[(i : Int).toNat]? = some (staI a[i]) := get_mapZ h2
    have gb : (b.map staI)[(i : Int).toNat]? = some (staI (b[i]'(by omega))) := get_mapZ (by omega)
    have hs := fun O => same22 O a[i] (b[i]'(by omega)) (hv _ (List.getElem_mem h2))
    have hne : a[i] ≠ b[i]'(by omega) → a ≠ b := fun h e => by subst e; exact h rfl
    have hstep : a[i] = b[i]'(by omega) → ∀ (j : Nat) (h : j < a.length), j < i + 1 → a[j] = b[j]'(by omega) := fun h j hj hji => by
      by_cases e : j = i
      · subst e; exact h
      · exact hno j hj (by omega)
    generalize a[i] = x at *
    generalize b[i]'(by omega) = y at *
    refine g_drawn TrydT_ok Tryd.func18 mixedT rfl ?_
    first | refine g_need TrydT_ok Tryd.func18 (by exact ⟨by omega, by show (i : Int) < (a.length : Int); omega⟩) ?_ | refine s_need TrydT_ok (by exact ⟨by omega, by show (i : Int) < (a.length : Int); omega⟩) ?_
    first | refine g_elem TrydT_ok Tryd.func18 (ga) ?_ | refine s_elem TrydT_ok (ga) ?_
    first | refine g_need TrydT_ok Tryd.func18 (by exact ⟨by omega, by show (i : Int) < (b.length : Int); omega⟩) ?_ | refine s_need TrydT_ok (by exact ⟨by omega, by show (i : Int) < (b.length : Int); omega⟩) ?_
    first | refine g_elem TrydT_ok Tryd.func18 (gb) ?_ | refine s_elem TrydT_ok (gb) ?_
    first | refine g_call TrydT_ok Tryd.func18 (hs _) rfl rfl rfl rfl rfl ?_ | refine s_callq TrydT_ok (fun _ => hs _) rfl rfl rfl ?_
    refine e_done TrydT_ok Tryd.func18 (by kernel_rfl) ?_
    first | refine g_cnd TrydT_ok Tryd.func18 rfl (fun h3 => ?_) (fun h3 => ?_) | refine g_know TrydT_ok Tryd.func18 rfl (fun h3 => ?_) (fun h3 => ?_) | refine s_know TrydT_ok (fun h3 => ?_) (fun h3 => ?_)
    · have h3 : x ≠ y := by simpa using h3
      rw [decide_eq_false (hne h3)]
      refine g_ret TrydT_ok (r := bb false) rfl rfl rfl trivial rfl rfl ?_
      rfl
    · have h3 : x = y := by simpa using h3
      refine g_loop ?_
      exact ih (i + 1) _ _ ⟨h2, hstep h3⟩ (by omega) ⟨rfl, rfl, congrArg ii (wsucc h2 ha), trivial⟩ rfl trivial rfl rfl
  · have h2 : a.length ≤ i := by simpa using h2
    have : a = b := List.ext_getElem hlen fun j h h' => hno j h (by omega)
    rw [decide_eq_true this]
    refine g_ret TrydT_ok (r := bb true) rfl rfl rfl trivial rfl rfl ?_
    rfl
/-- The error of a state. -/
def stErr (m : Ext) (s : Sta) : Int := if s.loc < 0 ∨ s.loc ≥ m.locs then 2 else if s.vals.length ≠ m.vars.length then 4 else if within m.vars s.vals = false then 2 else 0
theorem ckS_eq {m : Ext} (h : chk m = 0) (s : Sta) : ckS m s = stErr m s := by
  unfold ckS stErr
  rw [h]
  simp
theorem state29 (O : List Heap) (m : Ext) (s : Sta) (hv : m.vars.length ≤ max63) : ASpec Tryd.prog 29 [extD m, staD s] O (ii (stErr m s)) [] O := by
  generalize hR : stErr m s = R
  unfold stErr at hR
  have hw := fun O => within52 O m.vars s.vals hv
  generalize within m.vars s.vals = W at hw hR
  refine aspec_intro TrydT_ok Tryd.func29 rfl Tryd.call29 Tryd.ntmps29 (Nat.le_of_ble_eq_true rfl) fun E => ?_
  refine g_run TrydT_ok Tryd.func29 ?_
  first | refine g_cnd TrydT_ok Tryd.func29 rfl (fun h2 => ?_) (fun h2 => ?_) | refine g_know TrydT_ok Tryd.func29 rfl (fun h2 => ?_) (fun h2 => ?_) | refine s_know TrydT_ok (fun h2 => ?_) (fun h2 => ?_)
  · have h2 : s.loc < 0 := of_decide_eq_true h2
    rw [if_pos (.inl h2)] at hR
    repeat (first | refine g_cnd TrydT_ok Tryd.func29 rfl (fun _ => ?_) (fun h => absurd h (by decide)) | refine g_cnd TrydT_ok Tryd.func29 rfl (fun h => absurd h (by decide)) (fun _ => ?_) | refine g_know TrydT_ok Tryd.func29 rfl (fun _ => ?_) (fun h => absurd h (by decide)) | refine g_know TrydT_ok Tryd.func29 rfl (fun h => absurd h (by decide)) (fun _ => ?_) | refine s_know TrydT_ok (fun _ => ?_) (fun h => absurd h (by decide)) | refine s_know TrydT_ok (fun h => absurd h (by decide)) (fun _ => ?_))
    refine g_ret TrydT_ok (r := ii 2) rfl rfl rfl trivial rfl rfl ?_
    exact congrArg ii hR
  have h2 : ¬ s.loc < 0 := of_decide_eq_false h2
  first | refine g_cnd TrydT_ok Tryd.func29 rfl (fun h3 => ?_) (fun h3 => ?_) | refine g_know TrydT_ok Tryd.func29 rfl (fun h3 => ?_) (fun h3 => ?_) | refine s_know TrydT_ok (fun h3 => ?_) (fun h3 => ?_)
  · have h3 : s.loc ≥ m.locs := of_decide_eq_true h3
    rw [if_pos (.inr h3)] at hR
    refine g_ret TrydT_ok (r := ii 2) rfl rfl rfl trivial rfl rfl ?_
    exact congrArg ii hR
  have h3 : ¬ s.loc ≥ m.locs := of_decide_eq_false h3
  rw [if_neg (by rintro (h | h); exact h2 h; exact h3 h)] at hR
  first | refine g_cnd TrydT_ok Tryd.func29 rfl (fun h4 => ?_) (fun h4 => ?_) | refine g_know TrydT_ok Tryd.func29 rfl (fun h4 => ?_) (fun h4 => ?_) | refine s_know TrydT_ok (fun h4 => ?_) (fun h4 => ?_)
  · have h4 := bneT h4
    rw [if_pos (by intro e; exact h4 (by rw [e]))] at hR
    refine g_ret TrydT_ok (r := ii 4) rfl rfl rfl trivial rfl rfl ?_
    exact congrArg ii hR
  have h4 := bneF h4
  rw [if_neg (by omega)] at hR
  first | refine g_call TrydT_ok Tryd.func29 (hw _) rfl rfl rfl rfl rfl ?_ | refine s_callq TrydT_ok (fun _ => hw _) rfl rfl rfl ?_
  cases W with
  | false =>
    repeat (first | refine g_cnd TrydT_ok Tryd.func29 rfl (fun _ => ?_) (fun h => absurd h (by decide)) | refine g_cnd TrydT_ok Tryd.func29 rfl (fun h => absurd h (by decide)) (fun _ => ?_) | refine g_know TrydT_ok Tryd.func29 rfl (fun _ => ?_) (fun h => absurd h (by decide)) | refine g_know TrydT_ok Tryd.func29 rfl (fun h => absurd h (by decide)) (fun _ => ?_) | refine s_know TrydT_ok (fun _ => ?_) (fun h => absurd h (by decide)) | refine s_know TrydT_ok (fun h => absurd h (by decide)) (fun _ => ?_))
    refine g_ret TrydT_ok (r := ii 2) rfl rfl rfl trivial rfl rfl ?_
    exact congrArg ii hR
  | true =>
    repeat (first | refine g_cnd TrydT_ok Tryd.func29 rfl (fun _ => ?_) (fun h => absurd h (by decide)) | refine g_cnd TrydT_ok Tryd.func29 rfl (fun h => absurd h (by decide)) (fun _ => ?_) | refine g_know TrydT_ok Tryd.func29 rfl (fun _ => ?_) (fun h => absurd h (by decide)) | refine g_know TrydT_ok Tryd.func29 rfl (fun h => absurd h (by decide)) (fun _ => ?_) | refine s_know TrydT_ok (fun _ => ?_) (fun h => absurd h (by decide)) | refine s_know TrydT_ok (fun h => absurd h (by decide)) (fun _ => ?_))
    refine g_ret TrydT_ok (r := ii 0) rfl rfl rfl trivial rfl rfl ?_
    exact congrArg ii hR
theorem equalStates32 (O : List Heap) (a b : Sta) (ha : a.vals.length ≤ max63) : ASpec Tryd.prog 32 [staD a, staD b] O (bb (decide (a = b))) [] O := by
  obtain ⟨al, av⟩ := a
  obtain ⟨bl, bv⟩ := b
  show ASpec Tryd.prog 32 [.agg [ii al, ints av], .agg [ii bl, ints bv]] O (bb (decide ((⟨al, av⟩ : Sta) = ⟨bl, bv⟩))) [] O
  simp only at ha
  have he := fun O => equal47 O av bv ha
  refine aspec_intro TrydT_ok Tryd.func32 rfl Tryd.call32 Tryd.ntmps32 (Nat.le_of_ble_eq_true rfl) fun E => ?_
  refine g_run TrydT_ok Tryd.func32 ?_
  first | refine g_cnd TrydT_ok Tryd.func32 rfl (fun h1 => ?_) (fun h1 => ?_) | refine g_know TrydT_ok Tryd.func32 rfl (fun h1 => ?_) (fun h1 => ?_) | refine s_know TrydT_ok (fun h1 => ?_) (fun h1 => ?_)
  · have h1 := beqT h1
    first | refine g_call TrydT_ok Tryd.func32 (he _) rfl rfl rfl rfl rfl ?_ | refine s_callq TrydT_ok (fun _ => he _) rfl rfl rfl ?_
    refine g_ret TrydT_ok (r := bb (decide (av = bv))) rfl rfl rfl trivial rfl rfl ?_
    subst h1
    by_cases h : av = bv
    · rw [decide_eq_true h, decide_eq_true (by rw [h])]
    · rw [decide_eq_false h, decide_eq_false fun e => h (congrArg Sta.vals e)]
  · have h1 := beqF h1
    rw [decide_eq_false fun e => h1 (congrArg Sta.loc e)]
    refine g_ret TrydT_ok (r := bb false) rfl rfl rfl trivial rfl rfl ?_
    rfl
/-- Marked. -/
def markR (m : Ext) (s : Sta) : Bool × Int := if ckS m s ≠ 0 then (false, ckS m s) else (decide (s.loc ∈ m.marked), 0)
theorem marked30 (O : List Heap) (m : Ext) (s : Sta) (hok : extOk m) : ASpec Tryd.prog 30 [extD m, staD s] O (.tup [bb (markR m s).1, ii (markR m s).2]) [] O := by
  have hck := fun O => checkState28 O m s hok
  have hs : ckS m s = 0 → m.marked.Pairwise (· < ·) := by
    intro h
    unfold ckS at h
    by_cases h1 : chk m ≠ 0
    · rw [if_pos h1] at h; exact absurd h h1
    · exact (checkSet_sorted (chk_right (by simpa using h1)).marked).1
  generalize hR : markR m s = R
  unfold markR at hR
  generalize ckS m s = c at *
  refine aspec_intro TrydT_ok Tryd.func30 rfl Tryd.call30 Tryd.ntmps30 (Nat.le_of_ble_eq_true rfl) fun E => ?_
  refine g_run TrydT_ok Tryd.func30 ?_
  first | refine g_call TrydT_ok Tryd.func30 (hck _) rfl rfl rfl rfl rfl ?_ | refine s_callq TrydT_ok (fun _ => hck _) rfl rfl rfl ?_
  first | refine g_cnd TrydT_ok Tryd.func30 rfl (fun h1 => ?_) (fun h1 => ?_) | refine g_know TrydT_ok Tryd.func30 rfl (fun h1 => ?_) (fun h1 => ?_) | refine s_know TrydT_ok (fun h1 => ?_) (fun h1 => ?_)
  · have h1 := bneT h1
    rw [if_pos h1] at hR
    subst hR
    refine g_ret TrydT_ok (r := .tup [bb false, ii c]) rfl rfl rfl trivial rfl rfl ?_
    rfl
  have h1 := bneF h1
  rw [if_neg (by simpa using h1)] at hR
  subst hR
  first | refine g_call TrydT_ok Tryd.func30 (contains49 _ m.marked s.loc hok.ma (hs h1)) rfl rfl rfl rfl rfl ?_ | refine s_callq TrydT_ok (fun _ => contains49 _ m.marked s.loc hok.ma (hs h1)) rfl rfl rfl ?_
  refine g_ret TrydT_ok (r := .tup [bb _, ii 0]) rfl rfl rfl trivial rfl rfl ?_
  rfl
/-- Step. -/
def stpR (m : Ext) (s : Sta) (ev : Int) : Sta × Bool × Int := if ckS m s ≠ 0 then (zeroS, false, ckS m s) else if ev ∉ m.alpha then (zeroS, false, 9) else stepR m s ev
theorem ckS_right {m : Ext} {s : Sta} (h : ckS m s = 0) : chk m = 0 ∧ s.vals.length = m.vars.length ∧ within m.vars s.vals = true ∧ 0 ≤ s.loc ∧ s.loc < m.locs := by
  unfold ckS at h
  by_cases h1 : chk m ≠ 0
  · rw [if_pos h1] at h; exact absurd h h1
  rw [if_neg h1] at h
  by_cases h2 : s.loc < 0 ∨ s.loc ≥ m.locs
  · rw [if_pos h2] at h; cases h
  rw [if_neg h2] at h
  by_cases h3 : s.vals.length ≠ m.vars.length
  · rw [if_pos h3] at h; cases h
  rw [if_neg h3] at h
  by_cases h4 : within m.vars s.vals = false
  · rw [if_pos h4] at h; cases h
  exact ⟨by simpa using h1, by simpa using h3, by simpa using h4, by omega, by omega⟩
theorem step31 (O : List Heap) (m : Ext) (s : Sta) (ev : Int) (hok : extOk m) : ASpec Tryd.prog 31 [extD m, staD s, ii ev] O (.tup [staD (stpR m s ev).1, bb (stpR m s ev).2.1, ii (stpR m s ev).2.2]) [] O := by
  have hck := fun O => checkState28 O m s hok
  have hs := @ckS_right m s
  have hst := fun O hr hl => step50 O m s ev hok hr hl
  generalize hR : stpR m s ev = R
  unfold stpR at hR
  generalize ckS m s = c at *
  refine aspec_intro TrydT_ok Tryd.func31 rfl Tryd.call31 Tryd.ntmps31 (Nat.le_of_ble_eq_true rfl) fun E => ?_
  refine g_run TrydT_ok Tryd.func31 ?_
  first | refine g_call TrydT_ok Tryd.func31 (hck _) rfl rfl rfl rfl rfl ?_ | refine s_callq TrydT_ok (fun _ => hck _) rfl rfl rfl ?_
  first | refine g_cnd TrydT_ok Tryd.func31 rfl (fun h1 => ?_) (fun h1 => ?_) | refine g_know TrydT_ok Tryd.func31 rfl (fun h1 => ?_) (fun h1 => ?_) | refine s_know TrydT_ok (fun h1 => ?_) (fun h1 => ?_)
  · have h1 := bneT h1
    rw [if_pos h1] at hR
    subst hR
    refine g_ret_co TrydT_ok (r := _) rfl rfl rfl trivial rfl rfl ?_
    exact coZ
  have h1 := bneF h1
  rw [if_neg (by simpa using h1)] at hR
  obtain ⟨h2, h3, -⟩ := hs h1
  have hr := chk_right h2
  first | refine g_call TrydT_ok Tryd.func31 (contains49 _ m.alpha ev hok.al (checkSet_sorted hr.alpha).1) rfl rfl rfl rfl rfl ?_ | refine s_callq TrydT_ok (fun _ => contains49 _ m.alpha ev hok.al (checkSet_sorted hr.alpha).1) rfl rfl rfl ?_
  first | refine g_cnd TrydT_ok Tryd.func31 rfl (fun h4 => ?_) (fun h4 => ?_) | refine g_know TrydT_ok Tryd.func31 rfl (fun h4 => ?_) (fun h4 => ?_) | refine s_know TrydT_ok (fun h4 => ?_) (fun h4 => ?_)
  · have h4 : ev ∉ m.alpha := by simpa using h4
    rw [if_pos h4] at hR
    subst hR
    refine g_ret_co TrydT_ok (r := _) rfl rfl rfl trivial rfl rfl ?_
    exact coZ
  have h4 : ev ∈ m.alpha := by simpa using h4
  rw [if_neg (by simpa using h4)] at hR
  subst hR
  have hst := fun O => hst O hr h3
  generalize stepR m s ev = n at *
  obtain ⟨⟨nl, nv⟩, np, ne⟩ := n
  first | refine g_call TrydT_ok Tryd.func31 (hst _) rfl rfl rfl rfl rfl ?_ | refine s_callq TrydT_ok (fun _ => hst _) rfl rfl rfl ?_
  refine g_ret TrydT_ok (r := .tup [staD ⟨nl, nv⟩, bb np, ii ne]) rfl rfl rfl trivial rfl rfl ?_
  rfl
end Go.AI

namespace Go.AI
open Go.Proofs
set_option maxRecDepth 20000
mutual
def esz : Ex → Nat
  | .mk _ _ _ args => 1 + eszs args
def eszs : List Ex → Nat
  | [] => 0
  | e :: r => esz e + eszs r
end
mutual
def edep : Ex → Nat
  | .mk _ _ _ args => 1 + edeps args
def edeps : List Ex → Nat
  | [] => 0
  | e :: r => max (edep e) (edeps r)
end
mutual
theorem formR_of : ∀ (x : Ex) (n : Int) (lvl c : Nat), wfE n x → c + esz x ≤ 64 → lvl + edep x ≤ 9 → formR x n lvl c = (0, ((c + esz x : Nat) : Int))
  | .mk op v ix args, n, lvl, c, hw, hc, hl => by
    simp only [esz] at hc ⊢
    simp only [edep] at hl
    simp only [wfE] at hw
    simp only [formR]
    rw [if_neg (by omega), if_neg (by rw [hw.1]; simp)]
    have := formRs_of args n (lvl + 1) (c + 1) hw.2 (by omega) (by omega)
    rw [show ((lvl : Int) + 1) = ((lvl + 1 : Nat) : Int) by omega, show ((c : Int) + 1) = ((c + 1 : Nat) : Int) by omega, this]
    rw [show c + (1 + eszs args) = c + 1 + eszs args by omega]
theorem formRs_of : ∀ (l : List Ex) (n : Int) (lvl c : Nat), wfEs n l → c + eszs l ≤ 64 → lvl + edeps l ≤ 9 → formRs l n lvl c = (0, ((c + eszs l : Nat) : Int))
  | [], n, lvl, c, _, _, _ => rfl
  | e :: r, n, lvl, c, hw, hc, hl => by
    simp only [eszs] at hc ⊢
    simp only [edeps] at hl
    simp only [wfEs] at hw
    simp only [formRs]
    have h1 := formR_of e n lvl c hw.1 (by omega) (by omega)
    rw [h1]
    simp only [ne_eq, not_true_eq_false, if_false]
    rw [formRs_of r n lvl (c + esz e) hw.2 (by omega) (by omega)]
    rw [show c + (esz e + eszs r) = c + esz e + eszs r by omega]
end
mutual
theorem exOk_wf : ∀ (x : Ex) (n : Int), wfE n x → exOk x
  | .mk op v ix args, n, h => by
    simp only [wfE] at h
    obtain ⟨_, h2, _⟩ := formHead_zero h.1
    have := arity_le op
    exact ⟨by simp only [max63]; omega, exOks_wf args n h.2⟩
theorem exOks_wf : ∀ (l : List Ex) (n : Int), wfEs n l → exOks l
  | [], _, _ => trivial
  | e :: r, n, h => by
    simp only [wfEs] at h
    exact ⟨exOk_wf e n h.1, exOks_wf r n h.2⟩
end
theorem typed_of {x : Ex} {n k : Int} (hn : 0 ≤ n) (hn2 : n ≤ 16) (hw : wfE n x) (hs : esz x ≤ 64) (hd : edep x ≤ 8) (hk : kindR x = k) (hk0 : k ≠ 0) : typedX x n k = 0 := by
  have h1 := formR_of x n 1 0 hw (by omega) (by omega)
  have h2 : checkX x n = (k, 0) := by
    unfold checkX
    have h1' : formR x n 1 0 = (0, ((0 + esz x : Nat) : Int)) := h1
    rw [if_neg (by omega), h1']
    rw [if_neg (by simp), if_neg (by rw [hk]; exact hk0), hk]
  unfold typedX
  rw [h2, if_neg (by simp)]
theorem fh2 {op n : Int} (h : op = 2 ∨ op = 3 ∨ op = 4 ∨ op = 6 ∨ op = 7 ∨ op = 8 ∨ op = 9 ∨ op = 11 ∨ op = 12) : formHead op 0 0 2 n = 0 := by
  rcases h with rfl | rfl | rfl | rfl | rfl | rfl | rfl | rfl | rfl <;> rfl
theorem fh1 {op n : Int} (h : op = 5 ∨ op = 10) : formHead op 0 0 1 n = 0 := by
  rcases h with rfl | rfl <;> rfl
theorem fh3 {n : Int} : formHead 13 0 0 3 n = 0 := rfl
/-- What a grown expression is like. -/
structure grown (vars : Int) (lv : Nat) (t : Bool) (k : Nat) (r : Ex × List Int × Nat) : Prop where
  wf : wfE vars r.1
  kind : kindR r.1 = tyOf t
  dep : edep r.1 ≤ lv + 2
  cnt : k < r.2.2
  sz : esz r.1 + 3 * min k 12 ≤ 3 * min r.2.2 12 + (if 12 ≤ k then 3 else if r.2.2 ≤ 12 then 0 else 6 * lv + 3)
theorem tyOf_ne (t : Bool) : tyOf t ≠ 0 := by cases t <;> decide
theorem kind1 {op : Int} {a : Ex} {t : Bool} {ka : Int} (ha : kindR a = ka) (h0 : ka ≠ 0) (hk : kindOp op [ka] = tyOf t) : kindR (.mk op 0 0 [a]) = tyOf t := by
  simp only [kindR, kindRs, ha, if_neg h0, Option.map_some]
  exact hk
theorem kind2 {op : Int} {a b : Ex} {t : Bool} {ka : Int} (ha : kindR a = ka) (hb : kindR b = ka) (h0 : ka ≠ 0) (hk : kindOp op [ka, ka] = tyOf t) : kindR (.mk op 0 0 [a, b]) = tyOf t := by
  simp only [kindR, kindRs, ha, hb, if_neg h0, Option.map_some]
  exact hk
theorem kind3 {a b c : Ex} {t : Bool} (ha : kindR a = 2) (hb : kindR b = tyOf t) (hc : kindR c = tyOf t) : kindR (.mk 13 0 0 [a, b, c]) = tyOf t := by
  simp only [kindR, kindRs, ha, hb, hc, if_neg (tyOf_ne t), Option.map_some]
  cases t <;> rfl
theorem leaf_grown {vars b : Int} (hv : 0 ≤ vars) (hb : byt b) : wfE vars (leafE vars b) ∧ kindR (leafE vars b) = 1 ∧ edep (leafE vars b) = 1 ∧ esz (leafE vars b) = 1 := by
  have := hb.h0
  have := hb.h1
  unfold leafE
  split
  · rename_i h
    have h1 := Int.emod_nonneg (b / 8) (show vars ≠ 0 by omega)
    have h2 := Int.emod_lt_of_pos (b / 8) h.2
    refine ⟨⟨?_, trivial⟩, rfl, rfl, rfl⟩
    show formHead 1 0 (b / 8 % vars) 0 vars = 0
    unfold formHead
    rw [if_neg (by decide), if_neg (by decide), if_neg (by simp), if_neg (by omega)]
  · refine ⟨⟨?_, trivial⟩, rfl, rfl, rfl⟩
    show formHead 0 (b / 8 - 8) 0 0 vars = 0
    unfold formHead
    rw [if_neg (by decide), if_neg (by decide), if_neg (by simp), if_neg (by omega)]
theorem truth_grown {vars : Int} (t : Bool) : wfE vars (truthE t) ∧ kindR (truthE t) = 2 ∧ edep (truthE t) = 2 ∧ esz (truthE t) = 3 := by
  cases t
  · exact ⟨⟨rfl, ⟨rfl, trivial⟩, ⟨rfl, trivial⟩, trivial⟩, rfl, rfl, rfl⟩
  · exact ⟨⟨rfl, ⟨rfl, trivial⟩, ⟨rfl, trivial⟩, trivial⟩, rfl, rfl, rfl⟩
theorem grow_leaf {vars : Int} {lv : Nat} {bs : List Int} {k : Nat} (h : 12 ≤ k) : growR vars lv true bs k = (leafE vars (b0 bs), bs.tail, k + 1) := by
  cases lv with
  | zero => simp only [growR]
  | succ lv => simp only [growR]; rw [if_pos (by omega)]
theorem grown_of {vars : Int} (hv : 0 ≤ vars) : ∀ (lv : Nat) (t : Bool) (bs : List Int) (k : Nat), byteOk bs → grown vars lv t k (growR vars lv t bs k) := by
  intro lv
  induction lv with
  | zero =>
    intro t bs k hb
    have hby : byt (b0 bs) := ⟨(b0_ok hb).1, (b0_ok hb).2⟩
    cases t with
    | true =>
      obtain ⟨a, b, c, d⟩ := leaf_grown hv hby
      simp only [growR]
      exact ⟨a, b, by simp only; omega, by simp only; omega, by simp only; split <;> (try split) <;> omega⟩
    | false =>
      obtain ⟨a, b, c, d⟩ := truth_grown (vars := vars) (decide (b0 bs % 2 = 0))
      simp only [growR]
      exact ⟨a, b, by simp only; omega, by simp only; omega, by simp only; split <;> (try split) <;> omega⟩
  | succ lv ih =>
    intro t bs k hb
    have hby : byt (b0 bs) := ⟨(b0_ok hb).1, (b0_ok hb).2⟩
    have hbt := byteOk_tail hb
    have ok := growR_ok vars lv
    have q3 : b0 bs / 8 % 3 = 0 ∨ b0 bs / 8 % 3 = 1 ∨ b0 bs / 8 % 3 = 2 := by omega
    have q4 : b0 bs / 8 % 4 = 0 ∨ b0 bs / 8 % 4 = 1 ∨ b0 bs / 8 % 4 = 2 ∨ b0 bs / 8 % 4 = 3 := by omega
    have q2 : b0 bs / 8 % 2 = 0 ∨ b0 bs / 8 % 2 = 1 := by omega
    have one : ∀ (t2 : Bool) (op : Int), op = 5 ∨ op = 10 → k < 12 → kindOp op [tyOf t2] = tyOf t → grown vars (lv + 1) t k (.mk op 0 0 [(growR vars lv t2 bs.tail (k + 1)).1], (growR vars lv t2 bs.tail (k + 1)).2) := by
      intro t2 op hop hk hkind
      have h1 := ih t2 bs.tail (k + 1) hbt
      have hsz := h1.sz
      have hcn := h1.cnt
      have hdp := h1.dep
      refine ⟨⟨fh1 hop, h1.wf, trivial⟩, kind1 h1.kind (tyOf_ne _) hkind, ?_, by simp only; omega, ?_⟩
      · simp only [edep, edeps]; omega
      · simp only [esz, eszs]
        split at hsz <;> (try split at hsz) <;> split <;> (try split) <;> omega
    have two : ∀ (t2 : Bool) (op : Int), (op = 2 ∨ op = 3 ∨ op = 4 ∨ op = 6 ∨ op = 7 ∨ op = 8 ∨ op = 9 ∨ op = 11 ∨ op = 12) → (12 ≤ k → t2 = true) → kindOp op [tyOf t2, tyOf t2] = tyOf t → grown vars (lv + 1) t k (.mk op 0 0 [(growR vars lv t2 bs.tail (k + 1)).1, (growR vars lv t2 (growR vars lv t2 bs.tail (k + 1)).2.1 (growR vars lv t2 bs.tail (k + 1)).2.2).1], (growR vars lv t2 (growR vars lv t2 bs.tail (k + 1)).2.1 (growR vars lv t2 bs.tail (k + 1)).2.2).2) := by
      intro t2 op hop hk hkind
      have h1 := ih t2 bs.tail (k + 1) hbt
      have o1 := ok t2 bs.tail (k + 1) hbt
      have l1 : 12 ≤ k → esz (growR vars lv t2 bs.tail (k + 1)).1 = 1 := fun h => by
        rw [hk h, grow_leaf (by omega)]
        exact (leaf_grown hv ⟨(b0_ok hbt).1, (b0_ok hbt).2⟩).2.2.2
      generalize growR vars lv t2 bs.tail (k + 1) = A at *
      have hcn := h1.cnt
      have h2 := ih t2 A.2.1 A.2.2 o1.b
      have l2 : 12 ≤ k → esz (growR vars lv t2 A.2.1 A.2.2).1 = 1 := fun h => by
        rw [hk h, grow_leaf (by omega)]
        exact (leaf_grown hv ⟨(b0_ok o1.b).1, (b0_ok o1.b).2⟩).2.2.2
      generalize growR vars lv t2 A.2.1 A.2.2 = B at *
      have hsz := h1.sz
      have hdp := h1.dep
      have hsz2 := h2.sz
      have hcn2 := h2.cnt
      have hdp2 := h2.dep
      refine ⟨⟨fh2 hop, h1.wf, h2.wf, trivial⟩, kind2 h1.kind h2.kind (tyOf_ne _) hkind, ?_, by simp only; omega, ?_⟩
      · simp only [edep, edeps]; omega
      · simp only [esz, eszs]
        by_cases hk12 : 12 ≤ k
        · rw [l1 hk12, l2 hk12, if_pos hk12]
          omega
        · rw [if_neg hk12]
          split at hsz <;> (try split at hsz) <;> split at hsz2 <;> (try split at hsz2) <;> split <;> omega
    have three : ∀ (t2 : Bool), t2 = t → k < 12 → grown vars (lv + 1) t k (.mk 13 0 0 [(growR vars lv false bs.tail (k + 1)).1, (growR vars lv t2 (growR vars lv false bs.tail (k + 1)).2.1 (growR vars lv false bs.tail (k + 1)).2.2).1,
        (growR vars lv t2 (growR vars lv t2 (growR vars lv false bs.tail (k + 1)).2.1 (growR vars lv false bs.tail (k + 1)).2.2).2.1 (growR vars lv t2 (growR vars lv false bs.tail (k + 1)).2.1 (growR vars lv false bs.tail (k + 1)).2.2).2.2).1],
        (growR vars lv t2 (growR vars lv t2 (growR vars lv false bs.tail (k + 1)).2.1 (growR vars lv false bs.tail (k + 1)).2.2).2.1 (growR vars lv t2 (growR vars lv false bs.tail (k + 1)).2.1 (growR vars lv false bs.tail (k + 1)).2.2).2.2).2) := by
      intro t2 e hk12
      subst e
      have h1 := ih false bs.tail (k + 1) hbt
      have o1 := ok false bs.tail (k + 1) hbt
      generalize growR vars lv false bs.tail (k + 1) = A at *
      have h2 := ih t2 A.2.1 A.2.2 o1.b
      have o2 := ok t2 A.2.1 A.2.2 o1.b
      generalize growR vars lv t2 A.2.1 A.2.2 = B at *
      have h3 := ih t2 B.2.1 B.2.2 o2.b
      generalize growR vars lv t2 B.2.1 B.2.2 = C at *
      have hsz := h1.sz
      have hcn := h1.cnt
      have hdp := h1.dep
      have hsz2 := h2.sz
      have hcn2 := h2.cnt
      have hdp2 := h2.dep
      have hsz3 := h3.sz
      have hcn3 := h3.cnt
      have hdp3 := h3.dep
      refine ⟨⟨fh3, h1.wf, h2.wf, h3.wf, trivial⟩, kind3 h1.kind h2.kind h3.kind, ?_, by simp only; omega, ?_⟩
      · simp only [edep, edeps]; omega
      · simp only [esz, eszs]
        rw [if_neg (by omega)]
        split at hsz <;> (try split at hsz) <;> split at hsz2 <;> (try split at hsz2) <;> split at hsz3 <;> (try split at hsz3) <;> split <;> omega
    cases t with
    | true =>
      simp only [growR]
      split
      · rename_i h
        obtain ⟨a, b, c, d⟩ := leaf_grown hv hby
        exact ⟨a, b, by simp only; omega, by simp only; omega, by simp only; split <;> (try split) <;> omega⟩
      · rename_i h
        split
        · exact one true 5 (.inl rfl) (by omega) rfl
        split
        · exact three true rfl (by omega)
        · refine two true _ (by omega) (fun _ => rfl) ?_
          rcases q3 with q | q | q <;> rw [q] <;> rfl
    | false =>
      simp only [growR]
      split
      · refine two true _ (by omega) (fun _ => rfl) ?_
        rcases q4 with q | q | q | q <;> rw [q] <;> rfl
      · rename_i h
        split
        · exact one false 10 (.inr rfl) (by omega) rfl
        split
        · exact three false rfl (by omega)
        · refine two false _ (by omega) (by omega) ?_
          rcases q2 with q | q <;> rw [q] <;> rfl
theorem grow_typed {vars : Int} (hv : 0 ≤ vars) (hv2 : vars ≤ 16) (t : Bool) {bs : List Int} (hb : byteOk bs) : typedX (growE vars t bs) vars (tyOf t) = 0 ∧ exOk (growE vars t bs) := by
  have h := grown_of hv 4 t (bs.take 60) 0 fun b hm => hb b (List.mem_of_mem_take hm)
  have hs := h.sz
  have hd := h.dep
  unfold growE
  refine ⟨typed_of hv hv2 h.wf ?_ (by omega) h.kind (tyOf_ne t), exOk_wf _ _ h.wf⟩
  rw [if_neg (by omega)] at hs
  split at hs <;> omega
end Go.AI
