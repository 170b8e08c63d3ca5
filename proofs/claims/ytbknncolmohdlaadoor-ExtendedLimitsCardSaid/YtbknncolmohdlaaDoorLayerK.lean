/- The layer of abstract runs, part 11. -/
import Derived.Test.YtbknncolmohdlaaDoorLayerJ
import Derived.KernelRfl
import Derived.Test.YtbknncolmohdlaaDoorTie
import Derived.Test.YtbknncolmohdlaaDoorCards
import Derived.ProofKit
import Derived.LaidMore
import Derived.OpenShut
import Derived.Lay
import Derived.SevenTiedAt
import Derived.Stop.Joined
import Derived.Stop.LaidErr
import Derived.Lib.LaidTab
set_option linter.unusedSimpArgs false
set_option linter.unusedVariables false
set_option linter.all false
/- slices.Reverse: a callee of the library that writes into its caller's object. -/
namespace Go.AI
open Go.Proofs
/-- Cells, written from a place on. -/
def over (c : Array Value) : Nat → List Value → Array Value
  | _, [] => c
  | o, v :: r => over (c.setIfInBounds o v) (o + 1) r
theorem over_size : ∀ (vs : List Value) (c : Array Value) (o : Nat), (over c o vs).size = c.size
  | [], c, o => rfl
  | v :: r, c, o => by simp only [over, over_size r, Array.size_setIfInBounds]
theorem over_get : ∀ (vs : List Value) (c : Array Value) (o j : Nat), o + vs.length ≤ c.size → (over c o vs)[j]? = if o ≤ j ∧ j < o + vs.length then vs[j - o]? else c[j]?
  | [], c, o, j, _ => by
    simp only [over, List.length_nil, Nat.add_zero]
    rw [if_neg (by omega)]
  | v :: r, c, o, j, h => by
    simp only [List.length_cons] at h
    simp only [over]
    rw [over_get r _ _ _ (by simp only [Array.size_setIfInBounds]; omega)]
    simp only [List.length_cons]
    by_cases h1 : o + 1 ≤ j ∧ j < o + 1 + r.length
    · rw [if_pos h1, if_pos (by omega), show j - o = (j - (o + 1)) + 1 by omega]
      simp
    · rw [if_neg h1]
      by_cases h2 : j = o
      · subst h2
        rw [if_pos (by omega)]
        simp only [Nat.sub_self, List.getElem?_cons_zero, Array.getElem?_setIfInBounds]
        rw [if_pos trivial, if_pos (by omega)]
      · rw [if_neg (by omega), Array.getElem?_setIfInBounds, if_neg (by omega)]
theorem setCells_heap {b : Nat} : ∀ (vs : List Value) (o : Nat) (w : World) (c : Array Value) (ty : TypeId) (fr : Nat × Nat), w.heap[b]? = some (.cells c ty fr) →
    (w.setCells b o vs).heap[b]? = some (.cells (over c o vs) ty fr) ∧ (∀ b', b' ≠ b → (w.setCells b o vs).heap[b']? = w.heap[b']?) ∧ (w.setCells b o vs).heap.size = w.heap.size ∧
      (w.setCells b o vs).tape = w.tape ∧ (w.setCells b o vs).os = w.os ∧ (w.setCells b o vs).output = w.output
  | [], o, w, c, ty, fr, h => ⟨h, fun _ _ => rfl, rfl, rfl, rfl, rfl⟩
  | v :: r, o, w, c, ty, fr, h => by
    have h1 : (w.setCell ⟨b, o, none⟩ v).heap[b]? = some (.cells (c.setIfInBounds o v) ty fr) := by
      simp [World.setCell, Array.getElem?_modify, h]
    have h2 : ∀ b', b' ≠ b → (w.setCell ⟨b, o, none⟩ v).heap[b']? = w.heap[b']? := fun b' hb => by
      simp only [World.setCell, Array.getElem?_modify]
      rw [if_neg (fun e => hb e.symm)]
    obtain ⟨a1, a2, a3, a4, a5, a6⟩ := setCells_heap r (o + 1) (w.setCell ⟨b, o, none⟩ v) _ ty fr h1
    refine ⟨a1, fun b' hb => (a2 b' hb).trans (h2 b' hb), a3.trans (by simp [World.setCell]), a4, a5, a6⟩
theorem repL_ints {K : Kn} : ∀ {vs : List Value} {l : List Int}, RepL K vs (l.map fun x => [vi x]).flatten → vs = l.map (Value.int .i64)
  | _, [], .nil => rfl
  | _, x :: r, h => by
    simp only [List.map_cons, List.flatten_cons, List.cons_append, List.nil_append] at h
    cases h with
    | cons a b =>
      cases a with
      | v e => rw [repL_ints b]; rfl
theorem ints_repL {K : Kn} : ∀ (l : List Int), RepL K (l.map (Value.int .i64)) (l.map fun x => [vi x]).flatten
  | [] => .nil
  | x :: r => by
    simp only [List.map_cons, List.flatten_cons, List.cons_append, List.nil_append]
    exact .cons (.v rfl) (ints_repL r)
theorem reverse44 (O : List Heap) (d nm : Nat) (l : List Int) (hl : l.length ≤ max63) (ho : objAt O d nm = some (oints l)) : ASpec Tryd.prog 44 [.osl d nm] O (.tup []) [] (setAt O d nm (oints l.reverse)) := by
  intro E K ρ w vs hw hrep
  obtain rfl : vs = [.slice (ρ d nm).base l.length (ρ d nm).cap] := by
    cases hrep with
    | cons r rs =>
      cases rs
      rw [inv_osl (es := 1) (len := l.length) r (by simp [shape, ho, Ob.sh])]
  have hown := hw.own _ _ _ ho
  obtain ⟨ρ1, hρ1, hI⟩ := hinv_enter hw
  have ho1 : objAt (([] : Heap) :: O) (d + 1) nm = some (oints l) := up_obj ho
  have hown1 := own_at (s := { σ := [], S := [] :: O, n := 0 }) hI ho1
  have hfin : ∀ w', HInv (.of K ρ w) K ρ1 (setAt ([] :: O) (d + 1) nm (oints l.reverse)) w' → ∃ K' ρ', HInv (.of K ρ w) K' ρ' ([] :: setAt O d nm (oints l.reverse)) w' ∧ RepD K' ρ' (shape ([] :: setAt O d nm (oints l.reverse))) (.tuple #[]) (.tup []) :=
    fun w' h => ⟨K, ρ1, h, .tup .nil⟩
  refine .inl ⟨Tryd.call44 _ _, ?_⟩
  obtain ⟨h1, h2, h3, h4, h5⟩ := hown1
  have hloc : ρ1 (d + 1) nm = ρ d nm := by rw [hρ1]
  rw [hloc] at h3 h4 h5
  rcases h5 with ⟨h5, h6⟩ | ⟨h5, c, h6, h7, h8, h9, h10, h11⟩
  · have hl0 : l = [] := by
      apply List.eq_nil_of_length_eq_zero
      omega
    subst hl0
    rw [h6, h5]
    refine (Any.slices_Reverse_int_empty Tryd.lays112 none 0 w).mono ?_
    rintro e w' ⟨rfl, rfl⟩
    refine ⟨_, rfl, hfin _ (hI.sameS ?_)⟩
    exact objAt_set_id ho1
  · have hcl : c.toList.take l.length = l.map (Value.int .i64) := by
      rw [Nat.mul_one] at h8
      exact repL_ints h8
    have hsz : l.length ≤ c.size := by rw [h7, Nat.mul_one]; exact h3
    rw [h5]
    refine (Tryd.slices_Reverse_int_cells (ρ d nm).block 0 l.length (ρ d nm).cap l w (Nat.le_refl _) hl (fun j hj => ?_) (fun j hj => ?_)).mono ?_
    · rw [Nat.zero_add, cell_of_heap h6]
      have : (c.toList.take l.length)[j]? = some (.int .i64 (l.getD j 0)) := by
        rw [hcl, List.getElem?_map, List.getElem?_eq_getElem hj, List.getD_eq_getElem?_getD, List.getElem?_eq_getElem hj]
        rfl
      rw [List.getElem?_take] at this
      rw [if_pos hj] at this
      simpa using this
    · simp [World.frozen?, h6]
    · rintro e w' ⟨rfl, q, rfl⟩
      rw [List.take_length]
      have hh : (w.drewN q).heap[(ρ d nm).block]? = some (.cells c 3 (0, 0)) := h6
      obtain ⟨a1, a2, a3, a4, a5, a6⟩ := setCells_heap (l.reverse.map (Value.int .i64)) 0 (w.drewN q) c 3 (0, 0) hh
      refine ⟨_, rfl, hfin _ ?_⟩
      have hbk : backed (ρ1 (d + 1) nm) (oints l) := by rw [hloc]; show _ ≠ none; rw [h5]; simp
      refine hI.put ho1 (by simp [Ob.sh]) hbk (by rw [hloc]; show _ ≠ none; rw [h5]; simp) a3 (fun b hb => a2 b (by rw [← hloc]; exact hb)) ⟨a4, a5, a6⟩ (fun o x hx => ?_) ?_
      · rw [hloc] at hx ⊢
        rw [h9 rfl] at hx; cases hx
      · rw [hloc]
        refine ⟨by simp, by simp, by simpa using h3, h4, .inr ⟨h5, _, a1, by rw [over_size, h7], ?_, fun _ => h9 rfl, fun o ho => by rw [h9 rfl o], fun h => by cases h⟩⟩
        have e : (over c 0 (l.reverse.map (Value.int .i64))).toList.take (l.reverse.length * 1) = l.reverse.map (Value.int .i64) := by
          apply List.ext_getElem?
          intro j
          rw [List.getElem?_take, Nat.mul_one]
          by_cases hj : j < l.reverse.length
          · rw [if_pos hj]
            have := over_get (l.reverse.map (Value.int .i64)) c 0 j (by simpa using hsz)
            rw [if_pos (by simpa using hj)] at this
            simpa using this
          · rw [if_neg hj]
            simp at hj
            simp [hj]
        rw [e]
        exact ints_repL _
end Go.AI

namespace Go.AI
open Go.Proofs
set_option maxRecDepth 20000
/-- Back from a place to the start. -/
def back (frm : List (Int × Int)) : Nat → Int × Int → List Int
  | 0, _ => []
  | f + 1, p => if p.1 < 0 then [] else p.2 :: back frm f (frm.getD p.1.toNat (-1, -1))
/-- Fault. -/
def faultR (m : Ext) : List Int × Bool × Int × Int := if chk m ≠ 0 then ([], false, 0, chk m) else match searchR m with
  | none => ([], false, 0, 3)
  | some S => if S.kind = 0 then ([], false, 0, 0) else ((back S.frm 5000 S.flt).reverse, true, S.kind, 0)
/-- Each place was found from an earlier one. -/
structure Linked (S : Srch) : Prop where
  len : S.frm.length = S.sts.length
  frm : ∀ k (h : k < S.frm.length), S.frm[k].1 < k
  flt : S.flt.1 < S.sts.length
  most : S.sts.length ≤ 4096
theorem visit_linked {m : Ext} {i : Nat} {s : Sta} {ev : Int} {S S' : Srch} (h : visit m i s ev S = some S') (hl : Linked S) (hi : i < S.sts.length) : Linked S' ∧ S.sts.length ≤ S'.sts.length := by
  have hlen := visit_len h hl.most
  unfold visit at h
  simp only at h
  generalize hS1 : (if (stepR m s ev).2.2 ≠ 0 ∧ S.kind = 0 then { S with kind := (stepR m s ev).2.2, flt := ((i : Int), ev) } else S) = S1 at h
  have e1 : S1.sts = S.sts := by rw [← hS1]; split <;> rfl
  have e2 : S1.frm = S.frm := by rw [← hS1]; split <;> rfl
  have e3 : S1.flt.1 < S.sts.length := by
    rw [← hS1]
    split
    · simp only; omega
    · exact hl.flt
  split at h
  · simp only [Option.some.injEq] at h
    subst h
    exact ⟨⟨by rw [e1, e2]; exact hl.len, by rw [e2]; exact hl.frm, by rw [e1]; exact e3, by rw [e1]; exact hl.most⟩, by rw [e1]; exact Nat.le_refl _⟩
  · split at h
    · cases h
    · simp only [Option.some.injEq] at h
      subst h
      refine ⟨⟨by simp [e1, e2, hl.len], fun k hk => ?_, by simp only [e1, List.length_append, List.length_cons, List.length_nil]; omega, hlen.1⟩, hlen.2.1⟩
      simp only [e2, List.length_append, List.length_cons, List.length_nil] at hk
      simp only [e2]
      rw [List.getElem_append]
      split
      · rename_i h1; exact hl.frm k h1
      · rename_i h1
        simp only [List.getElem_singleton]
        have := hl.len
        omega
theorem visits_linked {m : Ext} {i : Nat} {s : Sta} : ∀ {l : List Int} {S S' : Srch}, visits m i s l S = some S' → Linked S → i < S.sts.length → Linked S' ∧ S.sts.length ≤ S'.sts.length
  | [], S, S', h, hl, _ => by simp only [visits, Option.some.injEq] at h; subst h; exact ⟨hl, Nat.le_refl _⟩
  | ev :: r, S, S', h, hl, hi => by
    simp only [visits] at h
    cases hv : visit m i s ev S with
    | none => rw [hv] at h; cases h
    | some S1 =>
      rw [hv] at h
      obtain ⟨a, b⟩ := visit_linked hv hl hi
      obtain ⟨c, d⟩ := visits_linked h a (by omega)
      exact ⟨c, by omega⟩
theorem searchL_linked {m : Ext} : ∀ {f i : Nat} {S S' : Srch}, searchL m f i S = some S' → Linked S → Linked S'
  | 0, i, S, S', h, hl => by simp only [searchL, Option.some.injEq] at h; subst h; exact hl
  | f + 1, i, S, S', h, hl => by
    simp only [searchL] at h
    cases hs : S.sts[i]? with
    | none => rw [hs] at h; simp only [Option.some.injEq] at h; subst h; exact hl
    | some s =>
      rw [hs] at h
      simp only at h
      cases hv : visits m i s m.alpha S with
      | none => rw [hv] at h; cases h
      | some S1 =>
        rw [hv] at h
        exact searchL_linked h (visits_linked hv hl (List.getElem?_eq_some_iff.1 hs).1).1
theorem search_linked {m : Ext} {S : Srch} (h : searchR m = some S) : Linked S := by
  refine searchL_linked h ⟨rfl, fun k hk => ?_, by simp [search0], by simp [search0]⟩
  simp only [search0, List.length_cons, List.length_nil] at hk
  have : k = 0 := by omega
  subst this
  simp [search0]
theorem back_fuel {S : Srch} (hl : Linked S) : ∀ (f g : Nat) (p : Int × Int), p.1 < f → p.1 < g → p.1 < S.frm.length → back S.frm (f + 1) p = back S.frm (g + 1) p := by
  intro f
  induction f with
  | zero =>
    intro g p h1 h2 h3
    simp only [back]
    rw [if_pos (by omega), if_pos (by omega)]
  | succ f ih =>
    intro g p h1 h2 h3
    rw [back]
    rw [show back S.frm (g + 1) p = if p.1 < 0 then [] else p.2 :: back S.frm g (S.frm.getD p.1.toNat (-1, -1)) from rfl]
    by_cases hp : p.1 < 0
    · rw [if_pos hp, if_pos hp]
    · rw [if_neg hp, if_neg hp]
      have hk : p.1.toNat < S.frm.length := by omega
      have h4 := hl.frm _ hk
      have e : S.frm.getD p.1.toNat (-1, -1) = S.frm[p.1.toNat] := by rw [List.getD_eq_getElem?_getD, List.getElem?_eq_getElem hk]; rfl
      rw [e]
      obtain ⟨g', rfl⟩ : ∃ g', g = g' + 1 := ⟨g - 1, by omega⟩
      rw [ih g' _ (by omega) (by omega) (by omega)]
theorem back_step {S : Srch} (hl : Linked S) {p : Int × Int} (h0 : 0 ≤ p.1) (h1 : p.1 < S.frm.length) :
    back S.frm ((p.1 + 1).toNat + 1) p = p.2 :: back S.frm (((S.frm[p.1.toNat]'(by omega)).1 + 1).toNat + 1) (S.frm[p.1.toNat]'(by omega)) := by
  have hk : p.1.toNat < S.frm.length := by omega
  have h4 := hl.frm _ hk
  rw [back, if_neg (by omega)]
  have e : S.frm.getD p.1.toNat (-1, -1) = S.frm[p.1.toNat] := by rw [List.getD_eq_getElem?_getD, List.getElem?_eq_getElem hk]; rfl
  rw [e, show (p.1 + 1).toNat = p.1.toNat + 1 by omega]
  rw [back_fuel hl p.1.toNat ((S.frm[p.1.toNat].1 + 1).toNat) _ (by omega) (by omega) (by omega)]
theorem fault15 {g : Nat} (hg : IsTab g) {ty : TypeId} {fr : Nat × Nat} (O : List Heap) (m : Ext) (hok : extOk m) : ASpecT g (ptab ty fr) Tryd.prog 15 [extD m] O (.tup [ints (faultR m).1, bb (faultR m).2.1, ii (faultR m).2.2.1, ii (faultR m).2.2.2]) [] O := by
  generalize hR : faultR m = R
  unfold faultR at hR
  refine aspecT_stop [12] TrydT_ok Tryd.func15 rfl Tryd.call15 Tryd.ntmps15 (Nat.le_of_ble_eq_true rfl) fun E hE => ?_
  refine g_run TrydT_ok Tryd.func15 ?_
  first | refine g_call TrydT_ok Tryd.func15 (check40 _ m hok) rfl rfl rfl rfl rfl ?_ | refine s_callq TrydT_ok (fun _ => check40 _ m hok) rfl rfl rfl ?_
  first | refine g_cnd TrydT_ok Tryd.func15 rfl (fun h1 => ?_) (fun h1 => ?_) | refine g_know TrydT_ok Tryd.func15 rfl (fun h1 => ?_) (fun h1 => ?_) | refine s_know TrydT_ok (fun h1 => ?_) (fun h1 => ?_)
  · have h1 := bneT h1
    rw [if_pos h1] at hR
    subst hR
    refine g_ret_co TrydT_ok (r := _) rfl rfl rfl trivial rfl rfl ?_
    repeat' (first | refine coD_tup ?_ | refine coD_agg ?_ | refine coD_i ?_ | refine CoDL.cons ?_ ?_ | exact CoDL.nil | exact coI_nil | refine coI_sl ?_ | refine CoLL.cons ?_ ?_ | exact CoLL.nil | refine CoL.cons ?_ ?_ | exact CoL.nil | exact CoI.refl _ | exact CoL.refl _ | exact CoLL.refl _ | exact CoDL.refl _ | exact CoD.refl _)
  have h1 := bneF h1
  rw [if_neg (by simpa using h1)] at hR
  cases hs : searchR m with
  | none =>
    rw [hs] at hR
    subst hR
    have hsp := fun O => search43 hg (ty := ty) (fr := fr) O m hok (chk_right h1) (R := .tup [.i (.sl 2 0 []), .i (.sl 2 0 []), .agg [ii 0, ii 0], ii 0, ii 3]) (by rw [hs])
    refine g_callT TrydT_ok Tryd.func15 hE (hsp _) rfl rfl rfl rfl rfl rfl ?_
    repeat (first | refine g_cnd TrydT_ok Tryd.func15 rfl (fun _ => ?_) (fun h => absurd h (by decide)) | refine g_cnd TrydT_ok Tryd.func15 rfl (fun h => absurd h (by decide)) (fun _ => ?_) | refine g_know TrydT_ok Tryd.func15 rfl (fun _ => ?_) (fun h => absurd h (by decide)) | refine g_know TrydT_ok Tryd.func15 rfl (fun h => absurd h (by decide)) (fun _ => ?_) | refine s_know TrydT_ok (fun _ => ?_) (fun h => absurd h (by decide)) | refine s_know TrydT_ok (fun h => absurd h (by decide)) (fun _ => ?_))
    refine g_ret_co TrydT_ok (r := _) rfl rfl rfl trivial rfl rfl ?_
    repeat' (first | refine coD_tup ?_ | refine coD_agg ?_ | refine coD_i ?_ | refine CoDL.cons ?_ ?_ | exact CoDL.nil | exact coI_nil | refine coI_sl ?_ | refine CoLL.cons ?_ ?_ | exact CoLL.nil | refine CoL.cons ?_ ?_ | exact CoL.nil | exact CoI.refl _ | exact CoL.refl _ | exact CoLL.refl _ | exact CoDL.refl _ | exact CoD.refl _)
  | some S =>
    rw [hs] at hR
    simp only at hR
    have hlk := search_linked hs
    have hsp := fun O => search43 hg (ty := ty) (fr := fr) O m hok (chk_right h1) (R := .tup [.i (.sl 2 S.sts.length (S.sts.map staI)), .i (.sl 2 S.frm.length (S.frm.map pairI)), .agg [ii S.flt.1, ii S.flt.2], ii S.kind, ii 0]) (by rw [hs])
    refine g_callT TrydT_ok Tryd.func15 hE (hsp _) rfl rfl rfl rfl rfl rfl ?_
    repeat (first | refine g_cnd TrydT_ok Tryd.func15 rfl (fun _ => ?_) (fun h => absurd h (by decide)) | refine g_cnd TrydT_ok Tryd.func15 rfl (fun h => absurd h (by decide)) (fun _ => ?_) | refine g_know TrydT_ok Tryd.func15 rfl (fun _ => ?_) (fun h => absurd h (by decide)) | refine g_know TrydT_ok Tryd.func15 rfl (fun h => absurd h (by decide)) (fun _ => ?_) | refine s_know TrydT_ok (fun _ => ?_) (fun h => absurd h (by decide)) | refine s_know TrydT_ok (fun h => absurd h (by decide)) (fun _ => ?_))
    first | refine g_cnd TrydT_ok Tryd.func15 rfl (fun h2 => ?_) (fun h2 => ?_) | refine g_know TrydT_ok Tryd.func15 rfl (fun h2 => ?_) (fun h2 => ?_) | refine s_know TrydT_ok (fun h2 => ?_) (fun h2 => ?_)
    · have h2 : S.kind = 0 := beqT h2
      rw [if_pos h2] at hR
      subst hR
      refine g_ret_co TrydT_ok (r := _) rfl rfl rfl trivial rfl rfl ?_
      repeat' (first | refine coD_tup ?_ | refine coD_agg ?_ | refine coD_i ?_ | refine CoDL.cons ?_ ?_ | exact CoDL.nil | exact coI_nil | refine coI_sl ?_ | refine CoLL.cons ?_ ?_ | exact CoLL.nil | refine CoL.cons ?_ ?_ | exact CoL.nil | exact CoI.refl _ | exact CoL.refl _ | exact CoLL.refl _ | exact CoDL.refl _ | exact CoD.refl _)
    have h2 : S.kind ≠ 0 := beqF h2
    rw [if_neg h2] at hR
    have hm := hlk.most
    have hfl := hlk.len
    have hf0 := hlk.flt
    have hb0 : back S.frm 5000 S.flt = back S.frm ((S.flt.1 + 1).toNat + 1) S.flt := back_fuel hlk 4999 _ _ (by omega) (by omega) (by omega)
    refine g_loop ?_
    refine rch_wk (wk_nil 2 44 3 1 rfl rfl rfl) ?_
    refine rch_loop2 (fun x : (Int × Int) × List Int => [(2, .osl 0 44), (4, ii S.kind), (8, .i (.sl 2 S.frm.length (S.frm.map pairI))), (10, .own 0 10 0 0)]) (fun x => [(44, oints x.2), (10, .box [ii x.1.1, ii x.1.2])]) (fun _ => O) 50
      (fun x => x.1.1 < S.frm.length ∧ x.2.length + (x.1.1 + 1).toNat ≤ 4096 ∧ back S.frm 5000 S.flt = x.2 ++ back S.frm ((x.1.1 + 1).toNat + 1) x.1) (fun x => (x.1.1 + 1).toNat) (S.flt, [])
      ⟨by simp only; omega, by simp only [List.length_nil]; omega, by rw [hb0]; rfl⟩ ⟨rfl, rfl, rfl, rfl, trivial⟩ rfl ⟨rfl, rfl, trivial⟩ rfl rfl ?_
    rintro ⟨⟨p1, p2⟩, acc⟩ ⟨hp, hlen, hno⟩ ih
    simp only at hp hlen hno
    refine g_run TrydT_ok Tryd.func15 ?_
    first | refine g_cnd TrydT_ok Tryd.func15 rfl (fun h3 => ?_) (fun h3 => ?_) | refine g_know TrydT_ok Tryd.func15 rfl (fun h3 => ?_) (fun h3 => ?_) | refine s_know TrydT_ok (fun h3 => ?_) (fun h3 => ?_)
    · have h3 : 0 ≤ p1 := of_decide_eq_true h3
      first | refine g_need TrydT_ok Tryd.func15 (by exact ⟨by show (acc.length + 1) * 8 ≤ 140737488355328; omega, by show acc.length + 1 ≤ 9223372036854775807; omega⟩) ?_ | refine s_need TrydT_ok (by exact ⟨by show (acc.length + 1) * 8 ≤ 140737488355328; omega, by show acc.length + 1 ≤ 9223372036854775807; omega⟩) ?_
      have hbs := back_step hlk (p := (p1, p2)) h3 hp
      simp only at hbs
      have hk : p1.toNat < S.frm.length := by omega
      have hlt := hlk.frm _ hk
      have hgk : (S.frm.map pairI)[p1.toNat]? = some (pairI S.frm[p1.toNat]) := by simp [hk]
      generalize S.frm[p1.toNat] = q at *
      obtain ⟨q1, q2⟩ := q
      simp only at hlt
      refine g_stop ?_
      refine rch_cut2 (l := [(2, .osl 0 44), (4, ii S.kind), (8, .i (.sl 2 S.frm.length (S.frm.map pairI))), (45, .agg [ii p1, ii p2])]) (Hv := [(44, oints (acc ++ [p2]))]) ⟨rfl, rfl, rfl, rfl, trivial⟩ rfl ⟨congrArg some (oints_app acc p2), trivial⟩ rfl rfl ?_
      refine g_run TrydT_ok Tryd.func15 ?_
      refine g_go TrydT_ok Tryd.func15 ?_
      first | refine g_need TrydT_ok Tryd.func15 (by exact ⟨h3, hp⟩) ?_ | refine s_need TrydT_ok (by exact ⟨h3, hp⟩) ?_
      first | refine g_elem TrydT_ok Tryd.func15 (hgk) ?_ | refine s_elem TrydT_ok (hgk) ?_
      refine g_loop ?_
      refine ih ((q1, q2), acc ++ [p2]) _ _ ⟨by simp only; omega, by simp only [List.length_append, List.length_cons, List.length_nil]; omega, by rw [hno, hbs]; simp⟩ (by simp only; omega) ⟨rfl, rfl, rfl, rfl, trivial⟩ rfl ⟨rfl, rfl, trivial⟩ rfl rfl
    · have h3 : ¬ 0 ≤ p1 := of_decide_eq_false h3
      have hbn : back S.frm ((p1 + 1).toNat + 1) (p1, p2) = [] := by rw [back, if_pos (by simp only; omega)]
      rw [hbn, List.append_nil] at hno
      rw [hno] at hR
      subst hR
      refine g_call TrydT_ok Tryd.func15 (reverse44 _ 0 44 acc (by simp only [max63]; omega) rfl) rfl rfl rfl (shape_over (ob := oints acc) rfl (by simp [Ob.sh])) rfl ?_
      refine g_rwk (wk_freeze 44 rfl rfl) ?_
      refine g_ret TrydT_ok (r := .tup [ints acc.reverse, bb true, ii S.kind, ii 0]) rfl rfl rfl trivial rfl rfl ?_
      rfl
end Go.AI

namespace Go.AI
open Go.Proofs
set_option maxRecDepth 20000
def runL (m : Ext) : List Int → Sta → Int → Sta × Int × Int
  | [], s, n => (s, n, 0)
  | ev :: r, s, n => if (stepR m s ev).2.2 ≠ 0 then (zeroS, 0, (stepR m s ev).2.2) else if (stepR m s ev).2.1 = false then (s, n, 0) else runL m r (stepR m s ev).1 (n + 1)
/-- Run. -/
def runR (m : Ext) (w : List Int) : Sta × Int × Int :=
  if chk m ≠ 0 then (zeroS, 0, chk m) else if w.any (fun ev => decide (ev ∉ m.alpha)) then (zeroS, 0, 9) else runL m w (startR m) 0
theorem run21 (O : List Heap) (m : Ext) (w : List Int) (hok : extOk m) (hw : w.length ≤ max63) : ASpec Tryd.prog 21 [extD m, ints w] O (.tup [staD (runR m w).1, ii (runR m w).2.1, ii (runR m w).2.2]) [] O := by
  generalize hR : runR m w = R
  unfold runR at hR
  refine aspec_stop [10] TrydT_ok Tryd.func21 rfl Tryd.call21 Tryd.ntmps21 (Nat.le_of_ble_eq_true rfl) fun E => ?_
  refine g_run TrydT_ok Tryd.func21 ?_
  first | refine g_call TrydT_ok Tryd.func21 (check40 _ m hok) rfl rfl rfl rfl rfl ?_ | refine s_callq TrydT_ok (fun _ => check40 _ m hok) rfl rfl rfl ?_
  first | refine g_cnd TrydT_ok Tryd.func21 rfl (fun h1 => ?_) (fun h1 => ?_) | refine g_know TrydT_ok Tryd.func21 rfl (fun h1 => ?_) (fun h1 => ?_) | refine s_know TrydT_ok (fun h1 => ?_) (fun h1 => ?_)
  · have h1 := bneT h1
    rw [if_pos h1] at hR
    subst hR
    refine g_ret_co TrydT_ok (r := _) rfl rfl rfl trivial rfl rfl ?_
    repeat' (first | refine coD_tup ?_ | refine coD_agg ?_ | refine coD_i ?_ | refine CoDL.cons ?_ ?_ | exact CoDL.nil | exact coI_nil | refine coI_sl ?_ | refine CoLL.cons ?_ ?_ | exact CoLL.nil | refine CoL.cons ?_ ?_ | exact CoL.nil | exact CoI.refl _ | exact CoL.refl _ | exact CoLL.refl _ | exact CoDL.refl _ | exact CoD.refl _)
  have h1 := bneF h1
  rw [if_neg (by simpa using h1)] at hR
  have hr := chk_right h1
  have hs := (checkSet_sorted hr.alpha).1
  have hal := hok.al
  apply join_p (P := w.any (fun ev => decide (ev ∉ m.alpha)) = false) (s6 := { σ := [(1, ints w), (2, .own 0 2 0 0), (4, .own 0 4 0 0), (5, ii 0), (6, ii 0)], S := [(4, .box [ii 0, .i (.v (.slice none 0 0))]), (2, .box (extC m))] :: O, n := 60 })
  · intro J
    refine g_loop ?_
    refine rch_loop2 (fun i : Nat => [(1, ints w), (2, .own 0 2 0 0), (4, .own 0 4 0 0), (5, ii 0), (6, ii 0), (19, ints w), (20, ii w.length), (21, ii i)]) (fun _ => [(4, .box [ii 0, .i (.v (.slice none 0 0))]), (2, .box (extC m))]) (fun _ => O) 60
      (fun i => i ≤ w.length ∧ w.any (fun ev => decide (ev ∉ m.alpha)) = (w.drop i).any (fun ev => decide (ev ∉ m.alpha))) (fun i => w.length - i) 0 ⟨Nat.zero_le _, rfl⟩ ⟨rfl, rfl, rfl, rfl, rfl, rfl, rfl, rfl, trivial⟩ rfl ⟨rfl, rfl, trivial⟩ rfl rfl ?_
    rintro i ⟨hi, hno⟩ ih
    refine g_run TrydT_ok Tryd.func21 ?_
    first | refine g_cnd TrydT_ok Tryd.func21 rfl (fun h2 => ?_) (fun h2 => ?_) | refine g_know TrydT_ok Tryd.func21 rfl (fun h2 => ?_) (fun h2 => ?_) | refine s_know TrydT_ok (fun h2 => ?_) (fun h2 => ?_)
    · have h2 : i < w.length := by simpa using h2
      have hd : w.drop i = w[i] :: w.drop (i + 1) := List.drop_eq_getElem_cons h2
      have hg : (w.map fun x => [vi x])[(i : Int).toNat]? = some [vi w[i]] := get_mapZ (f := fun x => [vi x]) h2
      generalize w[i] = ev at hd hg
      rw [hd, List.any_cons] at hno
      first | refine g_need TrydT_ok Tryd.func21 (by omega) ?_ | refine s_need TrydT_ok (by omega) ?_
      first | refine g_elem TrydT_ok Tryd.func21 (hg) ?_ | refine s_elem TrydT_ok (hg) ?_
      first | refine g_call TrydT_ok Tryd.func21 (contains49 _ m.alpha ev hal hs) rfl rfl rfl rfl rfl ?_ | refine s_callq TrydT_ok (fun _ => contains49 _ m.alpha ev hal hs) rfl rfl rfl ?_
      first | refine g_cnd TrydT_ok Tryd.func21 rfl (fun h3 => ?_) (fun h3 => ?_) | refine g_know TrydT_ok Tryd.func21 rfl (fun h3 => ?_) (fun h3 => ?_) | refine s_know TrydT_ok (fun h3 => ?_) (fun h3 => ?_)
      · have h3 : ev ∉ m.alpha := by simpa using h3
        rw [decide_eq_true h3, Bool.true_or] at hno
        rw [if_pos hno] at hR
        subst hR
        refine g_ret_co TrydT_ok (r := _) rfl rfl rfl trivial rfl rfl ?_
        repeat' (first | refine coD_tup ?_ | refine coD_agg ?_ | refine coD_i ?_ | refine CoDL.cons ?_ ?_ | exact CoDL.nil | exact coI_nil | refine coI_sl ?_ | refine CoLL.cons ?_ ?_ | exact CoLL.nil | refine CoL.cons ?_ ?_ | exact CoL.nil | exact CoI.refl _ | exact CoL.refl _ | exact CoLL.refl _ | exact CoDL.refl _ | exact CoD.refl _)
      · have h3 : ev ∈ m.alpha := by simpa using h3
        rw [decide_eq_false (by simpa using h3), Bool.false_or] at hno
        refine g_loop ?_
        refine ih (i + 1) _ _ ⟨h2, hno⟩ (by omega) ⟨rfl, rfl, rfl, rfl, rfl, rfl, rfl, congrArg ii (wsucc h2 hw), trivial⟩ rfl ⟨rfl, rfl, trivial⟩ rfl rfl
    · have h2 : w.length ≤ i := by simpa using h2
      rw [List.drop_eq_nil_of_le h2] at hno
      refine g_stop ?_
      refine rch_meet (J hno) ⟨rfl, rfl, rfl, rfl, rfl, trivial⟩ rfl ⟨rfl, rfl, trivial⟩ rfl rfl
  · intro hP
    rw [if_neg (by rw [hP]; simp)] at hR
    refine g_run TrydT_ok Tryd.func21 ?_
    refine g_go TrydT_ok Tryd.func21 ?_
    first | refine g_call TrydT_ok Tryd.func21 (start48 _ m (vars_len hr.vars)) rfl rfl rfl rfl rfl ?_ | refine s_callq TrydT_ok (fun _ => start48 _ m (vars_len hr.vars)) rfl rfl rfl ?_
    refine g_loop ?_
    refine rch_loop2 (fun x : Nat × Sta => [(1, ints w), (2, .own 0 2 0 0), (4, .own 0 4 0 0), (5, ii x.1), (6, ii 0)]) (fun x => [(4, .box [ii x.2.loc, ints x.2.vals]), (2, .box (extC m))]) (fun _ => O) 60
      (fun x => x.1 ≤ w.length ∧ okS m x.2 ∧ runL m (w.drop x.1) x.2 x.1 = R) (fun x => w.length - x.1) (0, startR m) ⟨Nat.zero_le _, start_ok hr, hR⟩ ⟨rfl, rfl, rfl, rfl, rfl, trivial⟩ rfl ⟨rfl, rfl, trivial⟩ rfl rfl ?_
    rintro ⟨i, s⟩ ⟨hi, hsk, hno⟩ ih
    clear hR
    simp only at hi hsk hno
    refine g_run TrydT_ok Tryd.func21 ?_
    first | refine g_cnd TrydT_ok Tryd.func21 rfl (fun h2 => ?_) (fun h2 => ?_) | refine g_know TrydT_ok Tryd.func21 rfl (fun h2 => ?_) (fun h2 => ?_) | refine s_know TrydT_ok (fun h2 => ?_) (fun h2 => ?_)
    · have h2 : i < w.length := by simpa using h2
      have hd : w.drop i = w[i] :: w.drop (i + 1) := List.drop_eq_getElem_cons h2
      have hg : (w.map fun x => [vi x])[(i : Int).toNat]? = some [vi w[i]] := get_mapZ (f := fun x => [vi x]) h2
      generalize w[i] = ev at hd hg
      rw [hd] at hno
      simp only [runL] at hno
      have hstep := fun O => step50 O m s ev hok hr (okS_bounds hr hsk).2.2.2.1
      have hnext := fun h => step_ok hr hsk (ev := ev) h
      generalize stepR m s ev = n at *
      obtain ⟨⟨nl, nv⟩, np, ne⟩ := n
      simp only at hno hstep hnext
      refine g_drawn TrydT_ok Tryd.func21 mixedT rfl ?_
      first | refine g_need TrydT_ok Tryd.func21 (by exact ⟨by omega, by show (i : Int) < (w.length : Int); omega⟩) ?_ | refine s_need TrydT_ok (by exact ⟨by omega, by show (i : Int) < (w.length : Int); omega⟩) ?_
      first | refine g_elem TrydT_ok Tryd.func21 (hg) ?_ | refine s_elem TrydT_ok (hg) ?_
      first | refine g_call TrydT_ok Tryd.func21 (hstep _) rfl rfl rfl rfl rfl ?_ | refine s_callq TrydT_ok (fun _ => hstep _) rfl rfl rfl ?_
      refine s_put TrydT_ok rfl rfl rfl ?_
      refine e_done TrydT_ok Tryd.func21 (by kernel_rfl) ?_
      first | refine g_cnd TrydT_ok Tryd.func21 rfl (fun h3 => ?_) (fun h3 => ?_) | refine g_know TrydT_ok Tryd.func21 rfl (fun h3 => ?_) (fun h3 => ?_) | refine s_know TrydT_ok (fun h3 => ?_) (fun h3 => ?_)
      · have h3 := bneT h3
        rw [if_pos h3] at hno
        subst hno
        refine g_ret_co TrydT_ok (r := _) rfl rfl rfl trivial rfl rfl ?_
        repeat' (first | refine coD_tup ?_ | refine coD_agg ?_ | refine coD_i ?_ | refine CoDL.cons ?_ ?_ | exact CoDL.nil | exact coI_nil | refine coI_sl ?_ | refine CoLL.cons ?_ ?_ | exact CoLL.nil | refine CoL.cons ?_ ?_ | exact CoL.nil | exact CoI.refl _ | exact CoL.refl _ | exact CoLL.refl _ | exact CoDL.refl _ | exact CoD.refl _)
      have h3 := bneF h3
      rw [if_neg (by simpa using h3)] at hno
      first | refine g_cnd TrydT_ok Tryd.func21 rfl (fun h4 => ?_) (fun h4 => ?_) | refine g_know TrydT_ok Tryd.func21 rfl (fun h4 => ?_) (fun h4 => ?_) | refine s_know TrydT_ok (fun h4 => ?_) (fun h4 => ?_)
      · have h4 := notT h4
        rw [if_pos h4] at hno
        subst hno
        refine g_ret_co TrydT_ok (r := _) rfl rfl rfl trivial rfl rfl ?_
        repeat' (first | refine coD_tup ?_ | refine coD_agg ?_ | refine coD_i ?_ | refine CoDL.cons ?_ ?_ | exact CoDL.nil | exact coI_nil | refine coI_sl ?_ | refine CoLL.cons ?_ ?_ | exact CoLL.nil | refine CoL.cons ?_ ?_ | exact CoL.nil | exact CoI.refl _ | exact CoL.refl _ | exact CoLL.refl _ | exact CoDL.refl _ | exact CoD.refl _)
      · have h4 := notF h4
        rw [if_neg (by rw [h4]; simp)] at hno
        refine g_loop ?_
        refine ih (i + 1, ⟨nl, nv⟩) _ _ ⟨h2, hnext h4, hno⟩ (by simp only; omega) ⟨rfl, rfl, rfl, congrArg ii (wsucc h2 hw), rfl, trivial⟩ rfl ⟨rfl, rfl, trivial⟩ rfl rfl
    · have h2 : w.length ≤ i := by simpa using h2
      rw [List.drop_eq_nil_of_le h2] at hno
      simp only [runL] at hno
      subst hno
      refine g_ret_co TrydT_ok (r := _) rfl rfl rfl trivial rfl rfl ?_
      repeat' (first | refine coD_tup ?_ | refine coD_agg ?_ | refine coD_i ?_ | refine CoDL.cons ?_ ?_ | exact CoDL.nil | exact coI_nil | refine coI_sl ?_ | refine CoLL.cons ?_ ?_ | exact CoLL.nil | refine CoL.cons ?_ ?_ | exact CoL.nil | exact CoI.refl _ | exact CoL.refl _ | exact CoLL.refl _ | exact CoDL.refl _ | exact CoD.refl _)
end Go.AI

namespace Go.AI
open Go.Proofs
set_option maxRecDepth 20000
theorem run_known : runR (counterE false) [0, 0, 1] = (⟨0, [0]⟩, 3, 0) := by kernel_rfl
theorem reach_known : reachR (counterE true) = ([⟨0, [0]⟩, ⟨0, [1]⟩, ⟨0, [2]⟩], 0) := by kernel_rfl
theorem fault_known : faultR (counterE false) = ([0,0,0], true, 17, 0) := by kernel_rfl
theorem exOk_leaf (o v i : Int) : exOk (.mk o v i []) := ⟨Nat.zero_le _, trivial⟩
theorem exOk_two {o v i : Int} {a b : Ex} (ha : exOk a) (hb : exOk b) : exOk (.mk o v i [a, b]) := ⟨by simp [max63], ha, hb, trivial⟩
theorem counter_ok (g : Bool) : extOk (counterE g) := by
  refine ⟨by simp [counterE, max63], by simp [counterE, max63], by simp [counterE, max63], fun v hv => ?_, by simp [counterE, max63], fun x hx => ?_⟩
  · simp only [counterE, List.mem_singleton] at hv
    subst hv
    show (1 : Nat) ≤ max63
    decide
  · simp only [counterE, List.mem_cons, List.mem_nil_iff, or_false] at hx
    rcases hx with rfl | rfl
    · refine ⟨?_, by simp [upMv, max63], fun u hu => ?_⟩
      · cases g
        · exact exOk_two (exOk_leaf _ _ _) (exOk_leaf _ _ _)
        · exact exOk_two (exOk_leaf _ _ _) (exOk_leaf _ _ _)
      · simp only [upMv, List.mem_singleton] at hu
        subst hu
        exact exOk_two (exOk_leaf _ _ _) (exOk_leaf _ _ _)
    · refine ⟨exOk_two (exOk_leaf _ _ _) (exOk_leaf _ _ _), by simp [backMv, max63], fun u hu => ?_⟩
      simp only [backMv, List.mem_singleton] at hu
      subst hu
      exact exOk_leaf _ _ _
theorem known11 {g : Nat} (hg : IsTab g) {ty : TypeId} {fr : Nat × Nat} (O : List Heap) : ASpecT g (ptab ty fr) Tryd.prog 11 [] O (bb true) [] O := by
  have hrun := fun O => run21 O (counterE false) [0, 0, 1] (counter_ok false) (by decide)
  simp only [run_known] at hrun
  have hfault := fun O => fault15 hg (ty := ty) (fr := fr) O (counterE false) (counter_ok false)
  simp only [fault_known] at hfault
  have hreach := fun O => reach14 hg (ty := ty) (fr := fr) O (counterE true) (counter_ok true)
  simp only [reach_known] at hreach
  have ht := fun O => true42 O
  have he := fun O => equal41 (SizeOf.sizeOf trueE + 1) trueE trueE (by omega) (exOk_two (exOk_leaf _ _ _) (exOk_leaf _ _ _)) O
  have hw := fun O => wordEqual19 O [0, 0, 0] [0, 0, 0] (by decide)
  have hco : CoDL [exD trueE, .agg [ii 6, ii 0, ii 0, .i (.sl 4 2 [[vi 0, vi 0, vi 0, .v (.slice none 0 0)], [vi 0, vi 0, vi 0, .v (.slice none 0 0)]])]] [exD trueE, exD trueE] := by
    refine .cons (CoD.refl _) (.cons ?_ .nil)
    repeat' (first | refine coD_tup ?_ | refine coD_agg ?_ | refine coD_i ?_ | refine CoDL.cons ?_ ?_ | exact CoDL.nil | exact coI_nil | refine coI_sl ?_ | refine CoLL.cons ?_ ?_ | exact CoLL.nil | refine CoL.cons ?_ ?_ | exact CoL.nil | exact CoI.refl _ | exact CoL.refl _ | exact CoLL.refl _ | exact CoDL.refl _ | exact CoD.refl _)
  have he2 := fun O => ASpec.co (he O) hco
  refine aspecT_stop [] TrydT_ok Tryd.func11 rfl Tryd.call11 Tryd.ntmps11 (Nat.le_of_ble_eq_true rfl) fun E hE => ?_
  refine g_run TrydT_ok Tryd.func11 ?_
  first | refine g_call TrydT_ok Tryd.func11 (counter12f _) rfl rfl rfl rfl rfl ?_ | refine s_callq TrydT_ok (fun _ => counter12f _) rfl rfl rfl ?_
  first | refine g_call TrydT_ok Tryd.func11 (hrun _) rfl rfl rfl rfl rfl ?_ | refine s_callq TrydT_ok (fun _ => hrun _) rfl rfl rfl ?_
  first | refine g_call TrydT_ok Tryd.func11 (counter12f _) rfl rfl rfl rfl rfl ?_ | refine s_callq TrydT_ok (fun _ => counter12f _) rfl rfl rfl ?_
  refine g_callT TrydT_ok Tryd.func11 hE (hfault _) rfl rfl rfl rfl rfl rfl ?_
  first | refine g_call TrydT_ok Tryd.func11 (counter12t _) rfl rfl rfl rfl rfl ?_ | refine s_callq TrydT_ok (fun _ => counter12t _) rfl rfl rfl ?_
  refine g_callT TrydT_ok Tryd.func11 hE (hreach _) rfl rfl rfl rfl rfl rfl ?_
  first | refine g_call TrydT_ok Tryd.func11 (ht _) rfl rfl rfl rfl rfl ?_ | refine s_callq TrydT_ok (fun _ => ht _) rfl rfl rfl ?_
  first | refine g_call TrydT_ok Tryd.func11 (expr13n _ 6 2 _) rfl rfl rfl rfl rfl ?_ | refine s_callq TrydT_ok (fun _ => expr13n _ 6 2 _) rfl rfl rfl ?_
  first | refine g_call TrydT_ok Tryd.func11 (he2 _) rfl rfl rfl rfl rfl ?_ | refine s_callq TrydT_ok (fun _ => he2 _) rfl rfl rfl ?_
  repeat (first | refine g_cnd TrydT_ok Tryd.func11 rfl (fun _ => ?_) (fun h => absurd h (by decide)) | refine g_cnd TrydT_ok Tryd.func11 rfl (fun h => absurd h (by decide)) (fun _ => ?_) | refine g_know TrydT_ok Tryd.func11 rfl (fun _ => ?_) (fun h => absurd h (by decide)) | refine g_know TrydT_ok Tryd.func11 rfl (fun h => absurd h (by decide)) (fun _ => ?_) | refine s_know TrydT_ok (fun _ => ?_) (fun h => absurd h (by decide)) | refine s_know TrydT_ok (fun h => absurd h (by decide)) (fun _ => ?_))
  first | refine g_need TrydT_ok Tryd.func11 (by simp) ?_ | refine s_need TrydT_ok (by simp) ?_
  first | refine g_elem TrydT_ok Tryd.func11 (rfl) ?_ | refine s_elem TrydT_ok (rfl) ?_
  repeat (first | refine g_cnd TrydT_ok Tryd.func11 rfl (fun _ => ?_) (fun h => absurd h (by decide)) | refine g_cnd TrydT_ok Tryd.func11 rfl (fun h => absurd h (by decide)) (fun _ => ?_) | refine g_know TrydT_ok Tryd.func11 rfl (fun _ => ?_) (fun h => absurd h (by decide)) | refine g_know TrydT_ok Tryd.func11 rfl (fun h => absurd h (by decide)) (fun _ => ?_) | refine s_know TrydT_ok (fun _ => ?_) (fun h => absurd h (by decide)) | refine s_know TrydT_ok (fun h => absurd h (by decide)) (fun _ => ?_))
  first | refine g_call TrydT_ok Tryd.func11 (hw _) rfl rfl rfl rfl rfl ?_ | refine s_callq TrydT_ok (fun _ => hw _) rfl rfl rfl ?_
  repeat (first | refine g_cnd TrydT_ok Tryd.func11 rfl (fun _ => ?_) (fun h => absurd h (by decide)) | refine g_cnd TrydT_ok Tryd.func11 rfl (fun h => absurd h (by decide)) (fun _ => ?_) | refine g_know TrydT_ok Tryd.func11 rfl (fun _ => ?_) (fun h => absurd h (by decide)) | refine g_know TrydT_ok Tryd.func11 rfl (fun h => absurd h (by decide)) (fun _ => ?_) | refine s_know TrydT_ok (fun _ => ?_) (fun h => absurd h (by decide)) | refine s_know TrydT_ok (fun h => absurd h (by decide)) (fun _ => ?_))
  refine g_ret TrydT_ok (r := bb true) rfl rfl rfl trivial rfl rfl ?_
  rfl
end Go.AI

/- Plain laws: decimal texts; the counter up to a number. -/
namespace Go.AI
set_option maxRecDepth 20000
def decVal (l : List UInt8) : Nat := l.foldl (fun a d => a * 10 + (d.toNat - 48)) 0
theorem decVal_dec : ∀ u : Nat, decVal (Lib.decDigits u) = u := by
  intro u
  induction u using Nat.strongRecOn with
  | ind u ih =>
    unfold Lib.decDigits
    split
    · rename_i h
      have : (UInt8.ofNat (48 + u)).toNat = 48 + u := by simp [UInt8.toNat_ofNat']; omega
      simp only [decVal, List.foldl_cons, List.foldl_nil, this]
      omega
    · rename_i h
      have h1 := ih (u / 10) (by omega)
      have : (UInt8.ofNat (48 + u % 10)).toNat = 48 + u % 10 := by simp [UInt8.toNat_ofNat']; omega
      unfold decVal at h1 ⊢
      rw [List.foldl_append, h1]
      simp only [List.foldl_cons, List.foldl_nil, this]
      omega
theorem decDigits_inj {a b : Nat} (h : Lib.decDigits a = Lib.decDigits b) : a = b := by
  rw [← decVal_dec a, ← decVal_dec b, h]
theorem itoaB_inj {a b : Int} (ha : 0 ≤ a) (hb : 0 ≤ b) (h : itoaB a = itoaB b) : a = b := by
  have h1 : Lib.itoa a = Lib.itoa b := by
    have := congrArg (fun x => x.data.toList) h
    simpa [itoaB] using this
  unfold Lib.itoa at h1
  rw [if_neg (by omega), if_neg (by omega)] at h1
  have := decDigits_inj h1
  omega
theorem ba_cancel {a b c : ByteArray} (h : a ++ b = a ++ c) : b = c := by
  have h1 := congrArg (fun x => x.data.toList) h
  simp only [ByteArray.data_append, Array.toList_append, List.append_cancel_left_eq] at h1
  cases b; cases c
  simpa using h1
theorem key_one {a b : Int} (ha : 0 ≤ a) (hb : 0 ≤ b) : (keyOf ⟨0, [a]⟩ == keyOf ⟨0, [b]⟩) = decide (a = b) := by
  by_cases h : a = b
  · subst h
    rw [decide_eq_true rfl, ba_eq]
  · rw [decide_eq_false h]
    cases hk : keyOf ⟨0, [a]⟩ == keyOf ⟨0, [b]⟩ with
    | false => rfl
    | true =>
      rw [ba_eq] at hk
      simp only [keyOf, keyS, List.foldl_cons, List.foldl_nil] at hk
      exact absurd (itoaB_inj ha hb (ba_cancel (ba_cancel hk))) h
/-- The counter up to a number. -/
def limM (h : Int) : Ext := ⟨[0, 1], 1, 0, [0], [nVr h], [⟨0, 0, 0, .mk 8 0 0 [nE, kE h], [⟨0, .mk 2 0 0 [nE, kE 1]⟩]⟩, backMv]⟩
section
variable {h : Int} (h1 : 1 ≤ h) (h2 : h ≤ 8191)
include h1 h2
theorem lim_check : checkX (.mk 8 0 0 [nE, kE h]) 1 = (2, 0) := by
  have e1 : formHead 0 h 0 0 1 = 0 := by
    unfold formHead
    rw [if_neg (by decide), if_neg (by decide), if_neg (by omega), if_neg (by omega)]
  have e2 : formR (.mk 8 0 0 [nE, kE h]) 1 1 0 = (0, 3) := by
    simp only [formR, formRs, nE, kE]
    simp [e1, show formHead 8 0 0 2 1 = 0 from by decide, show formHead 1 0 0 0 1 = 0 from by decide]
  unfold checkX
  rw [if_neg (by decide), e2]
  have e3 : kindR (.mk 8 0 0 [nE, kE h]) = 2 := rfl
  rw [e3]
  rfl
variable {k : Int} (k1 : 0 ≤ k) (k2 : k ≤ h)
omit h1 in
include k1 k2 in
theorem not_large : ([k].any fun n => largeB n 65536) = false := by
  simp [largeB]; omega
include k1 k2 in
theorem eval_guard : evalX (.mk 8 0 0 [nE, kE h]) [k] = (tr (k < h), 0) := by
  unfold evalX
  rw [show (([k] : List Int).length : Int) = 1 from rfl, lim_check h1 h2, if_neg (by decide), not_large h2 k1 k2, if_neg (by decide)]
  have e : evalR [k] (.mk 8 0 0 [nE, kE h]) = (tr (k < h), true) := by
    simp only [evalR, evalRs, nE, kE]
    by_cases hk : k < h
    · simp [applyR, ap2, tr, hk, largeB]
    · simp [applyR, ap2, tr, hk, largeB]
  rw [e]
  rfl
omit h1 in
include k1 k2 in
theorem eval_up : evalX (.mk 2 0 0 [nE, kE 1]) [k] = (k + 1, 0) := by
  unfold evalX
  rw [show (([k] : List Int).length : Int) = 1 from rfl, show checkX (.mk 2 0 0 [nE, kE 1]) 1 = (1, 0) from rfl, if_neg (by decide), not_large h2 k1 k2, if_neg (by decide)]
  have e : evalR [k] (.mk 2 0 0 [nE, kE 1]) = (k + 1, true) := by
    simp only [evalR, evalRs, nE, kE]
    have : ¬ (1073741824 < k + 1 ∨ k + 1 < -1073741824) := by omega
    simp [applyR, ap2, largeB]
    omega
  rw [e]
  rfl
omit h1 in
include k1 k2 in
theorem eval_two : evalX (.mk 6 0 0 [nE, kE 2]) [k] = (tr (k = 2), 0) := by
  unfold evalX
  rw [show (([k] : List Int).length : Int) = 1 from rfl, show checkX (.mk 6 0 0 [nE, kE 2]) 1 = (2, 0) from rfl, if_neg (by decide), not_large h2 k1 k2, if_neg (by decide)]
  have e : evalR [k] (.mk 6 0 0 [nE, kE 2]) = (tr (k = 2), true) := by
    simp only [evalR, evalRs, nE, kE]
    by_cases hk : k = 2
    · subst hk; rfl
    · simp [applyR, ap2, tr, hk, largeB]
  rw [e]
  rfl
omit h1 in
include k1 k2 in
theorem eval_zero : evalX zeroE [k] = (0, 0) := by
  unfold evalX
  rw [show (([k] : List Int).length : Int) = 1 from rfl, show checkX zeroE 1 = (1, 0) from rfl, if_neg (by decide), not_large h2 k1 k2, if_neg (by decide)]
  rfl
include k1 k2 in
theorem step_up : stepR (limM h) ⟨0, [k]⟩ 0 = if k < h then (⟨0, [k + 1]⟩, true, 0) else (zeroS, false, 0) := by
  have eg := eval_guard h1 h2 k1 k2
  have eu := eval_up h2 k1 k2
  unfold stepR limM
  simp only [chs, backMv, eg]
  by_cases hk : k < h
  · simp [tr, hk, updR, nVr, eu]
    rw [if_neg (by omega)]
  · simp [tr, hk]
include k1 k2 in
theorem step_back : stepR (limM h) ⟨0, [k]⟩ 1 = if k = 2 then (⟨0, [0]⟩, true, 0) else (zeroS, false, 0) := by
  have eg := eval_two h2 k1 k2
  have eu := eval_zero h2 k1 k2
  unfold stepR limM
  simp only [chs, backMv, eg]
  by_cases hk : k = 2
  · subst hk
    simp [tr, updR, nVr, eu]
    rw [if_neg (by omega)]
  · simp [tr, hk]
end
end Go.AI

/- Plain law: what is reached of the counter up to a number. -/
namespace Go.AI
set_option maxRecDepth 20000
def cnt (n : Nat) : List Sta := (List.range n).map fun (i : Nat) => (⟨0, [(i : Int)]⟩ : Sta)
theorem cnt_len (n : Nat) : (cnt n).length = n := by simp [cnt]
theorem cnt_succ (n : Nat) : cnt (n + 1) = cnt n ++ [⟨0, [(n : Int)]⟩] := by simp [cnt, List.range_succ]
theorem cnt_get {n k : Nat} (h : k < n) : (cnt n)[k]? = some ⟨0, [(k : Int)]⟩ := by
  unfold cnt
  rw [List.getElem?_map, List.getElem?_range h]
  rfl
theorem cnt_none (n : Nat) : (cnt n)[n]? = none := List.getElem?_eq_none (by rw [cnt_len]; exact Nat.le_refl _)
theorem cnt_any {n k : Nat} : ((cnt n).any fun t => keyOf ⟨0, [(k : Int)]⟩ == keyOf t) = decide (k < n) := by
  induction n with
  | zero => rfl
  | succ n ih =>
    rw [cnt_succ, List.any_append, ih, List.any_cons, List.any_nil, Bool.or_false, key_one (by omega) (by omega)]
    by_cases h : k < n
    · simp [h]; omega
    · by_cases h2 : k = n
      · simp [h2]
      · have h3 : ¬ ((k : Int) = n) := by omega
        have h4 : ¬ k < n + 1 := by omega
        rw [decide_eq_false h, decide_eq_false h3, decide_eq_false h4]
        rfl
section
variable {H : Nat} (h1 : 1 ≤ H) (h2 : H ≤ 8191)
include h1 h2
theorem lim_chk : chk (limM H) = 0 := by
  have a1 : varsErr (limM H).vars = 0 := by
    unfold varsErr limM
    rw [if_neg (by simp)]
    simp only [checkVrs]
    have : checkVr (List.take 0 [nVr H]) (nVr H) = none := by
      unfold checkVr
      rw [if_neg (by simp [nVr]; decide), if_neg (by simp), if_neg (by simp [nVr, checkVr.large, show ¬ ((65536 : Int) < H) by omega, show ¬ ((H : Int) < -65536) by omega]), if_neg (by simp only [nVr]; omega), if_neg (by simp only [nVr]; omega)]
    rw [this]
  have a2 := lim_check (h := (H : Int)) (by omega) (by omega)
  have a3 : mvsErr (limM H) none (limM H).moves = 0 := by
    simp only [limM, mvsErr]
    have b1 : mvErr (limM H) none ⟨0, 0, 0, .mk 8 0 0 [nE, kE H], [⟨0, .mk 2 0 0 [nE, kE 1]⟩]⟩ = 0 := by
      unfold mvErr
      rw [if_neg (by simp [limM]), if_neg (by simp [limM]), if_neg (by simp)]
      have c : typedX (.mk 8 0 0 [nE, kE H]) ((limM H).vars.length) 2 = 0 := by
        show typedX (.mk 8 0 0 [nE, kE H]) 1 2 = 0
        unfold typedX
        simp [a2]
      rw [if_neg (by rw [c]; decide)]
      rfl
    have b2 : mvErr (limM H) (some ⟨0, 0, 0, .mk 8 0 0 [nE, kE H], [⟨0, .mk 2 0 0 [nE, kE 1]⟩]⟩) backMv = 0 := by
      unfold mvErr
      rw [if_neg (by simp [limM, backMv]), if_neg (by simp [limM, backMv]), if_neg (by simp [backMv])]
      rfl
    rw [if_neg (by simp only [limM] at b1; rw [b1]; decide), if_neg (by simp only [limM] at b2; rw [b2]; decide)]
  unfold chk
  rw [if_neg (show ¬ checkSet 32 (limM H).alpha none ≠ 0 from (by decide : ¬ checkSet 32 [0, 1] none ≠ 0)), if_neg (by simp [limM]), if_neg (show ¬ checkSet (limM H).locs (limM H).marked none ≠ 0 from (by decide : ¬ checkSet 1 [0] none ≠ 0)), if_neg (by rw [a1]; decide), if_neg (by simp [limM]), a3]
theorem lim_visits {k : Nat} (hk : k ≤ H) {S : Srch} (hs : S.sts = cnt (k + 1)) : visits (limM H) k ⟨0, [(k : Int)]⟩ (limM H).alpha S = if k < H then (if k + 1 = 4096 then none else some { S with sts := cnt (k + 2), frm := S.frm ++ [((k : Int), 0)] }) else some S := by
  have su := step_up (h := (H : Int)) (k := (k : Int)) (by omega) (by omega) (by omega) (by omega)
  have sb := step_back (h := (H : Int)) (k := (k : Int)) (by omega) (by omega) (by omega) (by omega)
  have hb : ∀ S : Srch, (∃ n, 1 ≤ n ∧ S.sts = cnt n) → visit (limM H) k ⟨0, [(k : Int)]⟩ 1 S = some S := by
    rintro S ⟨n, hn, e⟩
    unfold visit
    simp only [sb, e]
    by_cases h : (k : Int) = 2
    · have := cnt_any (n := n) (k := 0)
      rw [if_pos h]
      simp only [ne_eq, not_true_eq_false, false_and, if_false]
      have t : ((cnt n).any fun t => keyOf ⟨0, [0]⟩ == keyOf t) = true := this.trans (decide_eq_true (by omega))
      rw [if_pos (.inr t)]
    · rw [if_neg h]
      simp only [ne_eq, not_true_eq_false, false_and, if_false]
      rw [if_pos (.inl trivial)]
  show (match visit (limM H) k ⟨0, [(k : Int)]⟩ 0 S with
    | none => none
    | some S' => visits (limM H) k ⟨0, [(k : Int)]⟩ [1] S') = _
  by_cases h : k < H
  · have hv : visit (limM H) k ⟨0, [(k : Int)]⟩ 0 S = if k + 1 = 4096 then none else some { S with sts := cnt (k + 2), frm := S.frm ++ [((k : Int), 0)] } := by
      unfold visit
      have su : stepR (limM H) ⟨0, [(k : Int)]⟩ 0 = (⟨0, [((k + 1 : Nat) : Int)]⟩, true, 0) := by
        rw [su, if_pos (show (k : Int) < H by omega)]
        rfl
      rw [su]
      simp only [ne_eq, not_true_eq_false, false_and, if_false, hs]
      have t : ((cnt (k + 1)).any fun t => keyOf ⟨0, [((k + 1 : Nat) : Int)]⟩ == keyOf t) = false := by
        rw [cnt_any (n := k + 1) (k := k + 1)]
        simp
      rw [t, if_neg (by simp), cnt_len, ← cnt_succ (k + 1)]
    rw [hv, if_pos h]
    by_cases h4 : k + 1 = 4096
    · rw [if_pos h4]
    · rw [if_neg h4]
      simp only [visits]
      rw [hb _ ⟨k + 2, by omega, rfl⟩]
  · have hv : visit (limM H) k ⟨0, [(k : Int)]⟩ 0 S = some S := by
      unfold visit
      rw [su, if_neg (show ¬ (k : Int) < H by omega)]
      simp only [ne_eq, not_true_eq_false, false_and, if_false]
      rw [if_pos (.inl trivial)]
    rw [hv, if_neg h]
    simp only [visits]
    rw [hb _ ⟨k + 1, by omega, hs⟩]
theorem lim_loop : ∀ (f k : Nat) (S : Srch), k ≤ H → S.sts = cnt (k + 1) → S.kind = 0 → k < 4096 → 4096 < f + k →
    (H + 1 ≤ 4096 → ∃ S', searchL (limM H) f k S = some S' ∧ S'.sts = cnt (H + 1) ∧ S'.kind = 0) ∧ (4096 < H + 1 → searchL (limM H) f k S = none)
  | 0, k, S, _, _, _, a, b => by omega
  | f + 1, k, S, hk, hs, h0, a, b => by
    unfold searchL
    rw [hs, cnt_get (by omega)]
    simp only
    rw [lim_visits h1 h2 hk hs]
    by_cases h : k < H
    · rw [if_pos h]
      by_cases h4 : k + 1 = 4096
      · rw [if_pos h4]
        exact ⟨fun h => by omega, fun _ => rfl⟩
      · rw [if_neg h4]
        exact lim_loop f (k + 1) _ (by omega) rfl h0 (by omega) (by omega)
    · rw [if_neg h]
      refine ⟨fun _ => ⟨S, ?_, by rw [hs, show k = H by omega], h0⟩, fun h => by omega⟩
      simp only
      unfold searchL
      cases f with
      | zero => rfl
      | succ f =>
        simp only
        rw [hs, show k = H by omega, cnt_none]
theorem lim_search : (H + 1 ≤ 4096 → ∃ S', searchR (limM H) = some S' ∧ S'.sts = cnt (H + 1) ∧ S'.kind = 0) ∧ (4096 < H + 1 → searchR (limM H) = none) :=
  lim_loop h1 h2 4097 0 (search0 (limM H)) (by omega) rfl rfl (by omega) (by omega)
theorem lim_reach : reachR (limM H) = if 4096 < H + 1 then ([], 3) else (cnt (H + 1), 0) := by
  unfold reachR
  rw [lim_chk h1 h2, if_neg (by decide)]
  by_cases h : 4096 < H + 1
  · rw [(lim_search h1 h2).2 h, if_pos h]
  · obtain ⟨S, e, a, b⟩ := (lim_search h1 h2).1 (by omega)
    rw [e, if_neg h]
    simp only [a]
theorem lim_fault : faultR (limM H) = if 4096 < H + 1 then ([], false, 0, 3) else ([], false, 0, 0) := by
  unfold faultR
  rw [lim_chk h1 h2, if_neg (by decide)]
  by_cases h : 4096 < H + 1
  · rw [(lim_search h1 h2).2 h, if_pos h]
  · obtain ⟨S, e, a, b⟩ := (lim_search h1 h2).1 (by omega)
    rw [e, if_neg h]
    simp only [b, if_true]
end
end Go.AI

namespace Go.AI
open Go.Proofs
set_option maxRecDepth 20000
/-- Arguments in other words. -/
theorem ASpecT.co {g : Nat} {tab : Obj} {P : Program} {f : FuncId} {args args' : List D} {O O' : List Heap} {res : D} {Hr : Heap} (h : ASpecT g tab P f args' O res Hr O') (hc : CoDL args args') : ASpecT g tab P f args O res Hr O' :=
  fun E K ρ w vs hw ht hr => h E K ρ w vs hw ht (hc.rep hr)
abbrev lfI (o v : Int) : List I := [vi o, vi v, vi 0, .v (.slice none 0 0)]
abbrev cVr (h : Int) : Ob := .arr 31 4 1 [vrI (nVr h)] true
abbrev upL (h : Int) : List I := [vi 0, vi 0, vi 0, vi 8, vi 0, vi 0, .sl 4 2 [lfI 1 0, lfI 0 h], .sl 5 1 [[vi 0, vi 2, vi 0, vi 0, .sl 4 2 [lfI 1 0, lfI 0 1]]]]
abbrev backL : List I := [vi 0, vi 1, vi 0, vi 6, vi 0, vi 0, .sl 4 2 [lfI 1 0, lfI 0 2], .sl 5 1 [[vi 0, vi 0, vi 0, vi 0, .v (.slice none 0 0)]]]
abbrev cMv (h : Int) : Ob := .arr 38 8 2 [upL h, backL] true
theorem counter12o (O : List Heap) : ASpec Tryd.prog 12 [bb true] O (.agg [ints [0, 1], ii 1, ii 0, ints [0], .osl 0 11, .osl 0 36]) [(36, cMv 2), (11, cVr 2)] O := by
  have ht := fun O => true42 O
  refine aspec_stop [100011, 100036] TrydT_ok Tryd.func12 rfl Tryd.call12 Tryd.ntmps12 (Nat.le_of_ble_eq_true rfl) fun E => ?_
  refine g_run TrydT_ok Tryd.func12 ?_
  refine g_drawn TrydT_ok Tryd.func12 mixedT rfl ?_
  first | refine g_call TrydT_ok Tryd.func12 (ht _) rfl rfl rfl rfl rfl ?_ | refine s_callq TrydT_ok (fun _ => ht _) rfl rfl rfl ?_
  first | refine g_call TrydT_ok Tryd.func12 (expr13n _ 2 2 _) rfl rfl rfl rfl rfl ?_ | refine s_callq TrydT_ok (fun _ => expr13n _ 2 2 _) rfl rfl rfl ?_
  refine s_put TrydT_ok rfl rfl rfl ?_
  refine e_done TrydT_ok Tryd.func12 (by kernel_rfl) ?_
  repeat (first | refine g_cnd TrydT_ok Tryd.func12 rfl (fun _ => ?_) (fun h => absurd h (by decide)) | refine g_cnd TrydT_ok Tryd.func12 rfl (fun h => absurd h (by decide)) (fun _ => ?_) | refine g_know TrydT_ok Tryd.func12 rfl (fun _ => ?_) (fun h => absurd h (by decide)) | refine g_know TrydT_ok Tryd.func12 rfl (fun h => absurd h (by decide)) (fun _ => ?_) | refine s_know TrydT_ok (fun _ => ?_) (fun h => absurd h (by decide)) | refine s_know TrydT_ok (fun h => absurd h (by decide)) (fun _ => ?_))
  first | refine g_call TrydT_ok Tryd.func12 (expr13n _ 8 2 _) rfl rfl rfl rfl rfl ?_ | refine s_callq TrydT_ok (fun _ => expr13n _ 8 2 _) rfl rfl rfl ?_
  first | refine g_call TrydT_ok Tryd.func12 (expr13n _ 6 2 _) rfl rfl rfl rfl rfl ?_ | refine s_callq TrydT_ok (fun _ => expr13n _ 6 2 _) rfl rfl rfl ?_
  refine g_ret_co TrydT_ok (r := _) rfl rfl rfl ⟨⟨_, rfl, rfl⟩, ⟨_, rfl, rfl⟩, trivial⟩ rfl rfl ?_
  repeat' (first | refine coD_tup ?_ | refine coD_agg ?_ | refine coD_i ?_ | refine CoDL.cons ?_ ?_ | exact CoDL.nil | exact coI_nil | refine coI_sl ?_ | refine CoLL.cons ?_ ?_ | exact CoLL.nil | refine CoL.cons ?_ ?_ | exact CoL.nil | exact CoI.refl _ | exact CoL.refl _ | exact CoLL.refl _ | exact CoDL.refl _ | exact CoD.refl _)
end Go.AI

namespace Go.AI
open Go.Proofs
set_option maxRecDepth 20000
def hiN (n : Nat) : Nat := n % 8191 + 1
theorem hi_wrap {n : Nat} (hn : n < 65536) : IntKind.i64.wrap (1 + (IntKind.i64.wrap (n : Int)).tmod 8191) = (hiN n : Int) := by
  rw [w64 (n := (n : Int)) (by omega) (by omega)]
  have : (n : Int).tmod 8191 = ((n % 8191 : Nat) : Int) := by
    rw [Int.tmod_eq_emod_of_nonneg (by omega)]
    omega
  rw [this, w64 (by omega) (by omega)]
  unfold hiN
  omega
theorem lim_ok {H : Nat} : extOk (limM H) := by
  refine ⟨by simp [limM, max63], by simp [limM, max63], by simp [limM, max63], fun v hv => ?_, by simp [limM, max63], fun x hx => ?_⟩
  · simp only [limM, List.mem_singleton] at hv
    subst hv
    show (1 : Nat) ≤ max63
    decide
  · simp only [limM, List.mem_cons, List.mem_nil_iff, or_false] at hx
    rcases hx with rfl | rfl
    · refine ⟨exOk_two (exOk_leaf _ _ _) (exOk_leaf _ _ _), by simp [max63], fun u hu => ?_⟩
      simp only [List.mem_singleton] at hu
      subst hu
      exact exOk_two (exOk_leaf _ _ _) (exOk_leaf _ _ _)
    · refine ⟨exOk_two (exOk_leaf _ _ _) (exOk_leaf _ _ _), by simp [backMv, max63], fun u hu => ?_⟩
      simp only [backMv, List.mem_singleton] at hu
      subst hu
      exact exOk_leaf _ _ _
theorem limits3 {g : Nat} (hg : IsTab g) {ty : TypeId} {fr : Nat × Nat} (O : List Heap) (n : Nat) (hn : n < 65536) : ASpecT g (ptab ty fr) Tryd.prog 3 [.i (.v (.int .u16 n))] O (bb true) [] O := by
  have hk := fun O => known11 hg (ty := ty) (fr := fr) O
  have hw := hi_wrap hn
  generalize hH : hiN n = H at hw
  have hH1 : 1 ≤ H := by rw [← hH]; unfold hiN; omega
  have hH2 : H ≤ 8191 := by rw [← hH]; unfold hiN; omega
  have hw2 : IntKind.i64.wrap ((H : Int) + 1) = ((H + 1 : Nat) : Int) := by
    rw [w64 (by omega) (by omega)]
    omega
  have hok := lim_ok (H := H)
  have hco : CoDL [.agg [ints [0, 1], ii 1, ii 0, ints [0], .i (.sl 4 1 [vrI (nVr H)]), .i (.sl 8 2 [upL H, backL])]] [extD (limM H)] := by
    refine .cons ?_ .nil
    repeat' (first | refine coD_tup ?_ | refine coD_agg ?_ | refine coD_i ?_ | refine CoDL.cons ?_ ?_ | exact CoDL.nil | exact coI_nil | refine coI_sl ?_ | refine CoLL.cons ?_ ?_ | exact CoLL.nil | refine CoL.cons ?_ ?_ | exact CoL.nil | exact CoI.refl _ | exact CoL.refl _ | exact CoLL.refl _ | exact CoDL.refl _ | exact CoD.refl _)
  have hreach := fun O => ASpecT.co (reach14 hg (ty := ty) (fr := fr) O (limM H) hok) hco
  have hfault := fun O => ASpecT.co (fault15 hg (ty := ty) (fr := fr) O (limM H) hok) hco
  have hR := lim_reach hH1 hH2
  have hF := lim_fault hH1 hH2
  generalize reachR (limM H) = R at hreach hR
  generalize faultR (limM H) = F at hfault hF
  have hcnt := cnt_len (H + 1)
  refine aspecT_stop [4, 6, 9, 11] TrydT_ok Tryd.func3 rfl Tryd.call3 Tryd.ntmps3 (Nat.le_of_ble_eq_true rfl) fun E hE => ?_
  refine g_run TrydT_ok Tryd.func3 ?_
  refine g_callT TrydT_ok Tryd.func3 hE (hk _) rfl rfl rfl rfl rfl rfl ?_
  repeat (first | refine g_cnd TrydT_ok Tryd.func3 rfl (fun _ => ?_) (fun h => absurd h (by decide)) | refine g_cnd TrydT_ok Tryd.func3 rfl (fun h => absurd h (by decide)) (fun _ => ?_) | refine g_know TrydT_ok Tryd.func3 rfl (fun _ => ?_) (fun h => absurd h (by decide)) | refine g_know TrydT_ok Tryd.func3 rfl (fun h => absurd h (by decide)) (fun _ => ?_) | refine s_know TrydT_ok (fun _ => ?_) (fun h => absurd h (by decide)) | refine s_know TrydT_ok (fun h => absurd h (by decide)) (fun _ => ?_))
  first | refine g_need TrydT_ok Tryd.func3 (by decide) ?_ | refine s_need TrydT_ok (by decide) ?_
  refine g_stop ?_
  refine rch_meet (l := [(2, bb false), (3, ii H)]) (Hv := []) (n := 85) ?_ ⟨rfl, congrArg (fun z => ii z) hw, trivial⟩ rfl trivial rfl rfl
  refine g_run TrydT_ok Tryd.func3 ?_
  apply join_p (P := H < 4096 → ¬ 300 < H) (s6 := { σ := [(2, bb false), (3, ii H)], S := [] :: O, n := 85 })
  · intro J
    refine g_go TrydT_ok Tryd.func3 ?_
    first | refine g_cnd TrydT_ok Tryd.func3 rfl (fun h1 => ?_) (fun h1 => ?_) | refine g_know TrydT_ok Tryd.func3 rfl (fun h1 => ?_) (fun h1 => ?_) | refine s_know TrydT_ok (fun h1 => ?_) (fun h1 => ?_)
    · first | refine g_cnd TrydT_ok Tryd.func3 rfl (fun h2 => ?_) (fun h2 => ?_) | refine g_know TrydT_ok Tryd.func3 rfl (fun h2 => ?_) (fun h2 => ?_) | refine s_know TrydT_ok (fun h2 => ?_) (fun h2 => ?_)
      · refine g_ret TrydT_ok (r := bb true) rfl rfl rfl trivial rfl rfl ?_
        rfl
      · refine g_stop ?_
        refine rch_meet (J (fun h => absurd h (by have := of_decide_eq_false h2; omega))) ⟨rfl, rfl, trivial⟩ rfl trivial rfl rfl
    · repeat (first | refine g_cnd TrydT_ok Tryd.func3 rfl (fun _ => ?_) (fun h => absurd h (by decide)) | refine g_cnd TrydT_ok Tryd.func3 rfl (fun h => absurd h (by decide)) (fun _ => ?_) | refine g_know TrydT_ok Tryd.func3 rfl (fun _ => ?_) (fun h => absurd h (by decide)) | refine g_know TrydT_ok Tryd.func3 rfl (fun h => absurd h (by decide)) (fun _ => ?_) | refine s_know TrydT_ok (fun _ => ?_) (fun h => absurd h (by decide)) | refine s_know TrydT_ok (fun h => absurd h (by decide)) (fun _ => ?_))
      refine g_stop ?_
      refine rch_meet (J (fun _ => by have := of_decide_eq_false h1; omega)) ⟨rfl, rfl, trivial⟩ rfl trivial rfl rfl
  intro hH3
  refine g_run TrydT_ok Tryd.func3 ?_
  refine g_go TrydT_ok Tryd.func3 ?_
  first | refine g_call TrydT_ok Tryd.func3 (counter12o _) rfl rfl rfl rfl rfl ?_ | refine s_callq TrydT_ok (fun _ => counter12o _) rfl rfl rfl ?_
  first | refine g_need TrydT_ok Tryd.func3 (by decide) ?_ | refine s_need TrydT_ok (by decide) ?_
  first | refine g_elem TrydT_ok Tryd.func3 (rfl) ?_ | refine s_elem TrydT_ok (rfl) ?_
  refine g_drawn TrydT_ok Tryd.func3 mixedT rfl ?_
  first | refine g_call TrydT_ok Tryd.func3 (expr13n _ 8 2 _) rfl rfl rfl rfl rfl ?_ | refine s_callq TrydT_ok (fun _ => expr13n _ 8 2 _) rfl rfl rfl ?_
  first | refine g_need TrydT_ok Tryd.func3 (by decide) ?_ | refine s_need TrydT_ok (by decide) ?_
  refine s_putE TrydT_ok rfl rfl rfl (rfl) rfl ?_
  refine e_done TrydT_ok Tryd.func3 (by kernel_rfl) ?_
  refine g_stop ?_
  refine rch_meet (l := [(2, bb false), (3, ii H), (4, .own 0 4 0 0)]) (Hv := [(4, .box [ints [0, 1], ii 1, ii 0, ints [0], .osl 0 11, .osl 0 36]), (36, cMv H), (11, cVr H)]) (n := 85) ?_ ⟨rfl, rfl, rfl, trivial⟩ rfl ⟨rfl, rfl, rfl, trivial⟩ rfl rfl
  refine rch_wk (wk_freeze 11 rfl rfl) ?_
  refine rch_wk (wk_freeze 36 rfl rfl) ?_
  refine rch_wk (wk_imm rfl) ?_
  refine rch_meet (l := [(2, bb false), (3, ii H), (4, .own 0 4 0 0)]) (Hv := [(4, .box [ints [0, 1], ii 1, ii 0, ints [0], .i (.sl 4 1 [vrI (nVr H)]), .i (.sl 8 2 [upL H, backL])])]) (n := 85) ?_ ⟨rfl, rfl, rfl, trivial⟩ rfl ⟨rfl, trivial⟩ rfl rfl
  refine g_run TrydT_ok Tryd.func3 ?_
  refine g_go TrydT_ok Tryd.func3 ?_
  refine g_callT TrydT_ok Tryd.func3 hE (hreach _) rfl rfl rfl rfl rfl rfl ?_
  refine g_callT TrydT_ok Tryd.func3 hE (hfault _) rfl rfl rfl rfl rfl rfl ?_
  refine g_stop ?_
  by_cases h4 : 4096 < H + 1
  · rw [if_pos h4] at hR hF
    subst hR hF
    refine rch_meet (l := [(2, bb false), (3, ii H), (5, stasD []), (6, ii 3), (8, bb false), (10, ii 3)]) (Hv := []) (n := 85) ?_ ⟨rfl, rfl, rfl, rfl, rfl, rfl, trivial⟩ rfl trivial rfl rfl
    refine g_run TrydT_ok Tryd.func3 ?_
    refine g_go TrydT_ok Tryd.func3 ?_
    first | refine g_cnd TrydT_ok Tryd.func3 rfl (fun h1 => ?_) (fun h1 => ?_) | refine g_know TrydT_ok Tryd.func3 rfl (fun h1 => ?_) (fun h1 => ?_) | refine s_know TrydT_ok (fun h1 => ?_) (fun h1 => ?_)
    · repeat (first | refine g_cnd TrydT_ok Tryd.func3 rfl (fun _ => ?_) (fun h => absurd h (by decide)) | refine g_cnd TrydT_ok Tryd.func3 rfl (fun h => absurd h (by decide)) (fun _ => ?_) | refine g_know TrydT_ok Tryd.func3 rfl (fun _ => ?_) (fun h => absurd h (by decide)) | refine g_know TrydT_ok Tryd.func3 rfl (fun h => absurd h (by decide)) (fun _ => ?_) | refine s_know TrydT_ok (fun _ => ?_) (fun h => absurd h (by decide)) | refine s_know TrydT_ok (fun h => absurd h (by decide)) (fun _ => ?_))
      refine g_ret TrydT_ok (r := bb true) rfl rfl rfl trivial rfl rfl ?_
      rfl
    · have h1 := of_decide_eq_false h1
      rw [hw2] at h1
      omega
  · rw [if_neg h4] at hR hF
    subst hR hF
    refine rch_meet (l := [(2, bb false), (3, ii H), (5, .i (.sl 2 (cnt (H + 1)).length ((cnt (H + 1)).map staI))), (6, ii 0), (8, bb false), (10, ii 0)]) (Hv := []) (n := 85) ?_ ⟨rfl, rfl, rfl, rfl, rfl, rfl, trivial⟩ rfl trivial rfl rfl
    refine g_run TrydT_ok Tryd.func3 ?_
    refine g_go TrydT_ok Tryd.func3 ?_
    first | refine g_cnd TrydT_ok Tryd.func3 rfl (fun h1 => ?_) (fun h1 => ?_) | refine g_know TrydT_ok Tryd.func3 rfl (fun h1 => ?_) (fun h1 => ?_) | refine s_know TrydT_ok (fun h1 => ?_) (fun h1 => ?_)
    · have h1 := of_decide_eq_true h1
      rw [hw2] at h1
      omega
    first | refine g_cnd TrydT_ok Tryd.func3 rfl (fun h2 => ?_) (fun h2 => ?_) | refine g_know TrydT_ok Tryd.func3 rfl (fun h2 => ?_) (fun h2 => ?_) | refine s_know TrydT_ok (fun h2 => ?_) (fun h2 => ?_)
    · repeat (first | refine g_cnd TrydT_ok Tryd.func3 rfl (fun _ => ?_) (fun h => absurd h (by decide)) | refine g_cnd TrydT_ok Tryd.func3 rfl (fun h => absurd h (by decide)) (fun _ => ?_) | refine g_know TrydT_ok Tryd.func3 rfl (fun _ => ?_) (fun h => absurd h (by decide)) | refine g_know TrydT_ok Tryd.func3 rfl (fun h => absurd h (by decide)) (fun _ => ?_) | refine s_know TrydT_ok (fun _ => ?_) (fun h => absurd h (by decide)) | refine s_know TrydT_ok (fun h => absurd h (by decide)) (fun _ => ?_))
      refine g_ret TrydT_ok (r := bb true) rfl rfl rfl trivial rfl rfl ?_
      rfl
    · have h2 := beqF h2
      rw [hw2, hcnt] at h2
      exact absurd rfl h2
end Go.AI

/- The way from a row to a contract. -/
namespace Go.Proofs.YtbknncolmohdlaaDoor
open Go.ChangeShapes Go.WideShapes Go.ChangeAt Go.RowKit
set_option maxRecDepth 100000
theorem Tryd.own : ownKnob Tryd.prog.godebug = none := by kernel_rfl
theorem powG : Tryd.prog.globalNamed "internal/strconv.uint64pow10" = some 0 := by kernel_rfl
theorem isTab0 : AI.IsTab 0 := fun _ _ _ h => AI.tabIs_of powG h
theorem tab_of_laid {W : World} (h : laidMetH Tryd.prog [("math/bits.deBruijn32tab", Rows.laid_math_bits_deBruijn32tab), ("math/bits.deBruijn64tab", Rows.laid_math_bits_deBruijn64tab), ("internal/strconv.uint64pow10", Rows.laid_internal_strconv_uint64pow10)] W) :
    ∃ ty fr, W.heap[0]? = some (AI.ptab ty fr) := by
  rw [MakeChecks.laidMetH_plain _ _ _ (by kernel_rfl)] at h
  have h3 := laidMet.tail (laidMet.tail h)
  have hT : Lib.TabIs Tryd.prog W "internal/strconv.uint64pow10" .u64 Lib.pow10Tab :=
    Lib.tabIs_of_head (t := 161) (e := 155) (n := 20) powG (by kernel_rfl) (by kernel_rfl) (by kernel_rfl) (by kernel_rfl) (by kernel_rfl) (rest := []) h3
  unfold Lib.TabIs World.var? at hT
  rw [powG] at hT
  simp only [Option.bind_some] at hT
  cases hc : W.heap[0]? with
  | none => rw [hc] at hT; cases hT
  | some o =>
    rw [hc] at hT
    cases o with
    | cells cs ty fr =>
      simp only [Option.some.injEq] at hT
      subst hT
      exact ⟨ty, fr, rfl⟩
    | _ => cases hT
/-- A contract with no memory of one's own, from the outside. -/
theorem calls_of {f : FuncId} {args : List AI.D} {vs : List Value} {b : Bool} {W : World} {ty : TypeId} {fr : Nat × Nat} (h0 : W.heap[0]? = some (AI.ptab ty fr))
    (hcall : ∀ a w, (callFunc f a).run Tryd.prog w = .ok (.enter f a) w) (hs : AI.ASpecT 0 (AI.ptab ty fr) Tryd.prog f args [] (AI.bb b) [] [])
    {K : AI.Kn} (hK : ∀ bl o x, K bl o = some x → W.cell? ⟨bl, o, none⟩ = some x) (hr : ∀ ρ sh, AI.RepDL K ρ sh vs args) :
    Calls Tryd.prog f vs.toArray W fun e W' => e = .returned (.bool b) ∧ (∀ i, i < W.heap.size → W'.heap[i]? = W.heap[i]?) ∧ W'.os = W.os ∧ W'.output = W.output := by
  let ρ : Nat → Nat → AI.Loc := fun _ _ => ⟨0, 0, none⟩
  have hobj : ∀ d n, AI.objAt [] d n = none := fun d n => by simp [AI.objAt]
  have hI : AI.HInv (AI.Env.of K ρ W) K ρ [] W :=
    ⟨hK, (fun d n ob e => absurd ((hobj d n).symm.trans e) (by simp)), (fun d n ob d' n' ob' e => absurd ((hobj d n).symm.trans e) (by simp)), Nat.le_refl _, fun _ _ _ => rfl, (fun n ob e => absurd ((hobj 0 n).symm.trans e) (by simp)), fun _ => rfl, fun _ _ _ h => h, fun _ _ _ h => .inl h, rfl, rfl, rfl⟩
  have ht : AI.TabQ 0 (AI.ptab ty fr) [] ρ W := ⟨h0, fun d n x e => by simp [AI.shape, hobj] at e⟩
  rcases hs _ K ρ W vs hI ht (hr _ _) with ⟨_, h⟩ | ⟨v, w', h, _⟩
  · refine h.mono fun e W' => ?_
    rintro ⟨v, rfl, K', ρ', h1, h2⟩
    obtain rfl := AI.inv_v h2
    refine ⟨rfl, fun i hi => h1.old i hi fun d n ob e => ?_, h1.rest.2.1, h1.rest.2.2⟩
    simp [AI.objAt] at e
  · rw [hcall] at h
    cases h
theorem kept_of {W W' : World} {P : MemPlace → Prop} (h : ∀ i, i < W.heap.size → W'.heap[i]? = W.heap[i]?) (h1 : W'.os = W.os) (h2 : W'.output = W.output) : W.keptBut W' P := by
  refine ⟨h1, h2, fun i hi => ?_⟩
  rw [h i hi]
  exact (World.keptBut_refl W P).2.2 i hi
end Go.Proofs.YtbknncolmohdlaaDoor
