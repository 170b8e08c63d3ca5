/- The layer of abstract runs, part 39. -/
import Derived.Test.YtdehnnadfbildaaGreatDoorStpZL
import Derived.KernelRfl
import Derived.Test.YtdehnnadfbildaaGreatDoorTie
import Derived.Test.YtdehnnadfbildaaGreatDoorCards
import Derived.ProofKit
import Derived.LaidMore
import Derived.OpenShut
import Derived.Lay
import Derived.SevenTiedAt
import Derived.Stop.Joined
import Derived.Stop.LaidErr
import Derived.Lib.LaidTab
set_option linter.unusedSimpArgs false
set_option linter.unusedVariables false
set_option linter.all false

/- Another name for one object among others. -/
namespace Go.AI
def renH (a b : Nat) : Heap → Heap
  | [] => []
  | (k, o) :: r => (renN a b k, o) :: renH a b r
theorem renN_self (a b : Nat) : renN a b a = b := by simp [renN]
theorem renN_ne {a b n : Nat} (h : n ≠ a) : renN a b n = n := by
  unfold renN
  cases hb : Nat.beq n a with
  | false => rfl
  | true => exact absurd (Nat.eq_of_beq_eq_true hb) h
theorem look_renH {a b n : Nat} {o : Ob} : ∀ {H : Heap}, look H b = none → look (renH a b H) n = some o → ∃ n0, n = renN a b n0 ∧ look H n0 = some o
  | [], _, h => by simp [renH, look] at h
  | (k, x) :: r, hb, h => by
    rw [look_cons] at hb
    split at hb
    · cases hb
    · rename_i hkb
      simp only [renH] at h
      rw [look_cons] at h
      split at h
      · rename_i e
        simp only [Option.some.injEq] at h
        subst h
        exact ⟨k, e.symm, by rw [look_cons, if_pos rfl]⟩
      · rename_i e
        obtain ⟨n0, h1, h2⟩ := look_renH hb h
        refine ⟨n0, h1, ?_⟩
        rw [look_cons, if_neg]
        · exact h2
        · intro e2
          subst e2
          exact e h1.symm
theorem look_renH' {a b n0 : Nat} {o : Ob} : ∀ {H : Heap}, look H b = none → look H n0 = some o → look (renH a b H) (renN a b n0) = some o
  | [], _, h => by simp [look] at h
  | (k, x) :: r, hb, h => by
    rw [look_cons] at hb
    split at hb
    · cases hb
    · rename_i hkb
      rw [look_cons] at h
      simp only [renH]
      rw [look_cons]
      split at h
      · rename_i e
        subst e
        rw [if_pos rfl]; exact h
      · rename_i e
        rw [if_neg]
        · exact look_renH' hb h
        · intro e2
          by_cases h1 : k = a
          · subst h1
            rw [renN_self, renN_ne (Ne.symm e)] at e2
            subst e2
            rw [hb] at h; cases h
          · rw [renN_ne h1] at e2
            by_cases h2 : n0 = a
            · subst h2; rw [renN_self] at e2; exact hkb e2
            · rw [renN_ne h2] at e2; exact e e2
section
variable {c : Cx} {s : St} {H : Heap} {O : List Heap}
theorem wk_ren (a b : Nat) (hS : s.S = H :: O) (hb : look H b = none) (hfl : allH (fun _ o => o.flat) H = true) : Wk c s { σ := renσ a b s.σ, S := renH a b H :: O, n := s.n } := by
  intro K ρ act w hi
  have hh := hi.h
  rw [hS] at hh
  let ρ' : Nat → Nat → Loc := upd ρ b (ρ 0 a)
  have hρ : ∀ n0 o, look H n0 = some o → ρ' 0 (renN a b n0) = ρ 0 n0 := by
    intro n0 o h
    by_cases h1 : n0 = a
    · subst h1; rw [renN_self]; exact upd_same _ _ _
    · rw [renN_ne h1]
      exact upd_other _ _ _ (.inr fun e => by subst e; rw [hb] at h; cases h)
  have r1 : ∀ d n, ρ' (d + 1) n = ρ (d + 1) n := fun d n => upd_other _ _ _ (.inl (by omega))
  have hren : Ren a b ρ ρ' (shape (H :: O)) (shape (renH a b H :: O)) := by
    refine ⟨fun n x e => ?_, fun d n x e => ⟨by simpa [shape, objAt] using e, r1 d n⟩⟩
    simp only [shape, objAt, List.getElem?_cons_zero] at e ⊢
    cases hl : look H n with
    | none => simp [hl] at e
    | some o =>
      rw [look_renH' hb hl]
      exact ⟨by simpa [hl] using e, hρ _ _ hl⟩
  have hmv : Moves (fun _ => false) K K ρ ρ' (shape (H :: O)) (shape (renH a b H :: O)) := ⟨K.le_refl, fun _ _ h => (by cases h), hren.s⟩
  have hcase : ∀ d n o, objAt (renH a b H :: O) d n = some o → ∃ n0, objAt (H :: O) d n0 = some o ∧ ρ' d n = ρ d n0 ∧ (d = 0 → n = renN a b n0) ∧ (d ≠ 0 → n = n0) := by
    intro d n o e
    cases d with
    | zero =>
      obtain ⟨n0, rfl, h2⟩ := look_renH hb (by simpa [objAt] using e)
      exact ⟨n0, by simpa [objAt] using h2, hρ _ _ h2, fun _ => rfl, fun h => absurd rfl h⟩
    | succ d => exact ⟨n, by simpa [objAt] using e, r1 _ _, fun h => absurd h (Nat.succ_ne_zero d), fun _ => rfl⟩
  have e0 : ∀ f : Nat → Nat → Loc, (fun d n => f (0 + d) n) = f := by intro f; funext d n; rw [Nat.zero_add]
  refine ⟨K, ρ', ⟨hh.holds, ?_, ?_, hh.size, ?_, ?_, ?_, hh.Kle, hh.Knew, hh.rest⟩, hi.defers, hi.size, fun t d e => ?_⟩
  · intro d n o e
    obtain ⟨n0, h1, h2, h3, h4⟩ := hcase d n o e
    have h0 := hh.own _ _ _ h1
    rw [h2]
    cases d with
    | zero =>
      rw [e0] at h0 ⊢
      have hf : o.flat = true := allH_look hfl (by simpa [objAt] using h1)
      refine h0.move hmv ?_ (fun _ => rfl) (fun _ _ => rfl)
      cases o with
      | box cs => exact hf
      | tb _ cs => exact hf
      | arr => rfl
      | mp => rfl
    | succ d =>
      have e1 : (fun d' n => ρ' (d + 1 + d') n) = fun d' n => ρ (d + 1 + d') n := by
        funext d' n
        rw [show d + 1 + d' = (d + d') + 1 by omega, r1]
      rw [e1]
      simpa using h0
  · intro d n o d2 n2 o2 e e2 b1 b2 hbe
    obtain ⟨m1, a1, a2, a3, a4⟩ := hcase d n o e
    obtain ⟨m2, c1, c2, c3, c4⟩ := hcase d2 n2 o2 e2
    rw [a2] at b1 hbe
    rw [c2] at b2 hbe
    obtain ⟨rfl, rfl⟩ := hh.inj _ _ _ _ _ _ a1 c1 b1 b2 hbe
    refine ⟨rfl, ?_⟩
    by_cases h : d = 0
    · rw [a3 h, c3 h]
    · rw [a4 h, c4 h]
  · intro b' hb' hno
    refine hh.old b' hb' fun d n o e hbk => ?_
    have := hno d n o (by simpa [objAt] using e) (by rw [r1]; exact hbk)
    rwa [r1] at this
  · intro n o e hbk
    obtain ⟨n0, h1, h2, _⟩ := hcase 0 n o e
    rw [h2] at hbk ⊢
    exact hh.loc _ _ h1 hbk
  · intro d
    funext n
    rw [r1, hh.outer]
  · simp only [look_renσ] at e
    cases hl : look s.σ t with
    | none => simp [hl] at e
    | some d0 =>
      simp only [hl, Option.map_some, Option.some.injEq] at e
      subst e
      have := hi.slots _ _ hl
      rw [hS] at this
      exact this.ren hren
end
end Go.AI


namespace Go.AI
open Go.Proofs
set_option maxRecDepth 20000
theorem within_iff : ∀ {l : List Vr} {xs : List Int}, within l xs = true ↔ xs.length = l.length ∧ ∀ i (h : i < l.length) (h' : i < xs.length), l[i].low ≤ xs[i] ∧ xs[i] ≤ l[i].high
  | [], [] => by simp [within]
  | [], _ :: _ => by simp [within]
  | _ :: _, [] => by simp [within]
  | v :: r, x :: ys => by
    simp only [within, Bool.and_eq_true, decide_eq_true_eq, within_iff (l := r) (xs := ys), List.length_cons, Nat.add_right_cancel_iff]
    constructor
    · rintro ⟨⟨h1, h2⟩, h3, h4⟩
      refine ⟨h3, fun i h h' => ?_⟩
      cases i with
      | zero => exact ⟨h1, h2⟩
      | succ i => exact h4 i (by simpa using h) (by simpa using h')
    · rintro ⟨h3, h4⟩
      exact ⟨h4 0 (by simp) (by simp), h3, fun i h h' => h4 (i + 1) (by simpa using h) (by simpa using h')⟩
theorem within_set {l : List Vr} {xs : List Int} {k : Nat} {n : Int} (h : within l xs = true) (hk : k < l.length) (hn : l[k].low ≤ n ∧ n ≤ l[k].high) : within l (xs.set k n) = true := by
  rw [within_iff] at h ⊢
  refine ⟨by simpa using h.1, fun i hi hi' => ?_⟩
  rw [List.getElem_set]
  split
  · rename_i e; subst e; exact hn
  · exact h.2 i hi (by simpa using hi')
theorem checkVrs_zero {all : List Vr} : ∀ {l : List Vr} {i : Nat}, checkVrs all l i = 0 → ∀ v ∈ l, (-65536 ≤ v.low ∧ v.high ≤ 65536) ∧ v.low ≤ v.init ∧ v.init ≤ v.high
  | [], _, _, v, hv => by simp at hv
  | x :: r, i, h, v, hv => by
    simp only [checkVrs] at h
    split at h
    · rename_i e he
      subst h
      unfold checkVr at he
      split at he; · cases he
      split at he; · cases he
      split at he; · cases he
      split at he; · cases he
      split at he <;> cases he
    · rename_i he
      rcases List.mem_cons.1 hv with rfl | hv
      · unfold checkVr at he
        split at he; · cases he
        split at he; · cases he
        split at he; · cases he
        rename_i h3
        split at he; · cases he
        split at he; · cases he
        rename_i h4 h5
        simp only [checkVr.large, Bool.or_eq_true, decide_eq_true_eq, not_or] at h3
        omega
      · exact checkVrs_zero h v hv
theorem vars_ok {l : List Vr} (h : varsErr l = 0) : ∀ v ∈ l, (-65536 ≤ v.low ∧ v.high ≤ 65536) ∧ v.low ≤ v.init ∧ v.init ≤ v.high := by
  unfold varsErr at h
  split at h
  · cases h
  · exact checkVrs_zero h
/-- A right state. -/
def okS (m : Ext) (s : Sta) : Prop := (0 ≤ s.loc ∧ s.loc < m.locs) ∧ within m.vars s.vals = true
theorem okS_bounds {m : Ext} {s : Sta} (hr : extRight m) (h : okS m s) : i64B s.loc ∧ (∀ v ∈ s.vals, i64B v) ∧ s.vals.length ≤ 16 ∧ s.vals.length = m.vars.length ∧ ∀ v ∈ s.vals, -65536 ≤ v ∧ v ≤ 65536 := by
  obtain ⟨h1, h2⟩ := h
  rw [within_iff] at h2
  have hl := hr.locs
  have hv := vars_len hr.vars
  have hb : ∀ v ∈ s.vals, -65536 ≤ v ∧ v ≤ 65536 := by
    intro v hm
    obtain ⟨i, hi, rfl⟩ := List.getElem_of_mem hm
    have a := h2.2 i (by omega) hi
    have b := vars_ok hr.vars _ (List.getElem_mem (by omega : i < m.vars.length))
    omega
  exact ⟨⟨by omega, by omega⟩, fun v hm => by have := hb v hm; exact ⟨by omega, by omega⟩, by omega, h2.1, hb⟩
theorem start_ok {m : Ext} (hr : extRight m) : okS m (startR m) := by
  refine ⟨hr.init, within_iff.2 ⟨by simp [startR], fun i h h' => ?_⟩⟩
  simp only [startR, List.getElem_map]
  exact (vars_ok hr.vars _ (List.getElem_mem h)).2
theorem updR_ok {m : Ext} {vals : List Int} : ∀ {l : List Upd} {acc out : List Int}, updR m vals l acc = some out → within m.vars acc = true → within m.vars out = true
  | [], acc, out, h, hw => by simp only [updR, Option.some.injEq] at h; subst h; exact hw
  | u :: r, acc, out, h, hw => by
    simp only [updR] at h
    cases hu : m.vars[u.v.toNat]? with
    | none => rw [hu] at h; cases h
    | some v =>
      rw [hu] at h
      simp only at h
      split at h
      · cases h
      · rename_i hc
        have hk : u.v.toNat < m.vars.length := (List.getElem?_eq_some_iff.1 hu).1
        have hkv : m.vars[u.v.toNat] = v := (List.getElem?_eq_some_iff.1 hu).2
        refine updR_ok h (within_set hw hk ?_)
        rw [hkv]
        omega
theorem step_ok {m : Ext} {s : Sta} {ev : Int} (hr : extRight m) (h : okS m s) (hp : (stepR m s ev).2.1 = true) : okS m (stepR m s ev).1 := by
  unfold stepR at hp ⊢
  cases hc : (chs s ev m.moves 0 none false).1 with
  | none => rw [hc] at hp; cases hp
  | some k =>
    rw [hc] at hp
    simp only at hp ⊢
    split at hp
    · cases hp
    · rename_i he
      rw [if_neg he]
      cases hk : m.moves[k]? with
      | none => rw [hk] at hp; cases hp
      | some x =>
        rw [hk] at hp
        simp only at hp ⊢
        cases hu : updR m s.vals x.us s.vals with
        | none => rw [hu] at hp; cases hp
        | some acc =>
          exact ⟨(hr.mv x (List.mem_of_getElem? hk)).to, updR_ok hu h.2⟩
/-- What search has found. -/
structure Srch where
  sts : List Sta
  frm : List (Int × Int)
  flt : Int × Int
  kind : Int
abbrev ostas (l : List Sta) : Ob := .arr 60 2 l.length (l.map staI) true
end Go.AI


namespace Go.AI
open Go.Proofs
set_option maxRecDepth 20000
/-- What the loops know of what was found. -/
structure Good (m : Ext) (S : Srch) : Prop where
  len : S.sts.length ≤ 4096
  ok : ∀ s ∈ S.sts, okS m s
  fl : S.frm.length = S.sts.length
end Go.AI


namespace Go.AI
open Go.Proofs
set_option maxRecDepth 20000
abbrev stasD (l : List Sta) : D := .i (.sl 2 l.length (l.map staI))
/-- The counter of the chapter. -/
def nE : Ex := .mk 1 0 0 []
def kE (n : Int) : Ex := .mk 0 n 0 []
def nVr (high : Int) : Vr := ⟨⟨#[110]⟩, 0, high, 0⟩
end Go.AI


/- slices.Reverse: a callee of the library that writes into its caller's object. -/
namespace Go.AI
open Go.Proofs
/-- Cells, written from a place on. -/
def over (c : Array Value) : Nat → List Value → Array Value
  | _, [] => c
  | o, v :: r => over (c.setIfInBounds o v) (o + 1) r
theorem over_size : ∀ (vs : List Value) (c : Array Value) (o : Nat), (over c o vs).size = c.size
  | [], c, o => rfl
  | v :: r, c, o => by simp only [over, over_size r, Array.size_setIfInBounds]
theorem over_get : ∀ (vs : List Value) (c : Array Value) (o j : Nat), o + vs.length ≤ c.size → (over c o vs)[j]? = if o ≤ j ∧ j < o + vs.length then vs[j - o]? else c[j]?
  | [], c, o, j, _ => by
    simp only [over, List.length_nil, Nat.add_zero]
    rw [if_neg (by omega)]
  | v :: r, c, o, j, h => by
    simp only [List.length_cons] at h
    simp only [over]
    rw [over_get r _ _ _ (by simp only [Array.size_setIfInBounds]; omega)]
    simp only [List.length_cons]
    by_cases h1 : o + 1 ≤ j ∧ j < o + 1 + r.length
    · rw [if_pos h1, if_pos (by omega), show j - o = (j - (o + 1)) + 1 by omega]
      simp
    · rw [if_neg h1]
      by_cases h2 : j = o
      · subst h2
        rw [if_pos (by omega)]
        simp only [Nat.sub_self, List.getElem?_cons_zero, Array.getElem?_setIfInBounds]
        rw [if_pos trivial, if_pos (by omega)]
      · rw [if_neg (by omega), Array.getElem?_setIfInBounds, if_neg (by omega)]
theorem setCells_heap {b : Nat} : ∀ (vs : List Value) (o : Nat) (w : World) (c : Array Value) (ty : TypeId) (fr : Nat × Nat), w.heap[b]? = some (.cells c ty fr) →
    (w.setCells b o vs).heap[b]? = some (.cells (over c o vs) ty fr) ∧ (∀ b', b' ≠ b → (w.setCells b o vs).heap[b']? = w.heap[b']?) ∧ (w.setCells b o vs).heap.size = w.heap.size ∧
      (w.setCells b o vs).tape = w.tape ∧ (w.setCells b o vs).os = w.os ∧ (w.setCells b o vs).output = w.output
  | [], o, w, c, ty, fr, h => ⟨h, fun _ _ => rfl, rfl, rfl, rfl, rfl⟩
  | v :: r, o, w, c, ty, fr, h => by
    have h1 : (w.setCell ⟨b, o, none⟩ v).heap[b]? = some (.cells (c.setIfInBounds o v) ty fr) := by
      simp [World.setCell, Array.getElem?_modify, h]
    have h2 : ∀ b', b' ≠ b → (w.setCell ⟨b, o, none⟩ v).heap[b']? = w.heap[b']? := fun b' hb => by
      simp only [World.setCell, Array.getElem?_modify]
      rw [if_neg (fun e => hb e.symm)]
    obtain ⟨a1, a2, a3, a4, a5, a6⟩ := setCells_heap r (o + 1) (w.setCell ⟨b, o, none⟩ v) _ ty fr h1
    refine ⟨a1, fun b' hb => (a2 b' hb).trans (h2 b' hb), a3.trans (by simp [World.setCell]), a4, a5, a6⟩
theorem repL_ints {K : Kn} : ∀ {vs : List Value} {l : List Int}, RepL K vs (l.map fun x => [vi x]).flatten → vs = l.map (Value.int .i64)
  | _, [], .nil => rfl
  | _, x :: r, h => by
    simp only [List.map_cons, List.flatten_cons, List.cons_append, List.nil_append] at h
    cases h with
    | cons a b =>
      cases a with
      | v e => rw [repL_ints b]; rfl
theorem ints_repL {K : Kn} : ∀ (l : List Int), RepL K (l.map (Value.int .i64)) (l.map fun x => [vi x]).flatten
  | [] => .nil
  | x :: r => by
    simp only [List.map_cons, List.flatten_cons, List.cons_append, List.nil_append]
    exact .cons (.v rfl) (ints_repL r)
end Go.AI


namespace Go.AI
open Go.Proofs
set_option maxRecDepth 20000
/-- Back from a place to the start. -/
def back (frm : List (Int × Int)) : Nat → Int × Int → List Int
  | 0, _ => []
  | f + 1, p => if p.1 < 0 then [] else p.2 :: back frm f (frm.getD p.1.toNat (-1, -1))
/-- Each place was found from an earlier one. -/
structure Linked (S : Srch) : Prop where
  len : S.frm.length = S.sts.length
  frm : ∀ k (h : k < S.frm.length), S.frm[k].1 < k
  flt : S.flt.1 < S.sts.length
  most : S.sts.length ≤ 4096
end Go.AI


namespace Go.AI
open Go.Proofs
set_option maxRecDepth 20000
end Go.AI


namespace Go.AI
open Go.Proofs
set_option maxRecDepth 20000
theorem exOk_leaf (o v i : Int) : exOk (.mk o v i []) := ⟨Nat.zero_le _, trivial⟩
theorem exOk_two {o v i : Int} {a b : Ex} (ha : exOk a) (hb : exOk b) : exOk (.mk o v i [a, b]) := ⟨by simp [max63], ha, hb, trivial⟩
end Go.AI


/- Plain laws: decimal texts; the counter up to a number. -/
namespace Go.AI
set_option maxRecDepth 20000
section
variable {h : Int} (h1 : 1 ≤ h) (h2 : h ≤ 8191)
include h1 h2
variable {k : Int} (k1 : 0 ≤ k) (k2 : k ≤ h)
omit h1 in
include k1 k2 in
include k1 k2 in
omit h1 in
include k1 k2 in
omit h1 in
include k1 k2 in
omit h1 in
include k1 k2 in
include k1 k2 in
include k1 k2 in
end
end Go.AI


/- Plain law: what is reached of the counter up to a number. -/
namespace Go.AI
set_option maxRecDepth 20000
def cnt (n : Nat) : List Sta := (List.range n).map fun (i : Nat) => (⟨0, [(i : Int)]⟩ : Sta)
section
variable {H : Nat} (h1 : 1 ≤ H) (h2 : H ≤ 8191)
include h1 h2
end
end Go.AI


namespace Go.AI
open Go.Proofs
set_option maxRecDepth 20000
/-- Arguments in other words. -/
theorem ASpecT.co {g : Nat} {tab : Obj} {P : Program} {f : FuncId} {args args' : List D} {O O' : List Heap} {res : D} {Hr : Heap} (h : ASpecT g tab P f args' O res Hr O') (hc : CoDL args args') : ASpecT g tab P f args O res Hr O' :=
  fun E K ρ w vs hw ht hr => h E K ρ w vs hw ht (hc.rep hr)
end Go.AI


namespace Go.AI
open Go.Proofs
set_option maxRecDepth 20000
end Go.AI


/- The way from a row to a contract. -/
namespace Go.Proofs.YtdehnnadfbildaaGreatDoor
open Go.ChangeShapes Go.WideShapes Go.ChangeAt Go.RowKit
set_option maxRecDepth 100000
theorem Tryz.own : ownKnob Tryz.prog.godebug = none := by kernel_rfl
theorem powG : Tryz.prog.globalNamed "internal/strconv.uint64pow10" = some 0 := by kernel_rfl
theorem isTab0 : AI.IsTab 0 := fun _ _ _ h => AI.tabIs_of powG h
theorem tab_of_laid {W : World} (h : laidMetH Tryz.prog [("math/bits.deBruijn32tab", Rows.laid_math_bits_deBruijn32tab), ("math/bits.deBruijn64tab", Rows.laid_math_bits_deBruijn64tab), ("internal/strconv.uint64pow10", Rows.laid_internal_strconv_uint64pow10)] W) :
    ∃ ty fr, W.heap[0]? = some (AI.ptab ty fr) := by
  rw [MakeChecks.laidMetH_plain _ _ _ (by kernel_rfl)] at h
  have h3 := laidMet.tail (laidMet.tail h)
  have hT : Lib.TabIs Tryz.prog W "internal/strconv.uint64pow10" .u64 Lib.pow10Tab :=
    Lib.tabIs_of_head (t := 230) (e := 216) (n := 20) powG (by kernel_rfl) (by kernel_rfl) (by kernel_rfl) (by kernel_rfl) (by kernel_rfl) (rest := []) h3
  unfold Lib.TabIs World.var? at hT
  rw [powG] at hT
  simp only [Option.bind_some] at hT
  cases hc : W.heap[0]? with
  | none => rw [hc] at hT; cases hT
  | some o =>
    rw [hc] at hT
    cases o with
    | cells cs ty fr =>
      simp only [Option.some.injEq] at hT
      subst hT
      exact ⟨ty, fr, rfl⟩
    | _ => cases hT
/-- A contract with no memory of one's own, from the outside. -/
theorem calls_of {f : FuncId} {args : List AI.D} {vs : List Value} {b : Bool} {W : World} {ty : TypeId} {fr : Nat × Nat} (h0 : W.heap[0]? = some (AI.ptab ty fr))
    (hcall : ∀ a w, (callFunc f a).run Tryz.prog w = .ok (.enter f a) w) (hs : AI.ASpecT 0 (AI.ptab ty fr) Tryz.prog f args [] (AI.bb b) [] [])
    {K : AI.Kn} (hK : ∀ bl o x, K bl o = some x → W.cell? ⟨bl, o, none⟩ = some x) (hr : ∀ ρ sh, AI.RepDL K ρ sh vs args) :
    Calls Tryz.prog f vs.toArray W fun e W' => e = .returned (.bool b) ∧ (∀ i, i < W.heap.size → W'.heap[i]? = W.heap[i]?) ∧ W'.os = W.os ∧ W'.output = W.output := by
  let ρ : Nat → Nat → AI.Loc := fun _ _ => ⟨0, 0, none⟩
  have hobj : ∀ d n, AI.objAt [] d n = none := fun d n => by simp [AI.objAt]
  have hI : AI.HInv (AI.Env.of K ρ W) K ρ [] W :=
    ⟨hK, (fun d n ob e => absurd ((hobj d n).symm.trans e) (by simp)), (fun d n ob d' n' ob' e => absurd ((hobj d n).symm.trans e) (by simp)), Nat.le_refl _, fun _ _ _ => rfl, (fun n ob e => absurd ((hobj 0 n).symm.trans e) (by simp)), fun _ => rfl, fun _ _ _ h => h, fun _ _ _ h => .inl h, rfl, rfl, rfl⟩
  have ht : AI.TabQ 0 (AI.ptab ty fr) [] ρ W := ⟨h0, fun d n x e => by simp [AI.shape, hobj] at e⟩
  rcases hs _ K ρ W vs hI ht (hr _ _) with ⟨_, h⟩ | ⟨v, w', h, _⟩
  · refine h.mono fun e W' => ?_
    rintro ⟨v, rfl, K', ρ', h1, h2⟩
    obtain rfl := AI.inv_v h2
    refine ⟨rfl, fun i hi => h1.old i hi fun d n ob e => ?_, h1.rest.2.1, h1.rest.2.2⟩
    simp [AI.objAt] at e
  · rw [hcall] at h
    cases h
theorem kept_of {W W' : World} {P : MemPlace → Prop} (h : ∀ i, i < W.heap.size → W'.heap[i]? = W.heap[i]?) (h1 : W'.os = W.os) (h2 : W'.output = W.output) : W.keptBut W' P := by
  refine ⟨h1, h2, fun i hi => ?_⟩
  rw [h i hi]
  exact (World.keptBut_refl W P).2.2 i hi
end Go.Proofs.YtdehnnadfbildaaGreatDoor


namespace Go.AI
open Go.Proofs
set_option maxRecDepth 20000
abbrev u8I (b : Int) : List I := [.v (.int .u8 b)]
abbrev byts (l : List Int) : D := .i (.sl 1 l.length (l.map u8I))
def byteOk (l : List Int) : Prop := ∀ b ∈ l, 0 ≤ b ∧ b ≤ 255
theorem byteOk_tail {l : List Int} (h : byteOk l) : byteOk l.tail := fun b hb => h b (List.mem_of_mem_tail hb)
def b0 (l : List Int) : Int := match l with
  | [] => 0
  | b :: _ => b
theorem b0_ok {l : List Int} (h : byteOk l) : 0 ≤ b0 l ∧ b0 l ≤ 255 := by
  cases l with
  | nil => exact ⟨Int.le_refl _, by decide⟩
  | cons b r => exact h b (by simp)
abbrev growOb (bs : List Int) (vars k : Int) : Ob := .box [byts bs, ii vars, ii k]
theorem next80 (O : List Heap) (d nm : Nat) (bs : List Int) (vars k : Int) (hb : byteOk bs) (hl : bs.length ≤ max63) (ho : objAt O d nm = some (growOb bs vars k)) :
    ASpec Tryz.prog 110 [.own d nm 0 0] O (ii (b0 bs)) [] (setAt O d nm (growOb bs.tail vars k)) := by
  have hO1 : ∀ H, objAt (H :: O) (d + 1) nm = some (growOb bs vars k) := fun H => by simpa [objAt] using ho
  cases bs with
  | nil =>
    refine aspec_intro Tk Tryz.func110 rfl Tryz.call110 Tryz.ntmps110 (Nat.le_of_ble_eq_true rfl) fun E => ?_
    refine g_run Tk Tryz.func110 ?_
    first | refine g_obj Tk Tryz.func110 (hO1 _) ?_ | refine s_obj Tk (hO1 _) ?_
    repeat (first | refine g_cnd Tk Tryz.func110 rfl (fun _ => ?_) (fun h => absurd h (by decide)) | refine g_cnd Tk Tryz.func110 rfl (fun h => absurd h (by decide)) (fun _ => ?_) | refine g_know Tk Tryz.func110 rfl (fun _ => ?_) (fun h => absurd h (by decide)) | refine g_know Tk Tryz.func110 rfl (fun h => absurd h (by decide)) (fun _ => ?_) | refine s_know Tk (fun _ => ?_) (fun h => absurd h (by decide)) | refine s_know Tk (fun h => absurd h (by decide)) (fun _ => ?_))
    refine g_rwk (wk_S (S' := _ :: setAt O d nm (growOb [] vars k)) (objAt_cons (objAt_set_id ho))) ?_
    refine g_ret Tk (r := ii 0) rfl rfl rfl trivial rfl rfl ?_
    rfl
  | cons b r =>
    have hb := hb b (by simp)
    simp only [max63, List.length_cons] at hl
    have hw : IntKind.i64.wrap b = b := w64 (by omega) (by omega)
    refine aspec_intro Tk Tryz.func110 rfl Tryz.call110 Tryz.ntmps110 (Nat.le_of_ble_eq_true rfl) fun E => ?_
    refine g_run Tk Tryz.func110 ?_
    first | refine g_obj Tk Tryz.func110 (hO1 _) ?_ | refine s_obj Tk (hO1 _) ?_
    first | refine g_cnd Tk Tryz.func110 rfl (fun h1 => ?_) (fun h1 => ?_) | refine g_know Tk Tryz.func110 rfl (fun h1 => ?_) (fun h1 => ?_) | refine s_know Tk (fun h1 => ?_) (fun h1 => ?_)
    · have h1 := beqT h1
      simp only [List.length_cons] at h1
      omega
    first | refine g_obj Tk Tryz.func110 (hO1 _) ?_ | refine s_obj Tk (hO1 _) ?_
    first | refine g_need Tk Tryz.func110 (by exact ⟨by decide, by show (0 : Int) < ((r.length + 1 : Nat) : Int); omega⟩) ?_ | refine s_need Tk (by exact ⟨by decide, by show (0 : Int) < ((r.length + 1 : Nat) : Int); omega⟩) ?_
    first | refine g_elem Tk Tryz.func110 (rfl) ?_ | refine s_elem Tk (rfl) ?_
    first | refine g_obj Tk Tryz.func110 (hO1 _) ?_ | refine s_obj Tk (hO1 _) ?_
    first | refine g_need Tk Tryz.func110 (by exact ⟨by decide, by show (1 : Int) ≤ ((r.length + 1 : Nat) : Int); omega⟩) ?_ | refine s_need Tk (by exact ⟨by decide, by show (1 : Int) ≤ ((r.length + 1 : Nat) : Int); omega⟩) ?_
    first | refine g_obj Tk Tryz.func110 (hO1 _) ?_ | refine s_obj Tk (hO1 _) ?_
    refine g_ret Tk (r := ii (IntKind.i64.wrap b)) rfl rfl rfl trivial rfl rfl ?_
    exact congrArg ii hw
def truthE (t : Bool) : Ex := .mk (if t then 6 else 7) 0 0 [zeroE, zeroE]
theorem truth81 (O : List Heap) (t : Bool) : ASpec Tryz.prog 111 [bb t] O (exA (truthE t)) [] O := by
  refine aspec_intro Tk Tryz.func111 rfl Tryz.call111 Tryz.ntmps111 (Nat.le_of_ble_eq_true rfl) fun E => ?_
  refine g_run Tk Tryz.func111 ?_
  first | refine g_cnd Tk Tryz.func111 rfl (fun h1 => ?_) (fun h1 => ?_) | refine g_know Tk Tryz.func111 rfl (fun h1 => ?_) (fun h1 => ?_) | refine s_know Tk (fun h1 => ?_) (fun h1 => ?_)
  · subst h1
    refine g_ret_co Tk (r := _) rfl rfl rfl trivial rfl rfl ?_
    repeat' (first | refine coD_tup ?_ | refine coD_agg ?_ | refine coD_i ?_ | refine CoDL.cons ?_ ?_ | exact CoDL.nil | exact coI_nil | refine coI_sl ?_ | refine CoLL.cons ?_ ?_ | exact CoLL.nil | refine CoL.cons ?_ ?_ | exact CoL.nil | exact CoI.refl _ | exact CoL.refl _ | exact CoLL.refl _ | exact CoDL.refl _ | exact CoD.refl _)
  · subst h1
    refine g_ret_co Tk (r := _) rfl rfl rfl trivial rfl rfl ?_
    repeat' (first | refine coD_tup ?_ | refine coD_agg ?_ | refine coD_i ?_ | refine CoDL.cons ?_ ?_ | exact CoDL.nil | exact coI_nil | refine coI_sl ?_ | refine CoLL.cons ?_ ?_ | exact CoLL.nil | refine CoL.cons ?_ ?_ | exact CoL.nil | exact CoI.refl _ | exact CoL.refl _ | exact CoLL.refl _ | exact CoDL.refl _ | exact CoD.refl _)
end Go.AI


namespace Go.AI
open Go.Proofs
set_option maxRecDepth 20000
def leafE (vars b : Int) : Ex := if b % 2 = 0 ∧ vars > 0 then .mk 1 0 (b / 8 % vars) [] else .mk 0 (b / 8 - 8) 0 []
/-- An expression that bytes describe; the bytes that are left; the count of calls. -/
def growR (vars : Int) : Nat → Bool → List Int → Nat → Ex × List Int × Nat
  | 0, true, bs, k => (leafE vars (b0 bs), bs.tail, k + 1)
  | 0, false, bs, k => (truthE (decide (b0 bs % 2 = 0)), bs.tail, k + 1)
  | lv + 1, true, bs, k =>
    if k + 1 > 12 ∨ b0 bs % 8 < 4 then (leafE vars (b0 bs), bs.tail, k + 1) else
    if b0 bs % 8 = 4 then (.mk 5 0 0 [(growR vars lv true bs.tail (k + 1)).1], (growR vars lv true bs.tail (k + 1)).2) else
    if b0 bs % 8 = 5 then
      (.mk 13 0 0 [(growR vars lv false bs.tail (k + 1)).1, (growR vars lv true (growR vars lv false bs.tail (k + 1)).2.1 (growR vars lv false bs.tail (k + 1)).2.2).1,
        (growR vars lv true (growR vars lv true (growR vars lv false bs.tail (k + 1)).2.1 (growR vars lv false bs.tail (k + 1)).2.2).2.1 (growR vars lv true (growR vars lv false bs.tail (k + 1)).2.1 (growR vars lv false bs.tail (k + 1)).2.2).2.2).1],
        (growR vars lv true (growR vars lv true (growR vars lv false bs.tail (k + 1)).2.1 (growR vars lv false bs.tail (k + 1)).2.2).2.1 (growR vars lv true (growR vars lv false bs.tail (k + 1)).2.1 (growR vars lv false bs.tail (k + 1)).2.2).2.2).2)
    else (.mk (2 + b0 bs / 8 % 3) 0 0 [(growR vars lv true bs.tail (k + 1)).1, (growR vars lv true (growR vars lv true bs.tail (k + 1)).2.1 (growR vars lv true bs.tail (k + 1)).2.2).1],
        (growR vars lv true (growR vars lv true bs.tail (k + 1)).2.1 (growR vars lv true bs.tail (k + 1)).2.2).2)
  | lv + 1, false, bs, k =>
    if lv = 0 ∨ k + 1 > 12 ∨ b0 bs % 8 < 4 then (.mk (6 + b0 bs / 8 % 4) 0 0 [(growR vars lv true bs.tail (k + 1)).1, (growR vars lv true (growR vars lv true bs.tail (k + 1)).2.1 (growR vars lv true bs.tail (k + 1)).2.2).1],
        (growR vars lv true (growR vars lv true bs.tail (k + 1)).2.1 (growR vars lv true bs.tail (k + 1)).2.2).2) else
    if b0 bs % 8 = 4 then (.mk 10 0 0 [(growR vars lv false bs.tail (k + 1)).1], (growR vars lv false bs.tail (k + 1)).2) else
    if b0 bs % 8 = 5 then
      (.mk 13 0 0 [(growR vars lv false bs.tail (k + 1)).1, (growR vars lv false (growR vars lv false bs.tail (k + 1)).2.1 (growR vars lv false bs.tail (k + 1)).2.2).1,
        (growR vars lv false (growR vars lv false (growR vars lv false bs.tail (k + 1)).2.1 (growR vars lv false bs.tail (k + 1)).2.2).2.1 (growR vars lv false (growR vars lv false bs.tail (k + 1)).2.1 (growR vars lv false bs.tail (k + 1)).2.2).2.2).1],
        (growR vars lv false (growR vars lv false (growR vars lv false bs.tail (k + 1)).2.1 (growR vars lv false bs.tail (k + 1)).2.2).2.1 (growR vars lv false (growR vars lv false bs.tail (k + 1)).2.1 (growR vars lv false bs.tail (k + 1)).2.2).2.2).2)
    else (.mk (11 + b0 bs / 8 % 2) 0 0 [(growR vars lv false bs.tail (k + 1)).1, (growR vars lv false (growR vars lv false bs.tail (k + 1)).2.1 (growR vars lv false bs.tail (k + 1)).2.2).1],
        (growR vars lv false (growR vars lv false bs.tail (k + 1)).2.1 (growR vars lv false bs.tail (k + 1)).2.2).2)
/-- Right bytes, and counts that do not grow far. -/
structure gOk (r : Ex × List Int × Nat) (n : Nat) (N : Nat) : Prop where
  b : byteOk r.2.1
  l : r.2.1.length ≤ n
  k : r.2.2 ≤ N
theorem growR_ok (vars : Int) : ∀ (lv : Nat) (t : Bool) (bs : List Int) (k : Nat), byteOk bs → gOk (growR vars lv t bs k) bs.length (k + 4 ^ (lv + 1) - 1) := by
  intro lv
  induction lv with
  | zero =>
    intro t bs k hb
    cases t <;> exact ⟨byteOk_tail hb, by simp [growR], by simp [growR]⟩
  | succ lv ih =>
    intro t bs k hb
    have hp : 4 ^ (lv + 1 + 1) = 4 * 4 ^ (lv + 1) := by rw [Nat.pow_succ]; omega
    have hq : 1 ≤ 4 ^ (lv + 1) := Nat.one_le_pow _ _ (by decide)
    have ht : bs.tail.length ≤ bs.length := by simp
    generalize hN : 4 ^ (lv + 1) = N at *
    have one : ∀ t, gOk (growR vars lv t bs.tail (k + 1)) bs.length (k + N) := fun t => by
      have h := ih t bs.tail (k + 1) (byteOk_tail hb)
      exact ⟨h.b, Nat.le_trans h.l ht, by have := h.k; omega⟩
    have two : ∀ t (r : Ex × List Int × Nat) M, gOk r bs.length (k + M) → gOk (growR vars lv t r.2.1 r.2.2) bs.length (k + M + N - 1) := fun t r M hr => by
      have h := ih t r.2.1 r.2.2 hr.b
      exact ⟨h.b, Nat.le_trans h.l hr.l, by have := h.k; have := hr.k; omega⟩
    have fit : ∀ (x : Ex) (r : Ex × List Int × Nat) M, gOk r bs.length (k + M) → M ≤ 4 * N - 1 → gOk (x, r.2) bs.length (k + 4 ^ (lv + 1 + 1) - 1) := fun x r M h hM => ⟨h.b, h.l, by have := h.k; rw [hp]; show r.2.2 ≤ _; omega⟩
    have leaf : ∀ x : Ex, gOk (x, bs.tail, k + 1) bs.length (k + 4 ^ (lv + 1 + 1) - 1) := fun x => ⟨byteOk_tail hb, ht, by rw [hp]; show k + 1 ≤ _; omega⟩
    have cast : ∀ (r : Ex × List Int × Nat) M, gOk r bs.length (k + M + N - 1) → gOk r bs.length (k + (M + N - 1)) := fun r M h => ⟨h.b, h.l, by have := h.k; omega⟩
    cases t with
    | true =>
      simp only [growR]
      split
      · exact leaf _
      split
      · exact fit _ _ _ (one true) (by omega)
      split
      · exact fit _ _ _ (cast _ _ (two true _ _ (cast _ _ (two true _ _ (one false))))) (by omega)
      · exact fit _ _ _ (cast _ _ (two true _ _ (one true))) (by omega)
    | false =>
      simp only [growR]
      split
      · exact fit _ _ _ (cast _ _ (two true _ _ (one true))) (by omega)
      split
      · exact fit _ _ _ (one false) (by omega)
      split
      · exact fit _ _ _ (cast _ _ (two false _ _ (cast _ _ (two false _ _ (one false))))) (by omega)
      · exact fit _ _ _ (cast _ _ (two false _ _ (one false))) (by omega)
end Go.AI


namespace Go.AI
open Go.Proofs
set_option maxRecDepth 20000
theorem os2 {S : List Heap} {d nm : Nat} (a b : Ob) (d' n' : Nat) : objAt (setAt S d nm b) d' n' = objAt (setAt (setAt S d nm a) d nm b) d' n' := objAt_set2 d' n'
theorem os3 {S : List Heap} {d nm : Nat} (a b c : Ob) (d' n' : Nat) : objAt (setAt S d nm c) d' n' = objAt (setAt (setAt (setAt S d nm a) d nm b) d nm c) d' n' := (os2 a c d' n').trans (os2 b c d' n')
structure byt (b : Int) : Prop where
  h0 : 0 ≤ b
  h1 : b ≤ 255
theorem byt.m8 {b : Int} (h : byt b) : b.tmod 8 = b % 8 := Int.tmod_eq_emod_of_nonneg h.h0
theorem byt.m2 {b : Int} (h : byt b) : b.tmod 2 = b % 2 := Int.tmod_eq_emod_of_nonneg h.h0
theorem byt.q8 {b : Int} (h : byt b) : IntKind.i64.wrap (b.tdiv 8) = b / 8 := by
  rw [Int.tdiv_eq_ediv_of_nonneg h.h0]
  have := h.h0
  have := h.h1
  rw [w64 (by omega) (by omega)]
theorem byt.q8m {b : Int} (h : byt b) {m : Int} : (IntKind.i64.wrap (b.tdiv 8)).tmod m = b / 8 % m := by
  rw [h.q8, Int.tmod_eq_emod_of_nonneg (by have := h.h0; omega)]
theorem byt.q8a {b : Int} (h : byt b) {m c : Int} (hm : 0 < m) (h1 : m ≤ 10) (hc : 0 ≤ c) (h2 : c ≤ 20) : IntKind.i64.wrap (c + (IntKind.i64.wrap (b.tdiv 8)).tmod m) = c + b / 8 % m := by
  rw [h.q8m]
  have := Int.emod_nonneg (b / 8) (show m ≠ 0 by omega)
  have := Int.emod_lt_of_pos (b / 8) hm
  rw [w64 (by omega) (by omega)]
theorem byt.q8s {b : Int} (h : byt b) : IntKind.i64.wrap (IntKind.i64.wrap (b.tdiv 8) - 8) = b / 8 - 8 := by
  rw [h.q8]
  have := h.h0
  have := h.h1
  rw [w64 (by omega) (by omega)]
abbrev exIa (x : Ex) : List I := [vi x.op, vi x.vl, vi x.ix, .sl 4 x.args.length (exIs x.args)]
theorem exA1 (o : Int) (a : Ex) : exA (.mk o 0 0 [a]) = .agg [ii o, ii 0, ii 0, .i (.sl 4 1 [exIa a])] := by simp [Ex.op, Ex.vl, Ex.ix, Ex.args, exIs, exI_eq]
theorem exA2 (o : Int) (a b : Ex) : exA (.mk o 0 0 [a, b]) = .agg [ii o, ii 0, ii 0, .i (.sl 4 2 [exIa a, exIa b])] := by simp [Ex.op, Ex.vl, Ex.ix, Ex.args, exIs, exI_eq]
theorem exA3 (o : Int) (a b c : Ex) : exA (.mk o 0 0 [a, b, c]) = .agg [ii o, ii 0, ii 0, .i (.sl 4 3 [exIa a, exIa b, exIa c])] := by simp [Ex.op, Ex.vl, Ex.ix, Ex.args, exIs, exI_eq]
def tyOf (t : Bool) : Int := match t with
  | true => 1
  | false => 2
def GrowS (vars : Int) (lv : Nat) (t : Bool) : Prop := ∀ (bs : List Int) (k : Nat) (levels : Int), levels = (lv : Int) + 1 → byteOk bs → bs.length ≤ max63 → k + 4 ^ (lv + 1) ≤ max63 → ∀ (O : List Heap) (d nm : Nat), objAt O d nm = some (growOb bs vars k) →
    ASpec Tryz.prog 84 [.own d nm 0 0, ii (tyOf t), ii levels] O (exA (growR vars lv t bs k).1) [] (setAt O d nm (growOb (growR vars lv t bs k).2.1 vars (growR vars lv t bs k).2.2))
theorem grow_stepT (vars : Int) (hv : 0 ≤ vars) (lv : Nat) (hl10 : lv ≤ 10) (ih : ∀ lv', lv = lv' + 1 → ∀ t, GrowS vars lv' t) : GrowS vars lv true := by
  obtain ⟨t, ht⟩ : ∃ t, t = true := ⟨_, rfl⟩
  rw [← ht]
  intro bs k levels hlv hb hbl hk O d nm ho
  have hO1 : ∀ H, objAt (H :: O) (d + 1) nm = some (growOb bs vars k) := fun H => by simpa [objAt] using ho
  have hn := fun O ho => next80 O (d + 1) nm bs vars (IntKind.i64.wrap ((k : Int) + 1)) hb hbl ho
  have hkk : (k : Int) + 1 ≤ 9223372036854775807 := by
    simp only [max63] at hk
    have : 1 ≤ 4 ^ (lv + 1) := Nat.one_le_pow _ _ (by decide)
    omega
  have hkw : IntKind.i64.wrap ((k : Int) + 1) = ((k + 1 : Nat) : Int) := by
    rw [w64 (by omega) (by omega)]
    omega
  have hby : byt (b0 bs) := ⟨(b0_ok hb).1, (b0_ok hb).2⟩
  have hbt := byteOk_tail hb
  have hbtl : bs.tail.length ≤ max63 := Nat.le_trans (by simp) hbl
  have hlw : lv ≠ 0 → IntKind.i64.wrap (levels - 1) = (lv : Int) := fun h => by rw [w64 (by omega) (by omega)]; omega
  -- the children
  have child : ∀ lv', lv = lv' + 1 → ∀ t' bs' k', byteOk bs' → bs'.length ≤ max63 → k' + 4 ^ (lv' + 1) ≤ max63 → ∀ O d nm, objAt O d nm = some (growOb bs' vars ((k' : Nat) : Int)) →
      ASpec Tryz.prog 84 [.own d nm 0 0, ii (tyOf t'), ii (IntKind.i64.wrap (levels - 1))] O (exA (growR vars lv' t' bs' k').1) [] (setAt O d nm (growOb (growR vars lv' t' bs' k').2.1 vars (growR vars lv' t' bs' k').2.2)) := by
    intro lv' e t' bs' k' h1 h2 h3
    exact ih lv' e t' bs' k' _ (by rw [hlw (by omega), e]; omega) h1 h2 h3
  have gok := fun lv' => growR_ok vars lv'
  have hpow : ∀ lv', lv = lv' + 1 → 4 ^ (lv + 1) = 4 * 4 ^ (lv' + 1) ∧ 1 ≤ 4 ^ (lv' + 1) := fun lv' e => by subst e; rw [Nat.pow_succ]; exact ⟨by omega, Nat.one_le_pow _ _ (by decide)⟩
  generalize hR : growR vars lv t bs k = R
  -- what the expression is, case by case
  have hleaf : t = true → lv = 0 ∨ k + 1 > 12 ∨ b0 bs % 8 < 4 → R = (leafE vars (b0 bs), bs.tail, k + 1) := by
    intro e h
    subst e
    rw [← hR]
    cases lv with
    | zero => simp only [growR]
    | succ lv' => simp only [growR]; rw [if_pos (by omega)]
  have htruth : t = false → lv = 0 → R = (truthE (decide (b0 bs % 2 = 0)), bs.tail, k + 1) := by
    intro e h
    subst e h
    rw [← hR]
    simp only [growR]
  have hT : ∀ lv', lv = lv' + 1 → t = true → ¬ (k + 1 > 12 ∨ b0 bs % 8 < 4) → R = if b0 bs % 8 = 4 then (.mk 5 0 0 [(growR vars lv' true bs.tail (k + 1)).1], (growR vars lv' true bs.tail (k + 1)).2) else
    if b0 bs % 8 = 5 then
      (.mk 13 0 0 [(growR vars lv' false bs.tail (k + 1)).1, (growR vars lv' true (growR vars lv' false bs.tail (k + 1)).2.1 (growR vars lv' false bs.tail (k + 1)).2.2).1,
        (growR vars lv' true (growR vars lv' true (growR vars lv' false bs.tail (k + 1)).2.1 (growR vars lv' false bs.tail (k + 1)).2.2).2.1 (growR vars lv' true (growR vars lv' false bs.tail (k + 1)).2.1 (growR vars lv' false bs.tail (k + 1)).2.2).2.2).1],
        (growR vars lv' true (growR vars lv' true (growR vars lv' false bs.tail (k + 1)).2.1 (growR vars lv' false bs.tail (k + 1)).2.2).2.1 (growR vars lv' true (growR vars lv' false bs.tail (k + 1)).2.1 (growR vars lv' false bs.tail (k + 1)).2.2).2.2).2)
    else (.mk (2 + b0 bs / 8 % 3) 0 0 [(growR vars lv' true bs.tail (k + 1)).1, (growR vars lv' true (growR vars lv' true bs.tail (k + 1)).2.1 (growR vars lv' true bs.tail (k + 1)).2.2).1],
        (growR vars lv' true (growR vars lv' true bs.tail (k + 1)).2.1 (growR vars lv' true bs.tail (k + 1)).2.2).2) := by
    intro lv' e e2 h
    subst e e2
    rw [← hR]
    simp only [growR]
    rw [if_neg h]
  have hF : ∀ lv', lv = lv' + 1 → t = false → R = if lv' = 0 ∨ k + 1 > 12 ∨ b0 bs % 8 < 4 then (.mk (6 + b0 bs / 8 % 4) 0 0 [(growR vars lv' true bs.tail (k + 1)).1, (growR vars lv' true (growR vars lv' true bs.tail (k + 1)).2.1 (growR vars lv' true bs.tail (k + 1)).2.2).1],
        (growR vars lv' true (growR vars lv' true bs.tail (k + 1)).2.1 (growR vars lv' true bs.tail (k + 1)).2.2).2) else
    if b0 bs % 8 = 4 then (.mk 10 0 0 [(growR vars lv' false bs.tail (k + 1)).1], (growR vars lv' false bs.tail (k + 1)).2) else
    if b0 bs % 8 = 5 then
      (.mk 13 0 0 [(growR vars lv' false bs.tail (k + 1)).1, (growR vars lv' false (growR vars lv' false bs.tail (k + 1)).2.1 (growR vars lv' false bs.tail (k + 1)).2.2).1,
        (growR vars lv' false (growR vars lv' false (growR vars lv' false bs.tail (k + 1)).2.1 (growR vars lv' false bs.tail (k + 1)).2.2).2.1 (growR vars lv' false (growR vars lv' false bs.tail (k + 1)).2.1 (growR vars lv' false bs.tail (k + 1)).2.2).2.2).1],
        (growR vars lv' false (growR vars lv' false (growR vars lv' false bs.tail (k + 1)).2.1 (growR vars lv' false bs.tail (k + 1)).2.2).2.1 (growR vars lv' false (growR vars lv' false bs.tail (k + 1)).2.1 (growR vars lv' false bs.tail (k + 1)).2.2).2.2).2)
    else (.mk (11 + b0 bs / 8 % 2) 0 0 [(growR vars lv' false bs.tail (k + 1)).1, (growR vars lv' false (growR vars lv' false bs.tail (k + 1)).2.1 (growR vars lv' false bs.tail (k + 1)).2.2).1],
        (growR vars lv' false (growR vars lv' false bs.tail (k + 1)).2.1 (growR vars lv' false bs.tail (k + 1)).2.2).2) := by
    intro lv' e e2
    subst e e2
    rw [← hR]
    simp only [growR]
  clear hR ih
  have hlev : levels ≤ 1 ↔ lv = 0 := by omega
  refine aspec_stop [3, 5, 17] Tk Tryz.func84 rfl Tryz.call84 Tryz.ntmps84 (Nat.le_of_ble_eq_true rfl) fun E => ?_
  refine g_run Tk Tryz.func84 ?_
  first | refine g_obj Tk Tryz.func84 (hO1 _) ?_ | refine s_obj Tk (hO1 _) ?_
  first | refine g_obj Tk Tryz.func84 (hO1 _) ?_ | refine s_obj Tk (hO1 _) ?_
  refine g_call Tk Tryz.func84 (hn _ (by exact up_obj (objAt_set_same ho))) rfl rfl rfl (shape_cons (shape_set (objAt_set_same ho) rfl)) rfl ?_
  obtain ⟨O2, hO2⟩ : ∃ O2, O2 = setAt O d nm (growOb bs.tail vars ((k + 1 : Nat) : Int)) := ⟨_, rfl⟩
  have ho2 : objAt O2 d nm = some (growOb bs.tail vars ((k + 1 : Nat) : Int)) := by rw [hO2]; exact objAt_set_same ho
  have hfin : ∀ c d' n', objAt (setAt O d nm c) d' n' = objAt (setAt O2 d nm c) d' n' := fun c => by rw [hO2]; exact os2 _ _
  have hfin0 : ∀ d' n', objAt (setAt O d nm (growOb bs.tail vars ((k + 1 : Nat) : Int))) d' n' = objAt O2 d' n' := fun d' n' => by rw [hO2]
  have hO3 : ∀ H, objAt (H :: O2) (d + 1) nm = some (growOb bs.tail vars ((k + 1 : Nat) : Int)) := fun H => by simpa [objAt] using ho2
  refine g_stop ?_
  refine rch_wk (wk_S (S' := [(6, Ob.box [ii 0, ii 0, ii 0, .i (.v (.slice none 0 0))])] :: O2) (objAt_cons (by rw [hO2, hkw]; exact os2 _ _))) ?_
  refine rch_meet (l := [(0, .own (d + 1) nm 0 0), (1, ii (tyOf t)), (2, ii levels), (6, .own 0 6 0 0), (7, ii (b0 bs))]) (Hv := [(6, .box [ii 0, ii 0, ii 0, .i (.v (.slice none 0 0))])]) (n := 183) ?_ ⟨rfl, rfl, rfl, rfl, rfl, trivial⟩ rfl ⟨rfl, trivial⟩ rfl rfl
  clear hn hO2 hO1
  generalize b0 bs = b at *
  cases t with
  | true =>
    have hleaf := hleaf rfl
    apply join_p (P := lv = 0 ∨ k + 1 > 12 ∨ b % 8 < 4) (s6 := { σ := [(0, .own (d + 1) nm 0 0), (6, .own 0 6 0 0), (7, ii b)], S := [(6, .box [ii 0, ii 0, ii 0, .i (.v (.slice none 0 0))])] :: O2, n := 183 })
    · intro J
      refine g_run Tk Tryz.func84 ?_
      refine g_go Tk Tryz.func84 ?_
      first | refine g_cnd Tk Tryz.func84 rfl (fun _ => ?_) (fun h => absurd h (by decide)) | refine g_know Tk Tryz.func84 rfl (fun _ => ?_) (fun h => absurd h (by decide)) | refine s_know Tk (fun _ => ?_) (fun h => absurd h (by decide))
      first | refine g_cnd Tk Tryz.func84 rfl (fun h1 => ?_) (fun h1 => ?_) | refine g_know Tk Tryz.func84 rfl (fun h1 => ?_) (fun h1 => ?_) | refine s_know Tk (fun h1 => ?_) (fun h1 => ?_)
      · repeat (first | refine g_cnd Tk Tryz.func84 rfl (fun _ => ?_) (fun h => absurd h (by decide)) | refine g_cnd Tk Tryz.func84 rfl (fun h => absurd h (by decide)) (fun _ => ?_) | refine g_know Tk Tryz.func84 rfl (fun _ => ?_) (fun h => absurd h (by decide)) | refine g_know Tk Tryz.func84 rfl (fun h => absurd h (by decide)) (fun _ => ?_) | refine s_know Tk (fun _ => ?_) (fun h => absurd h (by decide)) | refine s_know Tk (fun h => absurd h (by decide)) (fun _ => ?_))
        refine g_stop ?_
        exact rch_fit (J (.inl (hlev.1 (of_decide_eq_true h1)))) ⟨rfl, rfl, rfl, trivial⟩ rfl rfl
      have h1 : lv ≠ 0 := fun e => of_decide_eq_false h1 (hlev.2 e)
      first | refine g_obj Tk Tryz.func84 (hO3 _) ?_ | refine s_obj Tk (hO3 _) ?_
      first | refine g_cnd Tk Tryz.func84 rfl (fun h2 => ?_) (fun h2 => ?_) | refine g_know Tk Tryz.func84 rfl (fun h2 => ?_) (fun h2 => ?_) | refine s_know Tk (fun h2 => ?_) (fun h2 => ?_)
      · first | refine g_cnd Tk Tryz.func84 rfl (fun _ => ?_) (fun h => absurd h (by decide)) | refine g_know Tk Tryz.func84 rfl (fun _ => ?_) (fun h => absurd h (by decide)) | refine s_know Tk (fun _ => ?_) (fun h => absurd h (by decide))
        refine g_stop ?_
        exact rch_fit (J (.inr (.inl (by have := of_decide_eq_true h2; omega)))) ⟨rfl, rfl, rfl, trivial⟩ rfl rfl
      have h2 : ¬ k + 1 > 12 := by have := of_decide_eq_false h2; omega
      first | refine g_need Tk Tryz.func84 (by decide) ?_ | refine s_need Tk (by decide) ?_
      first | refine g_cnd Tk Tryz.func84 rfl (fun h3 => ?_) (fun h3 => ?_) | refine g_know Tk Tryz.func84 rfl (fun h3 => ?_) (fun h3 => ?_) | refine s_know Tk (fun h3 => ?_) (fun h3 => ?_)
      · refine g_stop ?_
        exact rch_fit (J (.inr (.inr (by have := of_decide_eq_true h3; rw [hby.m8] at this; exact this)))) ⟨rfl, rfl, rfl, trivial⟩ rfl rfl
      have h3 : ¬ b % 8 < 4 := by have := of_decide_eq_false h3; rw [hby.m8] at this; exact this
      obtain ⟨lv', elv⟩ : ∃ lv', lv = lv' + 1 := ⟨lv - 1, by omega⟩
      have hT := hT lv' elv rfl (by omega)
      have hp := hpow lv' elv
      have child := child lv' elv
      have gok := gok lv'
      clear J hleaf hF htruth hpow hlev
      first | refine g_need Tk Tryz.func84 (by decide) ?_ | refine s_need Tk (by decide) ?_
      first | refine g_cnd Tk Tryz.func84 rfl (fun h4 => ?_) (fun h4 => ?_) | refine g_know Tk Tryz.func84 rfl (fun h4 => ?_) (fun h4 => ?_) | refine s_know Tk (fun h4 => ?_) (fun h4 => ?_)
      · have h4 := beqT h4
        rw [hby.m8] at h4
        rw [if_pos h4] at hT
        subst hT
        have c1 := fun O ho => child true bs.tail (k + 1) hbt hbtl (by omega) O (d + 1) nm ho
        refine g_call Tk Tryz.func84 (c1 _ (by exact up_obj ho2)) rfl rfl rfl (shape_cons (shape_set ho2 rfl)) rfl ?_
        refine g_rwk (wk_S (S' := _ :: setAt O d nm _) (objAt_cons (hfin _))) ?_
        refine g_ret Tk (r := _) rfl rfl rfl trivial rfl rfl ?_
        exact (exA1 _ _).symm
      have h4 : b % 8 ≠ 4 := by have := beqF h4; rw [hby.m8] at this; exact this
      rw [if_neg h4] at hT
      first | refine g_cnd Tk Tryz.func84 rfl (fun h5 => ?_) (fun h5 => ?_) | refine g_know Tk Tryz.func84 rfl (fun h5 => ?_) (fun h5 => ?_) | refine s_know Tk (fun h5 => ?_) (fun h5 => ?_)
      · have h5 := beqT h5
        rw [hby.m8] at h5
        rw [if_pos h5] at hT
        have g1 := gok false bs.tail (k + 1) hbt
        have c1 := fun O ho => child false bs.tail (k + 1) hbt hbtl (by omega) O (d + 1) nm ho
        generalize growR vars lv' false bs.tail (k + 1) = A at *
        have gk1 := g1.k
        have gl1 := Nat.le_trans g1.l hbtl
        have g2 := gok true A.2.1 A.2.2 g1.b
        have c2 := fun O ho => child true A.2.1 A.2.2 g1.b gl1 (by omega) O (d + 1) nm ho
        generalize growR vars lv' true A.2.1 A.2.2 = B at *
        have gk2 := g2.k
        have gl2 := Nat.le_trans g2.l gl1
        have g3 := gok true B.2.1 B.2.2 g2.b
        have c3 := fun O ho => child true B.2.1 B.2.2 g2.b gl2 (by omega) O (d + 1) nm ho
        generalize growR vars lv' true B.2.1 B.2.2 = C at *
        subst hT
        refine g_call Tk Tryz.func84 (c1 _ (by exact up_obj ho2)) rfl rfl rfl (shape_cons (shape_set ho2 rfl)) rfl ?_
        refine g_call Tk Tryz.func84 (c2 _ (by exact up_obj (objAt_set_same ho2))) rfl rfl rfl (shape_cons (shape_set (objAt_set_same ho2) rfl)) rfl ?_
        refine g_call Tk Tryz.func84 (c3 _ (by exact up_obj (objAt_set_same (objAt_set_same ho2)))) rfl rfl rfl (shape_cons (shape_set (objAt_set_same (objAt_set_same ho2)) rfl)) rfl ?_
        refine g_rwk (wk_S (S' := _ :: setAt O d nm _) (objAt_cons fun d' n' => (hfin _ d' n').trans (os3 _ _ _ d' n'))) ?_
        refine g_ret Tk (r := _) rfl rfl rfl trivial rfl rfl ?_
        exact (exA3 _ _ _ _).symm
      have h5 : b % 8 ≠ 5 := by have := beqF h5; rw [hby.m8] at this; exact this
      rw [if_neg h5] at hT
      first | refine g_need Tk Tryz.func84 (by decide) ?_ | refine s_need Tk (by decide) ?_
      first | refine g_need Tk Tryz.func84 (by decide) ?_ | refine s_need Tk (by decide) ?_
      have g1 := gok true bs.tail (k + 1) hbt
      have c1 := fun O ho => child true bs.tail (k + 1) hbt hbtl (by omega) O (d + 1) nm ho
      generalize growR vars lv' true bs.tail (k + 1) = A at *
      have gk1 := g1.k
      have gl1 := Nat.le_trans g1.l hbtl
      have c2 := fun O ho => child true A.2.1 A.2.2 g1.b gl1 (by omega) O (d + 1) nm ho
      generalize growR vars lv' true A.2.1 A.2.2 = B at *
      subst hT
      refine g_call Tk Tryz.func84 (c1 _ (by exact up_obj ho2)) rfl rfl rfl (shape_cons (shape_set ho2 rfl)) rfl ?_
      refine g_call Tk Tryz.func84 (c2 _ (by exact up_obj (objAt_set_same ho2))) rfl rfl rfl (shape_cons (shape_set (objAt_set_same ho2) rfl)) rfl ?_
      refine g_rwk (wk_S (S' := _ :: setAt O d nm _) (objAt_cons fun d' n' => (hfin _ d' n').trans (os2 _ _ d' n'))) ?_
      refine g_ret Tk (r := _) rfl rfl rfl trivial rfl rfl ?_
      rw [← hby.q8a (by decide) (by decide) (by decide) (by decide)]
      exact (exA2 _ _ _).symm
    · intro hP
      have hleaf := hleaf hP
      subst hleaf
      generalize hL : leafE vars b = L
      unfold leafE at hL
      refine g_run Tk Tryz.func84 ?_
      refine g_go Tk Tryz.func84 ?_
      first | refine g_need Tk Tryz.func84 (by decide) ?_ | refine s_need Tk (by decide) ?_
      first | refine g_cnd Tk Tryz.func84 rfl (fun h1 => ?_) (fun h1 => ?_) | refine g_know Tk Tryz.func84 rfl (fun h1 => ?_) (fun h1 => ?_) | refine s_know Tk (fun h1 => ?_) (fun h1 => ?_)
      · have h1 := beqT h1
        rw [hby.m2] at h1
        first | refine g_obj Tk Tryz.func84 (hO3 _) ?_ | refine s_obj Tk (hO3 _) ?_
        first | refine g_cnd Tk Tryz.func84 rfl (fun h2 => ?_) (fun h2 => ?_) | refine g_know Tk Tryz.func84 rfl (fun h2 => ?_) (fun h2 => ?_) | refine s_know Tk (fun h2 => ?_) (fun h2 => ?_)
        · have h2 : 0 < vars := of_decide_eq_true h2
          rw [if_pos ⟨h1, h2⟩] at hL
          subst hL
          first | refine g_need Tk Tryz.func84 (by decide) ?_ | refine s_need Tk (by decide) ?_
          first | refine g_obj Tk Tryz.func84 (hO3 _) ?_ | refine s_obj Tk (hO3 _) ?_
          first | refine g_need Tk Tryz.func84 (by omega) ?_ | refine s_need Tk (by omega) ?_
          refine g_rwk (wk_S (S' := _ :: setAt O d nm _) (objAt_cons hfin0)) ?_
          refine g_ret_co Tk (r := _) rfl rfl rfl trivial rfl rfl ?_
          rw [← hby.q8m]
          repeat' (first | refine coD_tup ?_ | refine coD_agg ?_ | refine coD_i ?_ | refine CoDL.cons ?_ ?_ | exact CoDL.nil | exact coI_nil | refine coI_sl ?_ | refine CoLL.cons ?_ ?_ | exact CoLL.nil | refine CoL.cons ?_ ?_ | exact CoL.nil | exact CoI.refl _ | exact CoL.refl _ | exact CoLL.refl _ | exact CoDL.refl _ | exact CoD.refl _)
        · have h2 : ¬ 0 < vars := of_decide_eq_false h2
          rw [if_neg (by omega)] at hL
          subst hL
          first | refine g_need Tk Tryz.func84 (by decide) ?_ | refine s_need Tk (by decide) ?_
          refine g_rwk (wk_S (S' := _ :: setAt O d nm _) (objAt_cons hfin0)) ?_
          refine g_ret_co Tk (r := _) rfl rfl rfl trivial rfl rfl ?_
          rw [← hby.q8s]
          repeat' (first | refine coD_tup ?_ | refine coD_agg ?_ | refine coD_i ?_ | refine CoDL.cons ?_ ?_ | exact CoDL.nil | exact coI_nil | refine coI_sl ?_ | refine CoLL.cons ?_ ?_ | exact CoLL.nil | refine CoL.cons ?_ ?_ | exact CoL.nil | exact CoI.refl _ | exact CoL.refl _ | exact CoLL.refl _ | exact CoDL.refl _ | exact CoD.refl _)
      · have h1 := beqF h1
        rw [hby.m2] at h1
        rw [if_neg (by omega)] at hL
        subst hL
        first | refine g_cnd Tk Tryz.func84 rfl (fun h => absurd h (by decide)) (fun _ => ?_) | refine g_know Tk Tryz.func84 rfl (fun h => absurd h (by decide)) (fun _ => ?_) | refine s_know Tk (fun h => absurd h (by decide)) (fun _ => ?_)
        first | refine g_need Tk Tryz.func84 (by decide) ?_ | refine s_need Tk (by decide) ?_
        refine g_rwk (wk_S (S' := _ :: setAt O d nm _) (objAt_cons hfin0)) ?_
        refine g_ret_co Tk (r := _) rfl rfl rfl trivial rfl rfl ?_
        rw [← hby.q8s]
        repeat' (first | refine coD_tup ?_ | refine coD_agg ?_ | refine coD_i ?_ | refine CoDL.cons ?_ ?_ | exact CoDL.nil | exact coI_nil | refine coI_sl ?_ | refine CoLL.cons ?_ ?_ | exact CoLL.nil | refine CoL.cons ?_ ?_ | exact CoL.nil | exact CoI.refl _ | exact CoL.refl _ | exact CoLL.refl _ | exact CoDL.refl _ | exact CoD.refl _)
  | false => cases ht
theorem grow_stepF (vars : Int) (hv : 0 ≤ vars) (lv : Nat) (hl10 : lv ≤ 10) (ih : ∀ lv', lv = lv' + 1 → ∀ t, GrowS vars lv' t) : GrowS vars lv false := by
  obtain ⟨t, ht⟩ : ∃ t, t = false := ⟨_, rfl⟩
  rw [← ht]
  intro bs k levels hlv hb hbl hk O d nm ho
  have hO1 : ∀ H, objAt (H :: O) (d + 1) nm = some (growOb bs vars k) := fun H => by simpa [objAt] using ho
  have hn := fun O ho => next80 O (d + 1) nm bs vars (IntKind.i64.wrap ((k : Int) + 1)) hb hbl ho
  have hkk : (k : Int) + 1 ≤ 9223372036854775807 := by
    simp only [max63] at hk
    have : 1 ≤ 4 ^ (lv + 1) := Nat.one_le_pow _ _ (by decide)
    omega
  have hkw : IntKind.i64.wrap ((k : Int) + 1) = ((k + 1 : Nat) : Int) := by
    rw [w64 (by omega) (by omega)]
    omega
  have hby : byt (b0 bs) := ⟨(b0_ok hb).1, (b0_ok hb).2⟩
  have hbt := byteOk_tail hb
  have hbtl : bs.tail.length ≤ max63 := Nat.le_trans (by simp) hbl
  have hlw : lv ≠ 0 → IntKind.i64.wrap (levels - 1) = (lv : Int) := fun h => by rw [w64 (by omega) (by omega)]; omega
  -- the children
  have child : ∀ lv', lv = lv' + 1 → ∀ t' bs' k', byteOk bs' → bs'.length ≤ max63 → k' + 4 ^ (lv' + 1) ≤ max63 → ∀ O d nm, objAt O d nm = some (growOb bs' vars ((k' : Nat) : Int)) →
      ASpec Tryz.prog 84 [.own d nm 0 0, ii (tyOf t'), ii (IntKind.i64.wrap (levels - 1))] O (exA (growR vars lv' t' bs' k').1) [] (setAt O d nm (growOb (growR vars lv' t' bs' k').2.1 vars (growR vars lv' t' bs' k').2.2)) := by
    intro lv' e t' bs' k' h1 h2 h3
    exact ih lv' e t' bs' k' _ (by rw [hlw (by omega), e]; omega) h1 h2 h3
  have gok := fun lv' => growR_ok vars lv'
  have hpow : ∀ lv', lv = lv' + 1 → 4 ^ (lv + 1) = 4 * 4 ^ (lv' + 1) ∧ 1 ≤ 4 ^ (lv' + 1) := fun lv' e => by subst e; rw [Nat.pow_succ]; exact ⟨by omega, Nat.one_le_pow _ _ (by decide)⟩
  generalize hR : growR vars lv t bs k = R
  -- what the expression is, case by case
  have hleaf : t = true → lv = 0 ∨ k + 1 > 12 ∨ b0 bs % 8 < 4 → R = (leafE vars (b0 bs), bs.tail, k + 1) := by
    intro e h
    subst e
    rw [← hR]
    cases lv with
    | zero => simp only [growR]
    | succ lv' => simp only [growR]; rw [if_pos (by omega)]
  have htruth : t = false → lv = 0 → R = (truthE (decide (b0 bs % 2 = 0)), bs.tail, k + 1) := by
    intro e h
    subst e h
    rw [← hR]
    simp only [growR]
  have hT : ∀ lv', lv = lv' + 1 → t = true → ¬ (k + 1 > 12 ∨ b0 bs % 8 < 4) → R = if b0 bs % 8 = 4 then (.mk 5 0 0 [(growR vars lv' true bs.tail (k + 1)).1], (growR vars lv' true bs.tail (k + 1)).2) else
    if b0 bs % 8 = 5 then
      (.mk 13 0 0 [(growR vars lv' false bs.tail (k + 1)).1, (growR vars lv' true (growR vars lv' false bs.tail (k + 1)).2.1 (growR vars lv' false bs.tail (k + 1)).2.2).1,
        (growR vars lv' true (growR vars lv' true (growR vars lv' false bs.tail (k + 1)).2.1 (growR vars lv' false bs.tail (k + 1)).2.2).2.1 (growR vars lv' true (growR vars lv' false bs.tail (k + 1)).2.1 (growR vars lv' false bs.tail (k + 1)).2.2).2.2).1],
        (growR vars lv' true (growR vars lv' true (growR vars lv' false bs.tail (k + 1)).2.1 (growR vars lv' false bs.tail (k + 1)).2.2).2.1 (growR vars lv' true (growR vars lv' false bs.tail (k + 1)).2.1 (growR vars lv' false bs.tail (k + 1)).2.2).2.2).2)
    else (.mk (2 + b0 bs / 8 % 3) 0 0 [(growR vars lv' true bs.tail (k + 1)).1, (growR vars lv' true (growR vars lv' true bs.tail (k + 1)).2.1 (growR vars lv' true bs.tail (k + 1)).2.2).1],
        (growR vars lv' true (growR vars lv' true bs.tail (k + 1)).2.1 (growR vars lv' true bs.tail (k + 1)).2.2).2) := by
    intro lv' e e2 h
    subst e e2
    rw [← hR]
    simp only [growR]
    rw [if_neg h]
  have hF : ∀ lv', lv = lv' + 1 → t = false → R = if lv' = 0 ∨ k + 1 > 12 ∨ b0 bs % 8 < 4 then (.mk (6 + b0 bs / 8 % 4) 0 0 [(growR vars lv' true bs.tail (k + 1)).1, (growR vars lv' true (growR vars lv' true bs.tail (k + 1)).2.1 (growR vars lv' true bs.tail (k + 1)).2.2).1],
        (growR vars lv' true (growR vars lv' true bs.tail (k + 1)).2.1 (growR vars lv' true bs.tail (k + 1)).2.2).2) else
    if b0 bs % 8 = 4 then (.mk 10 0 0 [(growR vars lv' false bs.tail (k + 1)).1], (growR vars lv' false bs.tail (k + 1)).2) else
    if b0 bs % 8 = 5 then
      (.mk 13 0 0 [(growR vars lv' false bs.tail (k + 1)).1, (growR vars lv' false (growR vars lv' false bs.tail (k + 1)).2.1 (growR vars lv' false bs.tail (k + 1)).2.2).1,
        (growR vars lv' false (growR vars lv' false (growR vars lv' false bs.tail (k + 1)).2.1 (growR vars lv' false bs.tail (k + 1)).2.2).2.1 (growR vars lv' false (growR vars lv' false bs.tail (k + 1)).2.1 (growR vars lv' false bs.tail (k + 1)).2.2).2.2).1],
        (growR vars lv' false (growR vars lv' false (growR vars lv' false bs.tail (k + 1)).2.1 (growR vars lv' false bs.tail (k + 1)).2.2).2.1 (growR vars lv' false (growR vars lv' false bs.tail (k + 1)).2.1 (growR vars lv' false bs.tail (k + 1)).2.2).2.2).2)
    else (.mk (11 + b0 bs / 8 % 2) 0 0 [(growR vars lv' false bs.tail (k + 1)).1, (growR vars lv' false (growR vars lv' false bs.tail (k + 1)).2.1 (growR vars lv' false bs.tail (k + 1)).2.2).1],
        (growR vars lv' false (growR vars lv' false bs.tail (k + 1)).2.1 (growR vars lv' false bs.tail (k + 1)).2.2).2) := by
    intro lv' e e2
    subst e e2
    rw [← hR]
    simp only [growR]
  clear hR ih
  have hlev : levels ≤ 1 ↔ lv = 0 := by omega
  refine aspec_stop [3, 5, 17] Tk Tryz.func84 rfl Tryz.call84 Tryz.ntmps84 (Nat.le_of_ble_eq_true rfl) fun E => ?_
  refine g_run Tk Tryz.func84 ?_
  first | refine g_obj Tk Tryz.func84 (hO1 _) ?_ | refine s_obj Tk (hO1 _) ?_
  first | refine g_obj Tk Tryz.func84 (hO1 _) ?_ | refine s_obj Tk (hO1 _) ?_
  refine g_call Tk Tryz.func84 (hn _ (by exact up_obj (objAt_set_same ho))) rfl rfl rfl (shape_cons (shape_set (objAt_set_same ho) rfl)) rfl ?_
  obtain ⟨O2, hO2⟩ : ∃ O2, O2 = setAt O d nm (growOb bs.tail vars ((k + 1 : Nat) : Int)) := ⟨_, rfl⟩
  have ho2 : objAt O2 d nm = some (growOb bs.tail vars ((k + 1 : Nat) : Int)) := by rw [hO2]; exact objAt_set_same ho
  have hfin : ∀ c d' n', objAt (setAt O d nm c) d' n' = objAt (setAt O2 d nm c) d' n' := fun c => by rw [hO2]; exact os2 _ _
  have hfin0 : ∀ d' n', objAt (setAt O d nm (growOb bs.tail vars ((k + 1 : Nat) : Int))) d' n' = objAt O2 d' n' := fun d' n' => by rw [hO2]
  have hO3 : ∀ H, objAt (H :: O2) (d + 1) nm = some (growOb bs.tail vars ((k + 1 : Nat) : Int)) := fun H => by simpa [objAt] using ho2
  refine g_stop ?_
  refine rch_wk (wk_S (S' := [(6, Ob.box [ii 0, ii 0, ii 0, .i (.v (.slice none 0 0))])] :: O2) (objAt_cons (by rw [hO2, hkw]; exact os2 _ _))) ?_
  refine rch_meet (l := [(0, .own (d + 1) nm 0 0), (1, ii (tyOf t)), (2, ii levels), (6, .own 0 6 0 0), (7, ii (b0 bs))]) (Hv := [(6, .box [ii 0, ii 0, ii 0, .i (.v (.slice none 0 0))])]) (n := 183) ?_ ⟨rfl, rfl, rfl, rfl, rfl, trivial⟩ rfl ⟨rfl, trivial⟩ rfl rfl
  clear hn hO2 hO1
  generalize b0 bs = b at *
  cases t with
  | true => cases ht
  | false =>
    refine g_run Tk Tryz.func84 ?_
    refine g_go Tk Tryz.func84 ?_
    first | refine g_cnd Tk Tryz.func84 rfl (fun h => absurd h (by decide)) (fun _ => ?_) | refine g_know Tk Tryz.func84 rfl (fun h => absurd h (by decide)) (fun _ => ?_) | refine s_know Tk (fun h => absurd h (by decide)) (fun _ => ?_)
    first | refine g_cnd Tk Tryz.func84 rfl (fun h1 => ?_) (fun h1 => ?_) | refine g_know Tk Tryz.func84 rfl (fun h1 => ?_) (fun h1 => ?_) | refine s_know Tk (fun h1 => ?_) (fun h1 => ?_)
    · have h1 : lv = 0 := hlev.1 (of_decide_eq_true h1)
      have hR := htruth rfl h1
      subst hR
      first | refine g_need Tk Tryz.func84 (by decide) ?_ | refine s_need Tk (by decide) ?_
      first | refine g_call Tk Tryz.func84 (truth81 _ _) rfl rfl rfl rfl rfl ?_ | refine s_callq Tk (fun _ => truth81 _ _) rfl rfl rfl ?_
      refine g_rwk (wk_S (S' := _ :: setAt O d nm _) (objAt_cons hfin0)) ?_
      refine g_ret Tk (r := _) rfl rfl rfl trivial rfl rfl ?_
      rw [hby.m2]
      rfl
    have h1 : lv ≠ 0 := fun e => of_decide_eq_false h1 (hlev.2 e)
    obtain ⟨lv', elv⟩ : ∃ lv', lv = lv' + 1 := ⟨lv - 1, by omega⟩
    have hF := hF lv' elv rfl
    have hp := hpow lv' elv
    have child := child lv' elv
    have gok := gok lv'
    have hlev2 : levels ≤ 2 ↔ lv' = 0 := by omega
    clear hleaf hT htruth hpow hlev
    apply join_p (P := lv' = 0 ∨ k + 1 > 12 ∨ b % 8 < 4) (s6 := { σ := [(0, .own (d + 1) nm 0 0), (2, ii levels), (6, .own 0 6 0 0), (7, ii b)], S := [(6, .box [ii 0, ii 0, ii 0, .i (.v (.slice none 0 0))])] :: O2, n := 183 })
    · intro J
      first | refine g_cnd Tk Tryz.func84 rfl (fun h2 => ?_) (fun h2 => ?_) | refine g_know Tk Tryz.func84 rfl (fun h2 => ?_) (fun h2 => ?_) | refine s_know Tk (fun h2 => ?_) (fun h2 => ?_)
      · repeat (first | refine g_cnd Tk Tryz.func84 rfl (fun _ => ?_) (fun h => absurd h (by decide)) | refine g_cnd Tk Tryz.func84 rfl (fun h => absurd h (by decide)) (fun _ => ?_) | refine g_know Tk Tryz.func84 rfl (fun _ => ?_) (fun h => absurd h (by decide)) | refine g_know Tk Tryz.func84 rfl (fun h => absurd h (by decide)) (fun _ => ?_) | refine s_know Tk (fun _ => ?_) (fun h => absurd h (by decide)) | refine s_know Tk (fun h => absurd h (by decide)) (fun _ => ?_))
        refine g_stop ?_
        exact rch_fit (J (.inl (hlev2.1 (of_decide_eq_true h2)))) ⟨rfl, rfl, rfl, rfl, trivial⟩ rfl rfl
      have h2 : lv' ≠ 0 := fun e => of_decide_eq_false h2 (hlev2.2 e)
      first | refine g_obj Tk Tryz.func84 (hO3 _) ?_ | refine s_obj Tk (hO3 _) ?_
      first | refine g_cnd Tk Tryz.func84 rfl (fun h3 => ?_) (fun h3 => ?_) | refine g_know Tk Tryz.func84 rfl (fun h3 => ?_) (fun h3 => ?_) | refine s_know Tk (fun h3 => ?_) (fun h3 => ?_)
      · repeat (first | refine g_cnd Tk Tryz.func84 rfl (fun _ => ?_) (fun h => absurd h (by decide)) | refine g_cnd Tk Tryz.func84 rfl (fun h => absurd h (by decide)) (fun _ => ?_) | refine g_know Tk Tryz.func84 rfl (fun _ => ?_) (fun h => absurd h (by decide)) | refine g_know Tk Tryz.func84 rfl (fun h => absurd h (by decide)) (fun _ => ?_) | refine s_know Tk (fun _ => ?_) (fun h => absurd h (by decide)) | refine s_know Tk (fun h => absurd h (by decide)) (fun _ => ?_))
        refine g_stop ?_
        exact rch_fit (J (.inr (.inl (by have := of_decide_eq_true h3; omega)))) ⟨rfl, rfl, rfl, rfl, trivial⟩ rfl rfl
      have h3 : ¬ k + 1 > 12 := by have := of_decide_eq_false h3; omega
      first | refine g_need Tk Tryz.func84 (by decide) ?_ | refine s_need Tk (by decide) ?_
      first | refine g_cnd Tk Tryz.func84 rfl (fun h4 => ?_) (fun h4 => ?_) | refine g_know Tk Tryz.func84 rfl (fun h4 => ?_) (fun h4 => ?_) | refine s_know Tk (fun h4 => ?_) (fun h4 => ?_)
      · refine g_stop ?_
        exact rch_fit (J (.inr (.inr (by have := of_decide_eq_true h4; rw [hby.m8] at this; exact this)))) ⟨rfl, rfl, rfl, rfl, trivial⟩ rfl rfl
      have h4 : ¬ b % 8 < 4 := by have := of_decide_eq_false h4; rw [hby.m8] at this; exact this
      rw [if_neg (by omega)] at hF
      clear J
      first | refine g_need Tk Tryz.func84 (by decide) ?_ | refine s_need Tk (by decide) ?_
      first | refine g_cnd Tk Tryz.func84 rfl (fun h5 => ?_) (fun h5 => ?_) | refine g_know Tk Tryz.func84 rfl (fun h5 => ?_) (fun h5 => ?_) | refine s_know Tk (fun h5 => ?_) (fun h5 => ?_)
      · have h5 := beqT h5
        rw [hby.m8] at h5
        rw [if_pos h5] at hF
        subst hF
        have c1 := fun O ho => child false bs.tail (k + 1) hbt hbtl (by omega) O (d + 1) nm ho
        refine g_call Tk Tryz.func84 (c1 _ (by exact up_obj ho2)) rfl rfl rfl (shape_cons (shape_set ho2 rfl)) rfl ?_
        refine g_rwk (wk_S (S' := _ :: setAt O d nm _) (objAt_cons (hfin _))) ?_
        refine g_ret Tk (r := _) rfl rfl rfl trivial rfl rfl ?_
        exact (exA1 _ _).symm
      have h5 : b % 8 ≠ 4 := by have := beqF h5; rw [hby.m8] at this; exact this
      rw [if_neg h5] at hF
      first | refine g_need Tk Tryz.func84 (by decide) ?_ | refine s_need Tk (by decide) ?_
      first | refine g_cnd Tk Tryz.func84 rfl (fun h6 => ?_) (fun h6 => ?_) | refine g_know Tk Tryz.func84 rfl (fun h6 => ?_) (fun h6 => ?_) | refine s_know Tk (fun h6 => ?_) (fun h6 => ?_)
      · have h6 := beqT h6
        rw [hby.m8] at h6
        rw [if_pos h6] at hF
        have g1 := gok false bs.tail (k + 1) hbt
        have c1 := fun O ho => child false bs.tail (k + 1) hbt hbtl (by omega) O (d + 1) nm ho
        generalize growR vars lv' false bs.tail (k + 1) = A at *
        have gk1 := g1.k
        have gl1 := Nat.le_trans g1.l hbtl
        have g2 := gok false A.2.1 A.2.2 g1.b
        have c2 := fun O ho => child false A.2.1 A.2.2 g1.b gl1 (by omega) O (d + 1) nm ho
        generalize growR vars lv' false A.2.1 A.2.2 = B at *
        have gk2 := g2.k
        have gl2 := Nat.le_trans g2.l gl1
        have g3 := gok false B.2.1 B.2.2 g2.b
        have c3 := fun O ho => child false B.2.1 B.2.2 g2.b gl2 (by omega) O (d + 1) nm ho
        generalize growR vars lv' false B.2.1 B.2.2 = C at *
        subst hF
        refine g_call Tk Tryz.func84 (c1 _ (by exact up_obj ho2)) rfl rfl rfl (shape_cons (shape_set ho2 rfl)) rfl ?_
        refine g_call Tk Tryz.func84 (c2 _ (by exact up_obj (objAt_set_same ho2))) rfl rfl rfl (shape_cons (shape_set (objAt_set_same ho2) rfl)) rfl ?_
        refine g_call Tk Tryz.func84 (c3 _ (by exact up_obj (objAt_set_same (objAt_set_same ho2)))) rfl rfl rfl (shape_cons (shape_set (objAt_set_same (objAt_set_same ho2)) rfl)) rfl ?_
        refine g_rwk (wk_S (S' := _ :: setAt O d nm _) (objAt_cons fun d' n' => (hfin _ d' n').trans (os3 _ _ _ d' n'))) ?_
        refine g_ret Tk (r := _) rfl rfl rfl trivial rfl rfl ?_
        exact (exA3 _ _ _ _).symm
      have h6 : b % 8 ≠ 5 := by have := beqF h6; rw [hby.m8] at this; exact this
      rw [if_neg h6] at hF
      first | refine g_need Tk Tryz.func84 (by decide) ?_ | refine s_need Tk (by decide) ?_
      first | refine g_need Tk Tryz.func84 (by decide) ?_ | refine s_need Tk (by decide) ?_
      have g1 := gok false bs.tail (k + 1) hbt
      have c1 := fun O ho => child false bs.tail (k + 1) hbt hbtl (by omega) O (d + 1) nm ho
      generalize growR vars lv' false bs.tail (k + 1) = A at *
      have gk1 := g1.k
      have gl1 := Nat.le_trans g1.l hbtl
      have c2 := fun O ho => child false A.2.1 A.2.2 g1.b gl1 (by omega) O (d + 1) nm ho
      generalize growR vars lv' false A.2.1 A.2.2 = B at *
      subst hF
      refine g_call Tk Tryz.func84 (c1 _ (by exact up_obj ho2)) rfl rfl rfl (shape_cons (shape_set ho2 rfl)) rfl ?_
      refine g_call Tk Tryz.func84 (c2 _ (by exact up_obj (objAt_set_same ho2))) rfl rfl rfl (shape_cons (shape_set (objAt_set_same ho2) rfl)) rfl ?_
      refine g_rwk (wk_S (S' := _ :: setAt O d nm _) (objAt_cons fun d' n' => (hfin _ d' n').trans (os2 _ _ d' n'))) ?_
      refine g_ret Tk (r := _) rfl rfl rfl trivial rfl rfl ?_
      rw [← hby.q8a (by decide) (by decide) (by decide) (by decide)]
      exact (exA2 _ _ _).symm
    · intro hP
      rw [if_pos hP] at hF
      have g1 := gok true bs.tail (k + 1) hbt
      have c1 := fun O ho => child true bs.tail (k + 1) hbt hbtl (by omega) O (d + 1) nm ho
      generalize growR vars lv' true bs.tail (k + 1) = A at *
      have gk1 := g1.k
      have gl1 := Nat.le_trans g1.l hbtl
      have c2 := fun O ho => child true A.2.1 A.2.2 g1.b gl1 (by omega) O (d + 1) nm ho
      generalize growR vars lv' true A.2.1 A.2.2 = B at *
      subst hF
      refine g_run Tk Tryz.func84 ?_
      refine g_go Tk Tryz.func84 ?_
      first | refine g_need Tk Tryz.func84 (by decide) ?_ | refine s_need Tk (by decide) ?_
      first | refine g_need Tk Tryz.func84 (by decide) ?_ | refine s_need Tk (by decide) ?_
      refine g_call Tk Tryz.func84 (c1 _ (by exact up_obj ho2)) rfl rfl rfl (shape_cons (shape_set ho2 rfl)) rfl ?_
      refine g_call Tk Tryz.func84 (c2 _ (by exact up_obj (objAt_set_same ho2))) rfl rfl rfl (shape_cons (shape_set (objAt_set_same ho2) rfl)) rfl ?_
      refine g_rwk (wk_S (S' := _ :: setAt O d nm _) (objAt_cons fun d' n' => (hfin _ d' n').trans (os2 _ _ d' n'))) ?_
      refine g_ret Tk (r := _) rfl rfl rfl trivial rfl rfl ?_
      rw [← hby.q8a (by decide) (by decide) (by decide) (by decide)]
      exact (exA2 _ _ _).symm
theorem grow64 (vars : Int) (hv : 0 ≤ vars) : ∀ lv, lv ≤ 10 → ∀ t, GrowS vars lv t
  | 0, h, true => grow_stepT vars hv 0 h fun lv' e => by omega
  | 0, h, false => grow_stepF vars hv 0 h fun lv' e => by omega
  | lv + 1, h, true => grow_stepT vars hv (lv + 1) h fun lv' e t => by
    obtain rfl : lv = lv' := by omega
    exact grow64 vars hv lv (by omega) t
  | lv + 1, h, false => grow_stepF vars hv (lv + 1) h fun lv' e t => by
    obtain rfl : lv = lv' := by omega
    exact grow64 vars hv lv (by omega) t
/-- Grow: an expression of a type over some variables that bytes describe. -/
def growE (vars : Int) (t : Bool) (bs : List Int) : Ex := (growR vars 4 t (bs.take 60) 0).1
theorem grow46 (O : List Heap) (bs : List Int) (vars : Int) (t : Bool) (hv : 0 ≤ vars) (hb : byteOk bs) (hl : bs.length ≤ max63) :
    ASpec Tryz.prog 48 [byts bs, ii vars, ii (tyOf t)] O (exA (growE vars t bs)) [] O := by
  have hb' : byteOk (bs.take 60) := fun b h => hb b (List.mem_of_mem_take h)
  have hl' : (bs.take 60).length ≤ max63 := Nat.le_trans (List.length_take_le _ _) (by decide)
  have hg := fun O d nm ho => grow64 vars hv 4 (by decide) t (bs.take 60) 0 5 rfl hb' hl' (by decide) O d nm ho
  unfold growE
  generalize growR vars 4 t (bs.take 60) 0 = R at *
  have hmin : (if (60 : Int) < bs.length then (60 : Int) else bs.length).toNat = (bs.take 60).length := by
    simp only [List.length_take]
    split <;> omega
  have htk : (bs.map u8I).take (if (60 : Int) < bs.length then (60 : Int) else bs.length).toNat = (bs.take 60).map u8I := by
    rw [hmin, List.map_take, List.take_eq_take_iff]
    simp
  have hobj : some (Ob.box [.i (.sl 1 (if (60 : Int) < bs.length then (60 : Int) else bs.length).toNat ((bs.map u8I).take (if (60 : Int) < bs.length then (60 : Int) else bs.length).toNat)), ii vars, ii 0]) = some (growOb (bs.take 60) vars ((0 : Nat) : Int)) := by
    rw [htk, hmin]
    rfl
  refine aspec_intro Tk Tryz.func48 rfl Tryz.call48 Tryz.ntmps48 (Nat.le_of_ble_eq_true rfl) fun E => ?_
  refine g_run Tk Tryz.func48 ?_
  first | refine g_need Tk Tryz.func48 (by split <;> omega) ?_ | refine s_need Tk (by split <;> omega) ?_
  refine g_call Tk Tryz.func48 (hg _ 0 15 (by exact hobj)) rfl rfl rfl (by exact shape_over rfl rfl) rfl ?_
  refine g_ret Tk (r := _) rfl rfl rfl trivial rfl rfl ?_
  rfl
end Go.AI


namespace Go.AI
open Go.Proofs
set_option maxRecDepth 20000
abbrev r8I (p : Int × Int) : List I := [.v (.int .i8 p.1), .v (.int .i8 p.2)]
abbrev r8s (l : List (Int × Int)) : D := .i (.sl 2 l.length (l.map r8I))
abbrev ovrs (l : List Vr) : Ob := .arr 96 4 l.length (l.map vrI) true
def nameR (i : Nat) : ByteArray := ⟨#[120]⟩ ++ bytesOf [IntKind.u8.wrap (48 + IntKind.u8.wrap (i : Int))]
/-- A variable that two small numbers describe. -/
def rngV (i : Nat) (p : Int × Int) : Vr := ⟨nameR i, p.1.tmod 5, p.1.tmod 5 + p.2 % 256 % 4, p.1.tmod 5 + p.2 % 256 / 4 % (p.2 % 256 % 4 + 1)⟩
def rngsR (l : List (Int × Int)) : List Vr := (List.range (min l.length 3)).map fun i => rngV i (l.getD i (0, 0))
def pairOk (p : Int × Int) : Prop := -128 ≤ p.1 ∧ p.1 ≤ 127 ∧ -128 ≤ p.2 ∧ p.2 ≤ 127
theorem ovrs_app (l : List Vr) (v : Vr) : Ob.arr 96 4 (l.length + 1) (l.map vrI ++ [vrI v]) true = ovrs (l ++ [v]) := by simp
theorem nameR_size (i : Nat) : (nameR i).size = 2 := by
  unfold nameR bytesOf
  simp only [List.foldl_cons, List.foldl_nil]
  rw [ByteArray.size_append, ByteArray.size_push]
  rfl
theorem wu8 (n : Int) : IntKind.u8.wrap n = n % 256 := by
  unfold IntKind.wrap
  simp [IntKind.bits, IntKind.signed]
theorem ranges45 (O : List Heap) (l : List (Int × Int)) (hl : l.length ≤ max63) (hp : ∀ p ∈ l, pairOk p) : ASpec Tryz.prog 47 [r8s l] O (vrs (rngsR l)) [] O := by
  refine aspec_stop [7] Tk Tryz.func47 rfl Tryz.call47 Tryz.ntmps47 (Nat.le_of_ble_eq_true rfl) fun E => ?_
  refine g_run Tk Tryz.func47 ?_
  refine g_loop ?_
  refine rch_wk (wk_nil 3 58 96 4 rfl rfl rfl) ?_
  refine rch_loop2 (fun i : Nat => [(0, r8s l), (3, .osl 0 58), (4, ii i)]) (fun i => [(58, ovrs ((List.range i).map fun i => rngV i (l.getD i (0, 0))))]) (fun _ => O) 60
    (fun i => i ≤ min l.length 3) (fun i => min l.length 3 - i) 0 (Nat.zero_le _) ⟨rfl, rfl, rfl, trivial⟩ rfl ⟨rfl, trivial⟩ rfl rfl ?_
  rintro i hi ih
  have hend : i = min l.length 3 → vrs (rngsR l) = vrs ((List.range i).map fun i => rngV i (l.getD i (0, 0))) := fun e => by rw [e]; rfl
  have hsucc : (List.range (i + 1)).map (fun i => rngV i (l.getD i (0, 0))) = (List.range i).map (fun i => rngV i (l.getD i (0, 0))) ++ [rngV i (l.getD i (0, 0))] := by rw [List.range_succ, List.map_append]; rfl
  have hlen : ((List.range i).map fun i => rngV i (l.getD i (0, 0))).length = i := by simp
  generalize rngsR l = R at *
  generalize (List.range i).map (fun i => rngV i (l.getD i (0, 0))) = acc at *
  refine g_run Tk Tryz.func47 ?_
  first | refine g_cnd Tk Tryz.func47 rfl (fun h1 => ?_) (fun h1 => ?_) | refine g_know Tk Tryz.func47 rfl (fun h1 => ?_) (fun h1 => ?_) | refine s_know Tk (fun h1 => ?_) (fun h1 => ?_)
  · have h1 : i < l.length := by have := of_decide_eq_true h1; omega
    first | refine g_cnd Tk Tryz.func47 rfl (fun h2 => ?_) (fun h2 => ?_) | refine g_know Tk Tryz.func47 rfl (fun h2 => ?_) (fun h2 => ?_) | refine s_know Tk (fun h2 => ?_) (fun h2 => ?_)
    · have h2 : i < 3 := by have := of_decide_eq_true h2; omega
      have hgd : l.getD i (0, 0) = l[i] := by simp [h1]
      have hm := List.getElem_mem h1
      have hg : (l.map r8I)[(i : Int).toNat]? = some (r8I l[i]) := get_mapZ h1
      rw [hgd] at hsucc
      generalize l[i] = p at *
      obtain ⟨a, b⟩ := p
      obtain ⟨ha0, ha1, hb0, hb1⟩ := hp _ hm
      simp only at ha0 ha1 hb0 hb1
      have hlo : IntKind.i64.wrap (a.tmod 5) = a.tmod 5 := by
        have := Int.tmod_lt_of_pos a (show (0 : Int) < 5 by decide)
        have := Int.lt_tmod_of_pos a (show (0 : Int) < 5 by decide)
        rw [w64 (by omega) (by omega)]
      have hwd : IntKind.i64.wrap ((IntKind.u8.wrap b).tmod 4) = b % 256 % 4 := by
        rw [wu8, Int.tmod_eq_emod_of_nonneg (by omega), w64 (by omega) (by omega)]
      first | refine g_need Tk Tryz.func47 (by exact ⟨by omega, by show (i : Int) < (l.length : Int); omega⟩) ?_ | refine s_need Tk (by exact ⟨by omega, by show (i : Int) < (l.length : Int); omega⟩) ?_
      first | refine g_need Tk Tryz.func47 (by decide) ?_ | refine s_need Tk (by decide) ?_
      first | refine g_elem Tk Tryz.func47 (hg) ?_ | refine s_elem Tk (hg) ?_
      first | refine g_need Tk Tryz.func47 (by decide) ?_ | refine s_need Tk (by decide) ?_
      first | refine g_need Tk Tryz.func47 (by exact ⟨by omega, by show (i : Int) < (l.length : Int); omega⟩) ?_ | refine s_need Tk (by exact ⟨by omega, by show (i : Int) < (l.length : Int); omega⟩) ?_
      first | refine g_need Tk Tryz.func47 (by decide) ?_ | refine s_need Tk (by decide) ?_
      first | refine g_elem Tk Tryz.func47 (hg) ?_ | refine s_elem Tk (hg) ?_
      first | refine g_need Tk Tryz.func47 (by decide) ?_ | refine s_need Tk (by decide) ?_
      refine g_stop ?_
      refine rch_meet (l := [(0, r8s l), (3, .osl 0 58), (4, ii i), (5, ii (a.tmod 5)), (6, ii (b % 256 % 4))]) (Hv := [(58, ovrs acc)]) (n := 60) ?_ ⟨rfl, rfl, rfl, congrArg ii hlo, congrArg ii hwd, trivial⟩ rfl ⟨rfl, trivial⟩ rfl rfl
      refine g_run Tk Tryz.func47 ?_
      refine g_go Tk Tryz.func47 ?_
      refine g_drawn Tk Tryz.func47 mixedT rfl ?_
      have hsz := nameR_size i
      unfold nameR at hsz
      rw [ByteArray.size_append] at hsz
      have hw1 : IntKind.i64.wrap (b % 256 % 4 + 1) = b % 256 % 4 + 1 := w64 (by omega) (by omega)
      have hq : IntKind.i64.wrap (IntKind.u8.wrap ((IntKind.u8.wrap b).tdiv 4)) = b % 256 / 4 := by
        rw [wu8, wu8, Int.tdiv_eq_ediv_of_nonneg (by omega), w64 (by omega) (by omega)]
        omega
      have hmod := Int.emod_nonneg (b % 256 / 4) (show b % 256 % 4 + 1 ≠ 0 by omega)
      have hmod2 := Int.emod_lt_of_pos (b % 256 / 4) (show 0 < b % 256 % 4 + 1 by omega)
      have hl5 := Int.tmod_lt_of_pos a (show (0 : Int) < 5 by decide)
      have hg5 := Int.lt_tmod_of_pos a (show (0 : Int) < 5 by decide)
      first | refine g_need Tk Tryz.func47 (by omega) ?_ | refine s_need Tk (by omega) ?_
      first | refine g_need Tk Tryz.func47 (by exact ⟨by omega, by show (i : Int) < (l.length : Int); omega⟩) ?_ | refine s_need Tk (by exact ⟨by omega, by show (i : Int) < (l.length : Int); omega⟩) ?_
      first | refine g_need Tk Tryz.func47 (by decide) ?_ | refine s_need Tk (by decide) ?_
      first | refine g_elem Tk Tryz.func47 (hg) ?_ | refine s_elem Tk (hg) ?_
      first | refine g_need Tk Tryz.func47 (by decide) ?_ | refine s_need Tk (by decide) ?_
      first | refine g_need Tk Tryz.func47 (by rw [hw1]; omega) ?_ | refine s_need Tk (by rw [hw1]; omega) ?_
      have hin : (b % 256 / 4).tmod (b % 256 % 4 + 1) = (b % 256 / 4) % (b % 256 % 4 + 1) := Int.tmod_eq_emod_of_nonneg (by omega)
      refine e_tail Tk Tryz.func47 ([26, 27]) (by kernel_rfl) (by kernel_rfl) ?_
      first | refine g_need Tk Tryz.func47 (by exact ⟨by show (acc.length + 1) * 40 ≤ 140737488355328; omega, by show acc.length + 1 ≤ 9223372036854775807; omega⟩) ?_ | refine s_need Tk (by exact ⟨by show (acc.length + 1) * 40 ≤ 140737488355328; omega, by show acc.length + 1 ≤ 9223372036854775807; omega⟩) ?_
      refine g_loop ?_
      refine ih (i + 1) _ _ (by omega) (by omega) ⟨rfl, rfl, congrArg ii (wsucc h1 hl), trivial⟩ rfl ⟨?_, trivial⟩ rfl rfl
      rw [hsucc, ← ovrs_app]
      show some (Ob.arr 96 4 (acc.length + 1) (acc.map vrI ++ [[.v (.string (⟨#[120]⟩ ++ bytesOf [IntKind.u8.wrap (48 + IntKind.u8.wrap (i : Int))])), vi (a.tmod 5), vi _, vi _]]) true) = _
      rw [hw1, hq, hin, w64 (by omega) (by omega), w64 (by omega) (by omega)]
      rfl
    · have h2 : ¬ i < 3 := by have := of_decide_eq_false h2; omega
      have := hend (by omega)
      refine g_rwk (wk_freeze 58 rfl rfl) ?_
      refine g_ret Tk (r := vrs acc) rfl rfl rfl trivial rfl rfl ?_
      exact this.symm
  · have h1 : ¬ i < l.length := by have := of_decide_eq_false h1; omega
    have := hend (by omega)
    repeat (first | refine g_cnd Tk Tryz.func47 rfl (fun _ => ?_) (fun h => absurd h (by decide)) | refine g_cnd Tk Tryz.func47 rfl (fun h => absurd h (by decide)) (fun _ => ?_) | refine g_know Tk Tryz.func47 rfl (fun _ => ?_) (fun h => absurd h (by decide)) | refine g_know Tk Tryz.func47 rfl (fun h => absurd h (by decide)) (fun _ => ?_) | refine s_know Tk (fun _ => ?_) (fun h => absurd h (by decide)) | refine s_know Tk (fun h => absurd h (by decide)) (fun _ => ?_))
    refine g_rwk (wk_freeze 58 rfl rfl) ?_
    refine g_ret Tk (r := vrs acc) rfl rfl rfl trivial rfl rfl ?_
    exact this.symm
end Go.AI
