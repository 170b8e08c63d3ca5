/- The layer of abstract runs, part 40. -/
import Derived.Test.YtonnakcgopcfnaaDoorJuniperZM
import Derived.KernelRfl
import Derived.Test.YtonnakcgopcfnaaDoorTie
import Derived.Test.YtonnakcgopcfnaaDoorCards
import Derived.ProofKit
import Derived.LaidMore
import Derived.OpenShut
import Derived.Lay
import Derived.SevenTiedAt
import Derived.Stop.Joined
import Derived.Stop.LaidErr
import Derived.Lib.LaidTab
import Derived.WideKeyArgs
import Derived.Lib.SmallJoins
import Derived.Deep.Slices
import Derived.Shelf.Strings.Builder1
import Derived.Deep.Heap
import Derived.Shelf.RegionOpenPlain
import Derived.WalkKit
import Derived.Deep.RegionLaw
import Derived.Lib.Walk
import Derived.Lib.SliceRun
set_option linter.unusedSimpArgs false
set_option linter.unusedVariables false
set_option linter.all false

/- Another name for one object among others. -/
namespace Go.AI
def renH (a b : Nat) : Heap → Heap
  | [] => []
  | (k, o) :: r => (renN a b k, o) :: renH a b r
theorem renN_self (a b : Nat) : renN a b a = b := by simp [renN]
theorem renN_ne {a b n : Nat} (h : n ≠ a) : renN a b n = n := by
  unfold renN
  cases hb : Nat.beq n a with
  | false => rfl
  | true => exact absurd (Nat.eq_of_beq_eq_true hb) h
theorem look_renH {a b n : Nat} {o : Ob} : ∀ {H : Heap}, look H b = none → look (renH a b H) n = some o → ∃ n0, n = renN a b n0 ∧ look H n0 = some o
  | [], _, h => by simp [renH, look] at h
  | (k, x) :: r, hb, h => by
    rw [look_cons] at hb
    split at hb
    · cases hb
    · rename_i hkb
      simp only [renH] at h
      rw [look_cons] at h
      split at h
      · rename_i e
        simp only [Option.some.injEq] at h
        subst h
        exact ⟨k, e.symm, by rw [look_cons, if_pos rfl]⟩
      · rename_i e
        obtain ⟨n0, h1, h2⟩ := look_renH hb h
        refine ⟨n0, h1, ?_⟩
        rw [look_cons, if_neg]
        · exact h2
        · intro e2
          subst e2
          exact e h1.symm
theorem look_renH' {a b n0 : Nat} {o : Ob} : ∀ {H : Heap}, look H b = none → look H n0 = some o → look (renH a b H) (renN a b n0) = some o
  | [], _, h => by simp [look] at h
  | (k, x) :: r, hb, h => by
    rw [look_cons] at hb
    split at hb
    · cases hb
    · rename_i hkb
      rw [look_cons] at h
      simp only [renH]
      rw [look_cons]
      split at h
      · rename_i e
        subst e
        rw [if_pos rfl]; exact h
      · rename_i e
        rw [if_neg]
        · exact look_renH' hb h
        · intro e2
          by_cases h1 : k = a
          · subst h1
            rw [renN_self, renN_ne (Ne.symm e)] at e2
            subst e2
            rw [hb] at h; cases h
          · rw [renN_ne h1] at e2
            by_cases h2 : n0 = a
            · subst h2; rw [renN_self] at e2; exact hkb e2
            · rw [renN_ne h2] at e2; exact e e2
section
variable {c : Cx} {s : St} {H : Heap} {O : List Heap}
theorem wk_ren (a b : Nat) (hS : s.S = H :: O) (hb : look H b = none) (hfl : allH (fun _ o => o.flat) H = true) : Wk c s { σ := renσ a b s.σ, S := renH a b H :: O, n := s.n } := by
  intro K ρ act w hi
  have hh := hi.h
  rw [hS] at hh
  let ρ' : Nat → Nat → Loc := upd ρ b (ρ 0 a)
  have hρ : ∀ n0 o, look H n0 = some o → ρ' 0 (renN a b n0) = ρ 0 n0 := by
    intro n0 o h
    by_cases h1 : n0 = a
    · subst h1; rw [renN_self]; exact upd_same _ _ _
    · rw [renN_ne h1]
      exact upd_other _ _ _ (.inr fun e => by subst e; rw [hb] at h; cases h)
  have r1 : ∀ d n, ρ' (d + 1) n = ρ (d + 1) n := fun d n => upd_other _ _ _ (.inl (by omega))
  have hren : Ren a b ρ ρ' (shape (H :: O)) (shape (renH a b H :: O)) := by
    refine ⟨fun n x e => ?_, fun d n x e => ⟨by simpa [shape, objAt] using e, r1 d n⟩⟩
    simp only [shape, objAt, List.getElem?_cons_zero] at e ⊢
    cases hl : look H n with
    | none => simp [hl] at e
    | some o =>
      rw [look_renH' hb hl]
      exact ⟨by simpa [hl] using e, hρ _ _ hl⟩
  have hmv : Moves (fun _ => false) K K ρ ρ' (shape (H :: O)) (shape (renH a b H :: O)) := ⟨K.le_refl, fun _ _ h => (by cases h), hren.s⟩
  have hcase : ∀ d n o, objAt (renH a b H :: O) d n = some o → ∃ n0, objAt (H :: O) d n0 = some o ∧ ρ' d n = ρ d n0 ∧ (d = 0 → n = renN a b n0) ∧ (d ≠ 0 → n = n0) := by
    intro d n o e
    cases d with
    | zero =>
      obtain ⟨n0, rfl, h2⟩ := look_renH hb (by simpa [objAt] using e)
      exact ⟨n0, by simpa [objAt] using h2, hρ _ _ h2, fun _ => rfl, fun h => absurd rfl h⟩
    | succ d => exact ⟨n, by simpa [objAt] using e, r1 _ _, fun h => absurd h (Nat.succ_ne_zero d), fun _ => rfl⟩
  have e0 : ∀ f : Nat → Nat → Loc, (fun d n => f (0 + d) n) = f := by intro f; funext d n; rw [Nat.zero_add]
  refine ⟨K, ρ', ⟨hh.holds, ?_, ?_, hh.size, ?_, ?_, ?_, hh.Kle, hh.Knew, hh.rest⟩, hi.defers, hi.size, fun t d e => ?_⟩
  · intro d n o e
    obtain ⟨n0, h1, h2, h3, h4⟩ := hcase d n o e
    have h0 := hh.own _ _ _ h1
    rw [h2]
    cases d with
    | zero =>
      rw [e0] at h0 ⊢
      have hf : o.flat = true := allH_look hfl (by simpa [objAt] using h1)
      refine h0.move hmv ?_ (fun _ => rfl) (fun _ _ => rfl)
      cases o with
      | box cs => exact hf
      | tb _ cs => exact hf
      | arr => rfl
      | mp => rfl
    | succ d =>
      have e1 : (fun d' n => ρ' (d + 1 + d') n) = fun d' n => ρ (d + 1 + d') n := by
        funext d' n
        rw [show d + 1 + d' = (d + d') + 1 by omega, r1]
      rw [e1]
      simpa using h0
  · intro d n o d2 n2 o2 e e2 b1 b2 hbe
    obtain ⟨m1, a1, a2, a3, a4⟩ := hcase d n o e
    obtain ⟨m2, c1, c2, c3, c4⟩ := hcase d2 n2 o2 e2
    rw [a2] at b1 hbe
    rw [c2] at b2 hbe
    obtain ⟨rfl, rfl⟩ := hh.inj _ _ _ _ _ _ a1 c1 b1 b2 hbe
    refine ⟨rfl, ?_⟩
    by_cases h : d = 0
    · rw [a3 h, c3 h]
    · rw [a4 h, c4 h]
  · intro b' hb' hno
    refine hh.old b' hb' fun d n o e hbk => ?_
    have := hno d n o (by simpa [objAt] using e) (by rw [r1]; exact hbk)
    rwa [r1] at this
  · intro n o e hbk
    obtain ⟨n0, h1, h2, _⟩ := hcase 0 n o e
    rw [h2] at hbk ⊢
    exact hh.loc _ _ h1 hbk
  · intro d
    funext n
    rw [r1, hh.outer]
  · simp only [look_renσ] at e
    cases hl : look s.σ t with
    | none => simp [hl] at e
    | some d0 =>
      simp only [hl, Option.map_some, Option.some.injEq] at e
      subst e
      have := hi.slots _ _ hl
      rw [hS] at this
      exact this.ren hren
end
end Go.AI


namespace Go.AI
open Go.Proofs
set_option maxRecDepth 20000
theorem within_iff : ∀ {l : List Vr} {xs : List Int}, within l xs = true ↔ xs.length = l.length ∧ ∀ i (h : i < l.length) (h' : i < xs.length), l[i].low ≤ xs[i] ∧ xs[i] ≤ l[i].high
  | [], [] => by simp [within]
  | [], _ :: _ => by simp [within]
  | _ :: _, [] => by simp [within]
  | v :: r, x :: ys => by
    simp only [within, Bool.and_eq_true, decide_eq_true_eq, within_iff (l := r) (xs := ys), List.length_cons, Nat.add_right_cancel_iff]
    constructor
    · rintro ⟨⟨h1, h2⟩, h3, h4⟩
      refine ⟨h3, fun i h h' => ?_⟩
      cases i with
      | zero => exact ⟨h1, h2⟩
      | succ i => exact h4 i (by simpa using h) (by simpa using h')
    · rintro ⟨h3, h4⟩
      exact ⟨h4 0 (by simp) (by simp), h3, fun i h h' => h4 (i + 1) (by simpa using h) (by simpa using h')⟩
theorem within_set {l : List Vr} {xs : List Int} {k : Nat} {n : Int} (h : within l xs = true) (hk : k < l.length) (hn : l[k].low ≤ n ∧ n ≤ l[k].high) : within l (xs.set k n) = true := by
  rw [within_iff] at h ⊢
  refine ⟨by simpa using h.1, fun i hi hi' => ?_⟩
  rw [List.getElem_set]
  split
  · rename_i e; subst e; exact hn
  · exact h.2 i hi (by simpa using hi')
theorem checkVrs_zero {all : List Vr} : ∀ {l : List Vr} {i : Nat}, checkVrs all l i = 0 → ∀ v ∈ l, (-65536 ≤ v.low ∧ v.high ≤ 65536) ∧ v.low ≤ v.init ∧ v.init ≤ v.high
  | [], _, _, v, hv => by simp at hv
  | x :: r, i, h, v, hv => by
    simp only [checkVrs] at h
    split at h
    · rename_i e he
      subst h
      unfold checkVr at he
      split at he; · cases he
      split at he; · cases he
      split at he; · cases he
      split at he; · cases he
      split at he <;> cases he
    · rename_i he
      rcases List.mem_cons.1 hv with rfl | hv
      · unfold checkVr at he
        split at he; · cases he
        split at he; · cases he
        split at he; · cases he
        rename_i h3
        split at he; · cases he
        split at he; · cases he
        rename_i h4 h5
        simp only [checkVr.large, Bool.or_eq_true, decide_eq_true_eq, not_or] at h3
        omega
      · exact checkVrs_zero h v hv
theorem vars_ok {l : List Vr} (h : varsErr l = 0) : ∀ v ∈ l, (-65536 ≤ v.low ∧ v.high ≤ 65536) ∧ v.low ≤ v.init ∧ v.init ≤ v.high := by
  unfold varsErr at h
  split at h
  · cases h
  · exact checkVrs_zero h
/-- A right state. -/
def okS (m : Ext) (s : Sta) : Prop := (0 ≤ s.loc ∧ s.loc < m.locs) ∧ within m.vars s.vals = true
theorem okS_bounds {m : Ext} {s : Sta} (hr : extRight m) (h : okS m s) : i64B s.loc ∧ (∀ v ∈ s.vals, i64B v) ∧ s.vals.length ≤ 16 ∧ s.vals.length = m.vars.length ∧ ∀ v ∈ s.vals, -65536 ≤ v ∧ v ≤ 65536 := by
  obtain ⟨h1, h2⟩ := h
  rw [within_iff] at h2
  have hl := hr.locs
  have hv := vars_len hr.vars
  have hb : ∀ v ∈ s.vals, -65536 ≤ v ∧ v ≤ 65536 := by
    intro v hm
    obtain ⟨i, hi, rfl⟩ := List.getElem_of_mem hm
    have a := h2.2 i (by omega) hi
    have b := vars_ok hr.vars _ (List.getElem_mem (by omega : i < m.vars.length))
    omega
  exact ⟨⟨by omega, by omega⟩, fun v hm => by have := hb v hm; exact ⟨by omega, by omega⟩, by omega, h2.1, hb⟩
theorem start_ok {m : Ext} (hr : extRight m) : okS m (startR m) := by
  refine ⟨hr.init, within_iff.2 ⟨by simp [startR], fun i h h' => ?_⟩⟩
  simp only [startR, List.getElem_map]
  exact (vars_ok hr.vars _ (List.getElem_mem h)).2
theorem updR_ok {m : Ext} {vals : List Int} : ∀ {l : List Upd} {acc out : List Int}, updR m vals l acc = some out → within m.vars acc = true → within m.vars out = true
  | [], acc, out, h, hw => by simp only [updR, Option.some.injEq] at h; subst h; exact hw
  | u :: r, acc, out, h, hw => by
    simp only [updR] at h
    cases hu : m.vars[u.v.toNat]? with
    | none => rw [hu] at h; cases h
    | some v =>
      rw [hu] at h
      simp only at h
      split at h
      · cases h
      · rename_i hc
        have hk : u.v.toNat < m.vars.length := (List.getElem?_eq_some_iff.1 hu).1
        have hkv : m.vars[u.v.toNat] = v := (List.getElem?_eq_some_iff.1 hu).2
        refine updR_ok h (within_set hw hk ?_)
        rw [hkv]
        omega
theorem step_ok {m : Ext} {s : Sta} {ev : Int} (hr : extRight m) (h : okS m s) (hp : (stepR m s ev).2.1 = true) : okS m (stepR m s ev).1 := by
  unfold stepR at hp ⊢
  cases hc : (chs s ev m.moves 0 none false).1 with
  | none => rw [hc] at hp; cases hp
  | some k =>
    rw [hc] at hp
    simp only at hp ⊢
    split at hp
    · cases hp
    · rename_i he
      rw [if_neg he]
      cases hk : m.moves[k]? with
      | none => rw [hk] at hp; cases hp
      | some x =>
        rw [hk] at hp
        simp only at hp ⊢
        cases hu : updR m s.vals x.us s.vals with
        | none => rw [hu] at hp; cases hp
        | some acc =>
          exact ⟨(hr.mv x (List.mem_of_getElem? hk)).to, updR_ok hu h.2⟩
/-- What search has found. -/
structure Srch where
  sts : List Sta
  frm : List (Int × Int)
  flt : Int × Int
  kind : Int
abbrev ostas (l : List Sta) : Ob := .arr 111 2 l.length (l.map staI) true
end Go.AI


namespace Go.AI
open Go.Proofs
set_option maxRecDepth 20000
/-- What the loops know of what was found. -/
structure Good (m : Ext) (S : Srch) : Prop where
  len : S.sts.length ≤ 4096
  ok : ∀ s ∈ S.sts, okS m s
  fl : S.frm.length = S.sts.length
end Go.AI


namespace Go.AI
open Go.Proofs
set_option maxRecDepth 20000
abbrev stasD (l : List Sta) : D := .i (.sl 2 l.length (l.map staI))
/-- The counter of the chapter. -/
def nE : Ex := .mk 1 0 0 []
def kE (n : Int) : Ex := .mk 0 n 0 []
def nVr (high : Int) : Vr := ⟨⟨#[110]⟩, 0, high, 0⟩
end Go.AI




/- slices.Reverse: a callee of the library that writes into its caller's object. -/
namespace Go.AI
open Go.Proofs
/-- Cells, written from a place on. -/
def over (c : Array Value) : Nat → List Value → Array Value
  | _, [] => c
  | o, v :: r => over (c.setIfInBounds o v) (o + 1) r
end Go.AI


namespace Go.AI
open Go.Proofs
set_option maxRecDepth 20000
/-- Back from a place to the start. -/
def back (frm : List (Int × Int)) : Nat → Int × Int → List Int
  | 0, _ => []
  | f + 1, p => if p.1 < 0 then [] else p.2 :: back frm f (frm.getD p.1.toNat (-1, -1))
/-- Each place was found from an earlier one. -/
structure Linked (S : Srch) : Prop where
  len : S.frm.length = S.sts.length
  frm : ∀ k (h : k < S.frm.length), S.frm[k].1 < k
  flt : S.flt.1 < S.sts.length
  most : S.sts.length ≤ 4096
end Go.AI


namespace Go.AI
open Go.Proofs
set_option maxRecDepth 20000
end Go.AI


namespace Go.AI
open Go.Proofs
set_option maxRecDepth 20000
theorem exOk_leaf (o v i : Int) : exOk (.mk o v i []) := ⟨Nat.zero_le _, trivial⟩
theorem exOk_two {o v i : Int} {a b : Ex} (ha : exOk a) (hb : exOk b) : exOk (.mk o v i [a, b]) := ⟨by simp [max63], ha, hb, trivial⟩
end Go.AI


/- Plain laws: decimal texts; the counter up to a number. -/
namespace Go.AI
set_option maxRecDepth 20000
section
variable {h : Int} (h1 : 1 ≤ h) (h2 : h ≤ 8191)
include h1 h2
variable {k : Int} (k1 : 0 ≤ k) (k2 : k ≤ h)
omit h1 in
include k1 k2 in
include k1 k2 in
omit h1 in
include k1 k2 in
omit h1 in
include k1 k2 in
omit h1 in
include k1 k2 in
include k1 k2 in
include k1 k2 in
end
end Go.AI


/- Plain law: what is reached of the counter up to a number. -/
namespace Go.AI
set_option maxRecDepth 20000
def cnt (n : Nat) : List Sta := (List.range n).map fun (i : Nat) => (⟨0, [(i : Int)]⟩ : Sta)
section
variable {H : Nat} (h1 : 1 ≤ H) (h2 : H ≤ 8191)
include h1 h2
end
end Go.AI


namespace Go.AI
open Go.Proofs
set_option maxRecDepth 20000
/-- Arguments in other words. -/
theorem ASpecT.co {g : Nat} {tab : Obj} {P : Program} {f : FuncId} {args args' : List D} {O O' : List Heap} {res : D} {Hr : Heap} (h : ASpecT g tab P f args' O res Hr O') (hc : CoDL args args') : ASpecT g tab P f args O res Hr O' :=
  fun E K ρ w vs hw ht hr => h E K ρ w vs hw ht (hc.rep hr)
end Go.AI


namespace Go.AI
open Go.Proofs
set_option maxRecDepth 20000
end Go.AI


/- The way from a row to a contract. -/
namespace Go.Proofs.YtonnakcgopcfnaaDoor
open Go.ChangeShapes Go.WideShapes Go.ChangeAt Go.RowKit
set_option maxRecDepth 100000
theorem Tryd.own : ownKnob Tryd.prog.godebug = none := by kernel_rfl
theorem powG : Tryd.prog.globalNamed "internal/strconv.uint64pow10" = some 0 := by kernel_rfl
theorem isTab0 : AI.IsTab 0 := fun _ _ _ h => AI.tabIs_of powG h
theorem tab_of_laid {W : World} (h : laidMetH Tryd.prog [("math/bits.deBruijn32tab", Rows.laid_math_bits_deBruijn32tab), ("math/bits.deBruijn64tab", Rows.laid_math_bits_deBruijn64tab), ("internal/strconv.uint64pow10", Rows.laid_internal_strconv_uint64pow10)] W) :
    ∃ ty fr, W.heap[0]? = some (AI.ptab ty fr) := by
  rw [MakeChecks.laidMetH_plain _ _ _ (by kernel_rfl)] at h
  have h3 := laidMet.tail (laidMet.tail h)
  have hT : Lib.TabIs Tryd.prog W "internal/strconv.uint64pow10" .u64 Lib.pow10Tab :=
    Lib.tabIs_of_head (t := 271) (e := 23) (n := 20) powG (by kernel_rfl) (by kernel_rfl) (by kernel_rfl) (by kernel_rfl) (by kernel_rfl) (rest := []) h3
  unfold Lib.TabIs World.var? at hT
  rw [powG] at hT
  simp only [Option.bind_some] at hT
  cases hc : W.heap[0]? with
  | none => rw [hc] at hT; cases hT
  | some o =>
    rw [hc] at hT
    cases o with
    | cells cs ty fr =>
      simp only [Option.some.injEq] at hT
      subst hT
      exact ⟨ty, fr, rfl⟩
    | _ => cases hT
/-- A contract with no memory of one's own, from the outside. -/
theorem calls_of {f : FuncId} {args : List AI.D} {vs : List Value} {b : Bool} {W : World} {ty : TypeId} {fr : Nat × Nat} (h0 : W.heap[0]? = some (AI.ptab ty fr))
    (hcall : ∀ a w, (callFunc f a).run Tryd.prog w = .ok (.enter f a) w) (hs : AI.ASpecT 0 (AI.ptab ty fr) Tryd.prog f args [] (AI.bb b) [] [])
    {K : AI.Kn} (hK : ∀ bl o x, K bl o = some x → W.cell? ⟨bl, o, none⟩ = some x) (hr : ∀ ρ sh, AI.RepDL K ρ sh vs args) :
    Calls Tryd.prog f vs.toArray W fun e W' => e = .returned (.bool b) ∧ (∀ i, i < W.heap.size → W'.heap[i]? = W.heap[i]?) ∧ W'.os = W.os ∧ W'.output = W.output := by
  let ρ : Nat → Nat → AI.Loc := fun _ _ => ⟨0, 0, none⟩
  have hobj : ∀ d n, AI.objAt [] d n = none := fun d n => by simp [AI.objAt]
  have hI : AI.HInv (AI.Env.of K ρ W) K ρ [] W :=
    ⟨hK, (fun d n ob e => absurd ((hobj d n).symm.trans e) (by simp)), (fun d n ob d' n' ob' e => absurd ((hobj d n).symm.trans e) (by simp)), Nat.le_refl _, fun _ _ _ => rfl, (fun n ob e => absurd ((hobj 0 n).symm.trans e) (by simp)), fun _ => rfl, fun _ _ _ h => h, fun _ _ _ h => .inl h, rfl, rfl, rfl⟩
  have ht : AI.TabQ 0 (AI.ptab ty fr) [] ρ W := ⟨h0, fun d n x e => by simp [AI.shape, hobj] at e⟩
  rcases hs _ K ρ W vs hI ht (hr _ _) with ⟨_, h⟩ | ⟨v, w', h, _⟩
  · refine h.mono fun e W' => ?_
    rintro ⟨v, rfl, K', ρ', h1, h2⟩
    obtain rfl := AI.inv_v h2
    refine ⟨rfl, fun i hi => h1.old i hi fun d n ob e => ?_, h1.rest.2.1, h1.rest.2.2⟩
    simp [AI.objAt] at e
  · rw [hcall] at h
    cases h
theorem kept_of {W W' : World} {P : MemPlace → Prop} (h : ∀ i, i < W.heap.size → W'.heap[i]? = W.heap[i]?) (h1 : W'.os = W.os) (h2 : W'.output = W.output) : W.keptBut W' P := by
  refine ⟨h1, h2, fun i hi => ?_⟩
  rw [h i hi]
  exact (World.keptBut_refl W P).2.2 i hi
end Go.Proofs.YtonnakcgopcfnaaDoor


namespace Go.AI
open Go.Proofs
set_option maxRecDepth 20000
def byteOk (l : List Int) : Prop := ∀ b ∈ l, 0 ≤ b ∧ b ≤ 255
def b0 (l : List Int) : Int := match l with
  | [] => 0
  | b :: _ => b
end Go.AI


namespace Go.AI
open Go.Proofs
set_option maxRecDepth 20000
/-- Right bytes, and counts that do not grow far. -/
structure gOk (r : Ex × List Int × Nat) (n : Nat) (N : Nat) : Prop where
  b : byteOk r.2.1
  l : r.2.1.length ≤ n
  k : r.2.2 ≤ N
end Go.AI


namespace Go.AI
open Go.Proofs
set_option maxRecDepth 20000
structure byt (b : Int) : Prop where
  h0 : 0 ≤ b
  h1 : b ≤ 255
theorem byt.m2 {b : Int} (h : byt b) : b.tmod 2 = b % 2 := Int.tmod_eq_emod_of_nonneg h.h0
def tyOf (t : Bool) : Int := match t with
  | true => 1
  | false => 2
end Go.AI


namespace Go.AI
open Go.Proofs
set_option maxRecDepth 20000
def pairOk (p : Int × Int) : Prop := -128 ≤ p.1 ∧ p.1 ≤ 127 ∧ -128 ≤ p.2 ∧ p.2 ≤ 127
end Go.AI


namespace Go.AI
open Go.Proofs
set_option maxRecDepth 20000
/-- A line of a sketch, and a sketch. -/
structure Lin where
  a0 : Int
  a1 : Int
  a2 : Int
  g : List Int
  u : List Int
structure Sk where
  locs : Int
  marks : Int
  rngs : List (Int × Int)
  lines : List Lin
structure linOk (x : Lin) : Prop where
  a0 : 0 ≤ x.a0 ∧ x.a0 ≤ 255
  a1 : 0 ≤ x.a1 ∧ x.a1 ≤ 255
  a2 : 0 ≤ x.a2 ∧ x.a2 ≤ 255
  g : byteOk x.g
  gl : x.g.length ≤ max63
  u : byteOk x.u
  ul : x.u.length ≤ max63
structure skOk (k : Sk) : Prop where
  locs : 0 ≤ k.locs ∧ k.locs ≤ 255
  marks : 0 ≤ k.marks ∧ k.marks ≤ 255
  rl : k.rngs.length ≤ max63
  r : ∀ p ∈ k.rngs, pairOk p
  ll : k.lines.length ≤ max63
  l : ∀ x ∈ k.lines, linOk x
end Go.AI


/- Arguments: slices and structs of them, opened to data, and read again behind the call. -/
namespace Go.Proofs.YtonnakcgopcfnaaDoor
open Go.ChangeShapes Go.WideShapes Go.ChangeAt Go.RowKit Go.Deep Go.WideElems
set_option maxRecDepth 100000
/-- All that memory holds. -/
def KW (W : World) : AI.Kn := fun b o => W.cell? ⟨b, o, none⟩
theorem KW_ok (W : World) : ∀ bl o x, KW W bl o = some x → W.cell? ⟨bl, o, none⟩ = some x := fun _ _ _ h => h
section
variable {H : Type} {enc : TypeId × Value → H} {P : Program} {W : World}
/-- What is read of a type is data of a kind. -/
def Opn (enc : TypeId × Value → H) (P : Program) (W : World) (t : TypeId) (R : List AI.I → Prop) : Prop :=
  ∀ n cs x, DataW.trod enc P W 0 (fun _ => true) true n t cs = some x → ∃ is, AI.RepL (KW W) cs is ∧ R is
theorem repL_app {K : AI.Kn} {a b : List Value} {c d : List AI.I} (h : AI.RepL K a c) (h' : AI.RepL K b d) : AI.RepL K (a ++ b) (c ++ d) := h.append h'
theorem opn_int {t : TypeId} {k : IntKind} (ht : P.underlying t = some (.int k)) : Opn enc P W t fun is => ∃ z, is = [.v (.int k z)] ∧ (Lit.int k z).wf = true := by
  intro n cs x h
  obtain ⟨z, rfl, rfl, hw⟩ := DataW.trod_int ht h
  exact ⟨[.v (.int k z)], .cons (.v rfl) .nil, z, rfl, hw⟩
/-- A slice. -/
theorem opn_slice {t e : TypeId} {z : Nat} {R : List AI.I → Prop} (ht : P.underlying t = some (.slice e)) (hc : P.cellsOf e = z) (hz : 0 < z) (he : Opn enc P W e R) :
    Opn enc P W t fun is => ∃ xs : List (List AI.I), is = [.sl z xs.length xs] ∧ (∀ d ∈ xs, R d) ∧ xs.length ≤ maxLen := by
  intro n cs x h
  rcases open_slice ht h with ⟨rfl, _⟩ | ⟨a, len, cap, m, f, D, Pl, rfl, _, hle, hm, hmm, _, hx⟩
  · exact ⟨[.sl z 0 []], .cons .nil .nil, [], rfl, by simp, Nat.zero_le _⟩
  · simp only [if_true] at hmm
    subst hmm
    rw [hc] at hx
    by_cases h0 : m = 0
    · subst h0
      obtain rfl : len = 0 := by omega
      exact ⟨[.sl z 0 []], .cons .nil .nil, [], rfl, by simp, Nat.zero_le _⟩
    · have hspot : a.spot = none := by
        obtain ⟨cs', h1, _⟩ := hx 0 (by omega)
        obtain ⟨_, hl, hcell⟩ := World.cells?_some h1
        have := hcell 0 hz
        rw [Nat.zero_mul] at this
        have ha : (a.add 0).add 0 = a := by simp [Addr.add]
        rw [ha, List.getElem?_eq_getElem (by omega)] at this
        unfold World.cell? at this
        cases hsp : a.spot with
        | none => rfl
        | some s =>
          rw [hsp] at this
          split at this <;> simp at this
      obtain ⟨bl, o, sp⟩ := a
      simp only at hspot
      subst hspot
      have build : ∀ k, k ≤ len → ∃ (xs : List (List AI.I)) (vs : List Value), xs.length = k ∧ vs.length = k * z ∧ AI.RepL (KW W) vs xs.flatten ∧ (∀ d ∈ xs, R d) ∧ (∀ d ∈ xs, d.length = z) ∧ ∀ j c, vs[j]? = some c → KW W bl (o + j) = some c := by
        intro k
        induction k with
        | zero => intro _; exact ⟨[], [], rfl, by simp, .nil, by simp, by simp, by simp⟩
        | succ k ih =>
          intro hk
          obtain ⟨xs, vs, h1, h2, h3, h4, h5, h6⟩ := ih (by omega)
          obtain ⟨cs', hc1, hc2⟩ := hx k (by omega)
          obtain ⟨_, hl, hcell⟩ := World.cells?_some hc1
          obtain ⟨is, hr, hR⟩ := he f cs' _ hc2
          refine ⟨xs ++ [is], vs ++ cs', by simp [h1], by simp [h2, hl, Nat.add_mul], ?_, ?_, ?_, ?_⟩
          · rw [List.flatten_append]
            simpa using repL_app h3 hr
          · intro d hd
            rcases List.mem_append.1 hd with h | h
            · exact h4 d h
            · simp only [List.mem_singleton] at h
              subst h
              exact hR
          · intro d hd
            rcases List.mem_append.1 hd with h | h
            · exact h5 d h
            · simp only [List.mem_singleton] at h
              subst h
              rw [← hr.length, hl]
          · intro j c hj
            rw [List.getElem?_append] at hj
            split at hj
            · exact h6 j c hj
            · rename_i hge
              have hlt : j - vs.length < cs'.length := (List.getElem?_eq_some_iff.1 hj).1
              have := hcell (j - vs.length) (by omega)
              rw [hj] at this
              unfold KW
              rw [← this]
              have e : ((⟨bl, o, none⟩ : Addr).add (k * z)).add (j - vs.length) = ⟨bl, o + j, none⟩ := by
                have e1 : (⟨bl, o, none⟩ : Addr).add (k * z) = ⟨bl, o + k * z, none⟩ := by unfold Addr.add; split <;> simp_all
                rw [e1]
                unfold Addr.add
                split
                · simp <;> omega
                · simp <;> omega
              rw [e]
      obtain ⟨xs, vs, h1, h2, h3, h4, h5, h6⟩ := build len (Nat.le_refl _)
      refine ⟨[.sl z xs.length xs], .cons ?_ .nil, xs, rfl, h4, by omega⟩
      rw [h1]
      exact .sl h3 h5 h6 hle h1
/-- Structs of three fields, and of two. -/
theorem opn_struct3 {t : TypeId} {f0 f1 f2 : Field} {R0 R1 R2 : List AI.I → Prop} {z0 z1 z2 : Nat} (ht : P.underlying t = some (.struct #[f0, f1, f2])) (hc : P.cellsOf t = z0 + z1 + z2)
    (c0 : P.cellsOf f0.type = z0) (c1 : P.cellsOf f1.type = z1) (c2 : P.cellsOf f2.type = z2) (o0 : f0.offset = 0) (o1 : f1.offset = z0) (o2 : f2.offset = z0 + z1)
    (h0 : Opn enc P W f0.type R0) (h1 : Opn enc P W f1.type R1) (h2 : Opn enc P W f2.type R2) : Opn enc P W t fun is => ∃ a b c, is = a ++ b ++ c ∧ R0 a ∧ R1 b ∧ R2 c := by
  intro n cs x h
  obtain ⟨y0, y1, y2, m, _, hl, g0, g1, g2⟩ := trod_struct3 ht h
  obtain ⟨a, ra, ha⟩ := h0 _ _ _ g0
  obtain ⟨b, rb, hb⟩ := h1 _ _ _ g1
  obtain ⟨c, rc, hcc⟩ := h2 _ _ _ g2
  refine ⟨a ++ b ++ c, ?_, a, b, c, rfl, ha, hb, hcc⟩
  have e : cs = (cs.drop f0.offset).take (P.cellsOf f0.type) ++ (cs.drop f1.offset).take (P.cellsOf f1.type) ++ (cs.drop f2.offset).take (P.cellsOf f2.type) := by
    rw [c0, c1, c2, o0, o1, o2, List.drop_zero]
    have e1 : (cs.drop (z0 + z1)).take z2 = cs.drop (z0 + z1) := List.take_of_length_le (by simp; omega)
    rw [e1]
    have e2 : cs.drop (z0 + z1) = (cs.drop z0).drop z1 := by rw [List.drop_drop]
    rw [e2, List.append_assoc, List.take_append_drop, List.take_append_drop]
  rw [e]
  exact repL_app (repL_app ra rb) rc
theorem opn_struct4 {t : TypeId} {f0 f1 f2 f3 : Field} {R0 R1 R2 R3 : List AI.I → Prop} {z0 z1 z2 z3 : Nat} (ht : P.underlying t = some (.struct #[f0, f1, f2, f3])) (hc : P.cellsOf t = z0 + z1 + z2 + z3)
    (c0 : P.cellsOf f0.type = z0) (c1 : P.cellsOf f1.type = z1) (c2 : P.cellsOf f2.type = z2) (c3 : P.cellsOf f3.type = z3) (o0 : f0.offset = 0) (o1 : f1.offset = z0) (o2 : f2.offset = z0 + z1) (o3 : f3.offset = z0 + z1 + z2)
    (h0 : Opn enc P W f0.type R0) (h1 : Opn enc P W f1.type R1) (h2 : Opn enc P W f2.type R2) (h3 : Opn enc P W f3.type R3) : Opn enc P W t fun is => ∃ a b c d, is = a ++ b ++ c ++ d ∧ R0 a ∧ R1 b ∧ R2 c ∧ R3 d := by
  intro n cs x h
  obtain ⟨y0, y1, y2, y3, m, _, hl, g0, g1, g2, g3⟩ := Go.Joins.trod_struct4 ht h
  obtain ⟨a, ra, ha⟩ := h0 _ _ _ g0
  obtain ⟨b, rb, hb⟩ := h1 _ _ _ g1
  obtain ⟨c, rc, hcc⟩ := h2 _ _ _ g2
  obtain ⟨d, rd, hd⟩ := h3 _ _ _ g3
  refine ⟨a ++ b ++ c ++ d, ?_, a, b, c, d, rfl, ha, hb, hcc, hd⟩
  have e : cs = (cs.drop f0.offset).take (P.cellsOf f0.type) ++ (cs.drop f1.offset).take (P.cellsOf f1.type) ++ (cs.drop f2.offset).take (P.cellsOf f2.type) ++ (cs.drop f3.offset).take (P.cellsOf f3.type) := by
    rw [c0, c1, c2, c3, o0, o1, o2, o3, List.drop_zero]
    have e1 : (cs.drop (z0 + z1 + z2)).take z3 = cs.drop (z0 + z1 + z2) := List.take_of_length_le (by simp; omega)
    rw [e1]
    have e2 : cs.drop (z0 + z1 + z2) = ((cs.drop z0).drop z1).drop z2 := by rw [List.drop_drop, List.drop_drop, Nat.add_assoc]
    have e3 : cs.drop (z0 + z1) = (cs.drop z0).drop z1 := by rw [List.drop_drop]
    rw [e2, e3, List.append_assoc, List.take_append_drop, List.append_assoc, List.take_append_drop, List.take_append_drop]
  rw [e]
  exact repL_app (repL_app (repL_app ra rb) rc) rd
/-- Read again behind the call. -/
theorem args_again {t : TypeId} (hl : laidOutB P = true) (hr : P.readableRec t = true) (hrow : decide (t < P.types.size) = true) {W' : World} {v : Value} {d : DataW H} {ps : List MemPlace}
    (h : DataW.Trod enc P W 0 (fun _ => true) true t v d ps) (hold : ∀ i, i < W.heap.size → W'.heap[i]? = W.heap[i]?) : DataW.Trod enc P W' 0 (fun b => decide (b < W.heap.size)) true t v d ps := by
  have hlt : ∀ p ∈ ps, p.block < W.heap.size := by
    obtain ⟨n, hn⟩ := h
    exact DataW.trod_lt n t _ _ hn
  refine Trod_stays hl hr (of_decide_eq_true hrow) h (fun p hp => ?_) (fun p hp => decide_eq_true (hlt p hp))
  have hb := hlt p hp
  cases p with
  | cell b off =>
    show W'.cell? ⟨b, off, none⟩ = W.cell? ⟨b, off, none⟩
    unfold World.cell?
    rw [hold b hb]
  | map b => exact hold b hb
end
end Go.Proofs.YtonnakcgopcfnaaDoor


/- The arguments of the statements about sketched automata: data. -/
namespace Go.Proofs.YtonnakcgopcfnaaDoor
open Go.ChangeShapes Go.WideShapes Go.ChangeAt Go.RowKit Go.Deep Go.WideElems
set_option maxRecDepth 100000
section
variable {H : Type} {enc : TypeId × Value → H} {W : World}
theorem list_of {α β : Type} {f : α → β} {Q : α → Prop} : ∀ {xs : List β}, (∀ d ∈ xs, ∃ a, d = f a ∧ Q a) → ∃ l : List α, xs = l.map f ∧ ∀ a ∈ l, Q a
  | [], _ => ⟨[], rfl, by simp⟩
  | d :: xs, h => by
    obtain ⟨a, ha, hq⟩ := h d (by simp)
    obtain ⟨l, hl, hql⟩ := list_of (xs := xs) fun e he => h e (by simp [he])
    refine ⟨a :: l, by rw [ha, hl]; rfl, fun b hb => ?_⟩
    rcases List.mem_cons.1 hb with rfl | hb
    · exact hq
    · exact hql b hb
theorem maxLen63 {n : Nat} (h : n ≤ maxLen) : n ≤ AI.max63 := by
  simp only [maxLen] at h
  simp only [AI.max63]
  omega
/-- Ints, and lists of them. -/
theorem opn_ints : Opn enc Tryd.prog W 53 fun is => ∃ l : List Int, is = [AI.intsI l] ∧ l.length ≤ AI.max63 := by
  intro n cs x h
  obtain ⟨is, hr, xs, rfl, hx, hl⟩ := opn_slice Tryd.underlying53 (z := 1) (by kernel_rfl) (by decide) (opn_int Tryd.underlying3) n cs x h
  obtain ⟨l, rfl, -⟩ := list_of (f := fun z : Int => [AI.vi z]) (Q := fun _ => True) (xs := xs) fun d hd => by
    obtain ⟨z, hz, _⟩ := hx d hd
    exact ⟨z, hz, trivial⟩
  refine ⟨_, hr, l, by simp, maxLen63 (by simpa using hl)⟩
end
end Go.Proofs.YtonnakcgopcfnaaDoor


namespace Go.AI
open Go.Proofs
set_option maxRecDepth 20000
instance staDec : DecidableEq Sta := fun a b => decidable_of_iff (a.loc = b.loc ∧ a.vals = b.vals) ⟨fun ⟨h1, h2⟩ => by cases a; cases b; cases h1; cases h2; rfl, fun h => by subst h; exact ⟨rfl, rfl⟩⟩
end Go.AI


namespace Go.AI
open Go.Proofs
set_option maxRecDepth 20000
/-- Start. -/
def begR (m : Ext) : Sta × Int := if chk m ≠ 0 then (zeroS, chk m) else (startR m, 0)
theorem begin20 (O : List Heap) (m : Ext) (hok : extOk m) : ASpec Tryd.prog 104 [extD m] O (.tup [staD (begR m).1, ii (begR m).2]) [] O := by
  have hv : chk m = 0 → m.vars.length ≤ 16 := by
    intro h
    by_cases h2 : m.vars.length ≤ 16
    · exact h2
    · exfalso
      have e : varsErr m.vars = 3 := by
        unfold varsErr
        rw [if_pos (by omega)]
      unfold chk at h
      rw [e] at h
      revert h
      repeat' split
      all_goals omega
  generalize hR : begR m = R
  unfold begR at hR
  refine aspec_intro Tk Tryd.func104 rfl Tryd.call104 Tryd.ntmps104 (Nat.le_of_ble_eq_true rfl) fun E => ?_
  refine g_run Tk Tryd.func104 ?_
  first | refine g_call Tk Tryd.func104 (check40 _ m hok) rfl rfl rfl rfl rfl ?_ | refine s_callq Tk (fun _ => check40 _ m hok) rfl rfl rfl ?_
  first | refine g_cnd Tk Tryd.func104 rfl (fun h1 => ?_) (fun h1 => ?_) | refine g_know Tk Tryd.func104 rfl (fun h1 => ?_) (fun h1 => ?_) | refine s_know Tk (fun h1 => ?_) (fun h1 => ?_)
  · have h1 := bneT h1
    rw [if_pos h1] at hR
    subst hR
    refine g_ret_co Tk (r := _) rfl rfl rfl trivial rfl rfl ?_
    repeat' (first | refine coD_tup ?_ | refine coD_agg ?_ | refine coD_i ?_ | refine CoDL.cons ?_ ?_ | exact CoDL.nil | exact coI_nil | refine coI_sl ?_ | refine CoLL.cons ?_ ?_ | exact CoLL.nil | refine CoL.cons ?_ ?_ | exact CoL.nil | exact CoI.refl _ | exact CoL.refl _ | exact CoLL.refl _ | exact CoDL.refl _ | exact CoD.refl _)
  have h1 := bneF h1
  rw [if_neg (by simpa using h1)] at hR
  subst hR
  first | refine g_call Tk Tryd.func104 (start48 _ m (hv (by simpa using h1))) rfl rfl rfl rfl rfl ?_ | refine s_callq Tk (fun _ => start48 _ m (hv (by simpa using h1))) rfl rfl rfl ?_
  refine g_ret Tk (r := .tup [staD (startR m), ii 0]) rfl rfl rfl trivial rfl rfl ?_
  rfl
end Go.AI


namespace Go.AI
open Go.Proofs
set_option maxRecDepth 20000
end Go.AI


namespace Go.AI
open Go.Proofs
set_option maxRecDepth 20000
/-- CheckState. -/
def ckS (m : Ext) (s : Sta) : Int :=
  if chk m ≠ 0 then chk m else if s.loc < 0 ∨ s.loc ≥ m.locs then 2 else if s.vals.length ≠ m.vars.length then 4 else if within m.vars s.vals = false then 2 else 0
theorem checkState28 (O : List Heap) (m : Ext) (s : Sta) (hok : extOk m) : ASpec Tryd.prog 115 [extD m, staD s] O (ii (ckS m s)) [] O := by
  generalize hR : ckS m s = R
  unfold ckS at hR
  obtain ⟨sl, sv⟩ := s
  simp only at hR
  have hw := fun O => within52 O m.vars sv hok.va
  generalize within m.vars sv = W at hw hR
  refine aspec_intro Tk Tryd.func115 rfl Tryd.call115 Tryd.ntmps115 (Nat.le_of_ble_eq_true rfl) fun E => ?_
  refine g_run Tk Tryd.func115 ?_
  first | refine g_call Tk Tryd.func115 (check40 _ m hok) rfl rfl rfl rfl rfl ?_ | refine s_callq Tk (fun _ => check40 _ m hok) rfl rfl rfl ?_
  first | refine g_cnd Tk Tryd.func115 rfl (fun h1 => ?_) (fun h1 => ?_) | refine g_know Tk Tryd.func115 rfl (fun h1 => ?_) (fun h1 => ?_) | refine s_know Tk (fun h1 => ?_) (fun h1 => ?_)
  · have h1 := bneT h1
    rw [if_pos h1] at hR
    refine g_ret Tk (r := ii (chk m)) rfl rfl rfl trivial rfl rfl ?_
    exact congrArg ii hR
  have h1 := bneF h1
  rw [if_neg (by simpa using h1)] at hR
  first | refine g_cnd Tk Tryd.func115 rfl (fun h2 => ?_) (fun h2 => ?_) | refine g_know Tk Tryd.func115 rfl (fun h2 => ?_) (fun h2 => ?_) | refine s_know Tk (fun h2 => ?_) (fun h2 => ?_)
  · have h2 : sl < 0 := by simpa using h2
    rw [if_pos (.inl h2)] at hR
    repeat (first | refine g_cnd Tk Tryd.func115 rfl (fun _ => ?_) (fun h => absurd h (by decide)) | refine g_cnd Tk Tryd.func115 rfl (fun h => absurd h (by decide)) (fun _ => ?_) | refine g_know Tk Tryd.func115 rfl (fun _ => ?_) (fun h => absurd h (by decide)) | refine g_know Tk Tryd.func115 rfl (fun h => absurd h (by decide)) (fun _ => ?_) | refine s_know Tk (fun _ => ?_) (fun h => absurd h (by decide)) | refine s_know Tk (fun h => absurd h (by decide)) (fun _ => ?_))
    refine g_ret Tk (r := ii 2) rfl rfl rfl trivial rfl rfl ?_
    exact congrArg ii hR
  have h2 : ¬ sl < 0 := by simpa using h2
  first | refine g_cnd Tk Tryd.func115 rfl (fun h3 => ?_) (fun h3 => ?_) | refine g_know Tk Tryd.func115 rfl (fun h3 => ?_) (fun h3 => ?_) | refine s_know Tk (fun h3 => ?_) (fun h3 => ?_)
  · have h3 : m.locs ≤ sl := by simpa using h3
    rw [if_pos (.inr h3)] at hR
    refine g_ret Tk (r := ii 2) rfl rfl rfl trivial rfl rfl ?_
    exact congrArg ii hR
  have h3 : ¬ m.locs ≤ sl := by simpa using h3
  rw [if_neg (by rintro (h | h); exact h2 h; exact h3 h)] at hR
  first | refine g_cnd Tk Tryd.func115 rfl (fun h4 => ?_) (fun h4 => ?_) | refine g_know Tk Tryd.func115 rfl (fun h4 => ?_) (fun h4 => ?_) | refine s_know Tk (fun h4 => ?_) (fun h4 => ?_)
  · have h4 := bneT h4
    rw [if_pos (by intro e; exact h4 (by rw [e]))] at hR
    refine g_ret Tk (r := ii 4) rfl rfl rfl trivial rfl rfl ?_
    exact congrArg ii hR
  have h4 := bneF h4
  have h4 : sv.length = m.vars.length := by
    have : ((sv.length : Nat) : Int) = m.vars.length := by simpa using h4
    omega
  rw [if_neg (by rw [h4]; simp)] at hR
  first | refine g_call Tk Tryd.func115 (hw _) rfl rfl rfl rfl rfl ?_ | refine s_callq Tk (fun _ => hw _) rfl rfl rfl ?_
  cases W with
  | false =>
    repeat (first | refine g_cnd Tk Tryd.func115 rfl (fun _ => ?_) (fun h => absurd h (by decide)) | refine g_cnd Tk Tryd.func115 rfl (fun h => absurd h (by decide)) (fun _ => ?_) | refine g_know Tk Tryd.func115 rfl (fun _ => ?_) (fun h => absurd h (by decide)) | refine g_know Tk Tryd.func115 rfl (fun h => absurd h (by decide)) (fun _ => ?_) | refine s_know Tk (fun _ => ?_) (fun h => absurd h (by decide)) | refine s_know Tk (fun h => absurd h (by decide)) (fun _ => ?_))
    refine g_ret Tk (r := ii 2) rfl rfl rfl trivial rfl rfl ?_
    exact congrArg ii hR
  | true =>
    repeat (first | refine g_cnd Tk Tryd.func115 rfl (fun _ => ?_) (fun h => absurd h (by decide)) | refine g_cnd Tk Tryd.func115 rfl (fun h => absurd h (by decide)) (fun _ => ?_) | refine g_know Tk Tryd.func115 rfl (fun _ => ?_) (fun h => absurd h (by decide)) | refine g_know Tk Tryd.func115 rfl (fun h => absurd h (by decide)) (fun _ => ?_) | refine s_know Tk (fun _ => ?_) (fun h => absurd h (by decide)) | refine s_know Tk (fun h => absurd h (by decide)) (fun _ => ?_))
    refine g_ret Tk (r := ii 0) rfl rfl rfl trivial rfl rfl ?_
    exact congrArg ii hR
end Go.AI


namespace Go.AI
open Go.Proofs
set_option maxRecDepth 20000
/-- Step. -/
def stpR (m : Ext) (s : Sta) (ev : Int) : Sta × Bool × Int := if ckS m s ≠ 0 then (zeroS, false, ckS m s) else if ev ∉ m.alpha then (zeroS, false, 9) else stepR m s ev
theorem ckS_right {m : Ext} {s : Sta} (h : ckS m s = 0) : chk m = 0 ∧ s.vals.length = m.vars.length ∧ within m.vars s.vals = true ∧ 0 ≤ s.loc ∧ s.loc < m.locs := by
  unfold ckS at h
  by_cases h1 : chk m ≠ 0
  · rw [if_pos h1] at h; exact absurd h h1
  rw [if_neg h1] at h
  by_cases h2 : s.loc < 0 ∨ s.loc ≥ m.locs
  · rw [if_pos h2] at h; cases h
  rw [if_neg h2] at h
  by_cases h3 : s.vals.length ≠ m.vars.length
  · rw [if_pos h3] at h; cases h
  rw [if_neg h3] at h
  by_cases h4 : within m.vars s.vals = false
  · rw [if_pos h4] at h; cases h
  exact ⟨by simpa using h1, by simpa using h3, by simpa using h4, by omega, by omega⟩
theorem step31 (O : List Heap) (m : Ext) (s : Sta) (ev : Int) (hok : extOk m) : ASpec Tryd.prog 108 [extD m, staD s, ii ev] O (.tup [staD (stpR m s ev).1, bb (stpR m s ev).2.1, ii (stpR m s ev).2.2]) [] O := by
  have hck := fun O => checkState28 O m s hok
  have hs := @ckS_right m s
  have hst := fun O hr hl => step50 O m s ev hok hr hl
  generalize hR : stpR m s ev = R
  unfold stpR at hR
  generalize ckS m s = c at *
  refine aspec_intro Tk Tryd.func108 rfl Tryd.call108 Tryd.ntmps108 (Nat.le_of_ble_eq_true rfl) fun E => ?_
  refine g_run Tk Tryd.func108 ?_
  first | refine g_call Tk Tryd.func108 (hck _) rfl rfl rfl rfl rfl ?_ | refine s_callq Tk (fun _ => hck _) rfl rfl rfl ?_
  first | refine g_cnd Tk Tryd.func108 rfl (fun h1 => ?_) (fun h1 => ?_) | refine g_know Tk Tryd.func108 rfl (fun h1 => ?_) (fun h1 => ?_) | refine s_know Tk (fun h1 => ?_) (fun h1 => ?_)
  · have h1 := bneT h1
    rw [if_pos h1] at hR
    subst hR
    refine g_ret_co Tk (r := _) rfl rfl rfl trivial rfl rfl ?_
    exact coZ
  have h1 := bneF h1
  rw [if_neg (by simpa using h1)] at hR
  obtain ⟨h2, h3, -⟩ := hs h1
  have hr := chk_right h2
  first | refine g_call Tk Tryd.func108 (contains49 _ m.alpha ev hok.al (checkSet_sorted hr.alpha).1) rfl rfl rfl rfl rfl ?_ | refine s_callq Tk (fun _ => contains49 _ m.alpha ev hok.al (checkSet_sorted hr.alpha).1) rfl rfl rfl ?_
  first | refine g_cnd Tk Tryd.func108 rfl (fun h4 => ?_) (fun h4 => ?_) | refine g_know Tk Tryd.func108 rfl (fun h4 => ?_) (fun h4 => ?_) | refine s_know Tk (fun h4 => ?_) (fun h4 => ?_)
  · have h4 : ev ∉ m.alpha := by simpa using h4
    rw [if_pos h4] at hR
    subst hR
    refine g_ret_co Tk (r := _) rfl rfl rfl trivial rfl rfl ?_
    exact coZ
  have h4 : ev ∈ m.alpha := by simpa using h4
  rw [if_neg (by simpa using h4)] at hR
  subst hR
  have hst := fun O => hst O hr h3
  generalize stepR m s ev = n at *
  obtain ⟨⟨nl, nv⟩, np, ne⟩ := n
  first | refine g_call Tk Tryd.func108 (hst _) rfl rfl rfl rfl rfl ?_ | refine s_callq Tk (fun _ => hst _) rfl rfl rfl ?_
  refine g_ret Tk (r := .tup [staD ⟨nl, nv⟩, bb np, ii ne]) rfl rfl rfl trivial rfl rfl ?_
  rfl
end Go.AI


namespace Go.AI
open Go.Proofs
set_option maxRecDepth 20000
mutual
def esz : Ex → Nat
  | .mk _ _ _ args => 1 + eszs args
def eszs : List Ex → Nat
  | [] => 0
  | e :: r => esz e + eszs r
end
mutual
def edep : Ex → Nat
  | .mk _ _ _ args => 1 + edeps args
def edeps : List Ex → Nat
  | [] => 0
  | e :: r => max (edep e) (edeps r)
end
/-- What a grown expression is like. -/
structure grown (vars : Int) (lv : Nat) (t : Bool) (k : Nat) (r : Ex × List Int × Nat) : Prop where
  wf : wfE vars r.1
  kind : kindR r.1 = tyOf t
  dep : edep r.1 ≤ lv + 2
  cnt : k < r.2.2
  sz : esz r.1 + 3 * min k 12 ≤ 3 * min r.2.2 12 + (if 12 ≤ k then 3 else if r.2.2 ≤ 12 then 0 else 6 * lv + 3)
end Go.AI


namespace Go.AI
open Go.Proofs
set_option maxRecDepth 20000
/-- What is known of the variables of a sketch. -/
structure vrOk (v : Vr) : Prop where
  lo : -4 ≤ v.low
  hi : v.high ≤ 7
  w : v.low ≤ v.high ∧ v.high ≤ v.low + 3
  ini : v.low ≤ v.init ∧ v.init ≤ v.high
  nm : v.name.size = 2
/-- In order. -/
def leMv (x y : Mv) : Prop := ¬ (y.frm < x.frm ∨ (y.frm = x.frm ∧ y.ev < x.ev))
/-- What a move of a sketch is like. -/
structure mvGood (L n : Int) (x : Mv) : Prop where
  frm : 0 ≤ x.frm ∧ x.frm < L
  to : 0 ≤ x.to ∧ x.to < L
  ev : x.ev = 0 ∨ x.ev = 1 ∨ x.ev = 2
  g : typedX x.g n 2 = 0
  us : x.us = [] ∨ ∃ u, x.us = [u] ∧ 0 ≤ u.v ∧ u.v < n ∧ typedX u.x n 1 = 0 ∧ exOk u.x
  gok : exOk x.g
/-- What a sketched automaton is like. -/
structure made (m : Ext) : Prop where
  al : m.alpha = [0, 1, 2]
  lo : 1 ≤ m.locs ∧ m.locs ≤ 4
  ini : m.init = 0
  vl : m.vars.length ≤ 2
  v : ∀ v ∈ m.vars, vrOk v
  ml : m.moves.length ≤ 8
  mv : ∀ x ∈ m.moves, mvGood m.locs m.vars.length x
  sorted : m.moves.Pairwise leMv
  ve : varsErr m.vars = 0
  ma : checkSet m.locs m.marked none = 0
  mal : m.marked.length ≤ 4
end Go.AI


namespace Go.AI
open Go.Proofs
set_option maxRecDepth 20000
/-- Right values of a sketched automaton. -/
structure valsOk (m : Ext) (l : List Int) : Prop where
  len : l.length = m.vars.length
  w : within m.vars l = true
end Go.AI


namespace Go.AI
open Go.Proofs
set_option maxRecDepth 20000
end Go.AI


namespace Go.AI
open Go.Proofs
set_option maxRecDepth 20000
theorem checkSet_aux {n : Int} : ∀ {l : List Int} {y : Int}, checkSet n l (some y) = 0 → y + 1 ≤ n → (l.length : Int) ≤ n - 1 - y
  | [], y, _, h => by simp only [List.length_nil]; omega
  | x :: r, y, h, hy => by
    simp only [checkSet] at h
    by_cases h1 : x < 0 ∨ x ≥ n
    · rw [if_pos h1] at h; exact absurd h (by decide)
    rw [if_neg h1] at h
    by_cases h2 : (some y).any (x ≤ ·) = true
    · rw [if_pos h2] at h; exact absurd h (by decide)
    rw [if_neg h2] at h
    have hxy : y < x := by simpa using h2
    have := checkSet_aux h (by omega)
    simp only [List.length_cons]
    omega
theorem checkSet_len {n : Int} (hn : 0 ≤ n) : ∀ {l : List Int}, checkSet n l none = 0 → (l.length : Int) ≤ n
  | [], _ => by simpa using hn
  | x :: r, h => by
    simp only [checkSet] at h
    by_cases h1 : x < 0 ∨ x ≥ n
    · rw [if_pos h1] at h; exact absurd h (by decide)
    rw [if_neg h1] at h
    have h' : checkSet n r (some x) = 0 := by simpa using h
    have := checkSet_aux h' (by omega)
    simp only [List.length_cons]
    omega
end Go.AI


namespace Go.AI
open Go.Proofs
set_option maxRecDepth 20000
end Go.AI


namespace Go.AI
open Go.Proofs
set_option maxRecDepth 20000
def rangeI (lo hi : Int) : List Int := (List.range (hi - lo + 1).toNat).map fun (k : Nat) => lo + k
def allStep (out : List (List Int)) (v : Vr) : List (List Int) := out.flatMap fun vals => (rangeI v.low v.high).map fun n => vals ++ [n]
/-- All values of variables, in order. -/
def allV (l : List Vr) : List (List Int) := l.foldl allStep [[]]
end Go.AI


/- Boxes, as plain data: containing, growing, covers. -/
namespace Go.AI
set_option maxRecDepth 20000
structure Bx where
  low : List Int
  high : List Int
def contB : List Int → List Int → List Int → Bool
  | v :: vs, l :: ls, h :: hs => !(decide (v < l) || decide (v > h)) && contB vs ls hs
  | _, _, _ => true
def Bx.has (b : Bx) (v : List Int) : Bool := contB v b.low b.high
def inBs (l : List Bx) (v : List Int) : Bool := l.any fun b => b.has v
def freeR (refused : List (List Int)) (b : Bx) : Bool := !refused.any b.has
/-! What a cover is. -/
/-- A box within another one. -/
def Bx.sub (a b : Bx) : Prop := a.low.length = b.low.length ∧ a.high.length = b.high.length ∧ (∀ i, b.low.getD i 0 ≤ a.low.getD i 0) ∧ ∀ i, a.high.getD i 0 ≤ b.high.getD i 0
theorem contB_mono : ∀ {v l h l' h' : List Int}, l.length = l'.length → h.length = h'.length → (∀ i, l'.getD i 0 ≤ l.getD i 0) → (∀ i, h.getD i 0 ≤ h'.getD i 0) → contB v l h = true → contB v l' h' = true
  | [], l, h, l', h', _, _, _, _, _ => by cases l' <;> cases h' <;> rfl
  | v :: vs, [], h, [], h', _, _, _, _, _ => by cases h' <;> rfl
  | v :: vs, [], h, _ :: _, h', e, _, _, _, _ => by cases e
  | v :: vs, _ :: _, h, [], h', e, _, _, _, _ => by cases e
  | v :: vs, l :: ls, [], l' :: ls', [], _, _, _, _, _ => rfl
  | v :: vs, l :: ls, [], l' :: ls', _ :: _, _, e, _, _, _ => by cases e
  | v :: vs, l :: ls, _ :: _, l' :: ls', [], _, e, _, _, _ => by cases e
  | v :: vs, l :: ls, h :: hs, l' :: ls', h' :: hs', e1, e2, e3, e4, g => by
    simp only [contB, Bool.and_eq_true, Bool.not_eq_true', Bool.or_eq_false_iff, decide_eq_false_iff_not] at g ⊢
    have a1 := e3 0
    have a2 := e4 0
    simp only [List.getD_cons_zero] at a1 a2
    refine ⟨⟨by omega, by omega⟩, contB_mono (by simpa using e1) (by simpa using e2) (fun i => by simpa using e3 (i + 1)) (fun i => by simpa using e4 (i + 1)) g.2⟩
theorem Bx.sub.has {a b : Bx} (h : a.sub b) {v : List Int} (g : a.has v = true) : b.has v = true := contB_mono h.1 h.2.1 h.2.2.1 h.2.2.2 g
/-- What all boxes of a list are. -/
structure CovOk (n : Nat) (refused : List (List Int)) (l : List Bx) : Prop where
  low : ∀ b ∈ l, b.low.length = n
  high : ∀ b ∈ l, b.high.length = n
  free : ∀ b ∈ l, freeR refused b = true
end Go.AI


/- Guards of boxes, as plain data: literals, joins, what they evaluate to. -/
namespace Go.AI
set_option maxRecDepth 20000
structure Lit where
  var : Nat
  lo : Int
  hi : Int
  fr : Bool
  to : Bool
/-- Values of variables. -/
def inV : List Vr → List Int → Prop
  | [], [] => True
  | v :: r, x :: xs => (v.low ≤ x ∧ x ≤ v.high) ∧ inV r xs
  | _, _ => False
end Go.AI


/- The domain of variables; covers, by tables. -/
namespace Go.AI
set_option maxRecDepth 20000
theorem inV_len : ∀ {l : List Vr} {v : List Int}, inV l v → v.length = l.length
  | [], [], _ => rfl
  | _ :: r, _ :: xs, h => by simp [inV_len h.2]
  | [], _ :: _, h => h.elim
  | _ :: _, [], h => h.elim
theorem inV_app : ∀ {l : List Vr} {v : List Int} {a : Vr} {n : Int}, v.length = l.length → (inV (l ++ [a]) (v ++ [n]) ↔ inV l v ∧ a.low ≤ n ∧ n ≤ a.high)
  | [], [], a, n, _ => by simp [inV]
  | b :: r, x :: xs, a, n, e => by
    have := inV_app (l := r) (v := xs) (a := a) (n := n) (by simpa using e)
    simp only [List.cons_append, inV, this]
    constructor
    · rintro ⟨h1, h2, h3⟩; exact ⟨⟨h1, h2⟩, h3⟩
    · rintro ⟨⟨h1, h2⟩, h3⟩; exact ⟨h1, h2, h3⟩
  | [], _ :: _, _, _, e => by cases e
  | _ :: _, [], _, _, e => by cases e
theorem mem_range {lo hi n : Int} : n ∈ rangeI lo hi ↔ lo ≤ n ∧ n ≤ hi := by
  unfold rangeI
  simp only [List.mem_map, List.mem_range]
  constructor
  · rintro ⟨k, hk, rfl⟩; omega
  · intro h; exact ⟨(n - lo).toNat, by omega, by omega⟩
theorem range_nodup (lo hi : Int) : (rangeI lo hi).Nodup := by
  unfold rangeI
  refine List.Pairwise.map _ ?_ List.nodup_range
  intro a b h e
  exact h (by omega)
/-- A list of values is the domain of variables. -/
structure DomOk (l : List Vr) (out : List (List Int)) : Prop where
  mem : ∀ v, v ∈ out ↔ inV l v
  nd : out.Nodup
theorem dom_step {l : List Vr} {out : List (List Int)} {a : Vr} (h : DomOk l out) : DomOk (l ++ [a]) (allStep out a) := by
  refine ⟨fun v => ?_, ?_⟩
  · unfold allStep
    simp only [List.mem_flatMap, List.mem_map]
    constructor
    · rintro ⟨w, hw, n, hn, rfl⟩
      have := (h.mem w).1 hw
      exact (inV_app (inV_len this)).2 ⟨this, mem_range.1 hn⟩
    · intro hv
      have hl := inV_len hv
      have hne : v ≠ [] := by intro e; subst e; simp at hl
      have e := List.dropLast_concat_getLast hne
      have hl2 : v.dropLast.length = l.length := by simp at hl ⊢; omega
      rw [← e] at hv
      obtain ⟨h1, h2⟩ := (inV_app hl2).1 hv
      exact ⟨_, (h.mem _).2 h1, _, mem_range.2 h2, e⟩
  · unfold allStep
    rw [List.nodup_iff_pairwise_ne, List.pairwise_flatMap]
    refine ⟨fun v _ => ?_, ?_⟩
    · refine List.Pairwise.map _ ?_ (List.nodup_iff_pairwise_ne.1 (range_nodup a.low a.high))
      intro x y hxy e
      exact hxy (by simpa using e)
    · refine List.Pairwise.imp ?_ (List.nodup_iff_pairwise_ne.1 h.nd)
      intro x y hxy u hu w hw e
      obtain ⟨n, _, rfl⟩ := List.mem_map.1 hu
      obtain ⟨k, _, rfl⟩ := List.mem_map.1 hw
      exact hxy (List.append_inj_left' e rfl)
theorem dom_fold : ∀ (r l : List Vr) (out : List (List Int)), DomOk l out → DomOk (l ++ r) (r.foldl allStep out)
  | [], l, out, h => by simpa using h
  | a :: r, l, out, h => by
    have := dom_fold r (l ++ [a]) (allStep out a) (dom_step h)
    simpa using this
theorem allV_dom (l : List Vr) : DomOk l (allV l) := by
  have := dom_fold l [] [[]] ⟨fun v => ?_, by simp⟩
  · simpa [allV] using this
  · cases v <;> simp [inV]
/-! Tables. -/
/-- What the cover of a table over a domain is. -/
structure CovR (l : List Vr) (all : List (List Int)) (t c : List Bool) (R : List Bx) : Prop where
  low : ∀ b ∈ R, b.low.length = l.length
  high : ∀ b ∈ R, b.high.length = l.length
  say : ∀ (i : Nat) v b, all[i]? = some v → t[i]? = some b → c[i]? = some true → inBs R v = b
  own : ∀ k1 b k2, R = k1 ++ b :: k2 → ∃ (i : Nat) (v : List Int), all[i]? = some v ∧ c[i]? = some true ∧ b.has v = true ∧ inBs (k1 ++ k2) v = false
end Go.AI


/- All, of any list of variables. -/
namespace Go.AI
open Go.Proofs
set_option maxRecDepth 20000
def Vr.w (v : Vr) : Int := v.high - v.low + 1
/-- The size of a domain, unless it is too large. -/
def cntR : List Vr → Int → Option Int
  | [], c => some c
  | v :: r, c => if c * v.w > 4096 then none else cntR r (c * v.w)
/-- All values, or the error. -/
def allG (l : List Vr) : List (List Int) × Int := if varsErr l ≠ 0 then ([], varsErr l) else match cntR l 1 with
  | none => ([], 3)
  | some _ => (allV l, 0)
end Go.AI


/- Tables of guards; boxes that contain values; equal lists. -/
namespace Go.AI
open Go.Proofs
set_option maxRecDepth 20000
abbrev bools (l : List Bool) : D := .i (.sl 1 l.length (l.map fun b => [.v (.bool b)]))
end Go.AI


/- Equal lists, boxes that contain values, searches in lists of boxes and of values. -/
namespace Go.AI
open Go.Proofs
set_option maxRecDepth 20000
theorem sameInts36 (O : List Heap) (a b : List Int) (ha : a.length ≤ max63) : ASpec Tryd.prog 36 [ints a, ints b] O (bb (decide (a = b))) [] O := by
  refine aspec_intro Tk Tryd.func36 rfl Tryd.call36 Tryd.ntmps36 (Nat.le_of_ble_eq_true rfl) fun E => ?_
  refine g_run Tk Tryd.func36 ?_
  first | refine g_cnd Tk Tryd.func36 rfl (fun h1 => ?_) (fun h1 => ?_) | refine g_know Tk Tryd.func36 rfl (fun h1 => ?_) (fun h1 => ?_) | refine s_know Tk (fun h1 => ?_) (fun h1 => ?_)
  · have h1 := bneT h1
    rw [decide_eq_false fun e => h1 (by rw [e])]
    refine g_ret Tk (r := bb false) rfl rfl rfl trivial rfl rfl ?_
    rfl
  have h1 := bneF h1
  have hlen : a.length = b.length := by
    have : ((a.length : Nat) : Int) = b.length := by simpa using h1
    omega
  refine g_loop ?_
  refine rch_loop2 (fun i : Nat => [(0, ints a), (1, ints b), (5, ii i)]) (fun _ => []) (fun _ => O) 26
    (fun i => i ≤ a.length ∧ ∀ (j : Nat) (h : j < a.length), j < i → a[j] = b[j]'(by omega)) (fun i => a.length - i) 0 ⟨Nat.zero_le _, fun j _ h => by omega⟩ ⟨rfl, rfl, rfl, trivial⟩ rfl trivial rfl rfl ?_
  rintro i ⟨hi, hno⟩ ih
  refine g_run Tk Tryd.func36 ?_
  first | refine g_cnd Tk Tryd.func36 rfl (fun h2 => ?_) (fun h2 => ?_) | refine g_know Tk Tryd.func36 rfl (fun h2 => ?_) (fun h2 => ?_) | refine s_know Tk (fun h2 => ?_) (fun h2 => ?_)
  · have h2 : i < a.length := by simpa using h2
    have ga : (a.map fun x => [vi x])[(i : Int).toNat]? = some [(fun x => vi x) a[i]] := get_mapZ (f := fun x => [vi x]) h2
    have gb : (b.map fun x => [vi x])[(i : Int).toNat]? = some [(fun x => vi x) (b[i]'(by omega))] := get_mapZ (f := fun x => [vi x]) (by omega)
    have hne : a[i] ≠ b[i]'(by omega) → a ≠ b := fun h e => by subst e; exact h rfl
    have hstep : a[i] = b[i]'(by omega) → ∀ (j : Nat) (h : j < a.length), j < i + 1 → a[j] = b[j]'(by omega) := fun h j hj hji => by
      by_cases e : j = i
      · subst e; exact h
      · exact hno j hj (by omega)
    generalize a[i] = x at *
    generalize b[i]'(by omega) = y at *
    refine g_drawn Tk Tryd.func36 mixedT rfl ?_
    first | refine g_need Tk Tryd.func36 (by exact ⟨by omega, by show (i : Int) < (a.length : Int); omega⟩) ?_ | refine s_need Tk (by exact ⟨by omega, by show (i : Int) < (a.length : Int); omega⟩) ?_
    first | refine g_elem Tk Tryd.func36 (ga) ?_ | refine s_elem Tk (ga) ?_
    first | refine g_need Tk Tryd.func36 (by exact ⟨by omega, by show (i : Int) < (b.length : Int); omega⟩) ?_ | refine s_need Tk (by exact ⟨by omega, by show (i : Int) < (b.length : Int); omega⟩) ?_
    first | refine g_elem Tk Tryd.func36 (gb) ?_ | refine s_elem Tk (gb) ?_
    refine e_done Tk Tryd.func36 (by kernel_rfl) ?_
    first | refine g_cnd Tk Tryd.func36 rfl (fun h3 => ?_) (fun h3 => ?_) | refine g_know Tk Tryd.func36 rfl (fun h3 => ?_) (fun h3 => ?_) | refine s_know Tk (fun h3 => ?_) (fun h3 => ?_)
    · have h3 : x ≠ y := by simpa using h3
      rw [decide_eq_false (hne h3)]
      refine g_ret Tk (r := bb false) rfl rfl rfl trivial rfl rfl ?_
      rfl
    · have h3 : x = y := by simpa using h3
      refine g_loop ?_
      exact ih (i + 1) _ _ ⟨h2, hstep h3⟩ (by omega) ⟨rfl, rfl, congrArg ii (wsucc h2 ha), trivial⟩ rfl trivial rfl rfl
  · have h2 : a.length ≤ i := by simpa using h2
    have : a = b := List.ext_getElem hlen fun j h h' => hno j h (by omega)
    rw [decide_eq_true this]
    refine g_ret Tk (r := bb true) rfl rfl rfl trivial rfl rfl ?_
    rfl
end Go.AI


/- Searches with closures; whether a box is free. -/
namespace Go.AI
open Go.Proofs
set_option maxRecDepth 20000
end Go.AI


/- Growing a box. -/
namespace Go.AI
open Go.Proofs
set_option maxRecDepth 20000
end Go.AI


/- The law's own: within, permitted, grow. -/
namespace Go.AI
open Go.Proofs
set_option maxRecDepth 20000
end Go.AI


/- The law's domain, table, bits. -/
namespace Go.AI
open Go.Proofs
set_option maxRecDepth 20000
end Go.AI


/- The law's table, bits, covered. -/
namespace Go.AI
open Go.Proofs
set_option maxRecDepth 20000
/-- What the law asks of variables. -/
structure domOk (l : List Vr) : Prop where
  len : l.length ≤ 16
  b : ∀ v ∈ l, (-65536 ≤ v.low ∧ v.high ≤ 65536) ∧ v.low ≤ v.high
  cnt : ∀ j, (allV (l.take j)).length ≤ 4096
theorem domOk.all {l : List Vr} (h : domOk l) : (allV l).length ≤ 4096 := by have := h.cnt l.length; rwa [List.take_length] at this
theorem allV_mem_len {l : List Vr} {v : List Int} (h : v ∈ allV l) : v.length = l.length := inV_len ((allV_dom l).mem v |>.1 h)
end Go.AI


/- The law's covered and cover. -/
namespace Go.AI
open Go.Proofs
set_option maxRecDepth 20000
end Go.AI


/- The law's cover. -/
namespace Go.AI
open Go.Proofs
set_option maxRecDepth 20000
theorem dom_bounds {l : List Vr} (h : domOk l) {v : List Int} (hv : v ∈ allV l) : ∀ j, -65536 ≤ v.getD j 0 ∧ v.getD j 0 ≤ 65536 := by
  have h1 := (allV_dom l).mem v |>.1 hv
  have hb := h.b
  clear h hv
  induction l generalizing v with
  | nil => cases v with
    | nil => intro j; simp
    | cons x xs => exact h1.elim
  | cons a r ih =>
    cases v with
    | nil => exact h1.elim
    | cons x xs =>
      intro j
      cases j with
      | zero => have := hb a (by simp); have := h1.1; simp only [List.getD_cons_zero]; omega
      | succ j => simpa using ih (v := xs) h1.2 (fun v hv => hb v (by simp [hv])) j
end Go.AI


/- strings.Builder, told whole: what a write changes, and that nothing else changes. -/
namespace Go.Proofs
open Go.Shelf Go.RowKit
variable {P : Program} {ρ : Ren}
theorem heap_set0 {w : World} {b : Nat} {p q v : Value} {T : TypeId} (h : w.heap[b]? = some (.cells #[p, v] T (0, 0))) : (w.setCell ⟨b, 0, none⟩ q).heap[b]? = some (.cells #[q, v] T (0, 0)) := by
  show (Array.modify _ _ _)[b]? = _
  rw [Array.getElem?_modify, if_pos rfl, h]
  rfl
theorem heap_set1 {w : World} {b : Nat} {p q v : Value} {T : TypeId} (h : w.heap[b]? = some (.cells #[p, v] T (0, 0))) : (w.setCell ⟨b, 1, none⟩ q).heap[b]? = some (.cells #[p, q] T (0, 0)) := by
  show (Array.modify _ _ _)[b]? = _
  rw [Array.getElem?_modify, if_pos rfl, h]
  rfl
theorem ownsRow_at {w w' : World} {e : TypeId} {v : Value} {n : Nat} {xs : List Value} (h : w.ownsRow 0 e 1 v n xs) (hb : ∀ k, v.ownBlock = some k → w'.heap[k]? = w.heap[k]?) : w'.ownsRow 0 e 1 v n xs := by
  refine ⟨h.1, ?_⟩
  rcases h.2 with h1 | ⟨g, cap, cur, rfl, h2, h3, h4⟩
  · exact .inl h1
  · exact .inr ⟨g, cap, cur, rfl, h2, by rw [hb g rfl]; exact h3, h4⟩
section
variable (w : World)
/-- Where the row of an append lies: where it lay, or in a new block. -/
def RowAt (w : World) (v v' : Value) : Prop := v'.ownBlock = v.ownBlock ∨ ∀ k, v'.ownBlock = some k → w.heap.size ≤ k
theorem append_str_law (t u ty e : TypeId) (i : TypeInfo) (ht : P.underlying t = some (.slice e)) (hu : P.underlying u = some .string) (hi : P.info? e = some i) (hz : i.zero = some (.int .u8 0))
    (hsize : i.size = 1) (hby : i.bytes = 1) (v : Value) (n : Nat) (xs : List Value) (hown : w.ownsRow 0 e 1 v n xs) (s : ByteArray) (h63 : n + s.size ≤ maxLen) (hbytes : n + s.size ≤ 140737488355328) :
    ∃ v' w', (Builtin.append_ #[t, u] ty #[v, .string s]).run P w = .ok v' w' ∧ w'.ownsRow 0 e 1 v' (n + s.size) (xs ++ Lib.strCells s) ∧ w.grownBy w' v.ownBlock ∧ RowAt w v v' := by
  obtain ⟨v', w', hr, h2, h3, -⟩ := Lib.run_append_own_string (P := P) w 0 t u ty e i ht hu hi hz hsize hby v n xs hown s h63 hbytes (Nat.zero_le _)
  refine ⟨v', w', hr, h2, h3, ?_⟩
  have hxl : xs.length = n := by simpa using hown.1
  rcases hown.2 with ⟨rfl, rfl⟩ | ⟨g, cap, cur, rfl, hbg, hg, hnc, hcm, hcs, htake⟩
  · obtain rfl : xs = [] := List.eq_nil_of_length_eq_zero hxl
    obtain ⟨v2, w2, hr2, h5, -⟩ := Lib.run_append_own_string (P := P) w w.heap.size t u ty e i ht hu hi hz hsize hby (.slice none 0 0) 0 [] (World.ownsRow_nil w _ e 1) s h63 hbytes (Nat.le_refl _)
    have e1 : v' = v2 := by have := hr.symm.trans hr2; injection this
    subst e1
    exact .inr fun k hk => (h5.lt k hk).1
  · by_cases hroom : n + s.size ≤ cap
    · have hr2 := Lib.run_append_room_string (P := P) w t u ty e i ht hu hi hsize g n cap cur hg s hroom (by omega)
      have e1 : v' = .slice (some ⟨g, 0, none⟩) (n + s.size) cap := by have := hr.symm.trans hr2; injection this
      subst e1
      exact .inl rfl
    · have holds : ∀ j u, xs[j]? = some u → w.cell? ((⟨g, 0, none⟩ : Addr).add j) = some u := hown.cells (g := g) rfl
      have hr2 := Lib.run_append_grow_string (P := P) w t u ty e i (.int .u8 0) ht hu hi hz ⟨g, 0, none⟩ n cap xs (by rw [hsize]; simpa using hxl) holds s (by omega) (by simp only [maxLen] at h63; omega) (by rw [hby]; exact growslice_fits (by omega) (by omega))
      have e1 : v' = .slice (some ⟨w.heap.size, 0, none⟩) (n + s.size) (grownCap w (n + s.size) cap e) := by have := hr.symm.trans hr2; injection this
      subst e1
      exact .inr fun k hk => by simp [Value.ownBlock] at hk; omega
theorem append_row_law (t ty e : TypeId) (i : TypeInfo) (ht : P.underlying t = some (.slice e)) (hi : P.info? e = some i) (hz : i.zero = some (.int .u8 0))
    (hsize : i.size = 1) (hby : i.bytes = 1) (v : Value) (n : Nat) (xs : List Value) (hown : w.ownsRow 0 e 1 v n xs)
    (a : Addr) (m c : Nat) (news : List Value) (hl : news.length = m * 1) (hnews : ∀ j u, news[j]? = some u → w.cell? (a.add j) = some u) (h1 : ∀ u ∈ news, u.oneCell' = true)
    (h63 : n + m ≤ maxLen) (hbytes : (n + m) * 1 ≤ 140737488355328) :
    ∃ v' w', (Builtin.append_ #[t, t] ty #[v, .slice (some a) m c]).run P w = .ok v' w' ∧ w'.ownsRow 0 e 1 v' (n + m) (xs ++ news) ∧ w.grownBy w' v.ownBlock ∧ RowAt w v v' := by
  obtain ⟨v', w', hr, h2, h3, -⟩ := run_append_own (P := P) w 0 t ty e i (.int .u8 0) 1 1 ht hi hz hsize hby rfl (by decide) v n xs hown a m c news hl hnews h1 h63 hbytes (Nat.zero_le _)
  refine ⟨v', w', hr, h2, h3, ?_⟩
  have hxl : xs.length = n := by simpa using hown.1
  rcases hown.2 with ⟨rfl, rfl⟩ | ⟨g, cap, cur, rfl, hbg, hg, hnc, hcm, hcs, htake⟩
  · obtain rfl : xs = [] := List.eq_nil_of_length_eq_zero hxl
    obtain ⟨v2, w2, hr2, h5, -⟩ := run_append_own (P := P) w w.heap.size t ty e i (.int .u8 0) 1 1 ht hi hz hsize hby rfl (by decide) (.slice none 0 0) 0 [] (World.ownsRow_nil w _ e 1) a m c news hl hnews h1 h63 hbytes (Nat.le_refl _)
    have e1 : v' = v2 := by have := hr.symm.trans hr2; injection this
    subst e1
    exact .inr fun k hk => (h5.lt k hk).1
  · by_cases hroom : n + m ≤ cap
    · have hr2 := run_append_room (P := P) w t ty e i ht hi g n cap cur hg a m c news (by rw [hsize]; exact hl) hnews h1 hroom (by rw [hsize]; omega)
      have e1 : v' = .slice (some ⟨g, 0, none⟩) (n + m) cap := by have := hr.symm.trans hr2; injection this
      subst e1
      exact .inl rfl
    · have holds : ∀ j u, xs[j]? = some u → w.cell? ((⟨g, 0, none⟩ : Addr).add j) = some u := hown.cells (g := g) rfl
      have hr2 := run_append_grow (P := P) w t ty e i (.int .u8 0) ht hi hz ⟨g, 0, none⟩ n cap xs (by rw [hsize]; simpa using hxl) holds a m c news (by rw [hsize]; exact hl) hnews (by omega) (by simp only [maxLen] at h63; omega) (by rw [hby]; exact growslice_fits (by omega) hbytes)
      have e1 : v' = .slice (some ⟨w.heap.size, 0, none⟩) (n + m) (grownCap w (n + m) cap e) := by have := hr.symm.trans hr2; injection this
      subst e1
      exact .inr fun k hk => by simp [Value.ownBlock] at hk; omega
theorem wpList_app_str {ops : Array Oper} {rest : List Oper} {o : Oper} {a : Act} {Q : Exit → Act → World → Prop} (hgd : o.guard = none) (sl x : Operand) (t u : TypeId)
    (ho : o.op = .call { callee := .builtin .append, args := #[sl, x], argTypes := #[t, u] })
    (e : TypeId) (i : TypeInfo) (ht : P.underlying t = some (.slice e)) (hu : P.underlying u = some .string) (hi : P.info? e = some i) (hz : i.zero = some (.int .u8 0)) (hsize : i.size = 1) (hby : i.bytes = 1)
    (v : Value) (n : Nat) (xs : List Value) (hs : a.eval sl = v) (hown : w.ownsRow 0 e 1 v n xs) (s : ByteArray) (hx : a.eval x = .string s) (h63 : n + s.size ≤ maxLen) (hbytes : n + s.size ≤ 140737488355328)
    (h : ∀ v' w', w'.ownsRow 0 e 1 v' (n + s.size) (xs ++ Lib.strCells s) → w.grownBy w' v.ownBlock → RowAt w v v' → wpList P ops Q rest (a.put o.dst v') w') : wpList P ops Q (o :: rest) a w := by
  refine wpList_plain hgd fun K hK => ?_
  obtain ⟨v', w', hr, h2, h3, h4⟩ := append_str_law (P := P) w t u o.type e i ht hu hi hz hsize hby v n xs hown s h63 hbytes
  unfold Oper.wp execOp
  simp only [ho, resolve, invoke, builtin, Sem.run_bind, Sem.run_pure, Result.andThen_ok, List.map_toArray, List.map_cons, List.map_nil, hs, hx, hr]
  exact hK _ _ (h v' w' h2 h3 h4)
theorem wpList_app_row {ops : Array Oper} {rest : List Oper} {o : Oper} {a : Act} {Q : Exit → Act → World → Prop} (hgd : o.guard = none) (sl x : Operand) (t : TypeId)
    (ho : o.op = .call { callee := .builtin .append, args := #[sl, x], argTypes := #[t, t] })
    (e : TypeId) (i : TypeInfo) (ht : P.underlying t = some (.slice e)) (hi : P.info? e = some i) (hz : i.zero = some (.int .u8 0)) (hsize : i.size = 1) (hby : i.bytes = 1)
    (v : Value) (n : Nat) (xs : List Value) (hs : a.eval sl = v) (hown : w.ownsRow 0 e 1 v n xs)
    (ad : Addr) (m c : Nat) (news : List Value) (hx : a.eval x = .slice (some ad) m c) (hl : news.length = m * 1) (hnews : ∀ j u, news[j]? = some u → w.cell? (ad.add j) = some u) (h1 : ∀ u ∈ news, u.oneCell' = true)
    (h63 : n + m ≤ maxLen) (hbytes : (n + m) * 1 ≤ 140737488355328)
    (h : ∀ v' w', w'.ownsRow 0 e 1 v' (n + m) (xs ++ news) → w.grownBy w' v.ownBlock → RowAt w v v' → wpList P ops Q rest (a.put o.dst v') w') : wpList P ops Q (o :: rest) a w := by
  refine wpList_plain hgd fun K hK => ?_
  obtain ⟨v', w', hr, h2, h3, h4⟩ := append_row_law (P := P) w t o.type e i ht hi hz hsize hby v n xs hown ad m c news hl hnews h1 h63 hbytes
  unfold Oper.wp execOp
  simp only [ho, resolve, invoke, builtin, Sem.run_bind, Sem.run_pure, Result.andThen_ok, List.map_toArray, List.map_cons, List.map_nil, hs, hx, hr]
  exact hK _ _ (h v' w' h2 h3 h4)
end
/-- What a write does: its own address is stored where there was none; perhaps a new block; an append to the row; the row is stored. -/
def Wrote (T e : TypeId) (b : Nat) (p v0 : Value) (bs news : List Value) (w w' : World) : Prop :=
  ∃ w1 w2 w3 v', ((w1 = w ∧ p = .pointer (some ⟨b, 0, none⟩)) ∨ (w1 = w.setCell ⟨b, 0, none⟩ (.pointer (some ⟨b, 0, none⟩)) ∧ p = .pointer none)) ∧ (w2 = w1 ∨ ∃ o, w2 = w1.alloc o) ∧
    w3.ownsRow 0 e 1 v' (bs.length + news.length) (bs ++ news) ∧ w2.grownBy w3 v0.ownBlock ∧ RowAt w2 v0 v' ∧ w' = w3.setCell ⟨b, 1, none⟩ v'
set_option maxHeartbeats 1000000 in
set_option maxRecDepth 100000 in
/-- String, of a builder that holds a byte. -/
theorem bld_string (L : Lays.n169 P ρ) (X : Builder.Extra P ρ) (b : Nat) (p v : Value) (l : List UInt8) (w : World) (hbk : w.heap[b]? = some (.cells #[p, v] (ρ.t 72) (0, 0))) (hown : w.ownsRow 0 (ρ.t 5) 1 v l.length (Lib.byteCells l)) (h0 : l ≠ []) :
    Calls P (ρ.f 169) #[.pointer (some ⟨b, 0, none⟩)] w fun e w' => e = .returned (.string ⟨l.toArray⟩) ∧ ∃ g, v.ownBlock = some g ∧ w' = w.drew.freeze ⟨g, 0, none⟩ l.length := by
  have hl0 : l.length ≠ 0 := by simpa using h0
  obtain ⟨g, cap, cur, rfl, hbg, hg, hnc, hcm, hcs, htake⟩ : ∃ g cap cur, v = .slice (some ⟨g, 0, none⟩) l.length cap ∧ 0 ≤ g ∧ w.heap[g]? = some (.cells cur (ρ.t 5) (0, 0)) ∧ l.length ≤ cap ∧ cap ≤ maxLen ∧ cur.size = cap * 1 ∧ cur.toList.take (l.length * 1) = Lib.byteCells l := by
    rcases hown.2 with ⟨_, hz⟩ | ⟨g, cap, cur, hv, r⟩
    · exact absurd hz hl0
    · exact ⟨g, cap, cur, hv, r⟩
  have c1 : w.drew.cell? ⟨b, 1, none⟩ = some (.slice (some ⟨g, 0, none⟩) l.length cap) := by
    have : w.drew.heap[b]? = some (.cells #[p, .slice (some ⟨g, 0, none⟩) l.length cap] (ρ.t 72) (0, 0)) := hbk
    rw [Lib.cell_of_heap this]; rfl
  have hSD : (Builtin.unsafeSliceData_ #[(ρ.t 37)] (ρ.t 127) #[.slice (some ⟨g, 0, none⟩) l.length cap]).run P w.drew = .ok (.pointer (some ⟨g, 0, none⟩)) w.drew :=
    Lib.run_unsafeSliceData_row _ _ _ _ _ _ (by omega)
  have hUS : (Builtin.unsafeString_ #[(ρ.t 127), (ρ.t 3)] (ρ.t 9) #[.pointer (some ⟨g, 0, none⟩), .int .i64 l.length]).run P w.drew = .ok (.string ⟨l.toArray⟩) (w.drew.freeze ⟨g, 0, none⟩ l.length) := by
    refine Lib.run_unsafeString_row w.drew (ρ.t 127) (ρ.t 3) (ρ.t 9) (ρ.t 5) L.t127 X.cellsByte g cur.size (by have hg' : w.drew.heap[g]? = some (.cells cur (ρ.t 5) (0, 0)) := hg; simp [World.shape?, hg']) l h0 (by omega) (by unfold maxLen at hcm; omega) ?_
    intro j x hx
    have := hown.cells (g := g) rfl j (.int .u8 x.toNat) (by simp [Lib.byteCells, hx])
    exact this
  have mixed := L.mixed
  have t72 := L.t72; have a72 := L.a72; have z72 := L.z72; have v72 := L.v72; have u72 := run_underlying L.t72
  have t70 := L.t70; have a70 := L.a70; have z70 := L.z70; have v70 := L.v70; have u70 := run_underlying L.t70
  have t37 := L.t37; have a37 := L.a37; have z37 := L.z37; have v37 := L.v37; have u37 := run_underlying L.t37
  have t127 := L.t127; have a127 := L.a127; have z127 := L.z127; have v127 := L.v127; have u127 := run_underlying L.t127
  have t3 := L.t3; have a3 := L.a3; have z3 := L.z3; have v3 := L.v3; have u3 := run_underlying L.t3
  have t9 := L.t9; have a9 := L.a9; have z9 := L.z9; have v9 := L.v9; have u9 := run_underlying L.t9
  have t5 := X.t5; have a5 := X.a5; have z5 := X.z5; have v5 := X.v5; have u5 := run_underlying X.t5
  go_enter L.f169, Body.n169_ntmps ρ
  go_wp2
  go_region_o
  all_goals (go_wp2; go_ret; exact ⟨rfl, g, rfl, rfl⟩)
end Go.Proofs


/- A builder of the own frame: what a write does to the state. -/
namespace Go.AI
open Go.Proofs
set_option maxRecDepth 20000
section
variable {E : Env} {K : Kn} {ρ : Nat → Nat → Loc} {w w' : World}
/-- The row behind an append, as an object. -/
theorem app_of_row {sh : Nat → Nat → Option Sh} {w3 : World} {l : Loc} {ty n m : Nat} {xs ys : List (List I)} {olds news : List Value} {v' : Value} (h : OwnAt K ρ sh w l (.arr ty 1 n xs true)) (ho : RepL K olds xs.flatten) (hn : RepL K news ys.flatten)
    (hy : ∀ d ∈ ys, d.length = 1) (hm : ys.length = m) (hrow : w3.ownsRow 0 ty 1 v' (n + m) (olds ++ news)) (hg : w.grownBy w3 (Value.slice l.base n l.cap).ownBlock) (hat : RowAt w (.slice l.base n l.cap) v')
    (hfresh : ∀ b o, w.heap.size ≤ b → K b o = none) :
    ∃ l' : Loc, v' = .slice l'.base (n + m) l'.cap ∧ (∀ (ρ' : Nat → Nat → Loc) (sh' : Nat → Nat → Option Sh), OwnAt K ρ' sh' w3 l' (.arr ty 1 (n + m) (xs ++ ys) true)) ∧ Apnd K w w3 l l' := by
  have hel : ∀ d ∈ xs ++ ys, d.length = 1 := fun d hd => by
    rcases List.mem_append.1 hd with h1 | h1
    · exact h.1 d h1
    · exact hy d h1
  have hlen : (xs ++ ys).length = n + m := by simp [h.2.1, hm]
  have hbase : l.base = none ∨ l.base = some ⟨l.block, 0, none⟩ := by
    rcases h.2.2.2.2 with ⟨_, h1⟩ | ⟨h1, _⟩
    · exact .inl h1
    · exact .inr h1
  have hold : ∀ b, b < w.heap.size → (l.base ≠ none → b ≠ l.block) → w3.heap[b]? = w.heap[b]? := fun b hb hne => hg.block b hb fun e => by
    rcases hbase with h1 | h1
    · rw [h1] at e; simp [Value.ownBlock] at e
    · rw [h1] at e
      simp only [Value.ownBlock, Option.some.injEq] at e
      exact hne (by rw [h1]; simp) e
  rcases hrow.2 with ⟨rfl, h0⟩ | ⟨g, cap, cur, rfl, _, hg3, hnc, hcm, hcs, htake⟩
  · refine ⟨⟨0, 0, none⟩, by rw [h0], fun ρ' sh' => ⟨hel, hlen, by simp only; omega, Nat.zero_le _, .inl ⟨rfl, rfl⟩⟩, ⟨hg.size, hold, ⟨hg.tape, hg.os, hg.output⟩, fun e => absurd rfl e⟩⟩
  · have hKg : ∀ o, K g o = none := by
      rcases hat with h1 | h1
      · rcases hbase with h2 | h2
        · rw [h2] at h1; simp [Value.ownBlock] at h1
        · rw [h2] at h1
          simp only [Value.ownBlock, Option.some.injEq] at h1
          subst h1
          rcases h.2.2.2.2 with ⟨_, h3⟩ | ⟨_, c, _, _, _, h4, _⟩
          · rw [h2] at h3; cases h3
          · exact h4 rfl
      · exact fun o => hfresh g o (h1 g rfl)
    have htk : cur.toList.take ((n + m) * 1) = olds ++ news := htake
    refine ⟨⟨g, cap, some ⟨g, 0, none⟩⟩, rfl, fun ρ' sh' => ⟨hel, hlen, hnc, hcm, .inr ⟨rfl, cur, hg3, hcs, ?_, fun _ o => hKg o, fun o _ => hKg o, fun e => by cases e⟩⟩, ⟨hg.size, hold, ⟨hg.tape, hg.os, hg.output⟩, fun _ => ?_⟩⟩
    · rw [htk, List.flatten_append]
      exact ho.append hn
    · rcases hat with h1 | h1
      · rcases hbase with h2 | h2
        · rw [h2] at h1; simp [Value.ownBlock] at h1
        · rw [h2] at h1
          simp only [Value.ownBlock, Option.some.injEq] at h1
          exact .inr ⟨by rw [h2]; simp, h1⟩
      · exact .inl (h1 g rfl)
/-- What a write of a builder is to do. -/
def WSpec (P : Program) (f : FuncId) (T ty : TypeId) (res x : Value) (news : List Value) : Prop := ∀ (b : Nat) (p v0 : Value) (bs : List Value) (w : World), (p = .pointer none ∨ p = .pointer (some ⟨b, 0, none⟩)) →
  w.heap[b]? = some (.cells #[p, v0] T (0, 0)) → w.ownsRow 0 ty 1 v0 bs.length bs → v0.ownBlock ≠ some b → bs.length + news.length ≤ 140737488355328 →
  Calls P f #[.pointer (some ⟨b, 0, none⟩), x] w fun e w' => e = .returned res ∧ Wrote T ty b p v0 bs news w w'
/-- A call, by what it does to the state. -/
def Wp (c : Cx) (o : Oper) (s : St) (f : FuncId) (args : List D) (s' : St) : Prop := ∀ K ρ a w, Inv c.E K ρ s a w → (∃ vs, (execOp a.eval o).run c.P w = (callFunc f vs.toArray).run c.P w ∧ RepDL K ρ (shape s.S) vs args) →
  ∀ (next : Act → World → Prop) (Qe : Exit → Act → World → Prop), (∀ v w' K' ρ', Inv c.E K' ρ' s' (a.put o.dst v) w' → next (a.put o.dst v) w') → o.wp c.P a w next Qe
theorem does_write {c : Cx} {s : St} {o : Oper} {f : FuncId} {t nm nm2 n m T ty : Nat} {dp dx rd : D} {x res : Value} {news : List Value} {xs ys : List (List I)} {H : Heap} {O : List Heap}
    (hspec : WSpec c.P f T ty res x news) (hent : ∀ args w, (callFunc f args).run c.P w = .ok (.enter f args) w) (hx : ∀ K ρ sh v, RepD K ρ sh v dx → v = x) (hr : ∀ K ρ sh, RepD K ρ sh res rd)
    (hdp : dp = .i (.v (.pointer none)) ∨ dp = .own 0 nm 0 0) (ht : o.dst = some t) (hn : t < s.n) (hS : s.S = H :: O) (hb : look H nm = some (.tb T [dp, .osl 0 nm2])) (ha : look H nm2 = some (.arr ty 1 n xs true))
    (hne : nm ≠ nm2) (hnews : ∀ K, RepL K news ys.flatten) (hy : ∀ d ∈ ys, d.length = 1) (hm : ys.length = m) (hlim : n + m ≤ 140737488355328) :
    Wp c o s f [.own 0 nm 0 0, dx] { σ := (t, rd) :: killσ nm2 s.σ, S := ((nm, .tb T [.own 0 nm 0 0, .osl 0 nm2]) :: (nm2, .arr ty 1 (n + m) (xs ++ ys) true) :: killH nm2 ((nm, .tb T [.own 0 nm 0 0, .osl 0 nm2]) :: H)) :: O, n := s.n } := by
  intro K ρ a w hi ⟨vs, hrun, hrep⟩ next Qe hnext
  have hh := hi.h
  rw [hS] at hh hrep
  have hob : objAt (H :: O) 0 nm = some (.tb T [dp, .osl 0 nm2]) := by simpa [objAt] using hb
  have hoa : objAt (H :: O) 0 nm2 = some (.arr ty 1 n xs true) := by simpa [objAt] using ha
  have e0 : (fun d n => ρ (0 + d) n) = ρ := by funext d n; rw [Nat.zero_add]
  have s0 : ∀ S : List Heap, shape (S.drop 0) = shape S := fun S => by rw [List.drop_zero]
  have hwb := hh.own _ _ _ hob
  rw [e0, s0] at hwb
  obtain ⟨cur, hc, hrc, hKb⟩ := hwb
  have hwa := hh.own _ _ _ hoa
  rw [e0, s0] at hwa
  obtain ⟨olds, hro, hrow⟩ := own_row hwa
  have hol : olds.length = n := by simpa using hrow.1
  have hshb : shape (H :: O) 0 nm = some .box := by simp [shape, hob, Ob.sh]
  have hsha : shape (H :: O) 0 nm2 = some (.arr 1 n) := by simp [shape, hoa, Ob.sh]
  obtain ⟨p, v0, hcur, hp, hv0⟩ : ∃ p v0, cur = #[p, v0] ∧ RepD K ρ (shape (H :: O)) p dp ∧ RepD K ρ (shape (H :: O)) v0 (.osl 0 nm2) := by
    generalize hL : cur.toList = L at hrc
    cases hrc with
    | cons h1 h2 => cases h2 with
      | cons h3 h4 => cases h4; exact ⟨_, _, Array.ext' (by rw [hL]), h1, h3⟩
  subst hcur
  have hv0 := inv_osl hv0 hsha
  subst hv0
  have hpp : p = .pointer none ∨ p = .pointer (some ⟨(ρ 0 nm).block, 0, none⟩) := by
    rcases hdp with rfl | rfl
    · exact .inl (inv_v hp)
    · exact .inr (inv_box hp hshb)
  have hnb : (Value.slice (ρ 0 nm2).base n (ρ 0 nm2).cap).ownBlock ≠ some (ρ 0 nm).block := by
    intro e
    rcases hwa.2.2.2.2 with ⟨_, h1⟩ | ⟨h1, _⟩
    · rw [h1] at e; simp [Value.ownBlock] at e
    · rw [h1] at e
      simp only [Value.ownBlock, Option.some.injEq] at e
      exact hne (hh.inj 0 nm _ 0 nm2 _ hob hoa trivial (by show _ ≠ none; rw [h1]; simp) e.symm).2
  obtain ⟨rfl⟩ : vs = [.pointer (some ⟨(ρ 0 nm).block, 0, none⟩), x] := by
    cases hrep with
    | cons h1 h2 => cases h2 with
      | cons h3 h4 => cases h4; rw [inv_box h1 hshb, hx _ _ _ _ h3]
  rw [hent] at hrun
  simp only [Oper.wp, hrun, Oper.upon]
  have hml : news.length = m := by
    have := (hnews K).length
    rw [this, flat_len ys hy, hm]; omega
  refine (hspec _ p _ olds w hpp hc (by rw [hol]; exact hrow) hnb (by rw [hol, hml]; exact hlim)).mono ?_
  rintro e w' ⟨rfl, w1, w2, w3, v', h1, h2, hrow3, hgb, hat, rfl⟩
  rw [hol, hml] at hrow3
  have e1 : (fun d n => shape (H :: O) (0 + d) n) = shape (H :: O) := by funext d n; rw [Nat.zero_add]
  have hcells : RepDL K (fun d n => ρ (0 + d) n) (fun d n => shape (H :: O) (0 + d) n) [.pointer (some ⟨(ρ 0 nm).block, 0, none⟩), .slice (ρ 0 nm2).base n (ρ 0 nm2).cap] [.own 0 nm 0 0, .osl 0 nm2] := by
    rw [e0, e1]
    exact .cons (.box hshb) (.cons (.osl hsha) .nil)
  have hI1 : HInv c.E K ρ (setAt (H :: O) 0 nm (.tb T [.own 0 nm 0 0, .osl 0 nm2])) w1 ∧ w1.heap[(ρ 0 nm).block]? = some (.cells #[.pointer (some ⟨(ρ 0 nm).block, 0, none⟩), .slice (ρ 0 nm2).base n (ρ 0 nm2).cap] T (0, 0)) := by
    rcases h1 with ⟨rfl, rfl⟩ | ⟨rfl, rfl⟩
    · exact ⟨hh.put hob rfl trivial trivial rfl (fun _ _ => rfl) ⟨rfl, rfl, rfl⟩ (fun o' x' hx' => by rw [hKb] at hx'; cases hx') ⟨_, hc, hcells, hKb⟩, hc⟩
    · exact ⟨hh.put hob rfl trivial trivial (by simp [World.setCell]) (fun b hb => Go.Deep.blk_setCell_other w _ _ b hb) ⟨rfl, rfl, rfl⟩ (fun o' x' hx' => by rw [hKb] at hx'; cases hx') ⟨_, heap_set0 hc, hcells, hKb⟩, heap_set0 hc⟩
  obtain ⟨hI1, hc1⟩ := hI1
  have hI1 : HInv c.E K ρ (((nm, .tb T [.own 0 nm 0 0, .osl 0 nm2]) :: H) :: O) w1 := hI1
  have hlt1 : (ρ 0 nm).block < w1.heap.size := by
    rcases Nat.lt_or_ge (ρ 0 nm).block w1.heap.size with h' | h'
    · exact h'
    · simp [Array.getElem?_eq_none h'] at hc1
  have hI2 : HInv c.E K ρ (((nm, .tb T [.own 0 nm 0 0, .osl 0 nm2]) :: H) :: O) w2 ∧ w2.heap[(ρ 0 nm).block]? = some (.cells #[.pointer (some ⟨(ρ 0 nm).block, 0, none⟩), .slice (ρ 0 nm2).base n (ρ 0 nm2).cap] T (0, 0)) ∧ w1.heap.size ≤ w2.heap.size := by
    rcases h2 with rfl | ⟨o', rfl⟩
    · exact ⟨hI1, hc1, Nat.le_refl _⟩
    · exact ⟨(HInv.grow (S := ((nm, .tb T [.own 0 nm 0 0, .osl 0 nm2]) :: H) :: O) rfl hI1 (fun _ _ _ e => e) (fun _ h => by simp [look] at h) (grow_none hI1 (.inl rfl) o')).1, by rw [heap_alloc_old w1 o' hlt1]; exact hc1, by simp [World.size_alloc]⟩
  obtain ⟨hI2, hc2, hsz2⟩ := hI2
  have hc3 : w3.heap[(ρ 0 nm).block]? = some (.cells #[.pointer (some ⟨(ρ 0 nm).block, 0, none⟩), .slice (ρ 0 nm2).base n (ρ 0 nm2).cap] T (0, 0)) := by
    rw [hgb.block _ (by omega) (fun e => hnb e.symm)]
    exact hc2
  have hlk : look ((nm, Ob.tb T [.own 0 nm 0 0, .osl 0 nm2]) :: H) nm2 = some (.arr ty 1 n xs true) := by
    rw [look_cons, if_neg hne]; exact ha
  have hoa2 : objAt (((nm, Ob.tb T [.own 0 nm 0 0, .osl 0 nm2]) :: H) :: O) 0 nm2 = some (.arr ty 1 n xs true) := by simpa [objAt] using hlk
  have hob2 : objAt (((nm, Ob.tb T [.own 0 nm 0 0, .osl 0 nm2]) :: H) :: O) 0 nm = some (.tb T [.own 0 nm 0 0, .osl 0 nm2]) := by simp [objAt, look_cons]
  have hwa2 := hI2.own _ _ _ hoa2
  rw [e0, s0] at hwa2
  obtain ⟨l', rfl, hown', hap⟩ := app_of_row hwa2 hro (hnews K) hy hm hrow3 hgb hat (fun b o hb => hI2.K_fresh hb)
  have hKo : backed (ρ 0 nm2) (.arr ty 1 n xs true) → ∀ o, K (ρ 0 nm2).block o = none := by
    intro hbk
    obtain ⟨_, _, _, _, h5⟩ := hwa
    rcases h5 with ⟨_, h6⟩ | ⟨_, c, _, _, _, h9, _⟩
    · exact absurd h6 hbk
    · exact h9 rfl
  obtain ⟨hI3, hbut⟩ := hI2.renew (nm := nm2) (dst := nm2) hlk (by rw [look_killH]; simp) hap Iff.rfl (ob' := .arr ty 1 (n + m) (xs ++ ys) true) Iff.rfl hKo hown'
  generalize hS3 : (((nm2, Ob.arr ty 1 (n + m) (xs ++ ys) true) :: killH nm2 ((nm, Ob.tb T [.own 0 nm 0 0, .osl 0 nm2]) :: H)) :: O) = S3 at hI3 hbut
  have hob3 : objAt S3 0 nm = some (Ob.kill nm2 (.tb T [.own 0 nm 0 0, .osl 0 nm2])) := by
    rw [← hS3]
    simp only [objAt, List.getElem?_cons_zero, look_cons, if_neg (Ne.symm hne), look_killH, if_neg hne, if_true, Option.map_some]
  obtain ⟨hb1, hb2⟩ := hbut 0 nm .box (.inr hne) (by simp [shape, hob2, Ob.sh])
  have hsh3 : shape S3 0 nm2 = some (.arr 1 (n + m)) := by
    rw [← hS3]
    simp [shape, objAt, look_cons, Ob.sh]
  have f0 : (fun d n => upd ρ nm2 l' (0 + d) n) = upd ρ nm2 l' := by funext d n; rw [Nat.zero_add]
  have f1 : (fun d n => shape S3 (0 + d) n) = shape S3 := by funext d n; rw [Nat.zero_add]
  have hcells3 : RepDL K (fun d n => upd ρ nm2 l' (0 + d) n) (fun d n => shape S3 (0 + d) n) [.pointer (some ⟨(ρ 0 nm).block, 0, none⟩), .slice l'.base (n + m) l'.cap] [.own 0 nm 0 0, .osl 0 nm2] := by
    rw [f0, f1]
    have g1 := RepD.box (K := K) (ρ := upd ρ nm2 l') (off := 0) hb1
    rw [hb2] at g1
    have g2 := RepD.osl (K := K) (ρ := upd ρ nm2 l') hsh3
    rw [upd_same] at g2
    exact .cons g1 (.cons g2 .nil)
  have hI4 : HInv c.E K (upd ρ nm2 l') (setAt S3 0 nm (.tb T [.own 0 nm 0 0, .osl 0 nm2])) (w3.setCell ⟨(ρ 0 nm).block, 1, none⟩ (.slice l'.base (n + m) l'.cap)) := by
    refine hI3.put hob3 rfl trivial trivial (by simp [World.setCell]) (fun b hb => Go.Deep.blk_setCell_other w3 _ _ b (by rw [hb2] at hb; exact hb)) ⟨rfl, rfl, rfl⟩ (fun o' x' hx' => by rw [hb2, hKb] at hx'; cases hx') ⟨_, by rw [hb2]; exact heap_set1 hc3, hcells3, fun o => by rw [hb2]; exact hKb o⟩
  have hS4 : setAt S3 0 nm (.tb T [.own 0 nm 0 0, .osl 0 nm2]) = ((nm, .tb T [.own 0 nm 0 0, .osl 0 nm2]) :: (nm2, .arr ty 1 (n + m) (xs ++ ys) true) :: killH nm2 ((nm, .tb T [.own 0 nm 0 0, .osl 0 nm2]) :: H)) :: O := by rw [← hS3]; rfl
  have hsh4 : shape (setAt S3 0 nm (.tb T [.own 0 nm 0 0, .osl 0 nm2])) = shape S3 := shape_setAt hob3 rfl
  have hsh2 : shape (((nm, Ob.tb T [.own 0 nm 0 0, .osl 0 nm2]) :: H) :: O) = shape (H :: O) := shape_setAt (S := H :: O) hob rfl
  rw [hS4] at hI4 hsh4
  rw [hsh2] at hbut
  refine hnext _ _ K (upd ρ nm2 l') ?_
  · rw [ht]
    refine ⟨hI4, hi.defers, by simp [Act.put]; exact hi.size, fun t' d' e' => ?_⟩
    rw [tmps_put (by rw [hi.size]; exact hn)]
    simp only [look_cons] at e'
    split at e'
    · rename_i e2
      simp only [Option.some.injEq] at e'
      subst e'
      rw [if_pos e2]
      exact hr _ _ _
    · rename_i e2
      rw [if_neg e2]
      rw [look_killσ] at e'
      cases hls : look s.σ t' with
      | none => simp [hls] at e'
      | some d0 =>
        simp only [hls, Option.map_some, Option.some.injEq] at e'
        subst e'
        have hr := hi.slots _ _ hls
        rw [hS] at hr
        show RepD _ _ (shape _) _ _
        rw [hsh4]
        exact hr.kill hbut
end
section
variable {c : Cx} {s : St} {k : List Item} {ops : Array Oper} {rest : List Nat} {o : Oper}
/-- At a pause before a call: what it does. -/
theorem g_callP (hT : TOk c.P c.T) (hfn : c.P.funcs[c.f]? = some c.fn) {i t : Nat} {f : FuncId} {args : List D} {s' : St} (ho : ops[i]? = some o) (hg : o.guard = none) (hd : o.dst = some t) (hex : exec c.T s o = .call f args) (hw : Wp c o s f args s')
    (h : GM c (run c.T c.stop 1000 (.inRegion ops rest :: k) s')) : GM c (.pause ops i rest o s k) := by
  have hk : RG c ops rest s' (Rch c k) := run_sound hT hfn 1000 (.inRegion ops rest :: k) _ h.h
  refine ⟨?_⟩
  intro K ρ a w hi
  simp only [wpOps, ho, wanted_of hi (show wantedD ops s o = some true by unfold wantedD; rw [hg]), if_true]
  refine .inl (hw K ρ a w hi ?_ _ _ fun v w' K' ρ' hi' => hk K' ρ' _ w' hi')
  have := exec_snd hT hi.h (.inl hd) fun x _ => hi.ev x
  rw [hex] at this
  exact this
end
section
/-- Bytes, as the elements of a row. -/
def u8l (l : List UInt8) : List (List I) := l.map fun b => [.v (.int .u8 b.toNat)]
theorem u8l_flat : ∀ l : List UInt8, (u8l l).flatten = l.map fun b => I.v (.int .u8 b.toNat)
  | [] => rfl
  | b :: r => by
    have := u8l_flat r
    unfold u8l at this ⊢
    rw [List.map_cons, List.flatten_cons, this]
    rfl
theorem u8l_el (l : List UInt8) : ∀ d ∈ u8l l, d.length = 1 := fun d hd => by
  unfold u8l at hd
  obtain ⟨b, _, rfl⟩ := List.mem_map.1 hd
  rfl
theorem u8l_rep (K : Kn) : ∀ l : List UInt8, RepL K (l.map fun b => Value.int .u8 b.toNat) (u8l l).flatten
  | [] => .nil
  | b :: r => by
    have := u8l_rep K r
    rw [u8l_flat] at this ⊢
    exact .cons (.v rfl) this
theorem repL_vals {K : Kn} : ∀ {vs : List Value} {l : List Value}, RepL K vs (l.map I.v) → vs = l
  | _, [], h => by cases h; rfl
  | _, x :: r, h => by
    cases h with
    | cons h1 h2 =>
      rw [repL_vals h2]
      cases h1
      rfl
theorem u8l_app (a b : List UInt8) : u8l a ++ u8l b = u8l (a ++ b) := by simp [u8l]
/-- What String of a builder is to do. -/
def SSpec (P : Program) (f : FuncId) (T ty : TypeId) : Prop := ∀ (b : Nat) (p v : Value) (l : List UInt8) (w : World), w.heap[b]? = some (.cells #[p, v] T (0, 0)) → w.ownsRow 0 ty 1 v l.length (Lib.byteCells l) → l ≠ [] →
  Calls P f #[.pointer (some ⟨b, 0, none⟩)] w fun e w' => e = .returned (.string ⟨l.toArray⟩) ∧ ∃ g, v.ownBlock = some g ∧ w' = w.drew.freeze ⟨g, 0, none⟩ l.length
theorem freeze_other (w : World) (g n k : Nat) (h : k ≠ g) : (w.freeze ⟨g, 0, none⟩ n).heap[k]? = w.heap[k]? := by
  unfold World.freeze
  split <;> simp [Array.getElem?_modify, Array.getElem?_setIfInBounds, Ne.symm h]
theorem freeze_rest (w : World) (g n : Nat) : (w.freeze ⟨g, 0, none⟩ n).tape = w.tape ∧ (w.freeze ⟨g, 0, none⟩ n).os = w.os ∧ (w.freeze ⟨g, 0, none⟩ n).output = w.output ∧ (w.freeze ⟨g, 0, none⟩ n).heap.size = w.heap.size := by
  unfold World.freeze
  split <;> simp
theorem does_bstr {c : Cx} {s : St} {o : Oper} {f : FuncId} {t nm nm2 T ty : Nat} {dp : D} {l : List UInt8} {H : Heap} {O : List Heap}
    (hspec : SSpec c.P f T ty) (hent : ∀ args w, (callFunc f args).run c.P w = .ok (.enter f args) w) (h0 : l ≠ [])
    (ht : o.dst = some t) (hn : t < s.n) (hS : s.S = H :: O) (hb : look H nm = some (.tb T [dp, .osl 0 nm2])) (ha : look H nm2 = some (.arr ty 1 l.length (u8l l) true)) :
    Wp c o s f [.own 0 nm 0 0] { σ := (t, .i (.v (.string ⟨l.toArray⟩))) :: killσ nm2 s.σ, S := ((nm2, .arr ty 1 0 [] true) :: killH nm2 H) :: O, n := s.n } := by
  intro K ρ a w hi ⟨vs, hrun, hrep⟩ next Qe hnext
  have hh := hi.h
  rw [hS] at hh hrep
  have hob : objAt (H :: O) 0 nm = some (.tb T [dp, .osl 0 nm2]) := by simpa [objAt] using hb
  have hoa : objAt (H :: O) 0 nm2 = some (.arr ty 1 l.length (u8l l) true) := by simpa [objAt] using ha
  have e0 : (fun d n => ρ (0 + d) n) = ρ := by funext d n; rw [Nat.zero_add]
  have s0 : ∀ S : List Heap, shape (S.drop 0) = shape S := fun S => by rw [List.drop_zero]
  have hwb := hh.own _ _ _ hob
  rw [e0, s0] at hwb
  obtain ⟨cur, hc, hrc, hKb⟩ := hwb
  have hwa := hh.own _ _ _ hoa
  rw [e0, s0] at hwa
  obtain ⟨olds, hro, hrow⟩ := own_row hwa
  have hold : olds = Lib.byteCells l := by
    rw [u8l_flat] at hro
    have : (l.map fun b => I.v (.int .u8 b.toNat)) = (l.map fun b => Value.int .u8 b.toNat).map I.v := by rw [List.map_map]; rfl
    rw [this] at hro
    exact repL_vals hro
  subst hold
  have hshb : shape (H :: O) 0 nm = some .box := by simp [shape, hob, Ob.sh]
  have hsha : shape (H :: O) 0 nm2 = some (.arr 1 l.length) := by simp [shape, hoa, Ob.sh]
  obtain ⟨p, v0, hcur, hv0⟩ : ∃ p v0, cur = #[p, v0] ∧ RepD K ρ (shape (H :: O)) v0 (.osl 0 nm2) := by
    generalize hL : cur.toList = L at hrc
    cases hrc with
    | cons h1 h2 => cases h2 with
      | cons h3 h4 => cases h4; exact ⟨_, _, Array.ext' (by rw [hL]), h3⟩
  subst hcur
  have hv0 := inv_osl hv0 hsha
  subst hv0
  obtain ⟨rfl⟩ : vs = [.pointer (some ⟨(ρ 0 nm).block, 0, none⟩)] := by
    cases hrep with
    | cons h1 h2 => cases h2; rw [inv_box h1 hshb]
  rw [hent] at hrun
  simp only [Oper.wp, hrun, Oper.upon]
  refine (hspec _ p _ l w hc hrow h0).mono ?_
  rintro e w' ⟨rfl, g, hgb, rfl⟩
  obtain ⟨r1, r2, r3, r4⟩ := freeze_rest w.drew g l.length
  have hbase : (ρ 0 nm2).base = some ⟨(ρ 0 nm2).block, 0, none⟩ := by
    rcases hwa.2.2.2.2 with ⟨_, h1⟩ | ⟨h1, _⟩
    · rw [h1] at hgb; simp [Value.ownBlock] at hgb
    · exact h1
  have hgb : (ρ 0 nm2).block = g := by rw [hbase] at hgb; simpa [Value.ownBlock] using hgb
  subst hgb
  have hKo : backed (ρ 0 nm2) (.arr ty 1 l.length (u8l l) true) → ∀ o, K (ρ 0 nm2).block o = none := by
    intro hbk
    obtain ⟨_, _, _, _, h5⟩ := hwa
    rcases h5 with ⟨_, h6⟩ | ⟨_, c, _, _, _, h9, _⟩
    · exact absurd h6 hbk
    · exact h9 rfl
  let l0 : Loc := ⟨0, 0, none⟩
  have hap : Apnd K w (w.drew.freeze ⟨(ρ 0 nm2).block, 0, none⟩ l.length) (ρ 0 nm2) l0 := by
    refine ⟨Nat.le_of_eq r4.symm, fun b _ hne => ?_, ⟨r1, r2, r3⟩, fun e => absurd rfl e⟩
    exact freeze_other w.drew _ _ _ (hne (by rw [hbase]; simp))
  obtain ⟨hI3, hbut⟩ := hh.renew (nm := nm2) (dst := nm2) ha (by rw [look_killH]; simp) hap Iff.rfl (ob' := .arr ty 1 0 [] true) Iff.rfl hKo (fun ρ' sh' => ⟨by simp, rfl, Nat.le_refl _, by simp [l0], .inl ⟨rfl, rfl⟩⟩)
  refine hnext _ _ K (upd ρ nm2 l0) ?_
  · rw [ht]
    refine ⟨hI3, hi.defers, by simp [Act.put]; exact hi.size, fun t' d' e' => ?_⟩
    rw [tmps_put (by rw [hi.size]; exact hn)]
    simp only [look_cons] at e'
    split at e'
    · rename_i e2
      simp only [Option.some.injEq] at e'
      subst e'
      rw [if_pos e2]
      exact .i (.v rfl)
    · rename_i e2
      rw [if_neg e2]
      rw [look_killσ] at e'
      cases hls : look s.σ t' with
      | none => simp [hls] at e'
      | some d0 =>
        simp only [hls, Option.map_some, Option.some.injEq] at e'
        subst e'
        have hr := hi.slots _ _ hls
        rw [hS] at hr
        exact hr.kill hbut
end
end Go.AI


/- slices.Delete of a list of boxes: one element goes, in place. -/
namespace Go.AI
open Go.Proofs
open Go.Shelf Go.RowKit Go.Lib Go.Sort
end Go.AI


/- A region whose order is drawn, with a late operation: behind a prefix an old operation, one that may come ahead of it, and a last one. -/
namespace Go.AI
section
variable {c : Cx} {s : St} {k : List Item} {ops : Array Oper} {rest : List Nat} {o : Oper}
end
end Go.AI


/- Searches in lists of one's own, clones, the closure of boxes. -/
namespace Go.AI
open Go.Proofs
set_option maxRecDepth 20000
end Go.AI


/- The program's cover. -/
namespace Go.AI
open Go.Proofs
set_option maxRecDepth 20000
end Go.AI


/- covered, Boxes, equal lists of boxes. -/
namespace Go.AI
open Go.Proofs
set_option maxRecDepth 20000
/-- What a domain's values are. -/
structure valsB (l : List Vr) (dom : List (List Int)) : Prop where
  vb : ∀ a ∈ l, -65536 ≤ a.low ∧ a.high ≤ 65536
  ll : l.length ≤ 16
  len : dom.length ≤ 4096
  vl : ∀ v ∈ dom, v.length = l.length
  b : ∀ v ∈ dom, ∀ j, -65536 ≤ v.getD j 0 ∧ v.getD j 0 ≤ 65536
theorem domOk.vals {l : List Vr} (h : domOk l) : valsB l (allV l) := ⟨fun a ha => (h.b a ha).1, h.len, h.all, fun v hv => allV_mem_len hv, fun v hv => dom_bounds h hv⟩
instance bxDec : DecidableEq Bx := fun a b => decidable_of_iff (a.low = b.low ∧ a.high = b.high) ⟨fun ⟨h1, h2⟩ => by cases a; cases b; cases h1; cases h2; rfl, fun h => by subst h; exact ⟨rfl, rfl⟩⟩
end Go.AI


/- Variables of small ranges. -/
namespace Go.AI
set_option maxRecDepth 20000
/-- The variables that the laws draw. -/
structure small (l : List Vr) : Prop where
  dom : domOk l
  all : allG l = (allV l, 0)
  len : l.length ≤ 3
  pos : 1 ≤ (allV l).length
  most : (allV l).length ≤ 64
  v : ∀ x ∈ l, vrOk x
theorem small.max {l : List Vr} (h : small l) : l.length ≤ max63 ∧ ∀ v ∈ l, v.name.size ≤ max63 :=
  ⟨by have := h.len; simp only [max63]; omega, fun v hv => by rw [(h.v v hv).nm]; decide⟩
end Go.AI


/- The arguments of the statements about guards: data. -/
namespace Go.Proofs.YtonnakcgopcfnaaDoor
open Go.ChangeShapes Go.WideShapes Go.ChangeAt Go.RowKit Go.Deep Go.WideElems
set_option maxRecDepth 100000
section
variable {H : Type} {enc : TypeId × Value → H} {W : World}
end
end Go.Proofs.YtonnakcgopcfnaaDoor


/- The arguments of the statements about flattening: data. -/
namespace Go.Proofs.YtonnakcgopcfnaaDoor
open Go.ChangeShapes Go.WideShapes Go.ChangeAt Go.RowKit Go.Deep Go.WideElems
set_option maxRecDepth 100000
section
variable {H : Type} {enc : TypeId × Value → H} {W : World}
end
end Go.Proofs.YtonnakcgopcfnaaDoor
