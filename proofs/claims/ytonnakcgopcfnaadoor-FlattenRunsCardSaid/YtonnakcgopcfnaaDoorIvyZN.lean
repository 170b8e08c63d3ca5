/- The layer of abstract runs, part 40. -/
import Derived.Test.YtonnakcgopcfnaaDoorIvyZM
import Derived.KernelRfl
import Derived.Test.YtonnakcgopcfnaaDoorTie
import Derived.Test.YtonnakcgopcfnaaDoorCards
import Derived.ProofKit
import Derived.LaidMore
import Derived.OpenShut
import Derived.Lay
import Derived.SevenTiedAt
import Derived.Stop.Joined
import Derived.Stop.LaidErr
import Derived.Lib.LaidTab
set_option linter.unusedSimpArgs false
set_option linter.unusedVariables false
set_option linter.all false

namespace Go.AI
open Go.Proofs
set_option maxRecDepth 20000
theorem decDigits_len : ∀ (k u : Nat), u < 10 ^ (k + 1) → (Lib.decDigits u).length ≤ k + 1
  | 0, u, h => by
    unfold Lib.decDigits
    rw [dif_pos (by omega)]
    simp
  | k + 1, u, h => by
    unfold Lib.decDigits
    split
    · simp
    · rw [List.length_append]
      have := decDigits_len k (u / 10) (by rw [Nat.pow_succ] at h; omega)
      simp only [List.length_cons, List.length_nil]
      omega
theorem itoaB_size {n : Int} (h0 : -9223372036854775808 ≤ n) (h1 : n ≤ 9223372036854775807) : (itoaB n).size ≤ 21 := by
  show (Lib.itoa n).toArray.size ≤ 21
  simp only [List.size_toArray]
  unfold Lib.itoa
  split
  · have := decDigits_len 19 n.natAbs (by omega)
    simp only [List.length_cons]
    omega
  · have := decDigits_len 19 n.toNat (by omega)
    omega
def spaceB : ByteArray := ⟨#[32]⟩
/-- The text of a state. -/
def keyS (loc : Int) (vals : List Int) : ByteArray := vals.foldl (fun b n => b ++ (spaceB ++ itoaB n)) (itoaB loc)
abbrev i64B (n : Int) : Prop := -9223372036854775808 ≤ n ∧ n ≤ 9223372036854775807
theorem key63 {g : Nat} (hg : IsTab g) {ty : TypeId} {fr : Nat × Nat} (O : List Heap) (s : Sta) (hl : i64B s.loc) (hv : ∀ v ∈ s.vals, i64B v) (hn : s.vals.length ≤ 16) : ASpecT g (ptab ty fr) Tryd.prog 164 [staD s] O (.i (.v (.string (keyS s.loc s.vals)))) [] O := by
  obtain ⟨loc, vals⟩ := s
  simp only at hl hv hn
  refine aspecT_stop [] Tk Tryd.func164 rfl Tryd.call164 Tryd.ntmps164 (Nat.le_of_ble_eq_true rfl) fun E hE => ?_
  refine g_run Tk Tryd.func164 ?_
  refine g_callT Tk Tryd.func164 hE (itoa79 hg _ loc hl.1 hl.2) rfl rfl rfl rfl rfl rfl ?_
  refine g_loop ?_
  have hsz := itoaB_size hl.1 hl.2
  refine rch_loop2 (fun x : Nat × ByteArray => [(3, .i (.v (.string x.2))), (10, ints vals), (11, ii vals.length), (12, ii x.1)]) (fun _ => []) (fun _ => O) 23
    (fun x => x.1 ≤ vals.length ∧ x.2.size ≤ 22 * (x.1 + 1) ∧ keyS loc vals = (vals.drop x.1).foldl (fun b n => b ++ (spaceB ++ itoaB n)) x.2) (fun x => vals.length - x.1) (0, itoaB loc) ⟨Nat.zero_le _, by simp only; omega, rfl⟩ ⟨rfl, rfl, rfl, rfl, trivial⟩ rfl trivial rfl rfl ?_
  rintro ⟨i, b⟩ ⟨hi, hb, hno⟩ ih
  simp only at hi hb hno
  refine g_run Tk Tryd.func164 ?_
  first | refine g_cnd Tk Tryd.func164 rfl (fun h1 => ?_) (fun h1 => ?_) | refine g_know Tk Tryd.func164 rfl (fun h1 => ?_) (fun h1 => ?_) | refine s_know Tk (fun h1 => ?_) (fun h1 => ?_)
  · have h1 : i < vals.length := by simpa using h1
    have hd : vals.drop i = vals[i] :: vals.drop (i + 1) := List.drop_eq_getElem_cons h1
    have hm := hv _ (List.getElem_mem h1)
    have hgi : (vals.map fun x => [vi x])[(i : Int).toNat]? = some [vi vals[i]] := get_mapZ (f := fun x => [vi x]) h1
    generalize vals[i] = n at hd hm hgi
    have hs2 := itoaB_size hm.1 hm.2
    have hs3 : (spaceB ++ itoaB n).size = 1 + (itoaB n).size := ByteArray.size_append
    first | refine g_need Tk Tryd.func164 (by omega) ?_ | refine s_need Tk (by omega) ?_
    first | refine g_elem Tk Tryd.func164 (hgi) ?_ | refine s_elem Tk (hgi) ?_
    refine g_callT Tk Tryd.func164 hE (itoa79 hg _ n hm.1 hm.2) rfl rfl rfl rfl rfl rfl ?_
    first | refine g_need Tk Tryd.func164 (by show 1 + (itoaB n).size ≤ _; omega) ?_ | refine s_need Tk (by show 1 + (itoaB n).size ≤ _; omega) ?_
    first | refine g_need Tk Tryd.func164 (by show b.size + (spaceB ++ itoaB n).size ≤ _; omega) ?_ | refine s_need Tk (by show b.size + (spaceB ++ itoaB n).size ≤ _; omega) ?_
    refine g_loop ?_
    refine ih (i + 1, b ++ (spaceB ++ itoaB n)) _ _ ⟨h1, ?_, ?_⟩ (by simp only; omega) ⟨rfl, rfl, rfl, congrArg ii (wsucc (n := 16) (by omega) (by decide)), trivial⟩ rfl trivial rfl rfl
    · show (b ++ (spaceB ++ itoaB n)).size ≤ 22 * (i + 1 + 1)
      rw [ByteArray.size_append]
      omega
    · rw [hno, hd]
      rfl
  · have h1 : vals.length ≤ i := by simpa using h1
    rw [List.drop_eq_nil_of_le h1] at hno
    simp only [List.foldl_nil] at hno
    rw [hno]
    refine g_ret Tk (r := .i (.v (.string b))) rfl rfl rfl trivial rfl rfl ?_
    rfl
end Go.AI


/- Another name for one object among others. -/
namespace Go.AI
def renH (a b : Nat) : Heap → Heap
  | [] => []
  | (k, o) :: r => (renN a b k, o) :: renH a b r
theorem renN_self (a b : Nat) : renN a b a = b := by simp [renN]
theorem renN_ne {a b n : Nat} (h : n ≠ a) : renN a b n = n := by
  unfold renN
  cases hb : Nat.beq n a with
  | false => rfl
  | true => exact absurd (Nat.eq_of_beq_eq_true hb) h
theorem look_renH {a b n : Nat} {o : Ob} : ∀ {H : Heap}, look H b = none → look (renH a b H) n = some o → ∃ n0, n = renN a b n0 ∧ look H n0 = some o
  | [], _, h => by simp [renH, look] at h
  | (k, x) :: r, hb, h => by
    rw [look_cons] at hb
    split at hb
    · cases hb
    · rename_i hkb
      simp only [renH] at h
      rw [look_cons] at h
      split at h
      · rename_i e
        simp only [Option.some.injEq] at h
        subst h
        exact ⟨k, e.symm, by rw [look_cons, if_pos rfl]⟩
      · rename_i e
        obtain ⟨n0, h1, h2⟩ := look_renH hb h
        refine ⟨n0, h1, ?_⟩
        rw [look_cons, if_neg]
        · exact h2
        · intro e2
          subst e2
          exact e h1.symm
theorem look_renH' {a b n0 : Nat} {o : Ob} : ∀ {H : Heap}, look H b = none → look H n0 = some o → look (renH a b H) (renN a b n0) = some o
  | [], _, h => by simp [look] at h
  | (k, x) :: r, hb, h => by
    rw [look_cons] at hb
    split at hb
    · cases hb
    · rename_i hkb
      rw [look_cons] at h
      simp only [renH]
      rw [look_cons]
      split at h
      · rename_i e
        subst e
        rw [if_pos rfl]; exact h
      · rename_i e
        rw [if_neg]
        · exact look_renH' hb h
        · intro e2
          by_cases h1 : k = a
          · subst h1
            rw [renN_self, renN_ne (Ne.symm e)] at e2
            subst e2
            rw [hb] at h; cases h
          · rw [renN_ne h1] at e2
            by_cases h2 : n0 = a
            · subst h2; rw [renN_self] at e2; exact hkb e2
            · rw [renN_ne h2] at e2; exact e e2
section
variable {c : Cx} {s : St} {H : Heap} {O : List Heap}
theorem wk_ren (a b : Nat) (hS : s.S = H :: O) (hb : look H b = none) (hfl : allH (fun _ o => o.flat) H = true) : Wk c s { σ := renσ a b s.σ, S := renH a b H :: O, n := s.n } := by
  intro K ρ act w hi
  have hh := hi.h
  rw [hS] at hh
  let ρ' : Nat → Nat → Loc := upd ρ b (ρ 0 a)
  have hρ : ∀ n0 o, look H n0 = some o → ρ' 0 (renN a b n0) = ρ 0 n0 := by
    intro n0 o h
    by_cases h1 : n0 = a
    · subst h1; rw [renN_self]; exact upd_same _ _ _
    · rw [renN_ne h1]
      exact upd_other _ _ _ (.inr fun e => by subst e; rw [hb] at h; cases h)
  have r1 : ∀ d n, ρ' (d + 1) n = ρ (d + 1) n := fun d n => upd_other _ _ _ (.inl (by omega))
  have hren : Ren a b ρ ρ' (shape (H :: O)) (shape (renH a b H :: O)) := by
    refine ⟨fun n x e => ?_, fun d n x e => ⟨by simpa [shape, objAt] using e, r1 d n⟩⟩
    simp only [shape, objAt, List.getElem?_cons_zero] at e ⊢
    cases hl : look H n with
    | none => simp [hl] at e
    | some o =>
      rw [look_renH' hb hl]
      exact ⟨by simpa [hl] using e, hρ _ _ hl⟩
  have hmv : Moves (fun _ => false) K K ρ ρ' (shape (H :: O)) (shape (renH a b H :: O)) := ⟨K.le_refl, fun _ _ h => (by cases h), hren.s⟩
  have hcase : ∀ d n o, objAt (renH a b H :: O) d n = some o → ∃ n0, objAt (H :: O) d n0 = some o ∧ ρ' d n = ρ d n0 ∧ (d = 0 → n = renN a b n0) ∧ (d ≠ 0 → n = n0) := by
    intro d n o e
    cases d with
    | zero =>
      obtain ⟨n0, rfl, h2⟩ := look_renH hb (by simpa [objAt] using e)
      exact ⟨n0, by simpa [objAt] using h2, hρ _ _ h2, fun _ => rfl, fun h => absurd rfl h⟩
    | succ d => exact ⟨n, by simpa [objAt] using e, r1 _ _, fun h => absurd h (Nat.succ_ne_zero d), fun _ => rfl⟩
  have e0 : ∀ f : Nat → Nat → Loc, (fun d n => f (0 + d) n) = f := by intro f; funext d n; rw [Nat.zero_add]
  refine ⟨K, ρ', ⟨hh.holds, ?_, ?_, hh.size, ?_, ?_, ?_, hh.Kle, hh.Knew, hh.rest⟩, hi.defers, hi.size, fun t d e => ?_⟩
  · intro d n o e
    obtain ⟨n0, h1, h2, h3, h4⟩ := hcase d n o e
    have h0 := hh.own _ _ _ h1
    rw [h2]
    cases d with
    | zero =>
      rw [e0] at h0 ⊢
      have hf : o.flat = true := allH_look hfl (by simpa [objAt] using h1)
      refine h0.move hmv ?_ (fun _ => rfl) (fun _ _ => rfl)
      cases o with
      | box cs => exact hf
      | tb _ cs => exact hf
      | arr => rfl
      | mp => rfl
    | succ d =>
      have e1 : (fun d' n => ρ' (d + 1 + d') n) = fun d' n => ρ (d + 1 + d') n := by
        funext d' n
        rw [show d + 1 + d' = (d + d') + 1 by omega, r1]
      rw [e1]
      simpa using h0
  · intro d n o d2 n2 o2 e e2 b1 b2 hbe
    obtain ⟨m1, a1, a2, a3, a4⟩ := hcase d n o e
    obtain ⟨m2, c1, c2, c3, c4⟩ := hcase d2 n2 o2 e2
    rw [a2] at b1 hbe
    rw [c2] at b2 hbe
    obtain ⟨rfl, rfl⟩ := hh.inj _ _ _ _ _ _ a1 c1 b1 b2 hbe
    refine ⟨rfl, ?_⟩
    by_cases h : d = 0
    · rw [a3 h, c3 h]
    · rw [a4 h, c4 h]
  · intro b' hb' hno
    refine hh.old b' hb' fun d n o e hbk => ?_
    have := hno d n o (by simpa [objAt] using e) (by rw [r1]; exact hbk)
    rwa [r1] at this
  · intro n o e hbk
    obtain ⟨n0, h1, h2, _⟩ := hcase 0 n o e
    rw [h2] at hbk ⊢
    exact hh.loc _ _ h1 hbk
  · intro d
    funext n
    rw [r1, hh.outer]
  · simp only [look_renσ] at e
    cases hl : look s.σ t with
    | none => simp [hl] at e
    | some d0 =>
      simp only [hl, Option.map_some, Option.some.injEq] at e
      subst e
      have := hi.slots _ _ hl
      rw [hS] at this
      exact this.ren hren
end
end Go.AI


namespace Go.AI
open Go.Proofs
set_option maxRecDepth 20000
theorem within_iff : ∀ {l : List Vr} {xs : List Int}, within l xs = true ↔ xs.length = l.length ∧ ∀ i (h : i < l.length) (h' : i < xs.length), l[i].low ≤ xs[i] ∧ xs[i] ≤ l[i].high
  | [], [] => by simp [within]
  | [], _ :: _ => by simp [within]
  | _ :: _, [] => by simp [within]
  | v :: r, x :: ys => by
    simp only [within, Bool.and_eq_true, decide_eq_true_eq, within_iff (l := r) (xs := ys), List.length_cons, Nat.add_right_cancel_iff]
    constructor
    · rintro ⟨⟨h1, h2⟩, h3, h4⟩
      refine ⟨h3, fun i h h' => ?_⟩
      cases i with
      | zero => exact ⟨h1, h2⟩
      | succ i => exact h4 i (by simpa using h) (by simpa using h')
    · rintro ⟨h3, h4⟩
      exact ⟨h4 0 (by simp) (by simp), h3, fun i h h' => h4 (i + 1) (by simpa using h) (by simpa using h')⟩
theorem within_set {l : List Vr} {xs : List Int} {k : Nat} {n : Int} (h : within l xs = true) (hk : k < l.length) (hn : l[k].low ≤ n ∧ n ≤ l[k].high) : within l (xs.set k n) = true := by
  rw [within_iff] at h ⊢
  refine ⟨by simpa using h.1, fun i hi hi' => ?_⟩
  rw [List.getElem_set]
  split
  · rename_i e; subst e; exact hn
  · exact h.2 i hi (by simpa using hi')
theorem checkVrs_zero {all : List Vr} : ∀ {l : List Vr} {i : Nat}, checkVrs all l i = 0 → ∀ v ∈ l, (-65536 ≤ v.low ∧ v.high ≤ 65536) ∧ v.low ≤ v.init ∧ v.init ≤ v.high
  | [], _, _, v, hv => by simp at hv
  | x :: r, i, h, v, hv => by
    simp only [checkVrs] at h
    split at h
    · rename_i e he
      subst h
      unfold checkVr at he
      split at he; · cases he
      split at he; · cases he
      split at he; · cases he
      split at he; · cases he
      split at he <;> cases he
    · rename_i he
      rcases List.mem_cons.1 hv with rfl | hv
      · unfold checkVr at he
        split at he; · cases he
        split at he; · cases he
        split at he; · cases he
        rename_i h3
        split at he; · cases he
        split at he; · cases he
        rename_i h4 h5
        simp only [checkVr.large, Bool.or_eq_true, decide_eq_true_eq, not_or] at h3
        omega
      · exact checkVrs_zero h v hv
theorem vars_ok {l : List Vr} (h : varsErr l = 0) : ∀ v ∈ l, (-65536 ≤ v.low ∧ v.high ≤ 65536) ∧ v.low ≤ v.init ∧ v.init ≤ v.high := by
  unfold varsErr at h
  split at h
  · cases h
  · exact checkVrs_zero h
/-- A right state. -/
def okS (m : Ext) (s : Sta) : Prop := (0 ≤ s.loc ∧ s.loc < m.locs) ∧ within m.vars s.vals = true
theorem okS_bounds {m : Ext} {s : Sta} (hr : extRight m) (h : okS m s) : i64B s.loc ∧ (∀ v ∈ s.vals, i64B v) ∧ s.vals.length ≤ 16 ∧ s.vals.length = m.vars.length ∧ ∀ v ∈ s.vals, -65536 ≤ v ∧ v ≤ 65536 := by
  obtain ⟨h1, h2⟩ := h
  rw [within_iff] at h2
  have hl := hr.locs
  have hv := vars_len hr.vars
  have hb : ∀ v ∈ s.vals, -65536 ≤ v ∧ v ≤ 65536 := by
    intro v hm
    obtain ⟨i, hi, rfl⟩ := List.getElem_of_mem hm
    have a := h2.2 i (by omega) hi
    have b := vars_ok hr.vars _ (List.getElem_mem (by omega : i < m.vars.length))
    omega
  exact ⟨⟨by omega, by omega⟩, fun v hm => by have := hb v hm; exact ⟨by omega, by omega⟩, by omega, h2.1, hb⟩
theorem start_ok {m : Ext} (hr : extRight m) : okS m (startR m) := by
  refine ⟨hr.init, within_iff.2 ⟨by simp [startR], fun i h h' => ?_⟩⟩
  simp only [startR, List.getElem_map]
  exact (vars_ok hr.vars _ (List.getElem_mem h)).2
theorem updR_ok {m : Ext} {vals : List Int} : ∀ {l : List Upd} {acc out : List Int}, updR m vals l acc = some out → within m.vars acc = true → within m.vars out = true
  | [], acc, out, h, hw => by simp only [updR, Option.some.injEq] at h; subst h; exact hw
  | u :: r, acc, out, h, hw => by
    simp only [updR] at h
    cases hu : m.vars[u.v.toNat]? with
    | none => rw [hu] at h; cases h
    | some v =>
      rw [hu] at h
      simp only at h
      split at h
      · cases h
      · rename_i hc
        have hk : u.v.toNat < m.vars.length := (List.getElem?_eq_some_iff.1 hu).1
        have hkv : m.vars[u.v.toNat] = v := (List.getElem?_eq_some_iff.1 hu).2
        refine updR_ok h (within_set hw hk ?_)
        rw [hkv]
        omega
theorem step_ok {m : Ext} {s : Sta} {ev : Int} (hr : extRight m) (h : okS m s) (hp : (stepR m s ev).2.1 = true) : okS m (stepR m s ev).1 := by
  unfold stepR at hp ⊢
  cases hc : (chs s ev m.moves 0 none false).1 with
  | none => rw [hc] at hp; cases hp
  | some k =>
    rw [hc] at hp
    simp only at hp ⊢
    split at hp
    · cases hp
    · rename_i he
      rw [if_neg he]
      cases hk : m.moves[k]? with
      | none => rw [hk] at hp; cases hp
      | some x =>
        rw [hk] at hp
        simp only at hp ⊢
        cases hu : updR m s.vals x.us s.vals with
        | none => rw [hu] at hp; cases hp
        | some acc =>
          exact ⟨(hr.mv x (List.mem_of_getElem? hk)).to, updR_ok hu h.2⟩
/-- What search has found. -/
structure Srch where
  sts : List Sta
  frm : List (Int × Int)
  flt : Int × Int
  kind : Int
def keyOf (s : Sta) : ByteArray := keyS s.loc s.vals
/-- One event in state i; none where there are too many states. -/
def visit (m : Ext) (i : Nat) (s : Sta) (ev : Int) (S : Srch) : Option Srch :=
  let n := stepR m s ev
  let S1 : Srch := if n.2.2 ≠ 0 ∧ S.kind = 0 then { S with kind := n.2.2, flt := (i, ev) } else S
  if n.2.1 = false ∨ (S.sts.any fun t => keyOf n.1 == keyOf t) = true then some S1 else
  if S.sts.length = 4096 then none else some { S1 with sts := S1.sts ++ [n.1], frm := S1.frm ++ [((i : Int), ev)] }
def visits (m : Ext) (i : Nat) (s : Sta) : List Int → Srch → Option Srch
  | [], S => some S
  | ev :: r, S => match visit m i s ev S with
    | none => none
    | some S' => visits m i s r S'
def searchL (m : Ext) : Nat → Nat → Srch → Option Srch
  | 0, _, S => some S
  | fuel + 1, i, S => match S.sts[i]? with
    | none => some S
    | some s => match visits m i s m.alpha S with
      | none => none
      | some S' => searchL m fuel (i + 1) S'
def search0 (m : Ext) : Srch := ⟨[startR m], [(-1, -1)], (-1, -1), 0⟩
def searchR (m : Ext) : Option Srch := searchL m 4097 0 (search0 m)
abbrev ostas (l : List Sta) : Ob := .arr 111 2 l.length (l.map staI) true
abbrev pairI (p : Int × Int) : List I := [vi p.1, vi p.2]
abbrev opairs (l : List (Int × Int)) : Ob := .arr 212 2 l.length (l.map pairI) true
abbrev keysM (l : List Sta) : MC := .b (l.map fun s => (.string (keyOf s), true))
theorem keys_get {l : List Sta} {b : ByteArray} : mgetB (l.map fun s => (.string (keyOf s), true)) (.string b) = l.any fun s => b == keyOf s := by
  unfold mgetB
  induction l with
  | nil => rfl
  | cons s r ih =>
    simp only [List.map_cons, mlook, keyB, List.any_cons]
    cases h : b == keyOf s with
    | true => rfl
    | false => simpa using ih
theorem keys_set {l : List Sta} {s : Sta} (h : (l.any fun t => keyOf s == keyOf t) = false) : mset (l.map fun s => (Value.string (keyOf s), true)) (.string (keyOf s)) true = (l ++ [s]).map fun s => (Value.string (keyOf s), true) := by
  induction l with
  | nil => rfl
  | cons t r ih =>
    simp only [List.any_cons, Bool.or_eq_false_iff] at h
    simp only [List.map_cons, mset, keyB, h.1, cond_false, List.cons_append]
    rw [ih h.2]
end Go.AI


namespace Go.AI
open Go.Proofs
set_option maxRecDepth 20000
theorem visit_len {m : Ext} {i : Nat} {s : Sta} {ev : Int} {S S' : Srch} (h : visit m i s ev S = some S') (hl : S.sts.length ≤ 4096) : S'.sts.length ≤ 4096 ∧ S.sts.length ≤ S'.sts.length ∧ ∀ k (hk : k < S.sts.length), S'.sts[k]? = S.sts[k]? := by
  unfold visit at h
  simp only at h
  split at h
  · simp only [Option.some.injEq] at h
    subst h
    split <;> exact ⟨hl, Nat.le_refl _, fun _ _ => rfl⟩
  · split at h
    · cases h
    · simp only [Option.some.injEq] at h
      subst h
      have : (if (stepR m s ev).2.2 ≠ 0 ∧ S.kind = 0 then { S with kind := (stepR m s ev).2.2, flt := ((i : Int), ev) } else S).sts = S.sts := by split <;> rfl
      simp only [this, List.length_append, List.length_cons, List.length_nil]
      refine ⟨by omega, by omega, fun k hk => ?_⟩
      rw [List.getElem?_append_left hk]
/-- What the loops know of what was found. -/
structure Good (m : Ext) (S : Srch) : Prop where
  len : S.sts.length ≤ 4096
  ok : ∀ s ∈ S.sts, okS m s
  fl : S.frm.length = S.sts.length
theorem visit_good {m : Ext} (hr : extRight m) {i : Nat} {s : Sta} {ev : Int} {S S' : Srch} (h : visit m i s ev S = some S') (hg : Good m S) (hs : okS m s) : Good m S' := by
  have hl := visit_len h hg.len
  unfold visit at h
  simp only at h
  split at h
  · simp only [Option.some.injEq] at h
    subst h
    split <;> exact ⟨hg.len, hg.ok, hg.fl⟩
  · rename_i hc
    split at h
    · cases h
    · simp only [Option.some.injEq] at h
      subst h
      have e1 : (if (stepR m s ev).2.2 ≠ 0 ∧ S.kind = 0 then { S with kind := (stepR m s ev).2.2, flt := ((i : Int), ev) } else S).sts = S.sts := by split <;> rfl
      have e2 : (if (stepR m s ev).2.2 ≠ 0 ∧ S.kind = 0 then { S with kind := (stepR m s ev).2.2, flt := ((i : Int), ev) } else S).frm = S.frm := by split <;> rfl
      simp only [not_or] at hc
      refine ⟨hl.1, fun t ht => ?_, by simp [e1, e2, hg.fl]⟩
      simp only [e1, List.mem_append, List.mem_singleton] at ht
      rcases ht with ht | rfl
      · exact hg.ok t ht
      · exact step_ok hr hs (by simpa using hc.1)
theorem searchL_done {m : Ext} {S : Srch} {i : Nat} (h : S.sts.length ≤ i) : ∀ k, searchL m k i S = some S
  | 0 => rfl
  | k + 1 => by simp only [searchL, List.getElem?_eq_none h]
theorem ostas_app (l : List Sta) (s : Sta) : Ob.arr 111 2 (l.length + 1) (l.map staI ++ [staI s]) true = ostas (l ++ [s]) := by simp
theorem opairs_app (l : List (Int × Int)) (p : Int × Int) : Ob.arr 212 2 (l.length + 1) (l.map pairI ++ [pairI p]) true = opairs (l ++ [p]) := by simp
theorem search43 {g : Nat} (hg : IsTab g) {ty : TypeId} {fr : Nat × Nat} (O : List Heap) (m : Ext) (hok : extOk m) (hr : extRight m) {R : D} (hR : R = match searchR m with
      | none => .tup [.i (.sl 2 0 []), .i (.sl 2 0 []), .agg [ii 0, ii 0], ii 0, ii 3]
      | some S => .tup [.i (.sl 2 S.sts.length (S.sts.map staI)), .i (.sl 2 S.frm.length (S.frm.map pairI)), .agg [ii S.flt.1, ii S.flt.2], ii S.kind, ii 0]) :
    ASpecT g (ptab ty fr) Tryd.prog 126 [extD m] O R [] O := by
  have hst := start_ok hr
  have hv16 := vars_len hr.vars
  have hal := hok.al
  have hsb := okS_bounds hr hst
  refine aspecT_stop [12] Tk Tryd.func126 rfl Tryd.call126 Tryd.ntmps126 (Nat.le_of_ble_eq_true rfl) fun E hE => ?_
  refine g_run Tk Tryd.func126 ?_
  first | refine g_call Tk Tryd.func126 (start48 _ m hv16) rfl rfl rfl rfl rfl ?_ | refine s_callq Tk (fun _ => start48 _ m hv16) rfl rfl rfl ?_
  first | refine g_need Tk Tryd.func126 (by simp) ?_ | refine s_need Tk (by simp) ?_
  first | refine g_elem Tk Tryd.func126 (rfl) ?_ | refine s_elem Tk (rfl) ?_
  refine g_callT Tk Tryd.func126 hE (key63 hg _ (startR m) hsb.1 hsb.2.1 hsb.2.2.1) rfl rfl rfl rfl rfl rfl ?_
  refine g_loop ?_
  refine rch_wk (wk_ren 16 78 rfl rfl rfl) ?_
  refine rch_wk (wk_ren 18 84 rfl rfl rfl) ?_
  refine rch_loop2 (fun x : Nat × Srch => [(1, .own 0 1 0 0), (2, .osl 0 78), (3, .osl 0 84), (4, .own 0 4 0 0), (5, ii x.2.kind), (6, ii 0), (7, .osl 0 20), (8, ii x.1)])
    (fun x => [(78, ostas x.2.sts), (84, opairs x.2.frm), (20, .mp .str (keysM x.2.sts)), (4, .box [ii x.2.flt.1, ii x.2.flt.2]), (1, .box (extC m))]) (fun _ => O) 90
    (fun x => x.1 ≤ x.2.sts.length ∧ Good m x.2 ∧ searchR m = searchL m (4097 - x.1) x.1 x.2) (fun x => 4097 - x.1) (0, search0 m)
    ⟨Nat.zero_le _, ⟨by simp [search0], fun s hs => by simp only [search0, List.mem_singleton] at hs; subst hs; exact hst, rfl⟩, rfl⟩ ⟨rfl, rfl, rfl, rfl, rfl, rfl, rfl, rfl, trivial⟩ rfl ⟨rfl, rfl, rfl, rfl, rfl, trivial⟩ rfl rfl ?_
  rintro ⟨i, S⟩ ⟨hi, hgd, hno⟩ ih
  simp only at hi hgd hno
  refine g_run Tk Tryd.func126 ?_
  first | refine g_cnd Tk Tryd.func126 rfl (fun h1 => ?_) (fun h1 => ?_) | refine g_know Tk Tryd.func126 rfl (fun h1 => ?_) (fun h1 => ?_) | refine s_know Tk (fun h1 => ?_) (fun h1 => ?_)
  · have h1 : i < S.sts.length := by simpa using h1
    have hsi : S.sts[i]? = some S.sts[i] := List.getElem?_eq_getElem h1
    have hoks := hgd.ok _ (List.getElem_mem h1)
    have hle := hgd.len
    generalize S.sts[i] = si at hsi hoks
    have hno : searchR m = match visits m i si m.alpha S with
        | none => none
        | some S' => searchL m (4097 - (i + 1)) (i + 1) S' := by
      rw [hno, show 4097 - i = (4097 - (i + 1)) + 1 by omega]
      simp only [searchL, hsi]
      all_goals (cases visits m i si m.alpha S <;> rfl)
    refine g_loop ?_
    refine rch_loop2 (fun x : Nat × Srch => [(1, .own 0 1 0 0), (2, .osl 0 78), (3, .osl 0 84), (4, .own 0 4 0 0), (5, ii x.2.kind), (6, ii 0), (7, .osl 0 20), (8, ii i), (33, ints m.alpha), (34, ii m.alpha.length), (35, ii x.1)])
      (fun x => [(78, ostas x.2.sts), (84, opairs x.2.frm), (20, .mp .str (keysM x.2.sts)), (4, .box [ii x.2.flt.1, ii x.2.flt.2]), (1, .box (extC m))]) (fun _ => O) 90
      (fun x => x.1 ≤ m.alpha.length ∧ Good m x.2 ∧ S.sts.length ≤ x.2.sts.length ∧ x.2.sts[i]? = some si ∧ visits m i si m.alpha S = visits m i si (m.alpha.drop x.1) x.2) (fun x => m.alpha.length - x.1) (0, S)
      ⟨Nat.zero_le _, hgd, Nat.le_refl _, hsi, rfl⟩ ⟨rfl, rfl, rfl, rfl, rfl, rfl, rfl, rfl, rfl, rfl, rfl, trivial⟩ rfl ⟨rfl, rfl, rfl, rfl, rfl, trivial⟩ rfl rfl ?_
    rintro ⟨j, S'⟩ ⟨hj, hgd', hmon, hsi', hvis⟩ ih2
    clear hgd
    simp only at hj hgd' hmon hsi' hvis
    refine g_run Tk Tryd.func126 ?_
    first | refine g_cnd Tk Tryd.func126 rfl (fun h2 => ?_) (fun h2 => ?_) | refine g_know Tk Tryd.func126 rfl (fun h2 => ?_) (fun h2 => ?_) | refine s_know Tk (fun h2 => ?_) (fun h2 => ?_)
    · have h2 : j < m.alpha.length := by simpa using h2
      have hd : m.alpha.drop j = m.alpha[j] :: m.alpha.drop (j + 1) := List.drop_eq_getElem_cons h2
      have hgj : (m.alpha.map fun x => [vi x])[(j : Int).toNat]? = some [vi m.alpha[j]] := get_mapZ (f := fun x => [vi x]) h2
      generalize m.alpha[j] = ev at hd hgj
      have hil : i < S'.sts.length := by omega
      have hgi : (S'.sts.map staI)[(i : Int).toNat]? = some (staI si) := by simp [hsi']
      rw [hd] at hvis
      simp only [visits] at hvis
      have hstep := fun O => step50 O m si ev hok hr (okS_bounds hr hoks).2.2.2.1
      have hsok := fun h => okS_bounds hr (step_ok hr hoks (ev := ev) h)
      have hlen := fun S2 h => visit_len (m := m) (i := i) (s := si) (ev := ev) (S := S') (S' := S2) h hgd'.len
      have hgood := fun S2 h => visit_good hr (i := i) (ev := ev) (S := S') (S' := S2) h hgd' hoks
      unfold visit at hvis hlen hgood
      simp only at hvis hlen hgood
      generalize stepR m si ev = n at *
      obtain ⟨⟨nl, nv⟩, np, ne⟩ := n
      simp only at hvis hlen hgood hstep hsok
      first | refine g_need Tk Tryd.func126 (by omega) ?_ | refine s_need Tk (by omega) ?_
      first | refine g_elem Tk Tryd.func126 (hgj) ?_ | refine s_elem Tk (hgj) ?_
      refine g_drawn Tk Tryd.func126 mixedT rfl ?_
      first | refine g_need Tk Tryd.func126 (by exact ⟨by omega, by show (i : Int) < (S'.sts.length : Int); omega⟩) ?_ | refine s_need Tk (by exact ⟨by omega, by show (i : Int) < (S'.sts.length : Int); omega⟩) ?_
      first | refine g_elem Tk Tryd.func126 (hgi) ?_ | refine s_elem Tk (hgi) ?_
      first | refine g_call Tk Tryd.func126 (hstep _) rfl rfl rfl rfl rfl ?_ | refine s_callq Tk (fun _ => hstep _) rfl rfl rfl ?_
      refine s_old Tk ?_
      refine d_mod Tk (p := ⟨[], [(11, .box [ii nl, ints nv])], none⟩) rfl rfl rfl ?_
      refine d_done Tk Tryd.func126 (by kernel_rfl) (GM.h ?_)
      generalize hS1 : (if ne ≠ 0 ∧ S'.kind = 0 then { S' with kind := ne, flt := ((i : Int), ev) } else S') = S1 at hvis hlen hgood
      apply join_q (P := fun p : Int × Int × Int => S1 = ⟨S'.sts, S'.frm, p.2, p.1⟩) (s6 := fun p => { σ := [(1, .own 0 1 0 0), (2, .osl 0 78), (3, .osl 0 84), (4, .own 0 4 0 0), (5, ii p.1), (6, ii 0), (7, .osl 0 20), (8, ii i), (10, ii ev), (11, .own 0 11 0 0), (12, bb np), (33, ints m.alpha), (34, ii m.alpha.length), (35, ii j)], S := [(11, .box [ii nl, ints nv]), (78, ostas S'.sts), (84, opairs S'.frm), (20, .mp .str (keysM S'.sts)), (4, .box [ii p.2.1, ii p.2.2]), (1, .box (extC m))] :: O, n := 90 })
      · intro J
        first | refine g_cnd Tk Tryd.func126 rfl (fun h3 => ?_) (fun h3 => ?_) | refine g_know Tk Tryd.func126 rfl (fun h3 => ?_) (fun h3 => ?_) | refine s_know Tk (fun h3 => ?_) (fun h3 => ?_)
        · have h3 := bneT h3
          first | refine g_cnd Tk Tryd.func126 rfl (fun h4 => ?_) (fun h4 => ?_) | refine g_know Tk Tryd.func126 rfl (fun h4 => ?_) (fun h4 => ?_) | refine s_know Tk (fun h4 => ?_) (fun h4 => ?_)
          · have h4 : S'.kind = 0 := beqT h4
            rw [if_pos ⟨h3, h4⟩] at hS1
            refine g_stop ?_
            refine rch_meet (J (ne, i, ev) hS1.symm) ⟨rfl, rfl, rfl, rfl, rfl, rfl, rfl, rfl, rfl, rfl, rfl, rfl, rfl, rfl, trivial⟩ rfl ⟨rfl, rfl, rfl, rfl, rfl, rfl, trivial⟩ rfl rfl
          · have h4 : S'.kind ≠ 0 := beqF h4
            rw [if_neg (by simp [h4])] at hS1
            refine g_stop ?_
            refine rch_meet (J (S'.kind, S'.flt) hS1.symm) ⟨rfl, rfl, rfl, rfl, rfl, rfl, rfl, rfl, rfl, rfl, rfl, rfl, rfl, rfl, trivial⟩ rfl ⟨rfl, rfl, rfl, rfl, rfl, rfl, trivial⟩ rfl rfl
        · have h3 := bneF h3
          repeat (first | refine g_cnd Tk Tryd.func126 rfl (fun _ => ?_) (fun h => absurd h (by decide)) | refine g_cnd Tk Tryd.func126 rfl (fun h => absurd h (by decide)) (fun _ => ?_) | refine g_know Tk Tryd.func126 rfl (fun _ => ?_) (fun h => absurd h (by decide)) | refine g_know Tk Tryd.func126 rfl (fun h => absurd h (by decide)) (fun _ => ?_) | refine s_know Tk (fun _ => ?_) (fun h => absurd h (by decide)) | refine s_know Tk (fun h => absurd h (by decide)) (fun _ => ?_))
          rw [if_neg (by simp [h3])] at hS1
          refine g_stop ?_
          refine rch_meet (J (S'.kind, S'.flt) hS1.symm) ⟨rfl, rfl, rfl, rfl, rfl, rfl, rfl, rfl, rfl, rfl, rfl, rfl, rfl, rfl, trivial⟩ rfl ⟨rfl, rfl, rfl, rfl, rfl, rfl, trivial⟩ rfl rfl
      · rintro ⟨k1, f1⟩ hS1'
        simp only at hS1'
        subst hS1'
        clear hS1 hstep
        simp only at hvis hlen hgood
        refine g_run Tk Tryd.func126 ?_
        refine g_go Tk Tryd.func126 ?_
        first | refine g_cnd Tk Tryd.func126 rfl (fun h3 => ?_) (fun h3 => ?_) | refine g_know Tk Tryd.func126 rfl (fun h3 => ?_) (fun h3 => ?_) | refine s_know Tk (fun h3 => ?_) (fun h3 => ?_)
        · have h3 := notT h3
          subst h3
          rw [if_pos (.inl rfl)] at hvis hlen hgood
          simp only at hvis
          have hgd2 := hgood _ rfl
          repeat (first | refine g_cnd Tk Tryd.func126 rfl (fun _ => ?_) (fun h => absurd h (by decide)) | refine g_cnd Tk Tryd.func126 rfl (fun h => absurd h (by decide)) (fun _ => ?_) | refine g_know Tk Tryd.func126 rfl (fun _ => ?_) (fun h => absurd h (by decide)) | refine g_know Tk Tryd.func126 rfl (fun h => absurd h (by decide)) (fun _ => ?_) | refine s_know Tk (fun _ => ?_) (fun h => absurd h (by decide)) | refine s_know Tk (fun h => absurd h (by decide)) (fun _ => ?_))
          refine g_loop ?_
          refine ih2 (j + 1, ⟨S'.sts, S'.frm, f1, k1⟩) _ _ ⟨h2, hgd2, hmon, hsi', hvis⟩ (by simp only; omega) ⟨rfl, rfl, rfl, rfl, rfl, rfl, rfl, rfl, rfl, rfl, congrArg ii (wsucc h2 hal), trivial⟩ rfl ⟨rfl, rfl, rfl, rfl, rfl, trivial⟩ rfl rfl
        · have h3 := notF h3
          subst h3
          have hkb := hsok rfl
          refine g_callT Tk Tryd.func126 hE (key63 hg _ ⟨nl, nv⟩ hkb.1 hkb.2.1 hkb.2.2.1) rfl rfl rfl rfl rfl rfl ?_
          first | refine g_cnd Tk Tryd.func126 rfl (fun h4 => ?_) (fun h4 => ?_) | refine g_know Tk Tryd.func126 rfl (fun h4 => ?_) (fun h4 => ?_) | refine s_know Tk (fun h4 => ?_) (fun h4 => ?_)
          · have h4 : (S'.sts.any fun t => keyOf ⟨nl, nv⟩ == keyOf t) = true := keys_get.symm.trans h4
            rw [if_pos (.inr h4)] at hvis hlen hgood
            simp only at hvis
            have hgd2 := hgood _ rfl
            refine g_loop ?_
            refine ih2 (j + 1, ⟨S'.sts, S'.frm, f1, k1⟩) _ _ ⟨h2, hgd2, hmon, hsi', hvis⟩ (by simp only; omega) ⟨rfl, rfl, rfl, rfl, rfl, rfl, rfl, rfl, rfl, rfl, congrArg ii (wsucc h2 hal), trivial⟩ rfl ⟨rfl, rfl, rfl, rfl, rfl, trivial⟩ rfl rfl
          · have h4 : (S'.sts.any fun t => keyOf ⟨nl, nv⟩ == keyOf t) = false := keys_get.symm.trans h4
            rw [if_neg (by simp [h4])] at hvis hlen hgood
            first | refine g_cnd Tk Tryd.func126 rfl (fun h5 => ?_) (fun h5 => ?_) | refine g_know Tk Tryd.func126 rfl (fun h5 => ?_) (fun h5 => ?_) | refine s_know Tk (fun h5 => ?_) (fun h5 => ?_)
            · have h5 : S'.sts.length = 4096 := by have := beqT h5; omega
              rw [if_pos h5] at hvis
              simp only at hvis
              rw [hvis] at hno
              simp only at hno
              rw [hno] at hR
              simp only at hR
              subst hR
              refine g_ret_co Tk (r := .tup [.i (.v (.slice none 0 0)), .i (.v (.slice none 0 0)), .agg [ii 0, ii 0], ii 0, ii 3]) rfl rfl rfl trivial rfl rfl ?_
              exact coD_tup (.cons (coD_i coI_nil) (.cons (coD_i coI_nil) (CoDL.refl _)))
            · have h5 : ¬ S'.sts.length = 4096 := by have := beqF h5; omega
              rw [if_neg h5] at hvis hlen hgood
              simp only at hvis
              have hgd2 := hgood _ rfl
              have hln2 := hlen _ rfl
              refine g_callT Tk Tryd.func126 hE (key63 hg _ ⟨nl, nv⟩ hkb.1 hkb.2.1 hkb.2.2.1) rfl rfl rfl rfl rfl rfl ?_
              have hl1 := hgd'.len
              have hl2 := hgd'.fl
              first | refine g_need Tk Tryd.func126 (by exact ⟨by show (S'.sts.length + 1) * 32 ≤ 140737488355328; omega, by show S'.sts.length + 1 ≤ 9223372036854775807; omega⟩) ?_ | refine s_need Tk (by exact ⟨by show (S'.sts.length + 1) * 32 ≤ 140737488355328; omega, by show S'.sts.length + 1 ≤ 9223372036854775807; omega⟩) ?_
              first | refine g_need Tk Tryd.func126 (by exact ⟨by show (S'.frm.length + 1) * 16 ≤ 140737488355328; omega, by show S'.frm.length + 1 ≤ 9223372036854775807; omega⟩) ?_ | refine s_need Tk (by exact ⟨by show (S'.frm.length + 1) * 16 ≤ 140737488355328; omega, by show S'.frm.length + 1 ≤ 9223372036854775807; omega⟩) ?_
              refine g_loop ?_
              refine ih2 (j + 1, ⟨S'.sts ++ [(⟨nl, nv⟩ : Sta)], S'.frm ++ [((i : Int), ev)], f1, k1⟩) _ _ ⟨h2, hgd2, by have := hln2.2.1; simp only at this ⊢; omega, ?_, hvis⟩ (by simp only; omega) ⟨rfl, rfl, rfl, rfl, rfl, rfl, rfl, rfl, rfl, rfl, congrArg ii (wsucc h2 hal), trivial⟩ rfl ⟨congrArg some (ostas_app S'.sts (⟨nl, nv⟩ : Sta)), congrArg some (opairs_app S'.frm ((i : Int), ev)), congrArg (fun l => some (Ob.mp .str (.b l))) (keys_set (l := S'.sts) (s := (⟨nl, nv⟩ : Sta)) h4), rfl, rfl, trivial⟩ rfl rfl
              have := hln2.2.2 i (by omega)
              exact this.trans hsi'
    · have h2 : m.alpha.length ≤ j := by simpa using h2
      rw [List.drop_eq_nil_of_le h2] at hvis
      simp only [visits] at hvis
      rw [hvis] at hno
      simp only at hno
      refine g_loop ?_
      refine ih (i + 1, S') _ _ ⟨by simp only; omega, hgd', hno⟩ (by simp only; omega) ⟨rfl, rfl, rfl, rfl, rfl, rfl, rfl, congrArg ii (wsucc h1 (by simp only [max63]; omega)), trivial⟩ rfl ⟨rfl, rfl, rfl, rfl, rfl, trivial⟩ rfl rfl
  · have h1 : S.sts.length ≤ i := by simpa using h1
    rw [searchL_done h1] at hno
    rw [hno] at hR
    simp only at hR
    subst hR
    refine g_drawn Tk Tryd.func126 mixedT rfl ?_
    refine s_old Tk ?_
    refine d_mod Tk (p := ⟨[], [(4, .box [ii S.flt.1, ii S.flt.2])], none⟩) rfl rfl rfl ?_
    refine d_done Tk Tryd.func126 (by kernel_rfl) (GM.h ?_)
    refine g_rwk (wk_freeze 78 rfl rfl) ?_
    refine g_rwk (wk_freeze 84 rfl rfl) ?_
    refine g_ret Tk (r := .tup [.i (.sl 2 S.sts.length (S.sts.map staI)), .i (.sl 2 S.frm.length (S.frm.map pairI)), .agg [ii S.flt.1, ii S.flt.2], ii S.kind, ii 0]) rfl rfl rfl trivial rfl rfl ?_
    rfl
end Go.AI


namespace Go.AI
open Go.Proofs
set_option maxRecDepth 20000
abbrev stasD (l : List Sta) : D := .i (.sl 2 l.length (l.map staI))
/-- The counter of the chapter. -/
def nE : Ex := .mk 1 0 0 []
def kE (n : Int) : Ex := .mk 0 n 0 []
def nVr (high : Int) : Vr := ⟨⟨#[110]⟩, 0, high, 0⟩
end Go.AI




/- slices.Reverse: a callee of the library that writes into its caller's object. -/
namespace Go.AI
open Go.Proofs
/-- Cells, written from a place on. -/
def over (c : Array Value) : Nat → List Value → Array Value
  | _, [] => c
  | o, v :: r => over (c.setIfInBounds o v) (o + 1) r
theorem over_size : ∀ (vs : List Value) (c : Array Value) (o : Nat), (over c o vs).size = c.size
  | [], c, o => rfl
  | v :: r, c, o => by simp only [over, over_size r, Array.size_setIfInBounds]
theorem over_get : ∀ (vs : List Value) (c : Array Value) (o j : Nat), o + vs.length ≤ c.size → (over c o vs)[j]? = if o ≤ j ∧ j < o + vs.length then vs[j - o]? else c[j]?
  | [], c, o, j, _ => by
    simp only [over, List.length_nil, Nat.add_zero]
    rw [if_neg (by omega)]
  | v :: r, c, o, j, h => by
    simp only [List.length_cons] at h
    simp only [over]
    rw [over_get r _ _ _ (by simp only [Array.size_setIfInBounds]; omega)]
    simp only [List.length_cons]
    by_cases h1 : o + 1 ≤ j ∧ j < o + 1 + r.length
    · rw [if_pos h1, if_pos (by omega), show j - o = (j - (o + 1)) + 1 by omega]
      simp
    · rw [if_neg h1]
      by_cases h2 : j = o
      · subst h2
        rw [if_pos (by omega)]
        simp only [Nat.sub_self, List.getElem?_cons_zero, Array.getElem?_setIfInBounds]
        rw [if_pos trivial, if_pos (by omega)]
      · rw [if_neg (by omega), Array.getElem?_setIfInBounds, if_neg (by omega)]
theorem setCells_heap {b : Nat} : ∀ (vs : List Value) (o : Nat) (w : World) (c : Array Value) (ty : TypeId) (fr : Nat × Nat), w.heap[b]? = some (.cells c ty fr) →
    (w.setCells b o vs).heap[b]? = some (.cells (over c o vs) ty fr) ∧ (∀ b', b' ≠ b → (w.setCells b o vs).heap[b']? = w.heap[b']?) ∧ (w.setCells b o vs).heap.size = w.heap.size ∧
      (w.setCells b o vs).tape = w.tape ∧ (w.setCells b o vs).os = w.os ∧ (w.setCells b o vs).output = w.output
  | [], o, w, c, ty, fr, h => ⟨h, fun _ _ => rfl, rfl, rfl, rfl, rfl⟩
  | v :: r, o, w, c, ty, fr, h => by
    have h1 : (w.setCell ⟨b, o, none⟩ v).heap[b]? = some (.cells (c.setIfInBounds o v) ty fr) := by
      simp [World.setCell, Array.getElem?_modify, h]
    have h2 : ∀ b', b' ≠ b → (w.setCell ⟨b, o, none⟩ v).heap[b']? = w.heap[b']? := fun b' hb => by
      simp only [World.setCell, Array.getElem?_modify]
      rw [if_neg (fun e => hb e.symm)]
    obtain ⟨a1, a2, a3, a4, a5, a6⟩ := setCells_heap r (o + 1) (w.setCell ⟨b, o, none⟩ v) _ ty fr h1
    refine ⟨a1, fun b' hb => (a2 b' hb).trans (h2 b' hb), a3.trans (by simp [World.setCell]), a4, a5, a6⟩
theorem repL_ints {K : Kn} : ∀ {vs : List Value} {l : List Int}, RepL K vs (l.map fun x => [vi x]).flatten → vs = l.map (Value.int .i64)
  | _, [], .nil => rfl
  | _, x :: r, h => by
    simp only [List.map_cons, List.flatten_cons, List.cons_append, List.nil_append] at h
    cases h with
    | cons a b =>
      cases a with
      | v e => rw [repL_ints b]; rfl
theorem ints_repL {K : Kn} : ∀ (l : List Int), RepL K (l.map (Value.int .i64)) (l.map fun x => [vi x]).flatten
  | [] => .nil
  | x :: r => by
    simp only [List.map_cons, List.flatten_cons, List.cons_append, List.nil_append]
    exact .cons (.v rfl) (ints_repL r)
theorem reverse44 (O : List Heap) (d nm : Nat) (l : List Int) (hl : l.length ≤ max63) (ho : objAt O d nm = some (oints l)) : ASpec Tryd.prog 127 [.osl d nm] O (.tup []) [] (setAt O d nm (oints l.reverse)) := by
  intro E K ρ w vs hw hrep
  obtain rfl : vs = [.slice (ρ d nm).base l.length (ρ d nm).cap] := by
    cases hrep with
    | cons r rs =>
      cases rs
      rw [inv_osl (es := 1) (len := l.length) r (by simp [shape, ho, Ob.sh])]
  have hown := hw.own _ _ _ ho
  obtain ⟨ρ1, hρ1, hI⟩ := hinv_enter hw
  have ho1 : objAt (([] : Heap) :: O) (d + 1) nm = some (oints l) := up_obj ho
  have hown1 := own_at (s := { σ := [], S := [] :: O, n := 0 }) hI ho1
  have hfin : ∀ w', HInv (.of K ρ w) K ρ1 (setAt ([] :: O) (d + 1) nm (oints l.reverse)) w' → ∃ K' ρ', HInv (.of K ρ w) K' ρ' ([] :: setAt O d nm (oints l.reverse)) w' ∧ RepD K' ρ' (shape ([] :: setAt O d nm (oints l.reverse))) (.tuple #[]) (.tup []) :=
    fun w' h => ⟨K, ρ1, h, .tup .nil⟩
  refine .inl ⟨Tryd.call127 _ _, ?_⟩
  obtain ⟨h1, h2, h3, h4, h5⟩ := hown1
  have hloc : ρ1 (d + 1) nm = ρ d nm := by rw [hρ1]
  rw [hloc] at h3 h4 h5
  rcases h5 with ⟨h5, h6⟩ | ⟨h5, c, h6, h7, h8, h9, h10, h11⟩
  · have hl0 : l = [] := by
      apply List.eq_nil_of_length_eq_zero
      omega
    subst hl0
    rw [h6, h5]
    refine (Any.slices_Reverse_int_empty Tryd.lays112 none 0 w).mono ?_
    rintro e w' ⟨rfl, rfl⟩
    refine ⟨_, rfl, hfin _ (hI.sameS ?_)⟩
    exact objAt_set_id ho1
  · have hcl : c.toList.take l.length = l.map (Value.int .i64) := by
      rw [Nat.mul_one] at h8
      exact repL_ints h8
    have hsz : l.length ≤ c.size := by rw [h7, Nat.mul_one]; exact h3
    rw [h5]
    refine (Tryd.slices_Reverse_int_cells (ρ d nm).block 0 l.length (ρ d nm).cap l w (Nat.le_refl _) hl (fun j hj => ?_) (fun j hj => ?_)).mono ?_
    · rw [Nat.zero_add, cell_of_heap h6]
      have : (c.toList.take l.length)[j]? = some (.int .i64 (l.getD j 0)) := by
        rw [hcl, List.getElem?_map, List.getElem?_eq_getElem hj, List.getD_eq_getElem?_getD, List.getElem?_eq_getElem hj]
        rfl
      rw [List.getElem?_take] at this
      rw [if_pos hj] at this
      simpa using this
    · simp [World.frozen?, h6]
    · rintro e w' ⟨rfl, q, rfl⟩
      rw [List.take_length]
      have hh : (w.drewN q).heap[(ρ d nm).block]? = some (.cells c 3 (0, 0)) := h6
      obtain ⟨a1, a2, a3, a4, a5, a6⟩ := setCells_heap (l.reverse.map (Value.int .i64)) 0 (w.drewN q) c 3 (0, 0) hh
      refine ⟨_, rfl, hfin _ ?_⟩
      have hbk : backed (ρ1 (d + 1) nm) (oints l) := by rw [hloc]; show _ ≠ none; rw [h5]; simp
      refine hI.put ho1 (by simp [Ob.sh]) hbk (by rw [hloc]; show _ ≠ none; rw [h5]; simp) a3 (fun b hb => a2 b (by rw [← hloc]; exact hb)) ⟨a4, a5, a6⟩ (fun o x hx => ?_) ?_
      · rw [hloc] at hx ⊢
        rw [h9 rfl] at hx; cases hx
      · rw [hloc]
        refine ⟨by simp, by simp, by simpa using h3, h4, .inr ⟨h5, _, a1, by rw [over_size, h7], ?_, fun _ => h9 rfl, fun o ho => by rw [h9 rfl o], fun h => by cases h⟩⟩
        have e : (over c 0 (l.reverse.map (Value.int .i64))).toList.take (l.reverse.length * 1) = l.reverse.map (Value.int .i64) := by
          apply List.ext_getElem?
          intro j
          rw [List.getElem?_take, Nat.mul_one]
          by_cases hj : j < l.reverse.length
          · rw [if_pos hj]
            have := over_get (l.reverse.map (Value.int .i64)) c 0 j (by simpa using hsz)
            rw [if_pos (by simpa using hj)] at this
            simpa using this
          · rw [if_neg hj]
            simp at hj
            simp [hj]
        rw [e]
        exact ints_repL _
end Go.AI


namespace Go.AI
open Go.Proofs
set_option maxRecDepth 20000
/-- Back from a place to the start. -/
def back (frm : List (Int × Int)) : Nat → Int × Int → List Int
  | 0, _ => []
  | f + 1, p => if p.1 < 0 then [] else p.2 :: back frm f (frm.getD p.1.toNat (-1, -1))
/-- Fault. -/
def faultR (m : Ext) : List Int × Bool × Int × Int := if chk m ≠ 0 then ([], false, 0, chk m) else match searchR m with
  | none => ([], false, 0, 3)
  | some S => if S.kind = 0 then ([], false, 0, 0) else ((back S.frm 5000 S.flt).reverse, true, S.kind, 0)
/-- Each place was found from an earlier one. -/
structure Linked (S : Srch) : Prop where
  len : S.frm.length = S.sts.length
  frm : ∀ k (h : k < S.frm.length), S.frm[k].1 < k
  flt : S.flt.1 < S.sts.length
  most : S.sts.length ≤ 4096
theorem visit_linked {m : Ext} {i : Nat} {s : Sta} {ev : Int} {S S' : Srch} (h : visit m i s ev S = some S') (hl : Linked S) (hi : i < S.sts.length) : Linked S' ∧ S.sts.length ≤ S'.sts.length := by
  have hlen := visit_len h hl.most
  unfold visit at h
  simp only at h
  generalize hS1 : (if (stepR m s ev).2.2 ≠ 0 ∧ S.kind = 0 then { S with kind := (stepR m s ev).2.2, flt := ((i : Int), ev) } else S) = S1 at h
  have e1 : S1.sts = S.sts := by rw [← hS1]; split <;> rfl
  have e2 : S1.frm = S.frm := by rw [← hS1]; split <;> rfl
  have e3 : S1.flt.1 < S.sts.length := by
    rw [← hS1]
    split
    · simp only; omega
    · exact hl.flt
  split at h
  · simp only [Option.some.injEq] at h
    subst h
    exact ⟨⟨by rw [e1, e2]; exact hl.len, by rw [e2]; exact hl.frm, by rw [e1]; exact e3, by rw [e1]; exact hl.most⟩, by rw [e1]; exact Nat.le_refl _⟩
  · split at h
    · cases h
    · simp only [Option.some.injEq] at h
      subst h
      refine ⟨⟨by simp [e1, e2, hl.len], fun k hk => ?_, by simp only [e1, List.length_append, List.length_cons, List.length_nil]; omega, hlen.1⟩, hlen.2.1⟩
      simp only [e2, List.length_append, List.length_cons, List.length_nil] at hk
      simp only [e2]
      rw [List.getElem_append]
      split
      · rename_i h1; exact hl.frm k h1
      · rename_i h1
        simp only [List.getElem_singleton]
        have := hl.len
        omega
theorem visits_linked {m : Ext} {i : Nat} {s : Sta} : ∀ {l : List Int} {S S' : Srch}, visits m i s l S = some S' → Linked S → i < S.sts.length → Linked S' ∧ S.sts.length ≤ S'.sts.length
  | [], S, S', h, hl, _ => by simp only [visits, Option.some.injEq] at h; subst h; exact ⟨hl, Nat.le_refl _⟩
  | ev :: r, S, S', h, hl, hi => by
    simp only [visits] at h
    cases hv : visit m i s ev S with
    | none => rw [hv] at h; cases h
    | some S1 =>
      rw [hv] at h
      obtain ⟨a, b⟩ := visit_linked hv hl hi
      obtain ⟨c, d⟩ := visits_linked h a (by omega)
      exact ⟨c, by omega⟩
theorem searchL_linked {m : Ext} : ∀ {f i : Nat} {S S' : Srch}, searchL m f i S = some S' → Linked S → Linked S'
  | 0, i, S, S', h, hl => by simp only [searchL, Option.some.injEq] at h; subst h; exact hl
  | f + 1, i, S, S', h, hl => by
    simp only [searchL] at h
    cases hs : S.sts[i]? with
    | none => rw [hs] at h; simp only [Option.some.injEq] at h; subst h; exact hl
    | some s =>
      rw [hs] at h
      simp only at h
      cases hv : visits m i s m.alpha S with
      | none => rw [hv] at h; cases h
      | some S1 =>
        rw [hv] at h
        exact searchL_linked h (visits_linked hv hl (List.getElem?_eq_some_iff.1 hs).1).1
theorem search_linked {m : Ext} {S : Srch} (h : searchR m = some S) : Linked S := by
  refine searchL_linked h ⟨rfl, fun k hk => ?_, by simp [search0], by simp [search0]⟩
  simp only [search0, List.length_cons, List.length_nil] at hk
  have : k = 0 := by omega
  subst this
  simp [search0]
theorem back_fuel {S : Srch} (hl : Linked S) : ∀ (f g : Nat) (p : Int × Int), p.1 < f → p.1 < g → p.1 < S.frm.length → back S.frm (f + 1) p = back S.frm (g + 1) p := by
  intro f
  induction f with
  | zero =>
    intro g p h1 h2 h3
    simp only [back]
    rw [if_pos (by omega), if_pos (by omega)]
  | succ f ih =>
    intro g p h1 h2 h3
    rw [back]
    rw [show back S.frm (g + 1) p = if p.1 < 0 then [] else p.2 :: back S.frm g (S.frm.getD p.1.toNat (-1, -1)) from rfl]
    by_cases hp : p.1 < 0
    · rw [if_pos hp, if_pos hp]
    · rw [if_neg hp, if_neg hp]
      have hk : p.1.toNat < S.frm.length := by omega
      have h4 := hl.frm _ hk
      have e : S.frm.getD p.1.toNat (-1, -1) = S.frm[p.1.toNat] := by rw [List.getD_eq_getElem?_getD, List.getElem?_eq_getElem hk]; rfl
      rw [e]
      obtain ⟨g', rfl⟩ : ∃ g', g = g' + 1 := ⟨g - 1, by omega⟩
      rw [ih g' _ (by omega) (by omega) (by omega)]
theorem back_step {S : Srch} (hl : Linked S) {p : Int × Int} (h0 : 0 ≤ p.1) (h1 : p.1 < S.frm.length) :
    back S.frm ((p.1 + 1).toNat + 1) p = p.2 :: back S.frm (((S.frm[p.1.toNat]'(by omega)).1 + 1).toNat + 1) (S.frm[p.1.toNat]'(by omega)) := by
  have hk : p.1.toNat < S.frm.length := by omega
  have h4 := hl.frm _ hk
  rw [back, if_neg (by omega)]
  have e : S.frm.getD p.1.toNat (-1, -1) = S.frm[p.1.toNat] := by rw [List.getD_eq_getElem?_getD, List.getElem?_eq_getElem hk]; rfl
  rw [e, show (p.1 + 1).toNat = p.1.toNat + 1 by omega]
  rw [back_fuel hl p.1.toNat ((S.frm[p.1.toNat].1 + 1).toNat) _ (by omega) (by omega) (by omega)]
theorem fault15 {g : Nat} (hg : IsTab g) {ty : TypeId} {fr : Nat × Nat} (O : List Heap) (m : Ext) (hok : extOk m) : ASpecT g (ptab ty fr) Tryd.prog 63 [extD m] O (.tup [ints (faultR m).1, bb (faultR m).2.1, ii (faultR m).2.2.1, ii (faultR m).2.2.2]) [] O := by
  generalize hR : faultR m = R
  unfold faultR at hR
  refine aspecT_stop [12] Tk Tryd.func63 rfl Tryd.call63 Tryd.ntmps63 (Nat.le_of_ble_eq_true rfl) fun E hE => ?_
  refine g_run Tk Tryd.func63 ?_
  first | refine g_call Tk Tryd.func63 (check40 _ m hok) rfl rfl rfl rfl rfl ?_ | refine s_callq Tk (fun _ => check40 _ m hok) rfl rfl rfl ?_
  first | refine g_cnd Tk Tryd.func63 rfl (fun h1 => ?_) (fun h1 => ?_) | refine g_know Tk Tryd.func63 rfl (fun h1 => ?_) (fun h1 => ?_) | refine s_know Tk (fun h1 => ?_) (fun h1 => ?_)
  · have h1 := bneT h1
    rw [if_pos h1] at hR
    subst hR
    refine g_ret_co Tk (r := _) rfl rfl rfl trivial rfl rfl ?_
    repeat' (first | refine coD_tup ?_ | refine coD_agg ?_ | refine coD_i ?_ | refine CoDL.cons ?_ ?_ | exact CoDL.nil | exact coI_nil | refine coI_sl ?_ | refine CoLL.cons ?_ ?_ | exact CoLL.nil | refine CoL.cons ?_ ?_ | exact CoL.nil | exact CoI.refl _ | exact CoL.refl _ | exact CoLL.refl _ | exact CoDL.refl _ | exact CoD.refl _)
  have h1 := bneF h1
  rw [if_neg (by simpa using h1)] at hR
  cases hs : searchR m with
  | none =>
    rw [hs] at hR
    subst hR
    have hsp := fun O => search43 hg (ty := ty) (fr := fr) O m hok (chk_right h1) (R := .tup [.i (.sl 2 0 []), .i (.sl 2 0 []), .agg [ii 0, ii 0], ii 0, ii 3]) (by rw [hs])
    refine g_callT Tk Tryd.func63 hE (hsp _) rfl rfl rfl rfl rfl rfl ?_
    repeat (first | refine g_cnd Tk Tryd.func63 rfl (fun _ => ?_) (fun h => absurd h (by decide)) | refine g_cnd Tk Tryd.func63 rfl (fun h => absurd h (by decide)) (fun _ => ?_) | refine g_know Tk Tryd.func63 rfl (fun _ => ?_) (fun h => absurd h (by decide)) | refine g_know Tk Tryd.func63 rfl (fun h => absurd h (by decide)) (fun _ => ?_) | refine s_know Tk (fun _ => ?_) (fun h => absurd h (by decide)) | refine s_know Tk (fun h => absurd h (by decide)) (fun _ => ?_))
    refine g_ret_co Tk (r := _) rfl rfl rfl trivial rfl rfl ?_
    repeat' (first | refine coD_tup ?_ | refine coD_agg ?_ | refine coD_i ?_ | refine CoDL.cons ?_ ?_ | exact CoDL.nil | exact coI_nil | refine coI_sl ?_ | refine CoLL.cons ?_ ?_ | exact CoLL.nil | refine CoL.cons ?_ ?_ | exact CoL.nil | exact CoI.refl _ | exact CoL.refl _ | exact CoLL.refl _ | exact CoDL.refl _ | exact CoD.refl _)
  | some S =>
    rw [hs] at hR
    simp only at hR
    have hlk := search_linked hs
    have hsp := fun O => search43 hg (ty := ty) (fr := fr) O m hok (chk_right h1) (R := .tup [.i (.sl 2 S.sts.length (S.sts.map staI)), .i (.sl 2 S.frm.length (S.frm.map pairI)), .agg [ii S.flt.1, ii S.flt.2], ii S.kind, ii 0]) (by rw [hs])
    refine g_callT Tk Tryd.func63 hE (hsp _) rfl rfl rfl rfl rfl rfl ?_
    repeat (first | refine g_cnd Tk Tryd.func63 rfl (fun _ => ?_) (fun h => absurd h (by decide)) | refine g_cnd Tk Tryd.func63 rfl (fun h => absurd h (by decide)) (fun _ => ?_) | refine g_know Tk Tryd.func63 rfl (fun _ => ?_) (fun h => absurd h (by decide)) | refine g_know Tk Tryd.func63 rfl (fun h => absurd h (by decide)) (fun _ => ?_) | refine s_know Tk (fun _ => ?_) (fun h => absurd h (by decide)) | refine s_know Tk (fun h => absurd h (by decide)) (fun _ => ?_))
    first | refine g_cnd Tk Tryd.func63 rfl (fun h2 => ?_) (fun h2 => ?_) | refine g_know Tk Tryd.func63 rfl (fun h2 => ?_) (fun h2 => ?_) | refine s_know Tk (fun h2 => ?_) (fun h2 => ?_)
    · have h2 : S.kind = 0 := beqT h2
      rw [if_pos h2] at hR
      subst hR
      refine g_ret_co Tk (r := _) rfl rfl rfl trivial rfl rfl ?_
      repeat' (first | refine coD_tup ?_ | refine coD_agg ?_ | refine coD_i ?_ | refine CoDL.cons ?_ ?_ | exact CoDL.nil | exact coI_nil | refine coI_sl ?_ | refine CoLL.cons ?_ ?_ | exact CoLL.nil | refine CoL.cons ?_ ?_ | exact CoL.nil | exact CoI.refl _ | exact CoL.refl _ | exact CoLL.refl _ | exact CoDL.refl _ | exact CoD.refl _)
    have h2 : S.kind ≠ 0 := beqF h2
    rw [if_neg h2] at hR
    have hm := hlk.most
    have hfl := hlk.len
    have hf0 := hlk.flt
    have hb0 : back S.frm 5000 S.flt = back S.frm ((S.flt.1 + 1).toNat + 1) S.flt := back_fuel hlk 4999 _ _ (by omega) (by omega) (by omega)
    refine g_loop ?_
    refine rch_wk (wk_nil 2 44 3 1 rfl rfl rfl) ?_
    refine rch_loop2 (fun x : (Int × Int) × List Int => [(2, .osl 0 44), (4, ii S.kind), (8, .i (.sl 2 S.frm.length (S.frm.map pairI))), (10, .own 0 10 0 0)]) (fun x => [(44, oints x.2), (10, .box [ii x.1.1, ii x.1.2])]) (fun _ => O) 50
      (fun x => x.1.1 < S.frm.length ∧ x.2.length + (x.1.1 + 1).toNat ≤ 4096 ∧ back S.frm 5000 S.flt = x.2 ++ back S.frm ((x.1.1 + 1).toNat + 1) x.1) (fun x => (x.1.1 + 1).toNat) (S.flt, [])
      ⟨by simp only; omega, by simp only [List.length_nil]; omega, by rw [hb0]; rfl⟩ ⟨rfl, rfl, rfl, rfl, trivial⟩ rfl ⟨rfl, rfl, trivial⟩ rfl rfl ?_
    rintro ⟨⟨p1, p2⟩, acc⟩ ⟨hp, hlen, hno⟩ ih
    simp only at hp hlen hno
    refine g_run Tk Tryd.func63 ?_
    first | refine g_cnd Tk Tryd.func63 rfl (fun h3 => ?_) (fun h3 => ?_) | refine g_know Tk Tryd.func63 rfl (fun h3 => ?_) (fun h3 => ?_) | refine s_know Tk (fun h3 => ?_) (fun h3 => ?_)
    · have h3 : 0 ≤ p1 := of_decide_eq_true h3
      first | refine g_need Tk Tryd.func63 (by exact ⟨by show (acc.length + 1) * 8 ≤ 140737488355328; omega, by show acc.length + 1 ≤ 9223372036854775807; omega⟩) ?_ | refine s_need Tk (by exact ⟨by show (acc.length + 1) * 8 ≤ 140737488355328; omega, by show acc.length + 1 ≤ 9223372036854775807; omega⟩) ?_
      have hbs := back_step hlk (p := (p1, p2)) h3 hp
      simp only at hbs
      have hk : p1.toNat < S.frm.length := by omega
      have hlt := hlk.frm _ hk
      have hgk : (S.frm.map pairI)[p1.toNat]? = some (pairI S.frm[p1.toNat]) := by simp [hk]
      generalize S.frm[p1.toNat] = q at *
      obtain ⟨q1, q2⟩ := q
      simp only at hlt
      refine g_stop ?_
      refine rch_cut2 (l := [(2, .osl 0 44), (4, ii S.kind), (8, .i (.sl 2 S.frm.length (S.frm.map pairI))), (45, .agg [ii p1, ii p2])]) (Hv := [(44, oints (acc ++ [p2]))]) ⟨rfl, rfl, rfl, rfl, trivial⟩ rfl ⟨congrArg some (oints_app acc p2), trivial⟩ rfl rfl ?_
      refine g_run Tk Tryd.func63 ?_
      refine g_go Tk Tryd.func63 ?_
      first | refine g_need Tk Tryd.func63 (by exact ⟨h3, hp⟩) ?_ | refine s_need Tk (by exact ⟨h3, hp⟩) ?_
      first | refine g_elem Tk Tryd.func63 (hgk) ?_ | refine s_elem Tk (hgk) ?_
      refine g_loop ?_
      refine ih ((q1, q2), acc ++ [p2]) _ _ ⟨by simp only; omega, by simp only [List.length_append, List.length_cons, List.length_nil]; omega, by rw [hno, hbs]; simp⟩ (by simp only; omega) ⟨rfl, rfl, rfl, rfl, trivial⟩ rfl ⟨rfl, rfl, trivial⟩ rfl rfl
    · have h3 : ¬ 0 ≤ p1 := of_decide_eq_false h3
      have hbn : back S.frm ((p1 + 1).toNat + 1) (p1, p2) = [] := by rw [back, if_pos (by simp only; omega)]
      rw [hbn, List.append_nil] at hno
      rw [hno] at hR
      subst hR
      refine g_call Tk Tryd.func63 (reverse44 _ 0 44 acc (by simp only [max63]; omega) rfl) rfl rfl rfl (shape_over (ob := oints acc) rfl (by simp [Ob.sh])) rfl ?_
      refine g_rwk (wk_freeze 44 rfl rfl) ?_
      refine g_ret Tk (r := .tup [ints acc.reverse, bb true, ii S.kind, ii 0]) rfl rfl rfl trivial rfl rfl ?_
      rfl
end Go.AI


namespace Go.AI
open Go.Proofs
set_option maxRecDepth 20000
def runL (m : Ext) : List Int → Sta → Int → Sta × Int × Int
  | [], s, n => (s, n, 0)
  | ev :: r, s, n => if (stepR m s ev).2.2 ≠ 0 then (zeroS, 0, (stepR m s ev).2.2) else if (stepR m s ev).2.1 = false then (s, n, 0) else runL m r (stepR m s ev).1 (n + 1)
/-- Run. -/
def runR (m : Ext) (w : List Int) : Sta × Int × Int :=
  if chk m ≠ 0 then (zeroS, 0, chk m) else if w.any (fun ev => decide (ev ∉ m.alpha)) then (zeroS, 0, 9) else runL m w (startR m) 0
theorem run21 (O : List Heap) (m : Ext) (w : List Int) (hok : extOk m) (hw : w.length ≤ max63) : ASpec Tryd.prog 64 [extD m, ints w] O (.tup [staD (runR m w).1, ii (runR m w).2.1, ii (runR m w).2.2]) [] O := by
  generalize hR : runR m w = R
  unfold runR at hR
  refine aspec_stop [10] Tk Tryd.func64 rfl Tryd.call64 Tryd.ntmps64 (Nat.le_of_ble_eq_true rfl) fun E => ?_
  refine g_run Tk Tryd.func64 ?_
  first | refine g_call Tk Tryd.func64 (check40 _ m hok) rfl rfl rfl rfl rfl ?_ | refine s_callq Tk (fun _ => check40 _ m hok) rfl rfl rfl ?_
  first | refine g_cnd Tk Tryd.func64 rfl (fun h1 => ?_) (fun h1 => ?_) | refine g_know Tk Tryd.func64 rfl (fun h1 => ?_) (fun h1 => ?_) | refine s_know Tk (fun h1 => ?_) (fun h1 => ?_)
  · have h1 := bneT h1
    rw [if_pos h1] at hR
    subst hR
    refine g_ret_co Tk (r := _) rfl rfl rfl trivial rfl rfl ?_
    repeat' (first | refine coD_tup ?_ | refine coD_agg ?_ | refine coD_i ?_ | refine CoDL.cons ?_ ?_ | exact CoDL.nil | exact coI_nil | refine coI_sl ?_ | refine CoLL.cons ?_ ?_ | exact CoLL.nil | refine CoL.cons ?_ ?_ | exact CoL.nil | exact CoI.refl _ | exact CoL.refl _ | exact CoLL.refl _ | exact CoDL.refl _ | exact CoD.refl _)
  have h1 := bneF h1
  rw [if_neg (by simpa using h1)] at hR
  have hr := chk_right h1
  have hs := (checkSet_sorted hr.alpha).1
  have hal := hok.al
  apply join_p (P := w.any (fun ev => decide (ev ∉ m.alpha)) = false) (s6 := { σ := [(1, ints w), (2, .own 0 2 0 0), (4, .own 0 4 0 0), (5, ii 0), (6, ii 0)], S := [(4, .box [ii 0, .i (.v (.slice none 0 0))]), (2, .box (extC m))] :: O, n := 60 })
  · intro J
    refine g_loop ?_
    refine rch_loop2 (fun i : Nat => [(1, ints w), (2, .own 0 2 0 0), (4, .own 0 4 0 0), (5, ii 0), (6, ii 0), (19, ints w), (20, ii w.length), (21, ii i)]) (fun _ => [(4, .box [ii 0, .i (.v (.slice none 0 0))]), (2, .box (extC m))]) (fun _ => O) 60
      (fun i => i ≤ w.length ∧ w.any (fun ev => decide (ev ∉ m.alpha)) = (w.drop i).any (fun ev => decide (ev ∉ m.alpha))) (fun i => w.length - i) 0 ⟨Nat.zero_le _, rfl⟩ ⟨rfl, rfl, rfl, rfl, rfl, rfl, rfl, rfl, trivial⟩ rfl ⟨rfl, rfl, trivial⟩ rfl rfl ?_
    rintro i ⟨hi, hno⟩ ih
    refine g_run Tk Tryd.func64 ?_
    first | refine g_cnd Tk Tryd.func64 rfl (fun h2 => ?_) (fun h2 => ?_) | refine g_know Tk Tryd.func64 rfl (fun h2 => ?_) (fun h2 => ?_) | refine s_know Tk (fun h2 => ?_) (fun h2 => ?_)
    · have h2 : i < w.length := by simpa using h2
      have hd : w.drop i = w[i] :: w.drop (i + 1) := List.drop_eq_getElem_cons h2
      have hg : (w.map fun x => [vi x])[(i : Int).toNat]? = some [vi w[i]] := get_mapZ (f := fun x => [vi x]) h2
      generalize w[i] = ev at hd hg
      rw [hd, List.any_cons] at hno
      first | refine g_need Tk Tryd.func64 (by omega) ?_ | refine s_need Tk (by omega) ?_
      first | refine g_elem Tk Tryd.func64 (hg) ?_ | refine s_elem Tk (hg) ?_
      first | refine g_call Tk Tryd.func64 (contains49 _ m.alpha ev hal hs) rfl rfl rfl rfl rfl ?_ | refine s_callq Tk (fun _ => contains49 _ m.alpha ev hal hs) rfl rfl rfl ?_
      first | refine g_cnd Tk Tryd.func64 rfl (fun h3 => ?_) (fun h3 => ?_) | refine g_know Tk Tryd.func64 rfl (fun h3 => ?_) (fun h3 => ?_) | refine s_know Tk (fun h3 => ?_) (fun h3 => ?_)
      · have h3 : ev ∉ m.alpha := by simpa using h3
        rw [decide_eq_true h3, Bool.true_or] at hno
        rw [if_pos hno] at hR
        subst hR
        refine g_ret_co Tk (r := _) rfl rfl rfl trivial rfl rfl ?_
        repeat' (first | refine coD_tup ?_ | refine coD_agg ?_ | refine coD_i ?_ | refine CoDL.cons ?_ ?_ | exact CoDL.nil | exact coI_nil | refine coI_sl ?_ | refine CoLL.cons ?_ ?_ | exact CoLL.nil | refine CoL.cons ?_ ?_ | exact CoL.nil | exact CoI.refl _ | exact CoL.refl _ | exact CoLL.refl _ | exact CoDL.refl _ | exact CoD.refl _)
      · have h3 : ev ∈ m.alpha := by simpa using h3
        rw [decide_eq_false (by simpa using h3), Bool.false_or] at hno
        refine g_loop ?_
        refine ih (i + 1) _ _ ⟨h2, hno⟩ (by omega) ⟨rfl, rfl, rfl, rfl, rfl, rfl, rfl, congrArg ii (wsucc h2 hw), trivial⟩ rfl ⟨rfl, rfl, trivial⟩ rfl rfl
    · have h2 : w.length ≤ i := by simpa using h2
      rw [List.drop_eq_nil_of_le h2] at hno
      refine g_stop ?_
      refine rch_meet (J hno) ⟨rfl, rfl, rfl, rfl, rfl, trivial⟩ rfl ⟨rfl, rfl, trivial⟩ rfl rfl
  · intro hP
    rw [if_neg (by rw [hP]; simp)] at hR
    refine g_run Tk Tryd.func64 ?_
    refine g_go Tk Tryd.func64 ?_
    first | refine g_call Tk Tryd.func64 (start48 _ m (vars_len hr.vars)) rfl rfl rfl rfl rfl ?_ | refine s_callq Tk (fun _ => start48 _ m (vars_len hr.vars)) rfl rfl rfl ?_
    refine g_loop ?_
    refine rch_loop2 (fun x : Nat × Sta => [(1, ints w), (2, .own 0 2 0 0), (4, .own 0 4 0 0), (5, ii x.1), (6, ii 0)]) (fun x => [(4, .box [ii x.2.loc, ints x.2.vals]), (2, .box (extC m))]) (fun _ => O) 60
      (fun x => x.1 ≤ w.length ∧ okS m x.2 ∧ runL m (w.drop x.1) x.2 x.1 = R) (fun x => w.length - x.1) (0, startR m) ⟨Nat.zero_le _, start_ok hr, hR⟩ ⟨rfl, rfl, rfl, rfl, rfl, trivial⟩ rfl ⟨rfl, rfl, trivial⟩ rfl rfl ?_
    rintro ⟨i, s⟩ ⟨hi, hsk, hno⟩ ih
    clear hR
    simp only at hi hsk hno
    refine g_run Tk Tryd.func64 ?_
    first | refine g_cnd Tk Tryd.func64 rfl (fun h2 => ?_) (fun h2 => ?_) | refine g_know Tk Tryd.func64 rfl (fun h2 => ?_) (fun h2 => ?_) | refine s_know Tk (fun h2 => ?_) (fun h2 => ?_)
    · have h2 : i < w.length := by simpa using h2
      have hd : w.drop i = w[i] :: w.drop (i + 1) := List.drop_eq_getElem_cons h2
      have hg : (w.map fun x => [vi x])[(i : Int).toNat]? = some [vi w[i]] := get_mapZ (f := fun x => [vi x]) h2
      generalize w[i] = ev at hd hg
      rw [hd] at hno
      simp only [runL] at hno
      have hstep := fun O => step50 O m s ev hok hr (okS_bounds hr hsk).2.2.2.1
      have hnext := fun h => step_ok hr hsk (ev := ev) h
      generalize stepR m s ev = n at *
      obtain ⟨⟨nl, nv⟩, np, ne⟩ := n
      simp only at hno hstep hnext
      refine g_drawn Tk Tryd.func64 mixedT rfl ?_
      first | refine g_need Tk Tryd.func64 (by exact ⟨by omega, by show (i : Int) < (w.length : Int); omega⟩) ?_ | refine s_need Tk (by exact ⟨by omega, by show (i : Int) < (w.length : Int); omega⟩) ?_
      first | refine g_elem Tk Tryd.func64 (hg) ?_ | refine s_elem Tk (hg) ?_
      first | refine g_call Tk Tryd.func64 (hstep _) rfl rfl rfl rfl rfl ?_ | refine s_callq Tk (fun _ => hstep _) rfl rfl rfl ?_
      refine s_put Tk rfl rfl rfl ?_
      refine e_done Tk Tryd.func64 (by kernel_rfl) ?_
      first | refine g_cnd Tk Tryd.func64 rfl (fun h3 => ?_) (fun h3 => ?_) | refine g_know Tk Tryd.func64 rfl (fun h3 => ?_) (fun h3 => ?_) | refine s_know Tk (fun h3 => ?_) (fun h3 => ?_)
      · have h3 := bneT h3
        rw [if_pos h3] at hno
        subst hno
        refine g_ret_co Tk (r := _) rfl rfl rfl trivial rfl rfl ?_
        repeat' (first | refine coD_tup ?_ | refine coD_agg ?_ | refine coD_i ?_ | refine CoDL.cons ?_ ?_ | exact CoDL.nil | exact coI_nil | refine coI_sl ?_ | refine CoLL.cons ?_ ?_ | exact CoLL.nil | refine CoL.cons ?_ ?_ | exact CoL.nil | exact CoI.refl _ | exact CoL.refl _ | exact CoLL.refl _ | exact CoDL.refl _ | exact CoD.refl _)
      have h3 := bneF h3
      rw [if_neg (by simpa using h3)] at hno
      first | refine g_cnd Tk Tryd.func64 rfl (fun h4 => ?_) (fun h4 => ?_) | refine g_know Tk Tryd.func64 rfl (fun h4 => ?_) (fun h4 => ?_) | refine s_know Tk (fun h4 => ?_) (fun h4 => ?_)
      · have h4 := notT h4
        rw [if_pos h4] at hno
        subst hno
        refine g_ret_co Tk (r := _) rfl rfl rfl trivial rfl rfl ?_
        repeat' (first | refine coD_tup ?_ | refine coD_agg ?_ | refine coD_i ?_ | refine CoDL.cons ?_ ?_ | exact CoDL.nil | exact coI_nil | refine coI_sl ?_ | refine CoLL.cons ?_ ?_ | exact CoLL.nil | refine CoL.cons ?_ ?_ | exact CoL.nil | exact CoI.refl _ | exact CoL.refl _ | exact CoLL.refl _ | exact CoDL.refl _ | exact CoD.refl _)
      · have h4 := notF h4
        rw [if_neg (by rw [h4]; simp)] at hno
        refine g_loop ?_
        refine ih (i + 1, ⟨nl, nv⟩) _ _ ⟨h2, hnext h4, hno⟩ (by simp only; omega) ⟨rfl, rfl, rfl, congrArg ii (wsucc h2 hw), rfl, trivial⟩ rfl ⟨rfl, rfl, trivial⟩ rfl rfl
    · have h2 : w.length ≤ i := by simpa using h2
      rw [List.drop_eq_nil_of_le h2] at hno
      simp only [runL] at hno
      subst hno
      refine g_ret_co Tk (r := _) rfl rfl rfl trivial rfl rfl ?_
      repeat' (first | refine coD_tup ?_ | refine coD_agg ?_ | refine coD_i ?_ | refine CoDL.cons ?_ ?_ | exact CoDL.nil | exact coI_nil | refine coI_sl ?_ | refine CoLL.cons ?_ ?_ | exact CoLL.nil | refine CoL.cons ?_ ?_ | exact CoL.nil | exact CoI.refl _ | exact CoL.refl _ | exact CoLL.refl _ | exact CoDL.refl _ | exact CoD.refl _)
end Go.AI


namespace Go.AI
open Go.Proofs
set_option maxRecDepth 20000
theorem exOk_leaf (o v i : Int) : exOk (.mk o v i []) := ⟨Nat.zero_le _, trivial⟩
theorem exOk_two {o v i : Int} {a b : Ex} (ha : exOk a) (hb : exOk b) : exOk (.mk o v i [a, b]) := ⟨by simp [max63], ha, hb, trivial⟩
end Go.AI


/- Plain laws: decimal texts; the counter up to a number. -/
namespace Go.AI
set_option maxRecDepth 20000
section
variable {h : Int} (h1 : 1 ≤ h) (h2 : h ≤ 8191)
include h1 h2
variable {k : Int} (k1 : 0 ≤ k) (k2 : k ≤ h)
omit h1 in
include k1 k2 in
include k1 k2 in
omit h1 in
include k1 k2 in
omit h1 in
include k1 k2 in
omit h1 in
include k1 k2 in
include k1 k2 in
include k1 k2 in
end
end Go.AI


/- Plain law: what is reached of the counter up to a number. -/
namespace Go.AI
set_option maxRecDepth 20000
def cnt (n : Nat) : List Sta := (List.range n).map fun (i : Nat) => (⟨0, [(i : Int)]⟩ : Sta)
section
variable {H : Nat} (h1 : 1 ≤ H) (h2 : H ≤ 8191)
include h1 h2
end
end Go.AI


namespace Go.AI
open Go.Proofs
set_option maxRecDepth 20000
/-- Arguments in other words. -/
theorem ASpecT.co {g : Nat} {tab : Obj} {P : Program} {f : FuncId} {args args' : List D} {O O' : List Heap} {res : D} {Hr : Heap} (h : ASpecT g tab P f args' O res Hr O') (hc : CoDL args args') : ASpecT g tab P f args O res Hr O' :=
  fun E K ρ w vs hw ht hr => h E K ρ w vs hw ht (hc.rep hr)
end Go.AI


namespace Go.AI
open Go.Proofs
set_option maxRecDepth 20000
end Go.AI


/- The way from a row to a contract. -/
namespace Go.Proofs.YtonnakcgopcfnaaDoor
open Go.ChangeShapes Go.WideShapes Go.ChangeAt Go.RowKit
set_option maxRecDepth 100000
theorem Tryd.own : ownKnob Tryd.prog.godebug = none := by kernel_rfl
theorem powG : Tryd.prog.globalNamed "internal/strconv.uint64pow10" = some 0 := by kernel_rfl
theorem isTab0 : AI.IsTab 0 := fun _ _ _ h => AI.tabIs_of powG h
theorem tab_of_laid {W : World} (h : laidMetH Tryd.prog [("math/bits.deBruijn32tab", Rows.laid_math_bits_deBruijn32tab), ("math/bits.deBruijn64tab", Rows.laid_math_bits_deBruijn64tab), ("internal/strconv.uint64pow10", Rows.laid_internal_strconv_uint64pow10)] W) :
    ∃ ty fr, W.heap[0]? = some (AI.ptab ty fr) := by
  rw [MakeChecks.laidMetH_plain _ _ _ (by kernel_rfl)] at h
  have h3 := laidMet.tail (laidMet.tail h)
  have hT : Lib.TabIs Tryd.prog W "internal/strconv.uint64pow10" .u64 Lib.pow10Tab :=
    Lib.tabIs_of_head (t := 271) (e := 23) (n := 20) powG (by kernel_rfl) (by kernel_rfl) (by kernel_rfl) (by kernel_rfl) (by kernel_rfl) (rest := []) h3
  unfold Lib.TabIs World.var? at hT
  rw [powG] at hT
  simp only [Option.bind_some] at hT
  cases hc : W.heap[0]? with
  | none => rw [hc] at hT; cases hT
  | some o =>
    rw [hc] at hT
    cases o with
    | cells cs ty fr =>
      simp only [Option.some.injEq] at hT
      subst hT
      exact ⟨ty, fr, rfl⟩
    | _ => cases hT
/-- A contract with no memory of one's own, from the outside. -/
theorem calls_of {f : FuncId} {args : List AI.D} {vs : List Value} {b : Bool} {W : World} {ty : TypeId} {fr : Nat × Nat} (h0 : W.heap[0]? = some (AI.ptab ty fr))
    (hcall : ∀ a w, (callFunc f a).run Tryd.prog w = .ok (.enter f a) w) (hs : AI.ASpecT 0 (AI.ptab ty fr) Tryd.prog f args [] (AI.bb b) [] [])
    {K : AI.Kn} (hK : ∀ bl o x, K bl o = some x → W.cell? ⟨bl, o, none⟩ = some x) (hr : ∀ ρ sh, AI.RepDL K ρ sh vs args) :
    Calls Tryd.prog f vs.toArray W fun e W' => e = .returned (.bool b) ∧ (∀ i, i < W.heap.size → W'.heap[i]? = W.heap[i]?) ∧ W'.os = W.os ∧ W'.output = W.output := by
  let ρ : Nat → Nat → AI.Loc := fun _ _ => ⟨0, 0, none⟩
  have hobj : ∀ d n, AI.objAt [] d n = none := fun d n => by simp [AI.objAt]
  have hI : AI.HInv (AI.Env.of K ρ W) K ρ [] W :=
    ⟨hK, (fun d n ob e => absurd ((hobj d n).symm.trans e) (by simp)), (fun d n ob d' n' ob' e => absurd ((hobj d n).symm.trans e) (by simp)), Nat.le_refl _, fun _ _ _ => rfl, (fun n ob e => absurd ((hobj 0 n).symm.trans e) (by simp)), fun _ => rfl, fun _ _ _ h => h, fun _ _ _ h => .inl h, rfl, rfl, rfl⟩
  have ht : AI.TabQ 0 (AI.ptab ty fr) [] ρ W := ⟨h0, fun d n x e => by simp [AI.shape, hobj] at e⟩
  rcases hs _ K ρ W vs hI ht (hr _ _) with ⟨_, h⟩ | ⟨v, w', h, _⟩
  · refine h.mono fun e W' => ?_
    rintro ⟨v, rfl, K', ρ', h1, h2⟩
    obtain rfl := AI.inv_v h2
    refine ⟨rfl, fun i hi => h1.old i hi fun d n ob e => ?_, h1.rest.2.1, h1.rest.2.2⟩
    simp [AI.objAt] at e
  · rw [hcall] at h
    cases h
theorem kept_of {W W' : World} {P : MemPlace → Prop} (h : ∀ i, i < W.heap.size → W'.heap[i]? = W.heap[i]?) (h1 : W'.os = W.os) (h2 : W'.output = W.output) : W.keptBut W' P := by
  refine ⟨h1, h2, fun i hi => ?_⟩
  rw [h i hi]
  exact (World.keptBut_refl W P).2.2 i hi
end Go.Proofs.YtonnakcgopcfnaaDoor


namespace Go.AI
open Go.Proofs
set_option maxRecDepth 20000
abbrev u8I (b : Int) : List I := [.v (.int .u8 b)]
abbrev byts (l : List Int) : D := .i (.sl 1 l.length (l.map u8I))
def byteOk (l : List Int) : Prop := ∀ b ∈ l, 0 ≤ b ∧ b ≤ 255
theorem byteOk_tail {l : List Int} (h : byteOk l) : byteOk l.tail := fun b hb => h b (List.mem_of_mem_tail hb)
def b0 (l : List Int) : Int := match l with
  | [] => 0
  | b :: _ => b
theorem b0_ok {l : List Int} (h : byteOk l) : 0 ≤ b0 l ∧ b0 l ≤ 255 := by
  cases l with
  | nil => exact ⟨Int.le_refl _, by decide⟩
  | cons b r => exact h b (by simp)
abbrev growOb (bs : List Int) (vars k : Int) : Ob := .box [byts bs, ii vars, ii k]
theorem next80 (O : List Heap) (d nm : Nat) (bs : List Int) (vars k : Int) (hb : byteOk bs) (hl : bs.length ≤ max63) (ho : objAt O d nm = some (growOb bs vars k)) :
    ASpec Tryd.prog 137 [.own d nm 0 0] O (ii (b0 bs)) [] (setAt O d nm (growOb bs.tail vars k)) := by
  have hO1 : ∀ H, objAt (H :: O) (d + 1) nm = some (growOb bs vars k) := fun H => by simpa [objAt] using ho
  cases bs with
  | nil =>
    refine aspec_intro Tk Tryd.func137 rfl Tryd.call137 Tryd.ntmps137 (Nat.le_of_ble_eq_true rfl) fun E => ?_
    refine g_run Tk Tryd.func137 ?_
    first | refine g_obj Tk Tryd.func137 (hO1 _) ?_ | refine s_obj Tk (hO1 _) ?_
    repeat (first | refine g_cnd Tk Tryd.func137 rfl (fun _ => ?_) (fun h => absurd h (by decide)) | refine g_cnd Tk Tryd.func137 rfl (fun h => absurd h (by decide)) (fun _ => ?_) | refine g_know Tk Tryd.func137 rfl (fun _ => ?_) (fun h => absurd h (by decide)) | refine g_know Tk Tryd.func137 rfl (fun h => absurd h (by decide)) (fun _ => ?_) | refine s_know Tk (fun _ => ?_) (fun h => absurd h (by decide)) | refine s_know Tk (fun h => absurd h (by decide)) (fun _ => ?_))
    refine g_rwk (wk_S (S' := _ :: setAt O d nm (growOb [] vars k)) (objAt_cons (objAt_set_id ho))) ?_
    refine g_ret Tk (r := ii 0) rfl rfl rfl trivial rfl rfl ?_
    rfl
  | cons b r =>
    have hb := hb b (by simp)
    simp only [max63, List.length_cons] at hl
    have hw : IntKind.i64.wrap b = b := w64 (by omega) (by omega)
    refine aspec_intro Tk Tryd.func137 rfl Tryd.call137 Tryd.ntmps137 (Nat.le_of_ble_eq_true rfl) fun E => ?_
    refine g_run Tk Tryd.func137 ?_
    first | refine g_obj Tk Tryd.func137 (hO1 _) ?_ | refine s_obj Tk (hO1 _) ?_
    first | refine g_cnd Tk Tryd.func137 rfl (fun h1 => ?_) (fun h1 => ?_) | refine g_know Tk Tryd.func137 rfl (fun h1 => ?_) (fun h1 => ?_) | refine s_know Tk (fun h1 => ?_) (fun h1 => ?_)
    · have h1 := beqT h1
      simp only [List.length_cons] at h1
      omega
    first | refine g_obj Tk Tryd.func137 (hO1 _) ?_ | refine s_obj Tk (hO1 _) ?_
    first | refine g_need Tk Tryd.func137 (by exact ⟨by decide, by show (0 : Int) < ((r.length + 1 : Nat) : Int); omega⟩) ?_ | refine s_need Tk (by exact ⟨by decide, by show (0 : Int) < ((r.length + 1 : Nat) : Int); omega⟩) ?_
    first | refine g_elem Tk Tryd.func137 (rfl) ?_ | refine s_elem Tk (rfl) ?_
    first | refine g_obj Tk Tryd.func137 (hO1 _) ?_ | refine s_obj Tk (hO1 _) ?_
    first | refine g_need Tk Tryd.func137 (by exact ⟨by decide, by show (1 : Int) ≤ ((r.length + 1 : Nat) : Int); omega⟩) ?_ | refine s_need Tk (by exact ⟨by decide, by show (1 : Int) ≤ ((r.length + 1 : Nat) : Int); omega⟩) ?_
    first | refine g_obj Tk Tryd.func137 (hO1 _) ?_ | refine s_obj Tk (hO1 _) ?_
    refine g_ret Tk (r := ii (IntKind.i64.wrap b)) rfl rfl rfl trivial rfl rfl ?_
    exact congrArg ii hw
def truthE (t : Bool) : Ex := .mk (if t then 6 else 7) 0 0 [zeroE, zeroE]
theorem truth81 (O : List Heap) (t : Bool) : ASpec Tryd.prog 138 [bb t] O (exA (truthE t)) [] O := by
  refine aspec_intro Tk Tryd.func138 rfl Tryd.call138 Tryd.ntmps138 (Nat.le_of_ble_eq_true rfl) fun E => ?_
  refine g_run Tk Tryd.func138 ?_
  first | refine g_cnd Tk Tryd.func138 rfl (fun h1 => ?_) (fun h1 => ?_) | refine g_know Tk Tryd.func138 rfl (fun h1 => ?_) (fun h1 => ?_) | refine s_know Tk (fun h1 => ?_) (fun h1 => ?_)
  · subst h1
    refine g_ret_co Tk (r := _) rfl rfl rfl trivial rfl rfl ?_
    repeat' (first | refine coD_tup ?_ | refine coD_agg ?_ | refine coD_i ?_ | refine CoDL.cons ?_ ?_ | exact CoDL.nil | exact coI_nil | refine coI_sl ?_ | refine CoLL.cons ?_ ?_ | exact CoLL.nil | refine CoL.cons ?_ ?_ | exact CoL.nil | exact CoI.refl _ | exact CoL.refl _ | exact CoLL.refl _ | exact CoDL.refl _ | exact CoD.refl _)
  · subst h1
    refine g_ret_co Tk (r := _) rfl rfl rfl trivial rfl rfl ?_
    repeat' (first | refine coD_tup ?_ | refine coD_agg ?_ | refine coD_i ?_ | refine CoDL.cons ?_ ?_ | exact CoDL.nil | exact coI_nil | refine coI_sl ?_ | refine CoLL.cons ?_ ?_ | exact CoLL.nil | refine CoL.cons ?_ ?_ | exact CoL.nil | exact CoI.refl _ | exact CoL.refl _ | exact CoLL.refl _ | exact CoDL.refl _ | exact CoD.refl _)
end Go.AI


namespace Go.AI
open Go.Proofs
set_option maxRecDepth 20000
def leafE (vars b : Int) : Ex := if b % 2 = 0 ∧ vars > 0 then .mk 1 0 (b / 8 % vars) [] else .mk 0 (b / 8 - 8) 0 []
/-- An expression that bytes describe; the bytes that are left; the count of calls. -/
def growR (vars : Int) : Nat → Bool → List Int → Nat → Ex × List Int × Nat
  | 0, true, bs, k => (leafE vars (b0 bs), bs.tail, k + 1)
  | 0, false, bs, k => (truthE (decide (b0 bs % 2 = 0)), bs.tail, k + 1)
  | lv + 1, true, bs, k =>
    if k + 1 > 12 ∨ b0 bs % 8 < 4 then (leafE vars (b0 bs), bs.tail, k + 1) else
    if b0 bs % 8 = 4 then (.mk 5 0 0 [(growR vars lv true bs.tail (k + 1)).1], (growR vars lv true bs.tail (k + 1)).2) else
    if b0 bs % 8 = 5 then
      (.mk 13 0 0 [(growR vars lv false bs.tail (k + 1)).1, (growR vars lv true (growR vars lv false bs.tail (k + 1)).2.1 (growR vars lv false bs.tail (k + 1)).2.2).1,
        (growR vars lv true (growR vars lv true (growR vars lv false bs.tail (k + 1)).2.1 (growR vars lv false bs.tail (k + 1)).2.2).2.1 (growR vars lv true (growR vars lv false bs.tail (k + 1)).2.1 (growR vars lv false bs.tail (k + 1)).2.2).2.2).1],
        (growR vars lv true (growR vars lv true (growR vars lv false bs.tail (k + 1)).2.1 (growR vars lv false bs.tail (k + 1)).2.2).2.1 (growR vars lv true (growR vars lv false bs.tail (k + 1)).2.1 (growR vars lv false bs.tail (k + 1)).2.2).2.2).2)
    else (.mk (2 + b0 bs / 8 % 3) 0 0 [(growR vars lv true bs.tail (k + 1)).1, (growR vars lv true (growR vars lv true bs.tail (k + 1)).2.1 (growR vars lv true bs.tail (k + 1)).2.2).1],
        (growR vars lv true (growR vars lv true bs.tail (k + 1)).2.1 (growR vars lv true bs.tail (k + 1)).2.2).2)
  | lv + 1, false, bs, k =>
    if lv = 0 ∨ k + 1 > 12 ∨ b0 bs % 8 < 4 then (.mk (6 + b0 bs / 8 % 4) 0 0 [(growR vars lv true bs.tail (k + 1)).1, (growR vars lv true (growR vars lv true bs.tail (k + 1)).2.1 (growR vars lv true bs.tail (k + 1)).2.2).1],
        (growR vars lv true (growR vars lv true bs.tail (k + 1)).2.1 (growR vars lv true bs.tail (k + 1)).2.2).2) else
    if b0 bs % 8 = 4 then (.mk 10 0 0 [(growR vars lv false bs.tail (k + 1)).1], (growR vars lv false bs.tail (k + 1)).2) else
    if b0 bs % 8 = 5 then
      (.mk 13 0 0 [(growR vars lv false bs.tail (k + 1)).1, (growR vars lv false (growR vars lv false bs.tail (k + 1)).2.1 (growR vars lv false bs.tail (k + 1)).2.2).1,
        (growR vars lv false (growR vars lv false (growR vars lv false bs.tail (k + 1)).2.1 (growR vars lv false bs.tail (k + 1)).2.2).2.1 (growR vars lv false (growR vars lv false bs.tail (k + 1)).2.1 (growR vars lv false bs.tail (k + 1)).2.2).2.2).1],
        (growR vars lv false (growR vars lv false (growR vars lv false bs.tail (k + 1)).2.1 (growR vars lv false bs.tail (k + 1)).2.2).2.1 (growR vars lv false (growR vars lv false bs.tail (k + 1)).2.1 (growR vars lv false bs.tail (k + 1)).2.2).2.2).2)
    else (.mk (11 + b0 bs / 8 % 2) 0 0 [(growR vars lv false bs.tail (k + 1)).1, (growR vars lv false (growR vars lv false bs.tail (k + 1)).2.1 (growR vars lv false bs.tail (k + 1)).2.2).1],
        (growR vars lv false (growR vars lv false bs.tail (k + 1)).2.1 (growR vars lv false bs.tail (k + 1)).2.2).2)
/-- Right bytes, and counts that do not grow far. -/
structure gOk (r : Ex × List Int × Nat) (n : Nat) (N : Nat) : Prop where
  b : byteOk r.2.1
  l : r.2.1.length ≤ n
  k : r.2.2 ≤ N
theorem growR_ok (vars : Int) : ∀ (lv : Nat) (t : Bool) (bs : List Int) (k : Nat), byteOk bs → gOk (growR vars lv t bs k) bs.length (k + 4 ^ (lv + 1) - 1) := by
  intro lv
  induction lv with
  | zero =>
    intro t bs k hb
    cases t <;> exact ⟨byteOk_tail hb, by simp [growR], by simp [growR]⟩
  | succ lv ih =>
    intro t bs k hb
    have hp : 4 ^ (lv + 1 + 1) = 4 * 4 ^ (lv + 1) := by rw [Nat.pow_succ]; omega
    have hq : 1 ≤ 4 ^ (lv + 1) := Nat.one_le_pow _ _ (by decide)
    have ht : bs.tail.length ≤ bs.length := by simp
    generalize hN : 4 ^ (lv + 1) = N at *
    have one : ∀ t, gOk (growR vars lv t bs.tail (k + 1)) bs.length (k + N) := fun t => by
      have h := ih t bs.tail (k + 1) (byteOk_tail hb)
      exact ⟨h.b, Nat.le_trans h.l ht, by have := h.k; omega⟩
    have two : ∀ t (r : Ex × List Int × Nat) M, gOk r bs.length (k + M) → gOk (growR vars lv t r.2.1 r.2.2) bs.length (k + M + N - 1) := fun t r M hr => by
      have h := ih t r.2.1 r.2.2 hr.b
      exact ⟨h.b, Nat.le_trans h.l hr.l, by have := h.k; have := hr.k; omega⟩
    have fit : ∀ (x : Ex) (r : Ex × List Int × Nat) M, gOk r bs.length (k + M) → M ≤ 4 * N - 1 → gOk (x, r.2) bs.length (k + 4 ^ (lv + 1 + 1) - 1) := fun x r M h hM => ⟨h.b, h.l, by have := h.k; rw [hp]; show r.2.2 ≤ _; omega⟩
    have leaf : ∀ x : Ex, gOk (x, bs.tail, k + 1) bs.length (k + 4 ^ (lv + 1 + 1) - 1) := fun x => ⟨byteOk_tail hb, ht, by rw [hp]; show k + 1 ≤ _; omega⟩
    have cast : ∀ (r : Ex × List Int × Nat) M, gOk r bs.length (k + M + N - 1) → gOk r bs.length (k + (M + N - 1)) := fun r M h => ⟨h.b, h.l, by have := h.k; omega⟩
    cases t with
    | true =>
      simp only [growR]
      split
      · exact leaf _
      split
      · exact fit _ _ _ (one true) (by omega)
      split
      · exact fit _ _ _ (cast _ _ (two true _ _ (cast _ _ (two true _ _ (one false))))) (by omega)
      · exact fit _ _ _ (cast _ _ (two true _ _ (one true))) (by omega)
    | false =>
      simp only [growR]
      split
      · exact fit _ _ _ (cast _ _ (two true _ _ (one true))) (by omega)
      split
      · exact fit _ _ _ (one false) (by omega)
      split
      · exact fit _ _ _ (cast _ _ (two false _ _ (cast _ _ (two false _ _ (one false))))) (by omega)
      · exact fit _ _ _ (cast _ _ (two false _ _ (one false))) (by omega)
end Go.AI
