/- The layer of abstract runs, part 26. -/
import Derived.Test.YtlcekmemdnjjbaaGreatDoorOakY
import Derived.Lib.SliceRun
set_option linter.unusedSimpArgs false
set_option linter.unusedVariables false
set_option linter.all false

namespace Go.AI
open Go.Proofs
set_option maxRecDepth 20000
def lowP (on un : List Int) (only : Bool) (ev : Int) : Bool := !decide (ev ∈ on) && (!only || decide (ev ∈ un))
theorem mgetB_mset (x y : Int) : ∀ (es : List (Value × Bool)), mgetB (mset es (.int .i64 x) true) (.int .i64 y) = (decide (y = x) || mgetB es (.int .i64 y))
  | [] => by
    unfold mset mgetB mlook mlook
    have e : keyB (.int .i64 y) (.int .i64 x) = decide (y = x) := by show (y == x) = _; by_cases h : y = x <;> simp [h]
    rw [e]
    cases decide (y = x) <;> rfl
  | (c, b) :: r => by
    have ih := mgetB_mset x y r
    have e : keyB (.int .i64 y) (.int .i64 x) = decide (y = x) := by show (y == x) = _; by_cases h : y = x <;> simp [h]
    unfold mset
    cases h1 : keyB (.int .i64 x) c with
    | true =>
      rw [cond_true]
      unfold mgetB at ih ⊢
      simp only [mlook, e]
      cases h2 : decide (y = x) with
      | true => rfl
      | false =>
        have h3 : keyB (.int .i64 y) c = false := by
          cases c with
          | int k z =>
            have e1 : x = z := by simpa [keyB] using h1
            subst e1
            rw [show keyB (.int .i64 y) (.int k x) = keyB (.int .i64 y) (.int .i64 x) from rfl, e, h2]
          | _ => simp [keyB] at h1
        rw [h3]
        rfl
    | false =>
      rw [cond_false]
      unfold mgetB at ih ⊢
      simp only [mlook]
      cases h3 : keyB (.int .i64 y) c with
      | true => cases h4 : decide (y = x) with
        | true =>
          have e1 : y = x := of_decide_eq_true h4
          rw [e1, h1] at h3
          cases h3
        | false => rfl
      | false => exact ih
def mapOk (km : List (Value × Bool)) (l : List Int) : Prop := ∀ x, mgetB km (.int .i64 x) = decide (x ∈ l)
theorem mapOk_nil : mapOk [] [] := fun x => by simp [mgetB, mlook]
theorem mapOk_app {km : List (Value × Bool)} {l : List Int} (h : mapOk km l) (x : Int) : mapOk (mset km (.int .i64 x) true) (l ++ [x]) := fun y => by
  rw [mgetB_mset, h y]
  by_cases h1 : y = x
  · simp [h1]
  · simp [h1]
end Go.AI


namespace Go.AI
open Go.Proofs
set_option maxRecDepth 20000
section
variable {c : Cx} {s : St} {k : List Item} {ops : Array Oper} {rest : List Nat} {o : Oper} {E0 : Env} {H0 H1 H : Heap} {O : List Heap}
end
end Go.AI


namespace Go.AI
open Go.Proofs
set_option maxRecDepth 20000
end Go.AI


namespace Go.AI
open Go.Proofs
set_option maxRecDepth 20000
end Go.AI


namespace Go.AI
open Go.Proofs
set_option maxRecDepth 20000
def keyL : List UInt8 → List Int → List UInt8
  | T, [] => T
  | T, n :: r => keyL (T ++ (itoaB n).data.toList ++ [32]) r
end Go.AI


namespace Go.AI
open Go.Proofs
def numB (x : Int) : List UInt8 := (itoaB x).data.toList
def decN (l : List UInt8) : Int := l.foldl (fun a c => a * 10 + ((c.toNat : Int) - 48)) 0
theorem num_ok : ((List.range 64).all fun (k : Nat) => decide (decN (numB (k : Int)) = (k : Int)) && (numB (k : Int)).all fun c => decide (48 ≤ c.toNat ∧ c.toNat ≤ 57)) = true := by kernel_rfl
theorem num_dec {x : Int} (h : 0 ≤ x ∧ x < 64) : decN (numB x) = x ∧ ∀ c ∈ numB x, 48 ≤ c.toNat ∧ c.toNat ≤ 57 := by
  have h1 := List.all_eq_true.1 num_ok x.toNat (List.mem_range.2 (by omega))
  simp only [Bool.and_eq_true, decide_eq_true_eq, List.all_eq_true] at h1
  have e : ((x.toNat : Nat) : Int) = x := by omega
  rw [e] at h1
  exact h1
def encL (l : List Int) : List UInt8 := l.flatMap fun x => numB x ++ [32]
theorem keyL_enc : ∀ (l : List Int) (T : List UInt8), keyL T l = T ++ encL l
  | [], T => by simp [keyL, encL]
  | x :: r, T => by
    rw [keyL, keyL_enc r]
    simp [encL, numB]
theorem digits_split {c : UInt8} (hc : ¬ (48 ≤ c.toNat ∧ c.toNat ≤ 57)) : ∀ {a b u v : List UInt8}, (∀ x ∈ a, 48 ≤ x.toNat ∧ x.toNat ≤ 57) → (∀ x ∈ b, 48 ≤ x.toNat ∧ x.toNat ≤ 57) → a ++ c :: u = b ++ c :: v → a = b ∧ u = v
  | [], [], u, v, _, _, h => by simpa using h
  | [], y :: b, u, v, _, hb, h => by
    simp only [List.nil_append, List.cons_append, List.cons.injEq] at h
    exact absurd (h.1 ▸ hb y (by simp)) hc
  | x :: a, [], u, v, ha, _, h => by
    simp only [List.nil_append, List.cons_append, List.cons.injEq] at h
    exact absurd (h.1 ▸ ha x (by simp)) hc
  | x :: a, y :: b, u, v, ha, hb, h => by
    simp only [List.cons_append, List.cons.injEq] at h
    obtain ⟨h1, h2⟩ := digits_split hc (a := a) (b := b) (fun x hx => ha x (by simp [hx])) (fun x hx => hb x (by simp [hx])) h.2
    exact ⟨by rw [h.1, h1], h2⟩
theorem num_ne {x : Int} (h : 0 ≤ x ∧ x < 64) {u v : List UInt8} (e : numB x ++ 32 :: u = 59 :: v) : False := by
  cases hn : numB x with
  | nil => rw [hn] at e; simp at e
  | cons c r =>
    rw [hn] at e
    simp only [List.cons_append, List.cons.injEq] at e
    have := (num_dec h).2 c (by rw [hn]; simp)
    rw [e.1] at this
    exact absurd this (by decide)
theorem enc_split : ∀ {a b : List Int} {u v : List UInt8}, (∀ x ∈ a, 0 ≤ x ∧ x < 64) → (∀ x ∈ b, 0 ≤ x ∧ x < 64) → encL a ++ 59 :: u = encL b ++ 59 :: v → a = b ∧ u = v
  | [], [], u, v, _, _, h => by simpa [encL] using h
  | [], y :: b, u, v, _, hb, h => by
    refine (num_ne (x := y) (hb y (by simp)) (u := encL b ++ 59 :: v) (v := u) ?_).elim
    simp only [encL, List.flatMap_nil, List.nil_append, List.flatMap_cons, List.append_assoc, List.singleton_append] at h
    rw [h]; rfl
  | x :: a, [], u, v, ha, _, h => by
    refine (num_ne (x := x) (ha x (by simp)) (u := encL a ++ 59 :: u) (v := v) ?_).elim
    simp only [encL, List.flatMap_nil, List.nil_append, List.flatMap_cons, List.append_assoc, List.singleton_append] at h
    rw [← h]; rfl
  | x :: a, y :: b, u, v, ha, hb, h => by
    simp only [encL, List.flatMap_cons, List.append_assoc, List.singleton_append] at h
    have hx := num_dec (ha x (by simp))
    have hy := num_dec (hb y (by simp))
    obtain ⟨h1, h2⟩ := digits_split (c := 32) (by decide) hx.2 hy.2 h
    obtain ⟨h3, h4⟩ := enc_split (a := a) (b := b) (fun x hx => ha x (by simp [hx])) (fun x hx => hb x (by simp [hx])) h2
    have e : x = y := by rw [← hx.1, ← hy.1, h1]
    exact ⟨by rw [e, h3], h4⟩
section
variable {S : Type} [DecidableEq S]
def bvis (nx : S → Int → S) (ok : S → Bool) (x : S × List Int) : List Int → List (S × List Int) → List (S × List Int)
  | [], l => l
  | ev :: r, l => bvis nx ok x r (if ok (nx x.1 ev) = true ∧ ∀ z ∈ l, z.1 ≠ nx x.1 ev then l ++ [(nx x.1 ev, x.2 ++ [ev])] else l)
def bsr (nx : S → Int → S) (ok : S → Bool) (evs : S → List Int) (bad : S → Bool) : Nat → Nat → List (S × List Int) → Option (S × List Int)
  | 0, _, _ => none
  | f + 1, i, l => match l[i]? with
    | none => none
    | some x => if bad x.1 = true then some x else bsr nx ok evs bad f (i + 1) (bvis nx ok x (evs x.1) l)
structure bOk (V : List S) (l : List (S × List Int)) : Prop where
  nd : (l.map (·.1)).Nodup
  el : ∀ z ∈ l, z.1 ∈ V
  wl : ∀ (j : Nat) z, l[j]? = some z → z.2.length ≤ j
theorem bOk_len {V : List S} {l : List (S × List Int)} (h : bOk V l) : l.length ≤ V.length := by
  have := nodup_sub h.nd (m := V) fun s hs => by obtain ⟨z, hz, rfl⟩ := List.mem_map.1 hs; exact h.el z hz
  simpa using this
theorem bOk_one {V : List S} {s : S} (h : s ∈ V) : bOk V [(s, [])] := ⟨by simp, by simpa using h, fun j z hz => by
  cases j with
  | zero => simp at hz; subst hz; simp
  | succ j => simp at hz⟩
theorem bOk_app {V : List S} {l : List (S × List Int)} (h : bOk V l) {i : Nat} {x : S × List Int} (hi : l[i]? = some x) {t : S} (ht : t ∈ V) (hn : ∀ z ∈ l, z.1 ≠ t) (ev : Int) : bOk V (l ++ [(t, x.2 ++ [ev])]) := by
  refine ⟨?_, fun z hz => ?_, fun j z hz => ?_⟩
  · rw [List.map_append]
    unfold List.Nodup
    rw [List.pairwise_append]
    refine ⟨h.nd, List.pairwise_singleton _ _, fun a ha b hb => ?_⟩
    obtain ⟨z, hz, rfl⟩ := List.mem_map.1 ha
    simp only [List.map_cons, List.map_nil, List.mem_singleton] at hb
    subst hb
    exact hn z hz
  · rcases List.mem_append.1 hz with hz | hz
    · exact h.el z hz
    · rw [List.mem_singleton] at hz; subst hz; exact ht
  · rw [List.getElem?_append] at hz
    split at hz
    · exact h.wl j z hz
    · rename_i hj
      have hlt := (List.getElem?_eq_some_iff.1 hz).1
      simp only [List.length_singleton] at hlt
      rw [show j - l.length = 0 by omega] at hz
      simp only [List.getElem?_cons_zero, Option.some.injEq] at hz
      subst hz
      have := h.wl i x hi
      have := (List.getElem?_eq_some_iff.1 hi).1
      simp only [List.length_append, List.length_singleton]
      omega
theorem bsr_done {nx : S → Int → S} {ok : S → Bool} {evs : S → List Int} {bad : S → Bool} {l : List (S × List Int)} {i : Nat} (h : l.length ≤ i) : ∀ f, bsr nx ok evs bad f i l = none
  | 0 => rfl
  | f + 1 => by simp only [bsr, List.getElem?_eq_none h]
end
end Go.AI


namespace Go.AI
open Go.Proofs
set_option maxRecDepth 20000
theorem mem_subs : ∀ {n : Nat} {l : List Int}, l ∈ subs n → l.length ≤ n ∧ ∀ x ∈ l, 0 ≤ x ∧ x < (n : Int)
  | 0, l, h => by
    simp only [subs, List.mem_singleton] at h
    subst h
    simp
  | n + 1, l, h => by
    simp only [subs, List.mem_append, List.mem_map] at h
    rcases h with h | ⟨m, h, rfl⟩
    · obtain ⟨h1, h2⟩ := mem_subs h
      exact ⟨by omega, fun x hx => by have := h2 x hx; omega⟩
    · obtain ⟨h1, h2⟩ := mem_subs h
      refine ⟨by simp only [List.length_append, List.length_singleton]; omega, fun x hx => ?_⟩
      rcases List.mem_append.1 hx with hx | hx
      · have := h2 x hx; omega
      · rw [List.mem_singleton] at hx; omega
abbrev PS := List Int × List Int
end Go.AI


namespace Go.AI
open Go.Proofs
set_option maxRecDepth 20000
abbrev marksR (a : Aut) (l : List Int) : Bool := l.any fun x => decide (x ∈ a.marked)
end Go.AI


namespace Go.AI
open Go.Proofs
set_option maxRecDepth 20000
theorem stp3_of : ∀ {es : List Edg}, es.Pairwise ltE → ∀ {e : Edg}, e ∈ es → stp3 es e.1 e.2.1 = e.2.2
  | [], _, e, h => by cases h
  | x :: r, hp, e, h => by
    rw [List.pairwise_cons] at hp
    unfold stp3
    rcases List.mem_cons.1 h with rfl | h
    · rw [if_pos ⟨rfl, rfl⟩]
    · have := hp.1 e h
      unfold ltE at this
      rw [if_neg (by omega)]
      exact stp3_of hp.2 h
end Go.AI


namespace Go.AI
open Go.Proofs
set_option maxRecDepth 20000
end Go.AI


namespace Go.AI
open Go.Proofs
set_option maxRecDepth 20000
end Go.AI


namespace Go.AI
section
variable {c : Cx} {ops : Array Oper} {O : List Heap} {n : Nat} {F : SH → List Pl → Prop}
end
end Go.AI


namespace Go.AI
open Go.Proofs
set_option maxRecDepth 20000
def intsV (n : Nat) : List Int := (List.range n).map fun (k : Nat) => (k : Int)
theorem mem_intsV {n : Nat} {x : Int} : x ∈ intsV n ↔ 0 ≤ x ∧ x < (n : Int) := by
  unfold intsV
  simp only [List.mem_map, List.mem_range]
  exact ⟨fun ⟨k, h, e⟩ => by omega, fun h => ⟨x.toNat, by omega, by omega⟩⟩
theorem intsV_len (n : Nat) : (intsV n).length = n := by simp [intsV]
def evC (es : List Edg) (s : Int) : List Int := (es.filter fun e => e.1 == s).map fun e => e.2.1
end Go.AI


namespace Go.AI
open Go.Proofs
set_option maxRecDepth 20000
theorem stp3_no : ∀ {es : List Edg} {s ev : Int}, (∀ e ∈ es, ¬ (e.1 = s ∧ e.2.1 = ev)) → stp3 es s ev = -1
  | [], _, _, _ => rfl
  | x :: r, s, ev, h => by
    unfold stp3
    rw [if_neg (h x (by simp))]
    exact stp3_no fun e he => h e (by simp [he])
end Go.AI


namespace Go.AI
open Go.Proofs
set_option maxRecDepth 20000
def nxtL (es : List Edg) (p : Int → Bool) (n : Nat) (l : List Int) (obs : List Int) : List Int := obs.foldl (nxt es p n) l
end Go.AI


namespace Go.AI
open Go.Proofs
inductive FrzA (nm : Nat) (d : I) : List D → List D → Prop
  | nil : FrzA nm d [] []
  | i {x : I} {l m : List D} : FrzA nm d l m → FrzA nm d (.i x :: l) (.i x :: m)
  | osl {l m : List D} : FrzA nm d l m → FrzA nm d (.osl 0 nm :: l) (.i d :: m)
end Go.AI


namespace Go.AI
open Go.Proofs
set_option maxRecDepth 20000
end Go.AI


namespace Go.AI
open Go.Proofs
set_option maxRecDepth 20000
end Go.AI


namespace Go.AI
open Go.Proofs
set_option maxRecDepth 100000
end Go.AI


namespace Go.AI
open Go.Proofs
set_option maxRecDepth 20000
structure gAut (a : Aut) (n : Nat) : Prop where
  st : a.states = n
  sm : smallA a
  c : chkA a = 0
theorem gAut.to {a : Aut} {n : Nat} (h : gAut a n) : ∀ e ∈ a.edges, 0 ≤ e.2.2 ∧ e.2.2 < (n : Int) := fun e he => by have := (chk_rng h.c).2.1 e he; rw [h.st] at this; exact this
theorem gAut.fr {a : Aut} {n : Nat} (h : gAut a n) : ∀ e ∈ a.edges, 0 ≤ e.1 ∧ e.1 < (n : Int) := fun e he => by have := (chk_rng h.c).1 e he; rw [h.st] at this; exact this
theorem gAut.ev {a : Aut} {n : Nat} (h : gAut a n) : ∀ e ∈ a.edges, e.2.1 ∈ a.alpha := (chk_rng h.c).2.2
theorem gAut.pw {a : Aut} {n : Nat} (h : gAut a n) : a.edges.Pairwise ltE := (chkEds_sorted (chk_parts h.c).2.2.2).1
abbrev erasR (a : Aut) (on : List Int) : List Int := a.alpha.filter fun x => !decide (x ∈ on)
theorem erasR_low {a : Aut} {n : Nat} (h : gAut a n) (on un l : List Int) : clo a.edges (fun x => decide (x ∈ erasR a on)) n l = clo a.edges (lowP on un false) n l :=
  clo_congr h.to (fun e he => by
    have h1 := h.ev e he
    show decide (e.2.1 ∈ a.alpha.filter fun x => !decide (x ∈ on)) = (!decide (e.2.1 ∈ on) && (!false || _))
    simp [List.mem_filter, h1]) fun _ => Iff.rfl
theorem clo_len (es : List Edg) (p : Int → Bool) (n : Nat) (l : List Int) : (clo es p n l).length ≤ n := sortedBelow_len _ _
end Go.AI


namespace Go.AI
open Go.Proofs
set_option maxRecDepth 20000
end Go.AI


namespace Go.AI
open Go.Proofs
set_option maxRecDepth 20000
end Go.AI


namespace Go.AI
open Go.Proofs
set_option maxRecDepth 20000
def okX (y : PS) : Bool := decide (y.1.length > 0)
end Go.AI


namespace Go.AI
open Go.Proofs
set_option maxRecDepth 20000
section
variable {S : Type} [DecidableEq S]
def bfull (nx : S → Int → S) (ok : S → Bool) (evs : S → List Int) : Nat → Nat → List (S × List Int) → List (S × List Int)
  | 0, _, l => l
  | f + 1, i, l => match l[i]? with
    | none => l
    | some x => bfull nx ok evs f (i + 1) (bvis nx ok x (evs x.1) l)
end
end Go.AI


namespace Go.AI
section
variable {S : Type} [DecidableEq S]
theorem bvis_pre (nx : S → Int → S) (ok : S → Bool) (x : S × List Int) : ∀ (es : List Int) (l : List (S × List Int)), l <+: bvis nx ok x es l
  | [], l => List.prefix_refl l
  | ev :: r, l => by
    simp only [bvis]
    split
    · exact (List.prefix_append _ _).trans (bvis_pre nx ok x r _)
    · exact bvis_pre nx ok x r l
theorem bfull_pre (nx : S → Int → S) (ok : S → Bool) (evs : S → List Int) : ∀ (f i : Nat) (l : List (S × List Int)), l <+: bfull nx ok evs f i l
  | 0, _, l => List.prefix_refl l
  | f + 1, i, l => by
    simp only [bfull]
    split
    · exact List.prefix_refl l
    · exact (bvis_pre nx ok _ _ l).trans (bfull_pre nx ok evs f (i + 1) _)
theorem bvis_ok {V : List S} {nx : S → Int → S} {ok : S → Bool} {x : S × List Int} {i : Nat} : ∀ {es : List Int} {l : List (S × List Int)}, (∀ ev ∈ es, ok (nx x.1 ev) = true → nx x.1 ev ∈ V) → bOk V l → l[i]? = some x → bOk V (bvis nx ok x es l)
  | [], l, _, h, _ => h
  | ev :: r, l, hv, h, hi => by
    have hv2 : ∀ ev ∈ r, ok (nx x.1 ev) = true → nx x.1 ev ∈ V := fun e he => hv e (by simp [he])
    simp only [bvis]
    split
    · rename_i hc
      refine bvis_ok (i := i) hv2 (bOk_app h hi (hv ev (by simp) hc.1) hc.2 ev) ?_
      have : i < l.length := (List.getElem?_eq_some_iff.1 hi).1
      rw [List.getElem?_append_left this]
      exact hi
    · exact bvis_ok hv2 h hi
theorem bfull_ok {V : List S} {nx : S → Int → S} {ok : S → Bool} {evs : S → List Int} (hv : ∀ x ∈ V, ∀ ev ∈ evs x, ok (nx x ev) = true → nx x ev ∈ V) : ∀ (f i : Nat) (l : List (S × List Int)), bOk V l → bOk V (bfull nx ok evs f i l)
  | 0, _, l, h => h
  | f + 1, i, l, h => by
    simp only [bfull]
    cases hi : l[i]? with
    | none => exact h
    | some x =>
      have hx : x.1 ∈ V := h.el x (List.mem_of_getElem? hi)
      exact bfull_ok hv f (i + 1) _ (bvis_ok (hv x.1 hx) h hi)
theorem bsr_find {V : List S} {nx : S → Int → S} {ok : S → Bool} {evs : S → List Int} {bad : S → Bool} (hv : ∀ x ∈ V, ∀ ev ∈ evs x, ok (nx x ev) = true → nx x ev ∈ V) {N : Nat} (hN : V.length < N) : ∀ (f i : Nat) (l : List (S × List Int)), f + i = N → i ≤ l.length → bOk V l → (∀ z ∈ l.take i, bad z.1 = false) →
    bsr nx ok evs bad f i l = (bfull nx ok evs f i l).find? fun z => bad z.1
  | 0, i, l, hf, hi, h, _ => by
    have := bOk_len h
    omega
  | f + 1, i, l, hf, hi, h, hb => by
    simp only [bsr, bfull]
    cases hg : l[i]? with
    | none =>
      have : l.length ≤ i := by
        rcases Nat.lt_or_ge i l.length with h1 | h1
        · rw [List.getElem?_eq_getElem h1] at hg; cases hg
        · exact h1
      rw [List.take_of_length_le this] at hb
      simp only
      symm
      rw [List.find?_eq_none]
      intro z hz
      rw [hb z hz]; simp
    | some x =>
      have hlt : i < l.length := (List.getElem?_eq_some_iff.1 hg).1
      have hx : x.1 ∈ V := h.el x (List.mem_of_getElem? hg)
      have htk : l.take (i + 1) = l.take i ++ [x] := by rw [List.take_add_one, hg]; rfl
      simp only
      by_cases hbx : bad x.1 = true
      · rw [if_pos hbx]
        obtain ⟨r1, hr1⟩ := bvis_pre nx ok x (evs x.1) l
        obtain ⟨r2, hr2⟩ := bfull_pre nx ok evs f (i + 1) (bvis nx ok x (evs x.1) l)
        rw [← hr2, ← hr1]
        have hl : l = l.take i ++ (x :: l.drop (i + 1)) := by
          have h0 := List.take_append_drop (i + 1) l
          rw [htk, List.append_assoc] at h0
          exact h0.symm
        symm
        rw [hl, List.append_assoc, List.append_assoc, List.find?_append, List.find?_eq_none.2 (fun z hz => by rw [hb z hz]; simp), Option.none_or, List.cons_append, List.find?_cons, hbx]
      · rw [if_neg hbx]
        have hp := bvis_pre nx ok x (evs x.1) l
        refine bsr_find hv hN f (i + 1) _ (by omega) (Nat.le_trans hlt hp.length_le) (bvis_ok (hv x.1 hx) h hg) fun z hz => ?_
        have e : (bvis nx ok x (evs x.1) l).take (i + 1) = l.take (i + 1) := by
          obtain ⟨r, hr⟩ := hp
          rw [← hr, List.take_append_of_le_length (by omega)]
        rw [e, htk, List.mem_append, List.mem_singleton] at hz
        rcases hz with hz | rfl
        · exact hb z hz
        · simpa using hbx
end
section
variable {S : Type} [DecidableEq S]
theorem bvis_has {nx : S → Int → S} {ok : S → Bool} {x : S × List Int} : ∀ {es : List Int} {l : List (S × List Int)} {ev : Int}, ev ∈ es → ok (nx x.1 ev) = true → ∃ w ∈ bvis nx ok x es l, w.1 = nx x.1 ev
  | e :: r, l, ev, h, c => by
    rcases List.mem_cons.1 h with rfl | h
    · simp only [bvis]
      by_cases c2 : ∀ z ∈ l, z.1 ≠ nx x.1 ev
      · rw [if_pos ⟨c, c2⟩]
        exact ⟨(nx x.1 ev, x.2 ++ [ev]), (bvis_pre nx ok x r _).subset (by simp), rfl⟩
      · rw [if_neg (fun h => c2 h.2)]
        by_cases c3 : ∃ z ∈ l, z.1 = nx x.1 ev
        · obtain ⟨z, hz, e⟩ := c3
          exact ⟨z, (bvis_pre nx ok x r l).subset hz, e⟩
        · exact absurd (fun z hz e => c3 ⟨z, hz, e⟩) c2
    · simp only [bvis]
      exact bvis_has h c
end
section
variable {S T : Type} [DecidableEq S] [DecidableEq T]
end
end Go.AI


namespace Go.AI
open Go.Proofs
set_option maxRecDepth 20000
end Go.AI


namespace Go.AI
open Go.Proofs
set_option maxRecDepth 20000
theorem checkSet_aux {n : Int} : ∀ {l : List Int} {y : Int}, checkSet n l (some y) = 0 → y + 1 ≤ n → (l.length : Int) ≤ n - 1 - y
  | [], y, _, h => by simp only [List.length_nil]; omega
  | x :: r, y, h, hy => by
    simp only [checkSet] at h
    by_cases h1 : x < 0 ∨ x ≥ n
    · rw [if_pos h1] at h; exact absurd h (by decide)
    rw [if_neg h1] at h
    by_cases h2 : (some y).any (x ≤ ·) = true
    · rw [if_pos h2] at h; exact absurd h (by decide)
    rw [if_neg h2] at h
    have hxy : y < x := by simpa using h2
    have := checkSet_aux h (by omega)
    simp only [List.length_cons]
    omega
theorem checkSet_len {n : Int} (hn : 0 ≤ n) : ∀ {l : List Int}, checkSet n l none = 0 → (l.length : Int) ≤ n
  | [], _ => by simpa using hn
  | x :: r, h => by
    simp only [checkSet] at h
    by_cases h1 : x < 0 ∨ x ≥ n
    · rw [if_pos h1] at h; exact absurd h (by decide)
    rw [if_neg h1] at h
    have h' : checkSet n r (some x) = 0 := by simpa using h
    have := checkSet_aux h' (by omega)
    simp only [List.length_cons]
    omega
theorem checkSet_of {n : Int} : ∀ {l : List Int} {p : Option Int}, l.Pairwise (· < ·) → (∀ x ∈ l, 0 ≤ x ∧ x < n) → (∀ y, p = some y → ∀ x ∈ l, y < x) → checkSet n l p = 0
  | [], _, _, _, _ => rfl
  | x :: r, p, hs, hr, hp => by
    simp only [checkSet]
    have h1 := hr x (by simp)
    rw [if_neg (by omega), if_neg]
    · rw [List.pairwise_cons] at hs
      refine checkSet_of hs.2 (fun y hy => hr y (by simp [hy])) (fun y e z hz => ?_)
      simp only [Option.some.injEq] at e
      subst e
      exact hs.1 z hz
    · cases p with
      | none => simp
      | some y =>
        have := hp y rfl x (by simp)
        simp only [Option.any_some, decide_eq_true_eq]
        omega
end Go.AI


namespace Go.AI
open Go.Proofs
set_option maxRecDepth 20000
theorem flat_lenN {α β : Type} {f : α → List β} {N : Nat} : ∀ {l : List α}, (∀ x ∈ l, (f x).length ≤ N) → (l.flatMap f).length ≤ N * l.length
  | [], _ => by simp
  | x :: r, h => by
    have h1 := h x (by simp)
    have h2 := flat_lenN (l := r) fun y hy => h y (by simp [hy])
    simp only [List.flatMap_cons, List.length_append, List.length_cons, Nat.mul_succ]
    omega
end Go.AI


namespace Go.AI
open Go.Proofs
set_option maxRecDepth 20000
end Go.AI


namespace Go.AI
theorem chkA_of {a : Aut} (h1 : checkSet 32 a.alpha none = 0) (h2 : 0 ≤ a.states ∧ a.states ≤ 4096) (h3 : checkSet a.states a.marked none = 0) (h4 : chkEds a.alpha a.states none a.edges = 0) : chkA a = 0 := by
  unfold chkA
  rw [if_neg (by rw [h1]; simp), if_neg (by omega), if_neg (by omega)]
  first
    | (rw [if_neg (by rw [h3]; simp)]; exact h4)
    | (simp only [h3, h4]; simp)
theorem rows_lt {f : Nat → List Edg} (h1 : ∀ i, ∀ x ∈ f i, x.1 = (i : Int)) (h2 : ∀ i, (f i).Pairwise fun x y => x.2.1 < y.2.1) : ∀ n, ((List.range n).flatMap f).Pairwise ltE
  | 0 => by simp
  | n + 1 => by
    rw [List.range_succ, List.flatMap_append, List.pairwise_append]
    refine ⟨rows_lt h1 h2 n, ?_, ?_⟩
    · rw [List.flatMap_cons, List.flatMap_nil, List.append_nil]
      have : (f n).Pairwise fun x y => (x ∈ f n ∧ y ∈ f n) ∧ x.2.1 < y.2.1 := List.Pairwise.imp_of_mem (fun {a b} ha hb h => ⟨⟨ha, hb⟩, h⟩) (h2 n)
      exact this.imp fun {x y} h => .inr ⟨by rw [h1 n x h.1.1, h1 n y h.1.2], h.2⟩
    · intro x hx y hy
      obtain ⟨i, hi, hx⟩ := List.mem_flatMap.1 hx
      rw [List.flatMap_cons, List.flatMap_nil, List.append_nil] at hy
      have := List.mem_range.1 hi
      exact .inl (by rw [h1 i x hx, h1 n y hy]; omega)
end Go.AI


namespace Go.AI
section
variable {S : Type} [DecidableEq S]
def runG (nx : S → Int → S) (ok : S → Bool) (evs : S → List Int) : S → List Int → Option S
  | x, [] => some x
  | x, ev :: w => if ev ∈ evs x ∧ ok (nx x ev) = true then runG nx ok evs (nx x ev) w else none
theorem runG_snoc {nx : S → Int → S} {ok : S → Bool} {evs : S → List Int} {ev : Int} : ∀ (w : List Int) (x0 x : S), runG nx ok evs x0 w = some x → ev ∈ evs x → ok (nx x ev) = true → runG nx ok evs x0 (w ++ [ev]) = some (nx x ev)
  | [], x0, x, h, h1, h2 => by
    simp only [runG, Option.some.injEq] at h
    subst h
    simp only [List.nil_append, runG]
    rw [if_pos ⟨h1, h2⟩]
  | e :: w, x0, x, h, h1, h2 => by
    simp only [runG] at h
    by_cases c : e ∈ evs x0 ∧ ok (nx x0 e) = true
    · rw [if_pos c] at h
      simp only [List.cons_append, runG]
      rw [if_pos c]
      exact runG_snoc w _ x h h1 h2
    · rw [if_neg c] at h; cases h
theorem bvis_run {nx : S → Int → S} {ok : S → Bool} {evs : S → List Int} {x0 : S} {x : S × List Int} (hx : runG nx ok evs x0 x.2 = some x.1) : ∀ {es : List Int} {l : List (S × List Int)}, (∀ ev ∈ es, ev ∈ evs x.1) → (∀ z ∈ l, runG nx ok evs x0 z.2 = some z.1) → ∀ z ∈ bvis nx ok x es l, runG nx ok evs x0 z.2 = some z.1
  | [], l, _, h => h
  | ev :: r, l, he, h => by
    simp only [bvis]
    refine bvis_run hx (fun e h => he e (by simp [h])) ?_
    split
    · rename_i c
      intro z hz
      rcases List.mem_append.1 hz with hz | hz
      · exact h z hz
      · rw [List.mem_singleton] at hz
        subst hz
        exact runG_snoc _ _ _ hx (he ev (by simp)) c.1
    · exact h
theorem bfull_run {nx : S → Int → S} {ok : S → Bool} {evs : S → List Int} {x0 : S} : ∀ (f i : Nat) (l : List (S × List Int)), (∀ z ∈ l, runG nx ok evs x0 z.2 = some z.1) → ∀ z ∈ bfull nx ok evs f i l, runG nx ok evs x0 z.2 = some z.1
  | 0, _, l, h => h
  | f + 1, i, l, h => by
    simp only [bfull]
    cases hi : l[i]? with
    | none => exact h
    | some x => exact bfull_run f (i + 1) _ (bvis_run (h x (List.mem_of_getElem? hi)) (fun _ h => h) h)
end
def hX (y : PS) : Option PS := if okX y = true then some y else none
end Go.AI


namespace Go.AI
end Go.AI


namespace Go.AI
end Go.AI


namespace Go.AI
end Go.AI


namespace Go.AI
section
variable {S : Type} [DecidableEq S]
theorem bfull_closed {V : List S} {nx : S → Int → S} {ok : S → Bool} {evs : S → List Int} (hv : ∀ x ∈ V, ∀ ev ∈ evs x, ok (nx x ev) = true → nx x ev ∈ V) {N : Nat} (hN : V.length < N) : ∀ (f i : Nat) (l : List (S × List Int)), f + i = N → i ≤ l.length → bOk V l →
    (∀ z ∈ l.take i, ∀ ev ∈ evs z.1, ok (nx z.1 ev) = true → ∃ w ∈ l, w.1 = nx z.1 ev) → ∀ z ∈ bfull nx ok evs f i l, ∀ ev ∈ evs z.1, ok (nx z.1 ev) = true → ∃ w ∈ bfull nx ok evs f i l, w.1 = nx z.1 ev
  | 0, i, l, hf, hi, h, _ => by
    have := bOk_len h
    omega
  | f + 1, i, l, hf, hi, h, hc => by
    simp only [bfull]
    cases hg : l[i]? with
    | none =>
      have : l.length ≤ i := by
        rcases Nat.lt_or_ge i l.length with h1 | h1
        · rw [List.getElem?_eq_getElem h1] at hg; cases hg
        · exact h1
      rw [List.take_of_length_le this] at hc
      exact hc
    | some x =>
      have hlt : i < l.length := (List.getElem?_eq_some_iff.1 hg).1
      have hx : x.1 ∈ V := h.el x (List.mem_of_getElem? hg)
      have hp := bvis_pre nx ok x (evs x.1) l
      obtain ⟨r, hr⟩ := hp
      have htk : (bvis nx ok x (evs x.1) l).take (i + 1) = l.take i ++ [x] := by
        rw [← hr, List.take_append_of_le_length (by omega), List.take_add_one, hg]; rfl
      refine bfull_closed hv hN f (i + 1) _ (by omega) (by rw [← hr, List.length_append]; omega) (bvis_ok (hv x.1 hx) h hg) fun z hz ev he c => ?_
      rw [htk, List.mem_append, List.mem_singleton] at hz
      rcases hz with hz | rfl
      · obtain ⟨w, hw, e⟩ := hc z hz ev he c
        exact ⟨w, (bvis_pre nx ok x (evs x.1) l).subset hw, e⟩
      · exact bvis_has he c
end
def mrk (a : Aut) (n : Nat) (i : Int) : Bool := marksR a (clo a.edges (lowP [] [] false) n [i])
end Go.AI


namespace Go.AI
end Go.AI


namespace Go.AI
end Go.AI


namespace Go.AI
def swp (s x : Int) : Int := if x = 0 then s else if x = s then 0 else x
theorem stp3_mem : ∀ {es : List Edg} {s ev : Int}, 0 ≤ stp3 es s ev → (s, ev, stp3 es s ev) ∈ es
  | [], s, ev, h => by
    unfold stp3 at h
    exact absurd h (by decide)
  | x :: r, s, ev, h => by
    unfold stp3 at h ⊢
    by_cases c : x.1 = s ∧ x.2.1 = ev
    · rw [if_pos c]
      obtain ⟨x1, x2, x3⟩ := x
      obtain ⟨rfl, rfl⟩ := c
      simp
    · rw [if_neg c] at h ⊢
      exact List.mem_cons_of_mem _ (stp3_mem h)
structure Sm (n : Nat) (s : Int) (E A : List Int) : Prop where
  rel : ∀ x, 0 ≤ x → x < (n : Int) → (x ∈ E ↔ swp s x ∈ A)
  rE : ∀ x ∈ E, 0 ≤ x ∧ x < (n : Int)
  rA : ∀ x ∈ A, 0 ≤ x ∧ x < (n : Int)
section
variable {a : Aut} {n : Nat} {s : Int} (h : gAut a n) (hn : n ≤ 5) (hs : 0 ≤ s ∧ s < (n : Int))
include h hs
include hn
omit h hn
end
end Go.AI


namespace Go.AI
open Go.Proofs
section
variable {E0 E : Env} {K : Kn} {ρ : Nat → Nat → Loc} {H : Heap} {O : List Heap} {w : World}
theorem objAt_killH {nm d n : Nat} {ob : Ob} (e : objAt (killH nm H :: O) d n = some ob) : ∃ o0, objAt (H :: O) d n = some o0 ∧ ¬ (d = 0 ∧ n = nm) ∧ (∀ l, backed l ob ↔ backed l o0) ∧ (d = 0 → ob = o0.kill nm) ∧ (d ≠ 0 → ob = o0) := by
  cases d with
  | zero =>
    simp only [objAt, List.getElem?_cons_zero, look_killH] at e
    split at e
    · cases e
    · rename_i hn
      cases hl : look H n with
      | none => simp [hl] at e
      | some o0 =>
        simp only [hl, Option.map_some, Option.some.injEq] at e
        subst e
        exact ⟨o0, by simpa [objAt] using hl, fun h => hn h.2, fun l => backed_kill _ _ _, fun _ => rfl, fun h => absurd rfl h⟩
  | succ d => exact ⟨ob, by simpa [objAt] using e, fun h => by omega, fun _ => Iff.rfl, fun h => by omega, fun _ => rfl⟩
theorem HInv.dropNm (nm : Nat) (h : HInv E K ρ (H :: O) w) : HInv E K ρ (killH nm H :: O) w := by
  have e0 : (fun d n => ρ (0 + d) n) = ρ := by funext d n; rw [Nat.zero_add]
  refine ⟨h.holds, fun d n ob e => ?_, fun d n1 o1 d' n2 o2 e1 e2 b1 b2 hbe => ?_, h.size, fun b hb hno => h.old b hb fun d n ob e => hno d n ob (by simpa [objAt] using e), fun n ob e hb => ?_, h.outer, h.Kle, h.Knew, h.rest⟩
  · obtain ⟨o0, a1, a2, a3, a4, a5⟩ := objAt_killH e
    have hs := h.own d n o0 a1
    cases d with
    | zero =>
      rw [a4 rfl]
      rw [e0, List.drop_zero] at hs
      rw [e0, List.drop_zero]
      exact hs.kill (but_kill nm) (fun _ => rfl)
    | succ d =>
      rw [a5 (by omega)]
      exact hs
  · obtain ⟨p1, a1, _, a3, _⟩ := objAt_killH e1
    obtain ⟨p2, c1, _, c3, _⟩ := objAt_killH e2
    exact h.inj _ _ _ _ _ _ a1 c1 ((a3 _).1 b1) ((c3 _).1 b2) hbe
  · obtain ⟨p1, a1, _, a3, _⟩ := objAt_killH e
    exact h.loc _ _ a1 ((a3 _).1 hb)
def reE (E : Env) (K : Kn) (w : World) (q : Nat → Prop) (hq : ∀ b, q b → b < w.heap.size) (hs : E.w0.heap.size ≤ w.heap.size) : Env :=
  { K0 := K, ρ0 := E.ρ0, w0 := w, pr := fun b => E.pr b ∨ q b, lt := fun b hb => by rcases hb with h | h; exact Nat.lt_of_lt_of_le (E.lt b h) hs; exact hq b h }
theorem HInv.rebase {S : List Heap} (h : HInv E K ρ S w) {q : Nat → Prop} (hq : ∀ b, q b → b < w.heap.size) (hfree : ∀ nm ob b, q b → objAt S 0 nm = some ob → backed (ρ 0 nm) ob → (ρ 0 nm).block ≠ b) : HInv (reE E K w q hq h.size) K ρ S w :=
  ⟨h.holds, h.own, h.inj, Nat.le_refl _, fun _ _ _ => rfl, fun nm ob e hb hp => by
    rcases hp with hp | hp
    · exact h.loc _ _ e hb hp
    · exact hfree nm ob _ hp e hb rfl, h.outer, Kn.le_refl _, fun _ _ _ e => .inl e, ⟨rfl, rfl, rfl⟩⟩
theorem base_re (hh : HInv E K ρ (H :: O) w) (hb : Base E0 E O) {q : Nat → Prop} (hq : ∀ b, q b → b < w.heap.size) : Base E0 (reE E K w q hq hh.size) O := by
  refine ⟨Kn.le_trans hb.K hh.Kle, hb.ρ, fun b hp => .inl (hb.pr b hp), fun b o x e => ?_, Nat.le_trans hb.size hh.size, fun b hp ho => ?_, ?_⟩
  · rcases hh.Knew b o x e with h1 | h1
    · exact hb.new b o x h1
    · exact .inr fun hp => h1 (hb.pr b hp)
  · show w.heap[b]? = _
    rw [hh.old b (hb.pr b hp) (hh.outerNe hb ho)]
    exact hb.old b hp ho
  · show w.tape = _ ∧ w.os = _ ∧ w.output = _
    exact ⟨hh.rest.1.trans hb.rest.1, hh.rest.2.1.trans hb.rest.2.1, hh.rest.2.2.trans hb.rest.2.2⟩
end
section
variable {c : Cx} {s : St} {k : List Item} {ops : Array Oper} {rest : List Nat} {o : Oper} {E0 : Env} {H : Heap} {O : List Heap}
end
section
variable {P : Program} {T : TT} {f : FuncId} {fn : Func} {code : Code}
end
section
variable {c : Cx} {s : St} {k : List Item} {ops : Array Oper} {rest : List Nat} {o : Oper} {g : Nat} {tab : Obj}
end
section
variable {c : Cx} {ops : Array Oper} {O : List Heap} {n : Nat} {F : SH → List Pl → Prop}
def SegF (c : Cx) (ops : Array Oper) (O : List Heap) (n : Nat) (F : SH → List Pl → Prop) (N : Nat) (r : List Oper) : SH → List Pl → Prop := fun y ac => ac.length = N ∧ GD c ops O n F r y ac
theorem gd_seg {r : List Oper} {N : Nat} : ∀ {l : List Oper} {x : SH} {acc : List Pl}, acc.length + l.length = N → GD c ops O n (SegF c ops O n F N r) l x acc → GD c ops O n F (l ++ r) x acc
  | [], x, acc, hN, ⟨qs, h1, h2⟩ => by
    cases qs with
    | nil => simpa [foldP] using h2.2
    | cons q qs => exact absurd h1 (by simp [ChainS])
  | o :: l, x, acc, hN, ⟨qs, h1, h2⟩ => by
    cases qs with
    | nil =>
      have := h2.1
      simp only [List.append_nil, List.length_cons] at this hN
      omega
    | cons q qs =>
      obtain ⟨h3, h4⟩ := h1
      have hN' : (acc ++ [q]).length + l.length = N := by
        have e1 : (o :: l).length = l.length + 1 := rfl
        have e2 : (acc ++ [q]).length = acc.length + 1 := by rw [List.length_append]; rfl
        omega
      exact gd_cons h3 (gd_seg hN' ⟨qs, h4, by rw [List.append_assoc]; exact h2⟩)
end
section
variable {c : Cx}
theorem g_drawnSeg (hT : TOk c.P c.T) (m : Nat) (hm : c.P.follows .mixedOrders = true) {id : Nat} {ops : Array Oper} {s : St} {k : List Item} {H : Heap} {O : List Heap} (hS : s.S = H :: O)
    (hml : m ≤ ops.size) (h : GE c ops O s.n (SegF c ops O s.n (FD c ops O s.n (s.σ, H) k) m (ops.toList.drop m)) (runS c.T ops O s.n 0 (ops.toList.take m) (s.σ, H) [])) : GM c (.drawn id ops s k) := by
  refine ⟨?_⟩
  have h0 := gd_seg (by simp; omega) (runS_sound hT _ _ _ _ h.h)
  rw [List.take_append_drop] at h0
  obtain ⟨qs, h1, h2⟩ := h0
  rw [List.nil_append] at h2
  have hs : s = St.of O s.n (s.σ, H) := by
    cases s
    simp only at hS
    subst hS
    rfl
  show Rch c (.code (.region id ops true) :: k) s
  rw [hs]
  exact rch_tail hm h2.1 h1 h2.2
end
end Go.AI


namespace Go.AI
open Go.Proofs
set_option maxRecDepth 20000
end Go.AI


namespace Go.AI
open Go.Proofs
set_option maxRecDepth 20000
def pStep (a : Aut) (on : List Int) (n : Nat) (s : List Int) (ev : Int) : List Int × Bool × Int := (nxt a.edges (lowP on [] false) n s ev, decide ((nxt a.edges (lowP on [] false) n s ev).length ≠ 0), 0)
def prjR (a : Aut) (on : List Int) (n : Nat) : Except Int (Unf (List Int)) := unfR eqB false (pStep a on n) (marksR a) (keptR a on) (clo a.edges (lowP on [] false) n [0])
theorem uloop_done {σ : Type} {eq : σ → σ → Bool} {lim : Bool} {step : σ → Int → σ × Bool × Int} {mkd : σ → Bool} {alpha : List Int} {U : Unf σ} {i : Nat} (h : U.sts.length ≤ i) : ∀ k, uloop eq lim step mkd alpha k i U = .ok U
  | 0 => rfl
  | k + 1 => by simp only [uloop, List.getElem?_eq_none h]
end Go.AI


namespace Go.AI
theorem uvisit_pre {σ : Type} {eq : σ → σ → Bool} {lim : Bool} {step : σ → Int → σ × Bool × Int} {i : Nat} {s : σ} {ev : Int} {U V : Unf σ} (h : uvisit eq lim step i s ev U = .ok V) : U.sts <+: V.sts := by
  unfold uvisit at h
  split at h
  · cases h
  split at h
  · simp only [Except.ok.injEq] at h; subst h; exact List.prefix_refl _
  split at h
  · simp only [Except.ok.injEq] at h; subst h; exact List.prefix_refl _
  split at h
  · cases h
  · simp only [Except.ok.injEq] at h; subst h; exact List.prefix_append _ _
theorem uvisits_pre {σ : Type} {eq : σ → σ → Bool} {lim : Bool} {step : σ → Int → σ × Bool × Int} {i : Nat} {s : σ} : ∀ {l : List Int} {U V : Unf σ}, uvisits eq lim step i s l U = .ok V → U.sts <+: V.sts
  | [], U, V, h => by simp only [uvisits, Except.ok.injEq] at h; subst h; exact List.prefix_refl _
  | ev :: r, U, V, h => by
    simp only [uvisits] at h
    cases h1 : uvisit eq lim step i s ev U with
    | error e => rw [h1] at h; cases h
    | ok U' => rw [h1] at h; exact (uvisit_pre h1).trans (uvisits_pre h)
theorem uloop_pre {σ : Type} {eq : σ → σ → Bool} {lim : Bool} {step : σ → Int → σ × Bool × Int} {mkd : σ → Bool} {alpha : List Int} : ∀ {f i : Nat} {U V : Unf σ}, uloop eq lim step mkd alpha f i U = .ok V → U.sts <+: V.sts
  | 0, i, U, V, h => by simp only [uloop, Except.ok.injEq] at h; subst h; exact List.prefix_refl _
  | f + 1, i, U, V, h => by
    simp only [uloop] at h
    cases hs : U.sts[i]? with
    | none => rw [hs] at h; simp only [Except.ok.injEq] at h; subst h; exact List.prefix_refl _
    | some s =>
      rw [hs] at h
      simp only at h
      cases h1 : uvisits eq lim step i s alpha (umark mkd i s U) with
      | error e => rw [h1] at h; cases h
      | ok U' =>
        rw [h1] at h
        have := uvisits_pre h1
        rw [(umark_sts mkd i s U).1] at this
        exact this.trans (uloop_pre h)
structure PrjOk (b : Aut) (on : List Int) (n : Nat) (V : Unf (List Int)) : Prop where
  fst : V.sts[0]? = some (clo b.edges (lowP on [] false) n [0])
  nd : V.sts.Nodup
  el : ∀ s ∈ V.sts, s ∈ subs n
  ne : ∀ s ∈ V.sts, s ≠ []
  mrk : ∀ (i : Nat) E, V.sts[i]? = some E → decide ((i : Int) ∈ V.mkl) = marksR b E
  st : ∀ (i : Nat) E, V.sts[i]? = some E → ∀ ev ∈ keptR b on, (nxt b.edges (lowP on [] false) n E ev = [] ∧ stp3 V.eds i ev = -1) ∨
    ∃ j : Nat, stp3 V.eds i ev = (j : Int) ∧ V.sts[j]? = some (nxt b.edges (lowP on [] false) n E ev) ∧ nxt b.edges (lowP on [] false) n E ev ≠ []
  len : V.sts.length ≤ 32 ∧ V.mkl.length ≤ 32 ∧ V.eds.length ≤ 32 * 32
abbrev NP := Nat × Nat
section
variable (b c : Aut) (lp : Int → Bool) (n : Nat) (kp : List Int) (V W : Unf (List Int))
def atW (t : List Int) (z : NP) : Prop := V.sts[z.1]? = some (nxtL b.edges lp n (clo b.edges lp n [0]) t) ∧ W.sts[z.2]? = some (nxtL c.edges lp n (clo c.edges lp n [0]) t)
def fineE (l : List NP) (z : NP) (ev : Int) : Prop := ∀ E F, V.sts[z.1]? = some E → W.sts[z.2]? = some F → (nxt b.edges lp n E ev = [] ↔ nxt c.edges lp n F ev = []) ∧
  (nxt b.edges lp n E ev ≠ [] → ∃ y ∈ l, V.sts[y.1]? = some (nxt b.edges lp n E ev) ∧ W.sts[y.2]? = some (nxt c.edges lp n F ev))
def fineM (z : NP) : Prop := ∀ E F, V.sts[z.1]? = some E → W.sts[z.2]? = some F → marksR b E = marksR c F
structure prOk (i : Nat) (l : List NP) : Prop where
  nd : l.Nodup
  zero : (0, 0) ∈ l
  at_ : ∀ z ∈ l, ∃ t, (∀ ev ∈ t, ev ∈ kp) ∧ atW b c lp n V W t z
  mrk : ∀ (k : Nat) z, k < i → l[k]? = some z → fineM b c V W z
  ev : ∀ (k : Nat) z, k < i → l[k]? = some z → ∀ ev ∈ kp, fineE b c lp n V W l z ev
variable {b c lp n kp V W}
theorem nxtL_snoc (es : List Edg) (p : Int → Bool) (n : Nat) (l : List Int) (t : List Int) (ev : Int) : nxtL es p n l (t ++ [ev]) = nxt es p n (nxtL es p n l t) ev := by
  unfold nxtL
  rw [List.foldl_append]
  rfl
end
section
variable {b c : Aut} {on : List Int} {n : Nat} {kp : List Int} {V W : Unf (List Int)}
end
end Go.AI


namespace Go.AI
set_option maxRecDepth 20000
def Unf.map {σ τ : Type} (f : σ → τ) (U : Unf σ) : Unf τ := ⟨U.sts.map f, U.mkl, U.eds⟩
def exMap {σ τ : Type} (f : σ → τ) : Except Int (Unf σ) → Except Int (Unf τ)
  | .error e => .error e
  | .ok U => .ok (U.map f)
section
variable {σ τ : Type} {eq : σ → σ → Bool} {eq' : τ → τ → Bool} {lim : Bool} {step : σ → Int → σ × Bool × Int} {step' : τ → Int → τ × Bool × Int} {mkd : σ → Bool} {mkd' : τ → Bool} {P : σ → Prop} {f : σ → τ} {alpha : List Int}
structure Sim (eq : σ → σ → Bool) (eq' : τ → τ → Bool) (step : σ → Int → σ × Bool × Int) (step' : τ → Int → τ × Bool × Int) (mkd : σ → Bool) (mkd' : τ → Bool) (P : σ → Prop) (f : σ → τ) (alpha : List Int) : Prop where
  st : ∀ s ev, P s → ev ∈ alpha → (step' (f s) ev).2 = (step s ev).2 ∧ ((step s ev).2.1 = true → (step' (f s) ev).1 = f (step s ev).1 ∧ P (step s ev).1)
  eq : ∀ a b, P a → P b → eq' (f a) (f b) = eq a b
  mark : ∀ s, P s → mkd' (f s) = mkd s
theorem uvisit_map (h : Sim eq eq' step step' mkd mkd' P f alpha) {i : Nat} {s : σ} {ev : Int} {U : Unf σ} (hs : P s) (he : ev ∈ alpha) (hU : ∀ t ∈ U.sts, P t) :
    uvisit eq' lim step' i (f s) ev (U.map f) = exMap f (uvisit eq lim step i s ev U) ∧ ∀ V, uvisit eq lim step i s ev U = .ok V → ∀ t ∈ V.sts, P t := by
  obtain ⟨h1, h2⟩ := h.st s ev hs he
  unfold uvisit
  rw [h1]
  by_cases c1 : (step s ev).2.2 ≠ 0
  · rw [if_pos c1, if_pos c1]
    exact ⟨rfl, fun V hV => by cases hV⟩
  rw [if_neg c1, if_neg c1]
  by_cases c2 : (step s ev).2.1 = false
  · rw [if_pos c2, if_pos c2]
    exact ⟨rfl, fun V hV => by cases hV; exact hU⟩
  rw [if_neg c2, if_neg c2]
  obtain ⟨h3, h4⟩ := h2 (by simpa using c2)
  have e1 : (U.map f).sts.findIdx (eq' (step' (f s) ev).1) = U.sts.findIdx (eq (step s ev).1) := by
    show (U.sts.map f).findIdx _ = _
    rw [List.findIdx_map, h3]
    exact findIdx_congr fun x hx => h.eq _ _ h4 (hU x hx)
  have e2 : (U.map f).sts.length = U.sts.length := by show (U.sts.map f).length = _; rw [List.length_map]
  rw [e1, e2]
  by_cases c3 : U.sts.findIdx (eq (step s ev).1) < U.sts.length
  · rw [if_pos c3, if_pos c3]
    exact ⟨rfl, fun V hV => by cases hV; exact hU⟩
  rw [if_neg c3, if_neg c3]
  by_cases c4 : lim = true ∧ U.sts.length = 4096
  · rw [if_pos c4, if_pos c4]
    exact ⟨rfl, fun V hV => by cases hV⟩
  rw [if_neg c4, if_neg c4]
  refine ⟨?_, fun V hV t ht => ?_⟩
  · simp only [exMap, Unf.map, List.map_append, List.map_cons, List.map_nil, h3]
  · cases hV
    rcases List.mem_append.1 ht with ht | ht
    · exact hU t ht
    · rw [List.mem_singleton] at ht
      subst ht
      exact h4
theorem uvisits_map (h : Sim eq eq' step step' mkd mkd' P f alpha) {i : Nat} {s : σ} (hs : P s) : ∀ (l : List Int) {U : Unf σ}, (∀ ev ∈ l, ev ∈ alpha) → (∀ t ∈ U.sts, P t) →
    uvisits eq' lim step' i (f s) l (U.map f) = exMap f (uvisits eq lim step i s l U) ∧ ∀ V, uvisits eq lim step i s l U = .ok V → ∀ t ∈ V.sts, P t
  | [], U, _, hU => ⟨rfl, fun V hV => by cases hV; exact hU⟩
  | ev :: l, U, hl, hU => by
    obtain ⟨h1, h2⟩ := uvisit_map (lim := lim) (i := i) h hs (hl ev (by simp)) hU
    simp only [uvisits]
    rw [h1]
    cases hV : uvisit eq lim step i s ev U with
    | error e => exact ⟨rfl, fun V h => by cases h⟩
    | ok V =>
      simp only [exMap]
      exact uvisits_map h hs l (fun x hx => hl x (by simp [hx])) (h2 V hV)
theorem uloop_map (h : Sim eq eq' step step' mkd mkd' P f alpha) : ∀ (n i : Nat) {U : Unf σ}, (∀ t ∈ U.sts, P t) →
    uloop eq' lim step' mkd' alpha n i (U.map f) = exMap f (uloop eq lim step mkd alpha n i U) ∧ ∀ V, uloop eq lim step mkd alpha n i U = .ok V → ∀ t ∈ V.sts, P t
  | 0, i, U, hU => ⟨rfl, fun V hV => by cases hV; exact hU⟩
  | n + 1, i, U, hU => by
    simp only [uloop]
    have e0 : (U.map f).sts[i]? = (U.sts[i]?).map f := by show (U.sts.map f)[i]? = _; rw [List.getElem?_map]
    rw [e0]
    cases hs : U.sts[i]? with
    | none => exact ⟨rfl, fun V hV => by cases hV; exact hU⟩
    | some s =>
      simp only [Option.map_some]
      have hPs : P s := hU s (List.mem_of_getElem? hs)
      have e1 : umark mkd' i (f s) (U.map f) = (umark mkd i s U).map f := by
        unfold umark
        rw [h.mark s hPs]
        split <;> rfl
      obtain ⟨m1, m2⟩ := umark_sts mkd i s U
      have hM : ∀ t ∈ (umark mkd i s U).sts, P t := by rw [m1]; exact hU
      rw [e1]
      obtain ⟨h1, h2⟩ := uvisits_map (lim := lim) (i := i) h hPs alpha (fun _ hx => hx) hM
      rw [h1]
      cases hV : uvisits eq lim step i s alpha (umark mkd i s U) with
      | error e => exact ⟨rfl, fun V h => by cases h⟩
      | ok V =>
        simp only [exMap]
        exact uloop_map h n (i + 1) (h2 V hV)
theorem unfR_map (h : Sim eq eq' step step' mkd mkd' P f alpha) {first : σ} (h0 : P first) : unfR eq' lim step' mkd' alpha (f first) = exMap f (unfR eq lim step mkd alpha first) :=
  (uloop_map (lim := lim) h 4097 0 (U := unf0 first) (fun t ht => by rw [unf0, List.mem_singleton] at ht; subst ht; exact h0)).1
end
end Go.AI


namespace Go.AI
abbrev pk (x ev : Int) : Value := .agg ⟨[.int .i64 x, .int .i64 ev]⟩
def tabOf (es : List Edg) : List (Value × Int) := es.foldl (fun m e => mset m (pk e.1 e.2.1) e.2.2) []
theorem keyB_pk {a b : Int} {k : Value} (h : keyB (pk a b) k = true) (c d : Int) : keyB (pk c d) k = (c == a && d == b) := by
  unfold keyB at h
  split at h
  · rename_i heq; cases heq
  · rename_i heq; cases heq
  · rename_i heq
    simp only [Value.agg.injEq, Array.mk.injEq, List.cons.injEq, Value.int.injEq, and_true] at heq
    obtain ⟨⟨_, rfl⟩, _, rfl⟩ := heq
    simp only [Bool.and_eq_true, beq_iff_eq] at h
    obtain ⟨rfl, rfl⟩ := h
    rfl
  · cases h
theorem mlook_mset {α : Type} (a b : Int) (v : α) (c d : Int) : ∀ m : List (Value × α), mlook (mset m (pk a b) v) (pk c d) = if c = a ∧ d = b then some v else mlook m (pk c d)
  | [] => by
    simp only [mset, mlook]
    have : keyB (pk c d) (pk a b) = (c == a && d == b) := rfl
    rw [this]
    by_cases h : c = a ∧ d = b
    · rw [if_pos h, h.1, h.2]; simp
    · rw [if_neg h]
      have : (c == a && d == b) = false := by
        rw [Bool.eq_false_iff]
        intro e
        simp only [Bool.and_eq_true, beq_iff_eq] at e
        exact h e
      rw [this]; rfl
  | (k, y) :: r => by
    simp only [mset]
    cases hk : keyB (pk a b) k with
    | true =>
      simp only [cond_true, mlook]
      rw [keyB_pk hk, show keyB (pk c d) (pk a b) = (c == a && d == b) from rfl]
      by_cases h : c = a ∧ d = b
      · rw [if_pos h, h.1, h.2]; simp
      · rw [if_neg h]
        have : (c == a && d == b) = false := by
          rw [Bool.eq_false_iff]
          intro e
          simp only [Bool.and_eq_true, beq_iff_eq] at e
          exact h e
        rw [this]; rfl
    | false =>
      simp only [cond_false, mlook]
      rw [mlook_mset a b v c d r]
      by_cases h : c = a ∧ d = b
      · rw [if_pos h, h.1, h.2, hk]; simp
      · rw [if_neg h, if_neg h]
theorem tab_foldl (x ev : Int) : ∀ (es : List Edg) (m : List (Value × Int)), es.Pairwise ltE → (∀ e ∈ es, 0 ≤ e.2.2) →
    mlook (es.foldl (fun m e => mset m (pk e.1 e.2.1) e.2.2) m) (pk x ev) = if 0 ≤ stp3 es x ev then some (stp3 es x ev) else mlook m (pk x ev)
  | [], m, _, _ => by
    have : stp3 [] x ev = -1 := by unfold stp3; rfl
    rw [this]; rfl
  | e :: r, m, hp, ht => by
    rw [List.pairwise_cons] at hp
    rw [List.foldl_cons, tab_foldl x ev r _ hp.2 fun e he => ht e (by simp [he]), mlook_mset]
    have hs : stp3 (e :: r) x ev = if e.1 = x ∧ e.2.1 = ev then e.2.2 else stp3 r x ev := by rw [stp3]
    by_cases c : e.1 = x ∧ e.2.1 = ev
    · have h1 : ¬ 0 ≤ stp3 r x ev := by
        intro h
        have := hp.1 _ (stp3_mem h)
        unfold ltE at this
        simp only at this
        omega
      rw [hs, if_pos c, if_neg h1, if_pos ⟨c.1.symm, c.2.symm⟩, if_pos (ht e (by simp))]
    · have h1 : (if x = e.1 ∧ ev = e.2.1 then some e.2.2 else mlook m (pk x ev)) = mlook m (pk x ev) := if_neg fun h => c ⟨h.1.symm, h.2.symm⟩
      rw [hs, if_neg c, h1]
theorem tab_look {es : List Edg} (hp : es.Pairwise ltE) (ht : ∀ e ∈ es, 0 ≤ e.2.2) (x ev : Int) : mhas (tabOf es) (pk x ev) = decide (0 ≤ stp3 es x ev) ∧ (0 ≤ stp3 es x ev → mgetI (tabOf es) (pk x ev) = stp3 es x ev) := by
  have h := tab_foldl x ev es [] hp ht
  unfold mhas mgetI tabOf
  rw [h]
  by_cases c : 0 ≤ stp3 es x ev
  · rw [if_pos c, decide_eq_true c]; exact ⟨rfl, fun _ => rfl⟩
  · rw [if_neg c, decide_eq_false c]; exact ⟨rfl, fun h => absurd h c⟩
theorem mset_pk (a b : Int) (v : Int) : ∀ {m : List (Value × Int)}, (∀ p ∈ m, KK.ok (.pair .i64) p.1 = true) → ∀ p ∈ mset m (pk a b) v, KK.ok (.pair .i64) p.1 = true
  | [], _, p, hp => by
    simp only [mset, List.mem_singleton] at hp
    subst hp; rfl
  | (k, y) :: r, h, p, hp => by
    simp only [mset] at hp
    cases hk : keyB (pk a b) k with
    | true =>
      rw [hk, cond_true] at hp
      rcases List.mem_cons.1 hp with rfl | hp
      · rfl
      · exact h p (by simp [hp])
    | false =>
      rw [hk, cond_false] at hp
      rcases List.mem_cons.1 hp with rfl | hp
      · exact h _ (by simp)
      · exact mset_pk a b v (fun q hq => h q (by simp [hq])) p hp
theorem tab_keys (es : List Edg) : ∀ p ∈ tabOf es, KK.ok (.pair .i64) p.1 = true := by
  have : ∀ (es : List Edg) (m : List (Value × Int)), (∀ p ∈ m, KK.ok (.pair .i64) p.1 = true) → ∀ p ∈ es.foldl (fun m e => mset m (pk e.1 e.2.1) e.2.2) m, KK.ok (.pair .i64) p.1 = true := by
    intro es
    induction es with
    | nil => intro m h; exact h
    | cons e r ih => intro m h; exact ih _ (mset_pk _ _ _ h)
  exact this es [] (by simp)
section
variable {σ : Type} [DecidableEq σ] {mkd : σ → Bool} {al : List Int} {P : σ → Prop} {step : σ → Int → σ × Bool × Int} {V : Unf σ}
def unfA {σ : Type} (al : List Int) (V : Unf σ) : Aut := ⟨al, V.sts.length, V.mkl, V.eds⟩
theorem uat_row {k : Nat} {s : σ} {x : Edg} (hx : x ∈ al.filterMap (eOf step V.sts k s)) : x.1 = (k : Int) ∧ x.2.1 ∈ al ∧ (step s x.2.1).2.1 = true ∧ x.2.2 = (V.sts.findIdx (eqB (step s x.2.1).1) : Nat) := by
  obtain ⟨ev, he, hx⟩ := List.mem_filterMap.1 hx
  unfold eOf at hx
  by_cases c : (step s ev).2.1 = true
  · rw [if_pos c] at hx
    obtain rfl := Option.some.inj hx
    exact ⟨rfl, he, c, rfl⟩
  · rw [if_neg c] at hx; cases hx
theorem uat_pw (hU : UAt mkd al P step V.sts.length V) (hal : al.Pairwise (· < ·)) : V.eds.Pairwise ltE := by
  rw [hU.eds]
  refine rows_lt (fun i x hx => ?_) (fun i => ?_) _
  · cases hs : V.sts[i]? with
    | none => rw [hs] at hx; cases hx
    | some s => rw [hs] at hx; exact (uat_row hx).1
  · cases hs : V.sts[i]? with
    | none => exact .nil
    | some s =>
      refine List.Pairwise.filterMap _ (fun p q hpq x hx y hy => ?_) hal
      unfold eOf at hx hy
      by_cases cp : (step s p).2.1 = true
      · by_cases cq : (step s q).2.1 = true
        · rw [if_pos cp] at hx
          rw [if_pos cq] at hy
          obtain rfl := Option.some.inj hx
          obtain rfl := Option.some.inj hy
          exact hpq
        · rw [if_neg cq] at hy; cases hy
      · rw [if_neg cp] at hx; cases hx
theorem uat_mem (hU : UAt mkd al P step V.sts.length V) {x : Edg} (hx : x ∈ V.eds) : ∃ (k : Nat) (s : σ) (j : Nat), V.sts[k]? = some s ∧ x.1 = (k : Int) ∧ x.2.1 ∈ al ∧ (step s x.2.1).2.1 = true ∧ x.2.2 = (j : Int) ∧ V.sts[j]? = some (step s x.2.1).1 := by
  rw [hU.eds] at hx
  obtain ⟨k, hk, he⟩ := List.mem_flatMap.1 hx
  cases hs : V.sts[k]? with
  | none => rw [hs] at he; cases he
  | some s =>
    rw [hs] at he
    obtain ⟨h2, h3, h4, h5⟩ := uat_row he
    have hi : k < V.sts.length := (List.getElem?_eq_some_iff.1 hs).1
    exact ⟨k, s, _, hs, h2, h3, h4, h5, idx_get ((hU.fine k s hi hs _ h3).2 h4)⟩
theorem uat_stp (hU : UAt mkd al P step V.sts.length V) (hal : al.Pairwise (· < ·)) {i : Nat} {s : σ} {ev : Int} (hs : V.sts[i]? = some s) (hev : ev ∈ al) :
    ((step s ev).2.1 = false ∧ stp3 V.eds i ev = -1) ∨ ((step s ev).2.1 = true ∧ ∃ j : Nat, stp3 V.eds i ev = (j : Int) ∧ V.sts[j]? = some (step s ev).1) := by
  have hi : i < V.sts.length := (List.getElem?_eq_some_iff.1 hs).1
  cases c : (step s ev).2.1 with
  | false =>
    refine .inl ⟨rfl, stp3_no fun e he hc => ?_⟩
    obtain ⟨k, t, j, h1, h2, h3, h4, _⟩ := uat_mem hU he
    have hki : k = i := by have := hc.1; omega
    subst hki
    rw [hs] at h1
    obtain rfl := Option.some.inj h1
    rw [hc.2, c] at h4
    cases h4
  | true =>
    have hget := idx_get ((hU.fine i s hi hs ev hev).2 c)
    refine .inr ⟨rfl, _, ?_, hget⟩
    have hmem : ((i : Int), ev, ((V.sts.findIdx (eqB (step s ev).1) : Nat) : Int)) ∈ V.eds := by
      rw [hU.eds]
      refine List.mem_flatMap.2 ⟨i, List.mem_range.2 hi, ?_⟩
      rw [hs]
      refine List.mem_filterMap.2 ⟨ev, hev, ?_⟩
      unfold eOf
      rw [if_pos c]
    exact stp3_of (uat_pw hU hal) hmem
theorem uat_lens (hU : UAt mkd al P step V.sts.length V) {N : Nat} (hN : al.length ≤ N) : V.mkl.length ≤ V.sts.length ∧ V.eds.length ≤ N * V.sts.length := by
  constructor
  · rw [hU.mkl, List.length_map]
    exact Nat.le_trans (List.length_filter_le _ _) (by rw [List.length_range]; omega)
  · rw [hU.eds]
    refine Nat.le_trans (flat_lenN (N := N) fun k _ => ?_) (by rw [List.length_range]; exact Nat.le_refl _)
    split
    · simp
    · exact Nat.le_trans (List.length_filterMap_le _ _) hN
theorem uat_g (hU : UAt mkd al P step V.sts.length V) (hal : checkSet 32 al none = 0) (hn : V.sts.length ≤ 4096) : gAut (unfA al V) V.sts.length := by
  have hl := checkSet_len (by decide) hal
  have hs := checkSet_sorted hal
  obtain ⟨l1, l2⟩ := uat_lens hU (N := 32) (by omega)
  have hlen : 32 * V.sts.length ≤ 32 * 4096 := Nat.mul_le_mul_left _ hn
  refine ⟨rfl, ⟨by show V.eds.length ≤ 1000000; omega, by show al.length ≤ 1000000; omega, by show V.mkl.length ≤ 1000000; omega⟩, chkA_of hal ⟨by show (0 : Int) ≤ (V.sts.length : Nat); omega, by show ((V.sts.length : Nat) : Int) ≤ 4096; omega⟩ ?_ ?_⟩
  · refine checkSet_of ?_ (fun x hx => ?_) (by simp)
    · show V.mkl.Pairwise (· < ·)
      rw [hU.mkl, List.pairwise_map]
      have : (List.range V.sts.length).Pairwise (· < ·) := List.pairwise_lt_range
      exact (this.filter _).imp fun {a b} h => by omega
    · have hx : x ∈ V.mkl := hx
      rw [hU.mkl] at hx
      obtain ⟨k, hk, rfl⟩ := List.mem_map.1 hx
      have := List.mem_range.1 (List.mem_filter.1 hk).1
      show 0 ≤ (k : Int) ∧ (k : Int) < (V.sts.length : Nat)
      omega
  · refine chkEds_of (uat_pw hU hs.1) (fun x hx => ?_) (by simp)
    obtain ⟨k, s, j, h1, h2, h3, _, h5, h6⟩ := uat_mem hU hx
    have hk := (List.getElem?_eq_some_iff.1 h1).1
    have hj := (List.getElem?_eq_some_iff.1 h6).1
    show (0 ≤ x.1 ∧ x.1 < (V.sts.length : Nat)) ∧ (0 ≤ x.2.2 ∧ x.2.2 < (V.sts.length : Nat)) ∧ x.2.1 ∈ al
    exact ⟨by omega, by omega, h3⟩
end
def tupS : List Aut → List Int → Int → Option (List Int)
  | a :: l, x :: t, ev => if ev ∈ a.alpha then (if 0 ≤ stp3 a.edges x ev then (tupS l t ev).map (stp3 a.edges x ev :: ·) else none) else (tupS l t ev).map (x :: ·)
  | _, _, _ => some []
def tStep (l : List Aut) (t : List Int) (ev : Int) : List Int × Bool × Int := ((tupS l t ev).getD [], (tupS l t ev).isSome, 0)
def tMk : List Aut → List Int → Bool
  | a :: l, x :: t => decide (x ∈ a.marked) && tMk l t
  | _, _ => true
def evL (l : List Aut) : List Int := l.foldl (fun o a => mrgR orK o a.alpha) []
def tup0 (l : List Aut) : List Int := l.map fun _ => 0
def tOk : List Aut → List Int → Prop
  | [], [] => True
  | a :: l, x :: t => (0 ≤ x ∧ x < a.states) ∧ tOk l t
  | _, _ => False
def tupsV : List Aut → List (List Int)
  | [] => [[]]
  | a :: l => (List.range a.states.toNat).flatMap fun (x : Nat) => (tupsV l).map fun t => (x : Int) :: t
def prodR (l : List Aut) : Except Int (Unf (List Int)) := unfR eqB true (tStep l) (tMk l) (evL l) (tup0 l)
theorem tOk_len : ∀ {l : List Aut} {t : List Int}, tOk l t → t.length = l.length
  | [], [], _ => rfl
  | a :: l, x :: t, h => by simp [tOk_len h.2]
  | [], _ :: _, h => h.elim
  | _ :: _, [], h => h.elim
theorem tOk_in : ∀ {l : List Aut} {t : List Int}, tOk l t → (∀ a ∈ l, a.states ≤ 64) → ∀ x ∈ t, 0 ≤ x ∧ x < 64
  | [], [], _, _, x, hx => by cases hx
  | a :: l, y :: t, h, hl, x, hx => by
    rcases List.mem_cons.1 hx with rfl | hx
    · have := hl a (by simp); have := h.1; omega
    · exact tOk_in h.2 (fun b hb => hl b (by simp [hb])) x hx
  | [], _ :: _, h, _, _, _ => h.elim
  | _ :: _, [], h, _, _, _ => h.elim
theorem mem_tupsV : ∀ {l : List Aut} {t : List Int}, tOk l t → t ∈ tupsV l
  | [], [], _ => by simp [tupsV]
  | a :: l, x :: t, h => by
    simp only [tupsV, List.mem_flatMap, List.mem_map]
    refine ⟨x.toNat, List.mem_range.2 (by have := h.1; omega), t, mem_tupsV h.2, ?_⟩
    have := h.1
    rw [show ((x.toNat : Nat) : Int) = x by omega]
  | [], _ :: _, h => h.elim
  | _ :: _, [], h => h.elim
theorem tup0_ok : ∀ {l : List Aut}, (∀ a ∈ l, 0 < a.states) → tOk l (tup0 l)
  | [], _ => trivial
  | a :: l, h => ⟨⟨Int.le_refl _, h a (by simp)⟩, tup0_ok fun b hb => h b (by simp [hb])⟩
theorem tupS_ok : ∀ {l : List Aut} {t : List Int} {ev : Int} {n : List Int}, (∀ a ∈ l, chkA a = 0) → tOk l t → tupS l t ev = some n → tOk l n
  | [], [], ev, n, _, _, e => by simp only [tupS, Option.some.injEq] at e; subst e; trivial
  | a :: l, x :: t, ev, n, hc, h, e => by
    simp only [tupS] at e
    by_cases c : ev ∈ a.alpha
    · rw [if_pos c] at e
      by_cases c2 : 0 ≤ stp3 a.edges x ev
      · rw [if_pos c2] at e
        obtain ⟨m, hm, rfl⟩ := Option.map_eq_some_iff.1 e
        exact ⟨(chk_rng (hc a (by simp))).2.1 _ (stp3_mem c2), tupS_ok (fun b hb => hc b (by simp [hb])) h.2 hm⟩
      · rw [if_neg c2] at e; cases e
    · rw [if_neg c] at e
      obtain ⟨m, hm, rfl⟩ := Option.map_eq_some_iff.1 e
      exact ⟨h.1, tupS_ok (fun b hb => hc b (by simp [hb])) h.2 hm⟩
  | [], _ :: _, _, _, _, h, _ => h.elim
  | _ :: _, [], _, _, _, h, _ => h.elim
theorem prod_fin {l : List Aut} (hc : ∀ a ∈ l, chkA a = 0) (hV : (tupsV l).length < 4096) : Fin1 (tStep l) eqB true (tOk l) :=
  ⟨fun s ev hs hp => by
    show tOk l ((tupS l s ev).getD [])
    have hp : (tupS l s ev).isSome = true := hp
    cases e : tupS l s ev with
    | none => rw [e] at hp; cases hp
    | some n => exact tupS_ok hc hs e, fun _ _ _ _ => rfl, fun _ m h1 h2 => Nat.lt_of_le_of_lt (nodup_sub h2 fun s hs => mem_tupsV (h1 s hs)) hV⟩
theorem evL_ok : ∀ (l : List Aut) (o : List Int), o.Pairwise (· < ·) → (∀ x ∈ o, 0 ≤ x ∧ x < 32) → (∀ a ∈ l, chkA a = 0) →
    (l.foldl (fun o a => mrgR orK o a.alpha) o).Pairwise (· < ·) ∧ (∀ x ∈ l.foldl (fun o a => mrgR orK o a.alpha) o, 0 ≤ x ∧ x < 32) ∧ ∀ x, x ∈ l.foldl (fun o a => mrgR orK o a.alpha) o ↔ x ∈ o ∨ ∃ a ∈ l, x ∈ a.alpha
  | [], o, h1, h2, _ => ⟨h1, h2, by simp⟩
  | a :: l, o, h1, h2, hc => by
    have ha := checkSet_sorted (chk_parts (hc a (by simp))).1
    have hm := mrg_or h1 ha.1
    obtain ⟨e1, e2, e3⟩ := evL_ok l (mrgR orK o a.alpha) (mrg_spec orK _ o a.alpha (Nat.le_refl _) h1 ha.1).2.1 (fun x hx => by
      rcases (hm x).1 hx with hx | hx
      · exact h2 x hx
      · exact ha.2.1 x hx) (fun b hb => hc b (by simp [hb]))
    refine ⟨e1, e2, fun x => ?_⟩
    rw [List.foldl_cons, e3, hm]
    simp only [List.mem_cons, exists_eq_or_imp, or_assoc]
theorem evL_chk {l : List Aut} (hc : ∀ a ∈ l, chkA a = 0) : checkSet 32 (evL l) none = 0 :=
  have h := evL_ok l [] .nil (by simp) hc
  checkSet_of h.1 h.2.1 (by simp)
end Go.AI


namespace Go.AI
open Go.Proofs
set_option maxRecDepth 20000
abbrev autM (a : Aut) : List I := [intsI a.alpha, vi a.states, intsI a.marked, .sl 3 a.edges.length (a.edges.map edgI)]
abbrev auts (l : List Aut) : D := .i (.sl 4 l.length (l.map autM))
def chkAll : List Aut → Int
  | [] => 0
  | a :: l => if chkA a ≠ 0 then chkA a else chkAll l
theorem check78 (O : List Heap) (l : List Aut) (hl : l.length ≤ 12) (hs : ∀ a ∈ l, smallA a) : ASpec Tryz.prog 78 [auts l] O (ii (chkAll l)) [] O := by
  obtain ⟨R, hR⟩ : ∃ R, R = chkAll (l.drop 0) := ⟨_, rfl⟩
  have e0 : chkAll l = R := hR.symm
  rw [e0]
  refine aspec_stop [] Tk Tryz.func78 rfl Tryz.call78 Tryz.ntmps78 (Nat.le_of_ble_eq_true rfl) fun E => ?_
  refine g_run Tk Tryz.func78 ?_
  first | refine g_cnd Tk Tryz.func78 rfl (fun h => absurd h (by simp; omega)) (fun _ => ?_) | refine g_know Tk Tryz.func78 rfl (fun h => absurd h (by simp; omega)) (fun _ => ?_) | refine s_know Tk (fun h => absurd h (by simp; omega)) (fun _ => ?_)
  refine g_loop ?_
  refine rch_loop2 (fun i : Nat => [(9, auts l), (10, ii l.length), (11, ii i)]) (fun _ => []) (fun _ => O) 21
    (fun i => i ≤ l.length ∧ R = chkAll (l.drop i)) (fun i => l.length - i) 0 ⟨Nat.zero_le _, hR⟩ ⟨rfl, rfl, rfl, trivial⟩ rfl trivial rfl rfl ?_
  clear hR e0
  rintro i ⟨hi, hno⟩ ih
  refine g_run Tk Tryz.func78 ?_
  first | refine g_cnd Tk Tryz.func78 rfl (fun g1 => ?_) (fun g1 => ?_) | refine g_know Tk Tryz.func78 rfl (fun g1 => ?_) (fun g1 => ?_) | refine s_know Tk (fun g1 => ?_) (fun g1 => ?_)
  · have h2 : i < l.length := by simpa using g1
    have gl : (l.map autM)[(i : Int).toNat]? = some (autM l[i]) := get_mapZ h2
    have dl : l.drop i = l[i] :: l.drop (i + 1) := List.drop_eq_getElem_cons h2
    have ha := hs _ (List.getElem_mem h2)
    rw [dl] at hno
    simp only [chkAll] at hno
    clear dl
    generalize l[i] = a at *
    have h1 := fun O => check116 O a (by have := ha.ed; simp only [max63]; omega) (by have := ha.al; simp only [max63]; omega) (by have := ha.mkd; simp only [max63]; omega)
    obtain ⟨al, st, mk, es⟩ := a
    generalize chkA ⟨al, st, mk, es⟩ = c0 at *
    first | refine g_need Tk Tryz.func78 (by exact ⟨by omega, by show (i : Int) < (l.length : Int); omega⟩) ?_ | refine s_need Tk (by exact ⟨by omega, by show (i : Int) < (l.length : Int); omega⟩) ?_
    first | refine g_elem Tk Tryz.func78 (gl) ?_ | refine s_elem Tk (gl) ?_
    first | refine g_call Tk Tryz.func78 (h1 _) rfl rfl rfl rfl rfl ?_ | refine s_callq Tk (fun _ => h1 _) rfl rfl rfl ?_
    first | refine g_cnd Tk Tryz.func78 rfl (fun c1 => ?_) (fun c1 => ?_) | refine g_know Tk Tryz.func78 rfl (fun c1 => ?_) (fun c1 => ?_) | refine s_know Tk (fun c1 => ?_) (fun c1 => ?_)
    · have c1 : c0 ≠ 0 := bneT c1
      rw [if_pos c1] at hno
      subst hno
      refine g_ret Tk (r := ii R) rfl rfl rfl trivial rfl rfl ?_
      rfl
    · have c1 : c0 = 0 := bneF c1
      rw [if_neg (fun h => h c1)] at hno
      refine g_loop ?_
      exact ih (i + 1) _ _ ⟨h2, hno⟩ (by omega) ⟨rfl, rfl, congrArg ii (wsucc (n := 4096) (by omega) (by decide)), trivial⟩ rfl trivial rfl rfl
  · have h2 : l.length ≤ i := by simpa using g1
    rw [List.drop_eq_nil_of_le h2] at hno
    simp only [chkAll] at hno
    subst hno
    refine g_ret Tk (r := ii 0) rfl rfl rfl trivial rfl rfl ?_
    rfl
theorem get_aut {l : List Aut} {i : Nat} (h : i < l.length) : (l.map autM)[(i : Int).toNat]? = some (autM l[i]) := get_mapZ h
set_option maxHeartbeats 1000000 in
theorem events132 (O : List Heap) (l : List Aut) (hl : l.length ≤ 12) (hc : ∀ a ∈ l, chkA a = 0) : ASpec Tryz.prog 132 [auts l] O (ints (evL l)) [] O := by
  obtain ⟨R, hR⟩ : ∃ R, R = (l.drop 0).foldl (fun o a => mrgR orK o a.alpha) [] := ⟨_, rfl⟩
  have e0 : evL l = R := hR.symm
  rw [e0]
  refine aspec_stop [] Tk Tryz.func132 rfl Tryz.call132 Tryz.ntmps132 (Nat.le_of_ble_eq_true rfl) fun E => ?_
  refine g_run Tk Tryz.func132 ?_
  refine g_loop ?_
  refine rch_wk (wk_nil 3 99 3 1 rfl rfl rfl) ?_
  refine rch_wk (wk_freeze 99 rfl rfl) ?_
  refine rch_loop2 (fun x : Nat × List Int => [(3, ints x.2), (6, auts l), (7, ii l.length), (8, ii x.1)]) (fun _ => []) (fun _ => O) 18
    (fun x => x.1 ≤ l.length ∧ x.2.Pairwise (· < ·) ∧ x.2.length ≤ 32 * x.1 ∧ R = (l.drop x.1).foldl (fun o a => mrgR orK o a.alpha) x.2) (fun x => l.length - x.1) (0, []) ⟨Nat.zero_le _, .nil, Nat.le_refl _, hR⟩ ⟨rfl, rfl, rfl, rfl, trivial⟩ rfl trivial rfl rfl ?_
  clear hR e0
  rintro ⟨i, o⟩ ⟨hi, hp, hol, hno⟩ ih
  simp only at hi hp hol hno
  refine g_run Tk Tryz.func132 ?_
  first | refine g_cnd Tk Tryz.func132 rfl (fun g1 => ?_) (fun g1 => ?_) | refine g_know Tk Tryz.func132 rfl (fun g1 => ?_) (fun g1 => ?_) | refine s_know Tk (fun g1 => ?_) (fun g1 => ?_)
  · have h2 : i < l.length := by simpa using g1
    have gl := get_aut h2
    have dl : l.drop i = l[i] :: l.drop (i + 1) := List.drop_eq_getElem_cons h2
    have ha := hc _ (List.getElem_mem h2)
    rw [dl, List.foldl_cons] at hno
    clear dl
    generalize l[i] = a at *
    obtain ⟨c1, _⟩ := chk_parts ha
    have hal := checkSet_len (by decide) c1
    have hms := mrg_spec orK _ o a.alpha (Nat.le_refl _) hp (checkSet_sorted c1).1
    have h1 := fun O => union175 O o a.alpha (by omega) (by omega)
    generalize mrgR orK o a.alpha = o2 at *
    obtain ⟨al, st, mk, es⟩ := a
    first | refine g_need Tk Tryz.func132 (by exact ⟨by omega, by show (i : Int) < (l.length : Int); omega⟩) ?_ | refine s_need Tk (by exact ⟨by omega, by show (i : Int) < (l.length : Int); omega⟩) ?_
    first | refine g_elem Tk Tryz.func132 (gl) ?_ | refine s_elem Tk (gl) ?_
    first | refine g_call Tk Tryz.func132 (h1 _) rfl rfl rfl rfl rfl ?_ | refine s_callq Tk (fun _ => h1 _) rfl rfl rfl ?_
    refine g_loop ?_
    exact ih (i + 1, o2) _ _ ⟨h2, hms.2.1, by have := hms.2.2; simp only at this ⊢; omega, hno⟩ (by simp only; omega) ⟨rfl, rfl, rfl, congrArg ii (wsucc (n := 4096) (by omega) (by decide)), trivial⟩ rfl trivial rfl rfl
  · have h2 : l.length ≤ i := by simpa using g1
    rw [List.drop_eq_nil_of_le h2, List.foldl_nil] at hno
    subst hno
    refine g_ret Tk (r := ints R) rfl rfl rfl trivial rfl rfl ?_
    rfl
abbrev machD (l : List Aut) (ev : List Int) (M : List (List I)) : D := .agg [auts l, ints ev, .i (.sl 1 M.length M)]
theorem initial80e (O : List Heap) (l : List Aut) (ev : List Int) (M : List (List I)) (hl : l.length ≤ 12) (h0 : ¬ ∀ a ∈ l, a.states ≠ 0) : ASpec Tryz.prog 80 [machD l ev M] O (.tup [.i (.v (.slice none 0 0)), bb false]) [] O := by
  have h0 : ¬ ∀ a ∈ l.drop 0, a.states ≠ 0 := h0
  refine aspec_stop [] Tk Tryz.func80 rfl Tryz.call80 Tryz.ntmps80 (Nat.le_of_ble_eq_true rfl) fun E => ?_
  refine g_run Tk Tryz.func80 ?_
  refine g_loop ?_
  refine rch_loop2 (fun i : Nat => [(7, auts l), (8, ii l.length), (9, ii i)]) (fun _ => []) (fun _ => O) 21
    (fun i => i ≤ l.length ∧ ¬ ∀ a ∈ l.drop i, a.states ≠ 0) (fun i => l.length - i) 0 ⟨Nat.zero_le _, h0⟩ ⟨rfl, rfl, rfl, trivial⟩ rfl trivial rfl rfl ?_
  clear h0
  rintro i ⟨hi, hno⟩ ih
  refine g_run Tk Tryz.func80 ?_
  first | refine g_cnd Tk Tryz.func80 rfl (fun g1 => ?_) (fun g1 => ?_) | refine g_know Tk Tryz.func80 rfl (fun g1 => ?_) (fun g1 => ?_) | refine s_know Tk (fun g1 => ?_) (fun g1 => ?_)
  · have h2 : i < l.length := by simpa using g1
    have gl := get_aut h2
    have dl : l.drop i = l[i] :: l.drop (i + 1) := List.drop_eq_getElem_cons h2
    rw [dl] at hno
    clear dl
    generalize l[i] = a at *
    obtain ⟨al, st, mk, es⟩ := a
    first | refine g_need Tk Tryz.func80 (by exact ⟨by omega, by show (i : Int) < (l.length : Int); omega⟩) ?_ | refine s_need Tk (by exact ⟨by omega, by show (i : Int) < (l.length : Int); omega⟩) ?_
    first | refine g_elem Tk Tryz.func80 (gl) ?_ | refine s_elem Tk (gl) ?_
    first | refine g_cnd Tk Tryz.func80 rfl (fun c1 => ?_) (fun c1 => ?_) | refine g_know Tk Tryz.func80 rfl (fun c1 => ?_) (fun c1 => ?_) | refine s_know Tk (fun c1 => ?_) (fun c1 => ?_)
    · refine g_ret Tk (r := .tup [.i (.v (.slice none 0 0)), bb false]) rfl rfl rfl trivial rfl rfl ?_
      rfl
    · have c1 : st ≠ 0 := beqF c1
      refine g_loop ?_
      refine ih (i + 1) _ _ ⟨h2, fun h => hno fun a ha => ?_⟩ (by omega) ⟨rfl, rfl, congrArg ii (wsucc (n := 4096) (by omega) (by decide)), trivial⟩ rfl trivial rfl rfl
      rcases List.mem_cons.1 ha with rfl | ha
      · exact c1
      · exact h a ha
  · have h2 : l.length ≤ i := by simpa using g1
    rw [List.drop_eq_nil_of_le h2] at hno
    exact absurd (by simp) hno
theorem initial80 (O : List Heap) (l : List Aut) (ev : List Int) (M : List (List I)) (hl : l.length ≤ 12) (h0 : ∀ a ∈ l, a.states ≠ 0) : ASpec Tryz.prog 80 [machD l ev M] O (.tup [ints (tup0 l), bb true]) [] O := by
  refine aspec_stop [7] Tk Tryz.func80 rfl Tryz.call80 Tryz.ntmps80 (Nat.le_of_ble_eq_true rfl) fun E => ?_
  refine g_run Tk Tryz.func80 ?_
  refine g_loop ?_
  refine rch_loop2 (fun i : Nat => [(1, .own 0 1 0 0), (7, auts l), (8, ii l.length), (9, ii i)]) (fun _ => [(1, .box [auts l, ints ev, .i (.sl 1 M.length M)])]) (fun _ => O) 21
    (fun i => i ≤ l.length) (fun i => l.length - i) 0 (Nat.zero_le _) ⟨rfl, rfl, rfl, rfl, trivial⟩ rfl ⟨rfl, trivial⟩ rfl rfl ?_
  rintro i hi ih
  refine g_run Tk Tryz.func80 ?_
  first | refine g_cnd Tk Tryz.func80 rfl (fun g1 => ?_) (fun g1 => ?_) | refine g_know Tk Tryz.func80 rfl (fun g1 => ?_) (fun g1 => ?_) | refine s_know Tk (fun g1 => ?_) (fun g1 => ?_)
  · have h2 : i < l.length := by simpa using g1
    have gl := get_aut h2
    have ha := h0 _ (List.getElem_mem h2)
    generalize l[i] = a at *
    obtain ⟨al, st, mk, es⟩ := a
    first | refine g_need Tk Tryz.func80 (by exact ⟨by omega, by show (i : Int) < (l.length : Int); omega⟩) ?_ | refine s_need Tk (by exact ⟨by omega, by show (i : Int) < (l.length : Int); omega⟩) ?_
    first | refine g_elem Tk Tryz.func80 (gl) ?_ | refine s_elem Tk (gl) ?_
    first | refine g_cnd Tk Tryz.func80 rfl (fun c1 => ?_) (fun c1 => ?_) | refine g_know Tk Tryz.func80 rfl (fun c1 => ?_) (fun c1 => ?_) | refine s_know Tk (fun c1 => ?_) (fun c1 => ?_)
    · exact absurd (beqT c1) ha
    · refine g_loop ?_
      exact ih (i + 1) _ _ h2 (by omega) ⟨rfl, rfl, rfl, congrArg ii (wsucc (n := 4096) (by omega) (by decide)), trivial⟩ rfl ⟨rfl, trivial⟩ rfl rfl
  · refine g_stop ?_
    refine g_run Tk Tryz.func80 ?_
    refine g_go Tk Tryz.func80 ?_
    first | refine g_need Tk Tryz.func80 (by exact ⟨by omega, by omega, by show ((l.length : Nat) : Int) * ((8 : Nat) : Int) ≤ 140737488355328; omega, by omega⟩) ?_ | refine s_need Tk (by exact ⟨by omega, by omega, by show ((l.length : Nat) : Int) * ((8 : Nat) : Int) ≤ 140737488355328; omega, by omega⟩) ?_
    refine g_rwk (wk_freeze 20 rfl rfl) ?_
    refine g_ret Tk (r := .tup [.i (.sl 1 ((l.length : Nat) : Int).toNat (List.replicate ((l.length : Nat) : Int).toNat [vi 0])), bb true]) rfl rfl rfl trivial rfl rfl ?_
    have e1 : (tup0 l).length = l.length := by simp [tup0]
    have e2 : (tup0 l).map (fun x => [vi x]) = List.replicate l.length [vi 0] := by
      unfold tup0
      rw [List.map_map]
      exact List.map_const' ..
    show D.tup [.i (.sl 1 _ _), _] = .tup [.i (.sl 1 (tup0 l).length ((tup0 l).map fun x => [vi x])), _]
    rw [e1, e2, Int.toNat_natCast]
theorem marked82 (O : List Heap) (l : List Aut) (ev : List Int) (M : List (List I)) (t : List Int) (hl : l.length ≤ 12) (ht : t.length = l.length) (hc : ∀ a ∈ l, chkA a = 0) (hs : ∀ a ∈ l, smallA a) : ASpec Tryz.prog 82 [machD l ev M, ints t] O (bb (tMk l t)) [] O := by
  obtain ⟨R, hR⟩ : ∃ R, R = tMk (l.drop 0) (t.drop 0) := ⟨_, rfl⟩
  have e0 : tMk l t = R := hR.symm
  rw [e0]
  refine aspec_stop [] Tk Tryz.func82 rfl Tryz.call82 Tryz.ntmps82 (Nat.le_of_ble_eq_true rfl) fun E => ?_
  refine g_run Tk Tryz.func82 ?_
  refine g_loop ?_
  refine rch_loop2 (fun i : Nat => [(1, ints t), (8, auts l), (9, ii l.length), (10, ii i)]) (fun _ => []) (fun _ => O) 24
    (fun i => i ≤ l.length ∧ R = tMk (l.drop i) (t.drop i)) (fun i => l.length - i) 0 ⟨Nat.zero_le _, hR⟩ ⟨rfl, rfl, rfl, rfl, trivial⟩ rfl trivial rfl rfl ?_
  clear hR e0
  rintro i ⟨hi, hno⟩ ih
  refine g_run Tk Tryz.func82 ?_
  first | refine g_cnd Tk Tryz.func82 rfl (fun g1 => ?_) (fun g1 => ?_) | refine g_know Tk Tryz.func82 rfl (fun g1 => ?_) (fun g1 => ?_) | refine s_know Tk (fun g1 => ?_) (fun g1 => ?_)
  · have h2 : i < l.length := by simpa using g1
    have h3 : i < t.length := by omega
    have gl := get_aut h2
    have gt : (t.map fun x => [vi x])[(i : Int).toNat]? = some [vi t[i]] := get_mapZ (f := fun x => [vi x]) h3
    have dl : l.drop i = l[i] :: l.drop (i + 1) := List.drop_eq_getElem_cons h2
    have dt : t.drop i = t[i] :: t.drop (i + 1) := List.drop_eq_getElem_cons h3
    have ha := hc _ (List.getElem_mem h2)
    have ha2 := hs _ (List.getElem_mem h2)
    rw [dl, dt] at hno
    simp only [tMk] at hno
    clear dl dt
    generalize l[i] = a at *
    generalize t[i] = x at *
    obtain ⟨_, _, c3, _⟩ := chk_parts ha
    have hsm := ha2.mkd
    have h1 := fun O => contains49 O a.marked x (by simp only [max63]; omega) (checkSet_sorted c3).1
    obtain ⟨al, st, mk, es⟩ := a
    generalize decide (x ∈ Aut.marked ⟨al, st, mk, es⟩) = b at *
    first | refine g_need Tk Tryz.func82 (by exact ⟨by omega, by show (i : Int) < (l.length : Int); omega⟩) ?_ | refine s_need Tk (by exact ⟨by omega, by show (i : Int) < (l.length : Int); omega⟩) ?_
    first | refine g_elem Tk Tryz.func82 (gl) ?_ | refine s_elem Tk (gl) ?_
    refine g_drawn Tk Tryz.func82 mixedT rfl ?_
    first | refine g_need Tk Tryz.func82 (by exact ⟨by omega, by show (i : Int) < (t.length : Int); omega⟩) ?_ | refine s_need Tk (by exact ⟨by omega, by show (i : Int) < (t.length : Int); omega⟩) ?_
    first | refine g_elem Tk Tryz.func82 (gt) ?_ | refine s_elem Tk (gt) ?_
    first | refine g_call Tk Tryz.func82 (h1 _) rfl rfl rfl rfl rfl ?_ | refine s_callq Tk (fun _ => h1 _) rfl rfl rfl ?_
    refine e_done Tk Tryz.func82 (by kernel_rfl) ?_
    first | refine g_cnd Tk Tryz.func82 rfl (fun c1 => ?_) (fun c1 => ?_) | refine g_know Tk Tryz.func82 rfl (fun c1 => ?_) (fun c1 => ?_) | refine s_know Tk (fun c1 => ?_) (fun c1 => ?_)
    · have c1 : b = false := notT c1
      subst c1
      rw [Bool.false_and] at hno
      subst hno
      refine g_ret Tk (r := bb false) rfl rfl rfl trivial rfl rfl ?_
      rfl
    · have c1 : b = true := notF c1
      subst c1
      rw [Bool.true_and] at hno
      refine g_loop ?_
      exact ih (i + 1) _ _ ⟨h2, hno⟩ (by omega) ⟨rfl, rfl, rfl, congrArg ii (wsucc (n := 4096) (by omega) (by decide)), trivial⟩ rfl trivial rfl rfl
  · have h2 : l.length ≤ i := by simpa using g1
    rw [List.drop_eq_nil_of_le h2] at hno
    simp only [tMk] at hno
    subst hno
    refine g_ret Tk (r := bb true) rfl rfl rfl trivial rfl rfl ?_
    rfl
end Go.AI


namespace Go.AI
open Go.Proofs
def TabsQ (ts : List (Nat × Obj)) (O : List Heap) (ρ : Nat → Nat → Loc) (w : World) : Prop := ∀ p ∈ ts, TabQ p.1 p.2 O ρ w
def TabsE (ts : List (Nat × Obj)) (E : Env) (O : List Heap) : Prop := ∀ p ∈ ts, TabE p.1 p.2 E O
theorem Base.trans {E0 E E' : Env} {O : List Heap} (h : Base E0 E O) (h' : Base E E' O) : Base E0 E' O := by
  refine ⟨Kn.le_trans h.K h'.K, fun d => (h'.ρ d).trans (h.ρ d), fun b hp => h'.pr b (h.pr b hp), fun b o x e => ?_, Nat.le_trans h.size h'.size, fun b hp ho => ?_, ⟨h'.rest.1.trans h.rest.1, h'.rest.2.1.trans h.rest.2.1, h'.rest.2.2.trans h.rest.2.2⟩⟩
  · rcases h'.new b o x e with h1 | h1
    · exact h.new b o x h1
    · exact .inr fun hp => h1 (h.pr b hp)
  · rw [h'.old b (h.pr b hp) fun dep nm ob e hb => ?_]
    · exact h.old b hp ho
    · have e2 : E.ρ0 dep = E0.ρ0 dep := h.ρ dep
      rw [e2] at hb ⊢
      exact ho dep nm ob e hb
theorem TabsE.base {ts : List (Nat × Obj)} {E E' : Env} {O : List Heap} (h : TabsE ts E O) (hb : Base E E' O) : TabsE ts E' O := fun p hp => hb.eok.tb p.1 p.2 O rfl (h p hp)
def ASpecB (ts : List (Nat × Obj)) (P : Program) (f : FuncId) (args : List D) (O : List Heap) (res : D) (Hr : Heap) (O' : List Heap) : Prop :=
  ∀ E K ρ w vs, HInv E K ρ O w → TabsQ ts O ρ w → RepDL K ρ (shape O) vs args →
    Exec P f vs.toArray w fun v w' => ∃ K' ρ', HInv (.of K ρ w) K' ρ' (Hr :: O') w' ∧ RepD K' ρ' (shape (Hr :: O')) v res
def GSpec {α : Type} (ts : List (Nat × Obj)) (P : Program) (f : FuncId) (args : List D) (O : List Heap) (Q : α → Prop) (res : α → D) (tabs : α → List (Nat × Obj)) : Prop :=
  ∀ E K ρ w vs, HInv E K ρ O w → TabsQ ts O ρ w → RepDL K ρ (shape O) vs args →
    Exec P f vs.toArray w fun v w' => ∃ x, Q x ∧ (∃ K' ρ', HInv (.of K ρ w) K' ρ' ([] :: O) w' ∧ RepD K' ρ' (shape ([] :: O)) v (res x)) ∧ ∀ p ∈ tabs x, w.heap.size ≤ p.1 ∧ w'.heap[p.1]? = some p.2
def PostG {α : Type} (E0 : Env) (Q : α → Prop) (res : α → D) (tabs : α → List (Nat × Obj)) (O : List Heap) : Value → World → Prop := fun v w' => ∃ x, Q x ∧ PostOf E0 (res x) [] O v w' ∧ ∀ p ∈ tabs x, ¬ E0.pr p.1 ∧ w'.heap[p.1]? = some p.2
section
variable {P : Program} {T : TT} {f : FuncId} {fn : Func} {code : Code}
theorem enter_inv {args : List D} {O : List Heap} {K : Kn} {ρ ρ1 : Nat → Nat → Loc} {w : World} {vs : List Value} {n m : Nat} (hI : HInv (.of K ρ w) K ρ1 ([] :: O) w) (hρ1 : ∀ d, ρ1 (d + 1) = ρ d) (hrep : RepDL K ρ (shape O) vs args) (hn : m = n) (hlen : args.length ≤ n) :
    Inv (.of K ρ w) K ρ1 { σ := argσ 0 (D.shifts 1 args), S := [] :: O, n := n } { tmps := vs.toArray ++ Array.replicate (m - vs.toArray.size) undef, defers := [] } w := by
  have hvl := hrep.length
  refine ⟨hI, rfl, by simp; omega, fun t d e => ?_⟩
  rw [look_argσ] at e
  simp only [Nat.zero_le, if_true, Nat.sub_zero] at e
  have hsh : RepDL K ρ1 (shape ([] :: O)) vs (D.shifts 1 args) := by
    refine RepDL.shift (ρ := ρ1) (sh := shape ([] :: O)) 1 ?_
    have e1 : (fun d n => ρ1 (1 + d) n) = ρ := by funext d n; rw [Nat.add_comm, hρ1]
    have e2 : (fun d n => shape ([] :: O) (1 + d) n) = shape O := by
      funext d n
      rw [Nat.add_comm]
      simp [shape, objAt]
    rw [e1, e2]
    exact hrep
  obtain ⟨y, hy, hr⟩ := hsh.get e
  have : (vs.toArray ++ Array.replicate (m - vs.toArray.size) undef).getD t undef = y := by
    have hlt : t < vs.length := (List.getElem?_eq_some_iff.1 hy).1
    simp only [Array.getD_eq_getD_getElem?]
    rw [Array.getElem?_append_left (by simpa using hlt)]
    simp [hy]
  rw [this]
  exact hr
theorem tabs_enter {ts : List (Nat × Obj)} {O : List Heap} {K : Kn} {ρ : Nat → Nat → Loc} {w : World} (h : TabsQ ts O ρ w) : TabsE ts (.of K ρ w) O := fun p hp => ⟨h p hp, (Array.getElem?_eq_some_iff.1 (h p hp).1).1⟩
theorem aspecB_stop {ts : List (Nat × Obj)} (stop : List Nat) (hT : TOk P T) (hf : P.funcs[f]? = some fn) (hb : fn.body = some code) (hcall : ∀ args w, (callFunc f args).run P w = .ok (.enter f args) w) {args : List D} {O O' : List Heap} {res : D} {Hr : Heap} {n : Nat}
    (hn : fn.ntmps = n) (hlen : args.length ≤ n)
    (h : ∀ E, TabsE ts E O → Rch { P := P, T := T, E := E, f := f, fn := fn, post := PostOf E res Hr O', stop := stop } [.code code] { σ := argσ 0 (D.shifts 1 args), S := [] :: O, n := n }) : ASpecB ts P f args O res Hr O' := by
  intro E K ρ w vs hw htab hrep
  refine .inl ⟨hcall _ _, fun cs => ?_⟩
  obtain ⟨ρ1, hρ1, hI⟩ := hinv_enter hw
  let b : Frame := { (default : Frame) with fn := f, kind := .normal }
  have henter : Frame.enter P f vs.toArray .normal = b.at { tmps := vs.toArray ++ Array.replicate (fn.ntmps - vs.toArray.size) undef, defers := [] } [.code code] := by
    simp [Frame.enter, Frame.at, hf, hb, b]
  obtain ⟨v, w', fr, hp, hst, hfr, hlv⟩ := h (.of K ρ w) (tabs_enter htab) K ρ1 _ w b cs (enter_inv hI hρ1 hrep hn hlen) rfl rfl
  rw [← henter] at hst
  exact ⟨.returned v, w', fr, ⟨v, rfl, hp⟩, hst, hfr, hlv⟩
theorem gspec_stop {α : Type} (Q : α → Prop) (res : α → D) (tabs : α → List (Nat × Obj)) {ts : List (Nat × Obj)} (stop : List Nat) (hT : TOk P T) (hf : P.funcs[f]? = some fn) (hb : fn.body = some code) (hcall : ∀ args w, (callFunc f args).run P w = .ok (.enter f args) w) {args : List D} {O : List Heap} {n : Nat}
    (hn : fn.ntmps = n) (hlen : args.length ≤ n)
    (h : ∀ E, TabsE ts E O → Rch { P := P, T := T, E := E, f := f, fn := fn, post := PostG E Q res tabs O, stop := stop } [.code code] { σ := argσ 0 (D.shifts 1 args), S := [] :: O, n := n }) : GSpec ts P f args O Q res tabs := by
  intro E K ρ w vs hw htab hrep
  refine .inl ⟨hcall _ _, fun cs => ?_⟩
  obtain ⟨ρ1, hρ1, hI⟩ := hinv_enter hw
  let b : Frame := { (default : Frame) with fn := f, kind := .normal }
  have henter : Frame.enter P f vs.toArray .normal = b.at { tmps := vs.toArray ++ Array.replicate (fn.ntmps - vs.toArray.size) undef, defers := [] } [.code code] := by
    simp [Frame.enter, Frame.at, hf, hb, b]
  obtain ⟨v, w', fr, ⟨x, hx, hp, ht⟩, hst, hfr, hlv⟩ := h (.of K ρ w) (tabs_enter htab) K ρ1 _ w b cs (enter_inv hI hρ1 hrep hn hlen) rfl rfl
  rw [← henter] at hst
  exact ⟨.returned v, w', fr, ⟨v, rfl, x, hx, hp, fun p hp => ⟨Nat.le_of_not_lt (ht p hp).1, (ht p hp).2⟩⟩, hst, hfr, hlv⟩
end
section
variable {c : Cx} {s : St} {k : List Item} {ops : Array Oper} {rest : List Nat} {o : Oper}
theorem g_callG (hT : TOk c.P c.T) (hfn : c.P.funcs[c.f]? = some c.fn) {α : Type} {Q : α → Prop} {res : α → D} {tabs : α → List (Nat × Obj)} {ts : List (Nat × Obj)} {O0 : List Heap} (htab : TabsE ts c.E O0) {i t : Nat} {f : FuncId} {args : List D} {H : Heap} {O : List Heap} (hS : s.S = H :: O) (hO : shape O = shape O0)
    (ho : ops[i]? = some o) (hg : o.guard = none) (hd : o.dst = some t) (hn : Nat.ble (t + 1) s.n = true) (hex : exec c.T s o = .call f args) (hspec : GSpec ts c.P f (D.imms H args) (H :: O) Q res tabs)
    (h : ∀ x E3, Q x → Base c.E E3 O → TabsE (tabs x) E3 O → (∀ p ∈ tabs x, ¬ c.E.pr p.1) → GM { c with E := E3 } (run c.T c.stop 1000 (.inRegion ops rest :: k) (stepS s t (res x).down (H :: O)))) : GM c (.pause ops i rest o s k) := by
  refine ⟨?_⟩
  intro K ρ a w hi
  simp only [wpOps, ho, wanted_of hi (show wantedD ops s o = some true by unfold wantedD; rw [hg]), if_true]
  have hsnd := exec_snd hT hi.h (.inl hd) fun x _ => hi.ev x
  rw [hex] at hsnd
  obtain ⟨vs, hrun, hrep⟩ := hsnd
  have hh := hi.h
  have hrep' := RepDL.imm hh hrep
  rw [hS] at hh hrep'
  refine .inl ?_
  have fin : ∀ v w', (∃ x, Q x ∧ (∃ K' ρ', HInv (.of K ρ w) K' ρ' ([] :: H :: O) w' ∧ RepD K' ρ' (shape ([] :: H :: O)) v (res x)) ∧ ∀ p ∈ tabs x, w.heap.size ≤ p.1 ∧ w'.heap[p.1]? = some p.2) → wpOps c.P ops (fun e a' w' => e = .normal ∧ Ends c k a' w') rest (a.put o.dst v) w' := by
    intro v w' ⟨x, hx, ⟨K', ρ', h1, h2⟩, h3⟩
    obtain ⟨ρ'', hI, hst, hdn⟩ := hh.back h1 rfl (fun nm h => by simp [look] at h)
    have e0 : (downH [] ++ H) :: O = H :: O := rfl
    rw [e0] at hI hst hdn
    have hlt : ∀ b, (∃ p ∈ tabs x, p.1 = b) → b < w'.heap.size := by
      rintro b ⟨p, hp, rfl⟩
      exact (Array.getElem?_eq_some_iff.1 (h3 p hp).2).1
    have hblk : ∀ d nm ob, objAt (H :: O) d nm = some ob → backed (ρ'' d nm) ob → (ρ'' d nm).block < w.heap.size := by
      intro d nm ob e hbk
      have el : ρ'' d nm = ρ d nm := hst.loc d nm ob.sh (by simp [shape, e])
      rw [el] at hbk ⊢
      have := hh.own d nm ob e
      exact this.lt (by simpa using hbk)
    have hfree : ∀ nm ob b, (∃ p ∈ tabs x, p.1 = b) → objAt (H :: O) 0 nm = some ob → backed (ρ'' 0 nm) ob → (ρ'' 0 nm).block ≠ b := by
      rintro nm ob b ⟨p, hp, rfl⟩ e hbk he
      have := hblk 0 nm ob e hbk
      have := (h3 p hp).1
      omega
    have hR := hI.rebase hlt hfree
    have hB := base_re hI (Base.refl c.E O) hlt
    have hTb : TabsE (tabs x) (reE c.E K' w' (fun b => ∃ p ∈ tabs x, p.1 = b) hlt hI.size) O := by
      intro p hp
      refine ⟨⟨(h3 p hp).2, fun d nm sh e hbk he => ?_⟩, .inr ⟨p, hp, rfl⟩⟩
      have ho2 : ρ'' (d + 1) = c.E.ρ0 d := hI.outer d
      have hρ : (reE c.E K' w' (fun b => ∃ p ∈ tabs x, p.1 = b) hlt hI.size).ρ0 d nm = ρ'' (d + 1) nm := by rw [ho2]; rfl
      rw [hρ] at hbk he
      unfold shape at e
      cases hob : objAt O d nm with
      | none => simp [hob] at e
      | some ob =>
        simp only [hob, Option.map_some, Option.some.injEq] at e
        subst e
        have := hblk (d + 1) nm ob (by simpa [objAt] using hob) (bkS_iff.2 hbk)
        have := (h3 p hp).1
        omega
    have hnp : ∀ p ∈ tabs x, ¬ c.E.pr p.1 := fun p hp hpr => by
      have := c.E.lt _ hpr
      have := hh.size
      have := (h3 p hp).1
      omega
    have hG := (h x _ hx hB hTb hnp).h
    have hk := run_sound (c := { c with E := reE c.E K' w' (fun b => ∃ p ∈ tabs x, p.1 = b) hlt hI.size }) hT hfn 1000 (.inRegion ops rest :: k) _ hG
    rw [stepS_eq] at hk
    refine hk K' ρ'' _ w' ?_
    rw [hd]
    refine ⟨hR, by simp [Act.put]; exact hi.defers, by simp [Act.put]; exact hi.size, fun t' d' e' => ?_⟩
    rw [tmps_put (by rw [hi.size]; exact Nat.le_of_ble_eq_true hn)]
    simp only [look_cons] at e'
    split at e'
    · rename_i e2
      simp only [Option.some.injEq] at e'
      subst e'
      rw [if_pos e2]
      exact h2.down hdn
    · rename_i e2
      rw [if_neg e2]
      have h4 := hi.slots _ _ e'
      rw [hS] at h4
      exact h4.stays hst
  rcases hspec c.E K ρ w vs hh (fun p hp => tab_now (htab p hp) hO hh) hrep' with ⟨h1, h2⟩ | ⟨v, w', h1, h2⟩
  · rw [h1] at hrun
    simp only [Oper.wp, hrun, Oper.upon]
    refine h2.mono ?_
    rintro e w' ⟨v, rfl, hR⟩
    exact fin v w' hR
  · rw [h1] at hrun
    simp only [Oper.wp, hrun, Oper.upon]
    exact fin v w' h2
theorem g_retG (hT : TOk c.P c.T) {α : Type} {Q : α → Prop} {res : α → D} {tabs : α → List (Nat × Obj)} {E0 : Env} {d r : D} {H : Heap} {O : List Heap} (x : α) (hx : Q x) (hb : Base E0 c.E O) (hp : c.post = PostG E0 Q res tabs O) (htab : TabsE (tabs x) c.E O) (hnp : ∀ p ∈ tabs x, ¬ E0.pr p.1)
    (hd : resD c.T s c.fn.results.toList = some d) (hS : s.S = H :: O) (hr : d.ret H [] = r) (he : CoD r (res x)) : GM c (.ret s) := by
  refine ⟨?_⟩
  have h := m_ret_co (c := { c with post := PostOf c.E (res x) [] O }) (Hr := []) (hT := hT) rfl hd hS trivial hr rfl he
  intro K ρ a w hi
  obtain ⟨v, hv, K', ρ', h1, h2⟩ := h K ρ a w hi
  refine ⟨v, hv, ?_⟩
  rw [hp]
  have hh := hi.h
  rw [hS] at hh
  exact ⟨x, hx, ⟨K', ρ', h1.unbase hb, h2⟩, fun p hp => ⟨hnp p hp, (tab_now (htab p hp) rfl hh).1⟩⟩
end
section
variable {c : Cx} {s : St} {k : List Item} {ops : Array Oper} {rest : List Nat} {o : Oper} {H : Heap} {O : List Heap}
def MapIs (ob : Obj) (m : MC) : Prop := ∃ es ck, ob = .map es ck ∧ es.toList.map (fun e => (e.key, e.val)) = m.vals
theorem give_map {K : Kn} {ρ : Nat → Nat → Loc} {a : Act} {w : World} {E : Env} {nm t : Nat} {kk : KK} {m : MC} (hi : Inv E K ρ s a w) (hS : s.S = H :: O) (ho : look H nm = some (.mp kk m)) (ht : look s.σ t = some (.osl 0 nm)) :
    ∃ E' b ob, Base E E' O ∧ TabE b ob E' O ∧ ¬ E.pr b ∧ MapIs ob m ∧ Inv E' K ρ { σ := (t, .i (.v (.map (some b)))) :: killσ nm s.σ, S := killH nm H :: O, n := s.n } a w := by
  have hh := hi.h
  rw [hS] at hh
  have ho' : objAt (H :: O) 0 nm = some (.mp kk m) := by simpa [objAt] using ho
  have h0 := hh.own 0 nm _ ho'
  have hD := hh.dropNm nm
  have hbk : backed (ρ 0 nm) (.mp kk m) := trivial
  obtain ⟨⟨es, ck, h1, h2, h3⟩, h4⟩ := id h0
  have hlt : ∀ b, b = (ρ 0 nm).block → b < w.heap.size := by rintro b rfl; exact h0.lt hbk
  have hfree : ∀ nm' ob b, b = (ρ 0 nm).block → objAt (killH nm H :: O) 0 nm' = some ob → backed (ρ 0 nm') ob → (ρ 0 nm').block ≠ b := by
    rintro nm' ob b rfl e hb he
    obtain ⟨o0, a1, a2, a3, _⟩ := objAt_killH e
    exact a2 (hh.inj _ _ _ _ _ _ a1 ho' ((a3 _).1 hb) hbk he)
  have hI := hD.rebase hlt hfree
  have hB := base_re hD (Base.refl E O) hlt
  refine ⟨_, (ρ 0 nm).block, .map es ck, hB, ⟨⟨h1, fun d nm' sh e hb he => ?_⟩, .inr rfl⟩, hh.loc nm _ ho' hbk, ⟨es, ck, rfl, h2⟩, hI, hi.defers, hi.size, fun t' d e => ?_⟩
  · have ho2 : ρ (d + 1) = E.ρ0 d := hh.outer d
    have hρ : (reE E K w (fun b => b = (ρ 0 nm).block) hlt hD.size).ρ0 d nm' = ρ (d + 1) nm' := by rw [ho2]; rfl
    rw [hρ] at hb he
    unfold shape at e
    cases hob : objAt O d nm' with
    | none => simp [hob] at e
    | some ob =>
      simp only [hob, Option.map_some, Option.some.injEq] at e
      subst e
      have := hh.inj (d + 1) nm' ob 0 nm _ (by simpa [objAt] using hob) ho' (bkS_iff.2 hb) hbk he
      omega
  · have hsl : ∀ t' d0, look s.σ t' = some d0 → RepD K ρ (shape (killH nm H :: O)) (a.tmps.getD t' undef) (d0.kill nm) := by
      intro t' d0 e0
      have h1 := hi.slots t' d0 e0
      rw [hS] at h1
      exact RepD.kill (but_kill (ρ := ρ) (H := H) (O := O) nm) h1
    simp only [look_cons] at e
    split at e
    · rename_i e2
      subst e2
      simp only [Option.some.injEq] at e
      subst e
      have h1 := hi.slots t _ ht
      rw [hS] at h1
      rw [inv_omp h1 (by simp [shape, objAt, ho, Ob.sh])]
      exact .i (.v rfl)
    · rw [look_killσ] at e
      cases hl : look s.σ t' with
      | none => simp [hl] at e
      | some d0 =>
        simp only [hl, Option.map_some, Option.some.injEq] at e
        subst e
        exact hsl _ _ hl
theorem rch_giveMap {todo : List Item} {nm : Nat} {kk : KK} {m : MC} (t : Nat) (hS : s.S = H :: O) (ho : look H nm = some (.mp kk m)) (ht : look s.σ t = some (.osl 0 nm))
    (h : ∀ E' b ob, Base c.E E' O → TabE b ob E' O → ¬ c.E.pr b → MapIs ob m → Rch { c with E := E' } todo { σ := (t, .i (.v (.map (some b)))) :: killσ nm s.σ, S := killH nm H :: O, n := s.n }) : Rch c todo s := by
  intro K ρ a w b cs hi h1 h2
  obtain ⟨E', bl, ob, hB, hT, hn, hm, hi'⟩ := give_map hi hS ho ht
  exact h E' bl ob hB hT hn hm K ρ a w b cs hi' h1 h2
end
section
variable {c : Cx} {ops : Array Oper} {O : List Heap} {n : Nat} {F : SH → List Pl → Prop}
def lookD (k : IntKind) (l : List (Value × Int)) (key : Value) (ok : Bool) : D := bif ok then .tup [.i (.v (.int k (mgetI l key))), .i (.v (.bool (mhas l key)))] else .i (.v (.int k (mgetI l key)))
theorem run_tabLook {P : Program} {w : World} {tm kt vt b : Nat} {ki vi : TI} {kk : KK} {k : IntKind} {l : List (Value × Int)} {ob : Obj} {key : Value} (hu : P.underlying tm = some (.map kt vt)) (hk : TIok P kt ki) (hv : TIok P vt vi) (hkk : ki.isKK kk = true) (hkey : kk.ok key = true) (hz : vi.zero = [.int k 0]) (ha : vi.k.agg = false)
    (hb : w.heap[b]? = some ob) (hm : MapIs ob (.i k l)) (hl : ∀ p ∈ l, kk.ok p.1 = true) (ok : Bool) : ∃ v, (Instr.lookup tm (.map (some b)) key ok).run P w = .ok v w ∧ ∀ K ρ sh, RepD K ρ sh v (lookD k l key ok) := by
  obtain ⟨es, ck, rfl, he⟩ := hm
  have hm' : ∀ p ∈ (MC.i k l).vals, kk.ok p.1 = true := by
    intro p hp
    obtain ⟨q, hq, rfl⟩ := List.mem_map.1 hp
    exact hl q hq
  have hr := run_lookup (P := P) (w := w) hu hk hv hkk hkey hz ha hb he hm' ok
  have hlk := mfindI_look (fun n : Int => Value.int k n) l key 0
  have hg : ((mfindI (MC.vals (.i k l)) key 0).map (·.2)).getD (.int k 0) = .int k (mgetI l key) := by
    show ((mfindI (l.map fun p => (p.1, Value.int k p.2)) key 0).map (·.2)).getD _ = _
    rw [hlk]
    unfold mgetI
    cases mlook l key <;> rfl
  have hs : (mfindI (MC.vals (.i k l)) key 0).isSome = mhas l key := by
    show (mfindI (l.map fun p => (p.1, Value.int k p.2)) key 0).isSome = _
    have := congrArg Option.isSome hlk
    simpa [mhas] using this
  rw [hg, hs] at hr
  cases ok with
  | true => exact ⟨_, hr, fun K ρ sh => .tup (.cons (rep_v rfl) (.cons (rep_v rfl) .nil))⟩
  | false => exact ⟨_, hr, fun K ρ sh => rep_v rfl⟩
theorem stepOK_tab {o : Oper} {v : SH} {t tm kt vt b : Nat} {px pi : Operand} {ok : Bool} {ti ki vi : TI} {kk : KK} {k : IntKind} {l : List (Value × Int)} {ob : Obj} {key : Value} (hT : TOk c.P c.T) (hw : wantedD ops (St.of O n v) o = some true) (ht : o.dst = some t) (hn : Nat.ble (t + 1) n = true) (hop : o.op = .lookup tm px pi ok)
    (hx : evD (St.of O n v) px = .i (.v (.map (some b)))) (hi : (evD (St.of O n v) pi).keyOf = some key) (htab : TabE b ob c.E O) (hm : MapIs ob (.i k l))
    (h1 : look c.T tm = some ti) (hk1 : ti.k = .map kt vt) (h2 : look c.T kt = some ki) (h3 : look c.T vt = some vi) (hkk : ki.isKK kk = true) (hkey : kk.ok key = true) (hz : vi.zero = [.int k 0]) (ha : vi.k.agg = false) (hl : ∀ p ∈ l, kk.ok p.1 = true) :
    StepOK c ops O n o v (.one t (lookD k l key ok)) := by
  refine .inr ⟨hw, fun E hE K ρ a w hi' next Qe hnx => ?_⟩
  have hu : c.P.underlying tm = some (.map kt vt) := by have := (hT _ _ h1).kind; rw [hk1] at this; exact this
  have rx := hi'.ev px
  rw [hx] at rx
  have ri := hi'.ev pi
  have evx := inv_v rx
  have evi := keyOf_rep hi ri
  have hh : HInv E K ρ (v.2 :: O) w := hi'.h
  have hb := (tab_now (hE.tb b ob O rfl htab) rfl hh).1
  obtain ⟨val, hrun, hrep⟩ := run_tabLook (P := c.P) (w := w) hu (hT _ _ h2) (hT _ _ h3) hkk hkey hz ha hb hm hl ok
  have hex : (execOp a.eval o).run c.P w = .ok (.value val) w := by
    simp only [execOp, hop, evx, evi, hrun, Sem.run_bind, Result.andThen_ok, Sem.run_pure]
  simp only [Oper.wp, hex, Oper.upon]
  refine hnx val w [(t, lookD k l key ok)] K ρ (Kn.le_refl _) (fun _ _ _ _ e => ⟨e, rfl⟩) ⟨hh, by rw [ht]; simp [Act.put]; exact hi'.defers, by rw [ht]; simp [Act.put]; exact hi'.size, fun t' d' e => ?_⟩ fun t' d' e => .inr e
  obtain ⟨rfl, rfl⟩ := look_one e
  rw [ht, tmps_put (by rw [hi'.size]; exact Nat.le_of_ble_eq_true hn), if_pos rfl]
  exact hrep _ _ _
theorem e_tab {o : Oper} {rest : List Oper} {x : SH} {acc : List Pl} {lo : List Oper} {t i N tm kt vt b : Nat} {px pi : Operand} {ok : Bool} {ti ki vi : TI} {kk : KK} {k : IntKind} {l : List (Value × Int)} {ob : Obj} {key : Value} (hT : TOk c.P c.T) (htab : TabE b ob c.E O) (hm : MapIs ob (.i k l)) (hl : ∀ p ∈ l, kk.ok p.1 = true) (hlo : lo = o :: rest) (hN : acc.length = N)
    (hw : wantedD ops (St.of O n (viewOf ops o x)) o = some true) (ht : o.dst = some t) (hn : Nat.ble (t + 1) n = true) (hop : o.op = .lookup tm px pi ok)
    (hx : evD (St.of O n (viewOf ops o x)) px = .i (.v (.map (some b)))) (hi : (evD (St.of O n (viewOf ops o x)) pi).keyOf = some key)
    (h1 : look c.T tm = some ti) (hk1 : ti.k = .map kt vt) (h2 : look c.T kt = some ki) (h3 : look c.T vt = some vi) (hkk : ki.isKK kk = true) (hkey : kk.ok key = true) (hz : vi.zero = [.int k 0]) (ha : vi.k.agg = false)
    (h : GE c ops O n F (runS c.T ops O n i rest (setX x t (lookD k l key ok)) (acc ++ [.one t (lookD k l key ok)]))) : GE c ops O n (SegF c ops O n F N lo) (.done x acc) := by
  subst hlo
  exact ⟨⟨hN, gd_cons (stepOK_tab hT hw ht hn hop hx hi htab hm h1 hk1 h2 h3 hkk hkey hz ha hl) (runS_sound hT rest i _ _ h.h)⟩⟩
end
end Go.AI


namespace Go.AI
open Go.Proofs
theorem does_callB {ts : List (Nat × Obj)} {c : Cx} {s : St} {o : Oper} {Q : St → Prop} {f : FuncId} {args : List D} {res : D} {Hr H' : Heap} {O0 O' : List Heap} {t : Nat} (htab : TabsE ts c.E O0)
    (hspec : ASpecB ts c.P f (D.imms (headH s.S) args) s.S res Hr (H' :: O')) (ht : o.dst = some t) (hn : t < s.n) {H : Heap} {O : List Heap} (hS : s.S = H :: O) (hO : shape O = shape O0) (hsh : shape (H' :: O') = shape s.S) (hf : ∀ nm, look Hr nm ≠ none → look H' nm = none)
    (hq : Q { σ := (t, res.down) :: s.σ, S := (downH Hr ++ H') :: O', n := s.n }) : Does c o s Q (.call f args) := by
  intro K ρ a w hi ⟨vs, hrun, hrep⟩ next Qe hnext
  have hh := hi.h
  have hrep' := RepDL.imm hh hrep
  rw [hS] at hspec hsh hh hrep'
  have fin : ∀ v w', (∃ K' ρ', HInv (.of K ρ w) K' ρ' (Hr :: H' :: O') w' ∧ RepD K' ρ' (shape (Hr :: H' :: O')) v res) → next (a.put o.dst v) w' := by
    intro v w' ⟨K', ρ', h1, h2⟩
    obtain ⟨ρ'', hI, hst, hdn⟩ := hh.back h1 hsh hf
    refine hnext _ _ _ _ _ hst.le (fun d n x _ e => ⟨hst.shp _ _ _ (by rw [hS] at e; exact e), hst.loc _ _ _ (by rw [hS] at e; exact e)⟩) ?_ hq
    rw [ht]
    refine inv_set hi hn hI ?_ (h2.down hdn)
    rw [hS]; exact hst
  rcases hspec c.E K ρ w vs hh (fun p hp => tab_now (htab p hp) hO hh) hrep' with ⟨h1, h2⟩ | ⟨v, w', h1, h2⟩
  · rw [h1] at hrun
    simp only [Oper.wp, hrun, Oper.upon]
    refine h2.mono ?_
    rintro e w' ⟨v, rfl, hR⟩
    exact fin v w' hR
  · rw [h1] at hrun
    simp only [Oper.wp, hrun, Oper.upon]
    exact fin v w' h2
section
variable {c : Cx} {ops : Array Oper} {O : List Heap} {n : Nat} {F : SH → List Pl → Prop} {o : Oper} {rest : List Oper} {x : SH} {acc : List Pl} {i : Nat}
theorem s_callB (hT : TOk c.P c.T) {ts : List (Nat × Obj)} {O0 : List Heap} (htab : TabsE ts c.E O0) {f : FuncId} {args : List D} {res : D} {Hr : Heap} {t : Nat} (hspec : ASpecB ts c.P f (D.imms (viewOf ops o x).2 args) ((viewOf ops o x).2 :: O) res Hr ((viewOf ops o x).2 :: O)) (ht : o.dst = some t) (hn : Nat.ble (t + 1) n = true)
    (hO : shape O = shape O0) (hf : freshB Hr x.2 = true) (h : GE c ops O n F (runS c.T ops O n (i + 1) rest (newX x t res.down (downH Hr)) (acc ++ [⟨[(t, res.down)], downH Hr, none⟩]))) :
    GE c ops O n F (.at i o rest x acc (.call f args)) := by
  refine ⟨fun hro => ⟨⟨[(t, res.down)], downH Hr, none⟩, (gone_ro hro).symm, fun E hE => ?_, runS_sound hT rest _ _ _ h.h⟩⟩
  refine does_callB (c := { c with E := E }) (s := vw ops O n o x) (H' := (viewOf ops o x).2) (O' := O) (H := (viewOf ops o x).2) (O := O) (fun p hp => hE.tb p.1 p.2 O0 hO (htab p hp)) hspec ht (Nat.le_of_ble_eq_true hn) rfl hO rfl (freshB_ok (freshB_of view_sub hf)) ⟨rfl, rfl, fun t' d' e => ?_⟩
  obtain ⟨rfl, rfl⟩ := look_one e
  exact .inr (.inl (by simp [look_cons]))
end
theorem g_retEco {c : Cx} {s : St} (hT : TOk c.P c.T) {E0 : Env} {res d r : D} {H : Heap} {O : List Heap} (hb : Base E0 c.E O) (hp : c.post = PostOf E0 res [] O) (hd : resD c.T s c.fn.results.toList = some d) (hS : s.S = H :: O) (hr : d.ret H [] = r)
    (he : CoD r res) : GM c (.ret s) := by
  refine ⟨?_⟩
  have h := m_ret_co (c := { c with post := PostOf c.E res [] O }) (Hr := []) (hT := hT) rfl hd hS trivial hr rfl he
  intro K ρ a w hi
  obtain ⟨v, hv, K', ρ', h1, h2⟩ := h K ρ a w hi
  refine ⟨v, hv, ?_⟩
  rw [hp]
  exact ⟨K', ρ', h1.unbase hb, h2⟩
end Go.AI
