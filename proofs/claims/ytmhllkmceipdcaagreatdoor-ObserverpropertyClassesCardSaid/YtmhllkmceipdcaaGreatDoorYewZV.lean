/- The layer of abstract runs, part 48. -/
import Derived.Test.YtmhllkmceipdcaaGreatDoorYewZU
set_option linter.unusedSimpArgs false
set_option linter.unusedVariables false
set_option linter.all false

namespace Go.AI
open Go.Proofs
def numB (x : Int) : List UInt8 := (itoaB x).data.toList
def decN (l : List UInt8) : Int := l.foldl (fun a c => a * 10 + ((c.toNat : Int) - 48)) 0
theorem num_ok : ((List.range 64).all fun (k : Nat) => decide (decN (numB (k : Int)) = (k : Int)) && (numB (k : Int)).all fun c => decide (48 ≤ c.toNat ∧ c.toNat ≤ 57)) = true := by kernel_rfl
theorem num_dec {x : Int} (h : 0 ≤ x ∧ x < 64) : decN (numB x) = x ∧ ∀ c ∈ numB x, 48 ≤ c.toNat ∧ c.toNat ≤ 57 := by
  have h1 := List.all_eq_true.1 num_ok x.toNat (List.mem_range.2 (by omega))
  simp only [Bool.and_eq_true, decide_eq_true_eq, List.all_eq_true] at h1
  have e : ((x.toNat : Nat) : Int) = x := by omega
  rw [e] at h1
  exact h1
def encL (l : List Int) : List UInt8 := l.flatMap fun x => numB x ++ [32]
theorem keyL_enc : ∀ (l : List Int) (T : List UInt8), keyL T l = T ++ encL l
  | [], T => by simp [keyL, encL]
  | x :: r, T => by
    rw [keyL, keyL_enc r]
    simp [encL, numB]
theorem digits_split {c : UInt8} (hc : ¬ (48 ≤ c.toNat ∧ c.toNat ≤ 57)) : ∀ {a b u v : List UInt8}, (∀ x ∈ a, 48 ≤ x.toNat ∧ x.toNat ≤ 57) → (∀ x ∈ b, 48 ≤ x.toNat ∧ x.toNat ≤ 57) → a ++ c :: u = b ++ c :: v → a = b ∧ u = v
  | [], [], u, v, _, _, h => by simpa using h
  | [], y :: b, u, v, _, hb, h => by
    simp only [List.nil_append, List.cons_append, List.cons.injEq] at h
    exact absurd (h.1 ▸ hb y (by simp)) hc
  | x :: a, [], u, v, ha, _, h => by
    simp only [List.nil_append, List.cons_append, List.cons.injEq] at h
    exact absurd (h.1 ▸ ha x (by simp)) hc
  | x :: a, y :: b, u, v, ha, hb, h => by
    simp only [List.cons_append, List.cons.injEq] at h
    obtain ⟨h1, h2⟩ := digits_split hc (a := a) (b := b) (fun x hx => ha x (by simp [hx])) (fun x hx => hb x (by simp [hx])) h.2
    exact ⟨by rw [h.1, h1], h2⟩
theorem num_ne {x : Int} (h : 0 ≤ x ∧ x < 64) {u v : List UInt8} (e : numB x ++ 32 :: u = 59 :: v) : False := by
  cases hn : numB x with
  | nil => rw [hn] at e; simp at e
  | cons c r =>
    rw [hn] at e
    simp only [List.cons_append, List.cons.injEq] at e
    have := (num_dec h).2 c (by rw [hn]; simp)
    rw [e.1] at this
    exact absurd this (by decide)
theorem enc_split : ∀ {a b : List Int} {u v : List UInt8}, (∀ x ∈ a, 0 ≤ x ∧ x < 64) → (∀ x ∈ b, 0 ≤ x ∧ x < 64) → encL a ++ 59 :: u = encL b ++ 59 :: v → a = b ∧ u = v
  | [], [], u, v, _, _, h => by simpa [encL] using h
  | [], y :: b, u, v, _, hb, h => by
    refine (num_ne (x := y) (hb y (by simp)) (u := encL b ++ 59 :: v) (v := u) ?_).elim
    simp only [encL, List.flatMap_nil, List.nil_append, List.flatMap_cons, List.append_assoc, List.singleton_append] at h
    rw [h]; rfl
  | x :: a, [], u, v, ha, _, h => by
    refine (num_ne (x := x) (ha x (by simp)) (u := encL a ++ 59 :: u) (v := v) ?_).elim
    simp only [encL, List.flatMap_nil, List.nil_append, List.flatMap_cons, List.append_assoc, List.singleton_append] at h
    rw [← h]; rfl
  | x :: a, y :: b, u, v, ha, hb, h => by
    simp only [encL, List.flatMap_cons, List.append_assoc, List.singleton_append] at h
    have hx := num_dec (ha x (by simp))
    have hy := num_dec (hb y (by simp))
    obtain ⟨h1, h2⟩ := digits_split (c := 32) (by decide) hx.2 hy.2 h
    obtain ⟨h3, h4⟩ := enc_split (a := a) (b := b) (fun x hx => ha x (by simp [hx])) (fun x hx => hb x (by simp [hx])) h2
    have e : x = y := by rw [← hx.1, ← hy.1, h1]
    exact ⟨by rw [e, h3], h4⟩
theorem fkey2_inj {a b c d : List Int} (ha : ∀ x ∈ a, 0 ≤ x ∧ x < 64) (hb : ∀ x ∈ b, 0 ≤ x ∧ x < 64) (hc : ∀ x ∈ c, 0 ≤ x ∧ x < 64) (hd : ∀ x ∈ d, 0 ≤ x ∧ x < 64) (h : fkeyB [a, b] = fkeyB [c, d]) : a = c ∧ b = d := by
  have h1 : (keyLs [] [a, b]) = keyLs [] [c, d] := by
    have := congrArg (fun x : ByteArray => x.data.toList) h
    simpa [fkeyB] using this
  simp only [keyLs, keyL_enc, List.nil_append, List.append_assoc, List.singleton_append] at h1
  obtain ⟨e1, e2⟩ := enc_split ha hc h1
  obtain ⟨e3, _⟩ := enc_split hb hd e2
  exact ⟨e1, e3⟩
theorem mgetB_msetS (x y : ByteArray) : ∀ (es : List (Value × Bool)), mgetB (mset es (.string x) true) (.string y) = (decide (y = x) || mgetB es (.string y))
  | [] => by
    unfold mset mgetB mlook mlook
    have e : keyB (.string y) (.string x) = decide (y = x) := by
      show (y == x) = _
      by_cases h : y = x
      · rw [(ba_eq y x).2 h]; simp [h]
      · cases h2 : y == x with
        | true => exact absurd ((ba_eq _ _).1 h2) h
        | false => simp [h]
    rw [e]
    cases decide (y = x) <;> rfl
  | (c, b) :: r => by
    have ih := mgetB_msetS x y r
    have e : keyB (.string y) (.string x) = decide (y = x) := by
      show (y == x) = _
      by_cases h : y = x
      · rw [(ba_eq y x).2 h]; simp [h]
      · cases h2 : y == x with
        | true => exact absurd ((ba_eq _ _).1 h2) h
        | false => simp [h]
    unfold mset
    cases h1 : keyB (.string x) c with
    | true =>
      rw [cond_true]
      unfold mgetB at ih ⊢
      simp only [mlook, e]
      cases h2 : decide (y = x) with
      | true => rfl
      | false =>
        have h3 : keyB (.string y) c = false := by
          cases c with
          | string z =>
            have e1 : x = z := (ba_eq _ _).1 h1
            subst e1
            rw [e, h2]
          | _ => simp [keyB] at h1
        rw [h3]
        rfl
    | false =>
      rw [cond_false]
      unfold mgetB at ih ⊢
      simp only [mlook]
      cases h3 : keyB (.string y) c with
      | true => cases h4 : decide (y = x) with
        | true =>
          have e1 : y = x := of_decide_eq_true h4
          rw [e1, h1] at h3
          cases h3
        | false => rfl
      | false => exact ih
section
variable {S : Type} [DecidableEq S]
def bvis (nx : S → Int → S) (ok : S → Bool) (x : S × List Int) : List Int → List (S × List Int) → List (S × List Int)
  | [], l => l
  | ev :: r, l => bvis nx ok x r (if ok (nx x.1 ev) = true ∧ ∀ z ∈ l, z.1 ≠ nx x.1 ev then l ++ [(nx x.1 ev, x.2 ++ [ev])] else l)
def bsr (nx : S → Int → S) (ok : S → Bool) (evs : S → List Int) (bad : S → Bool) : Nat → Nat → List (S × List Int) → Option (S × List Int)
  | 0, _, _ => none
  | f + 1, i, l => match l[i]? with
    | none => none
    | some x => if bad x.1 = true then some x else bsr nx ok evs bad f (i + 1) (bvis nx ok x (evs x.1) l)
structure bOk (V : List S) (l : List (S × List Int)) : Prop where
  nd : (l.map (·.1)).Nodup
  el : ∀ z ∈ l, z.1 ∈ V
  wl : ∀ (j : Nat) z, l[j]? = some z → z.2.length ≤ j
theorem bOk_len {V : List S} {l : List (S × List Int)} (h : bOk V l) : l.length ≤ V.length := by
  have := nodup_sub h.nd (m := V) fun s hs => by obtain ⟨z, hz, rfl⟩ := List.mem_map.1 hs; exact h.el z hz
  simpa using this
theorem bOk_one {V : List S} {s : S} (h : s ∈ V) : bOk V [(s, [])] := ⟨by simp, by simpa using h, fun j z hz => by
  cases j with
  | zero => simp at hz; subst hz; simp
  | succ j => simp at hz⟩
theorem bOk_app {V : List S} {l : List (S × List Int)} (h : bOk V l) {i : Nat} {x : S × List Int} (hi : l[i]? = some x) {t : S} (ht : t ∈ V) (hn : ∀ z ∈ l, z.1 ≠ t) (ev : Int) : bOk V (l ++ [(t, x.2 ++ [ev])]) := by
  refine ⟨?_, fun z hz => ?_, fun j z hz => ?_⟩
  · rw [List.map_append]
    unfold List.Nodup
    rw [List.pairwise_append]
    refine ⟨h.nd, List.pairwise_singleton _ _, fun a ha b hb => ?_⟩
    obtain ⟨z, hz, rfl⟩ := List.mem_map.1 ha
    simp only [List.map_cons, List.map_nil, List.mem_singleton] at hb
    subst hb
    exact hn z hz
  · rcases List.mem_append.1 hz with hz | hz
    · exact h.el z hz
    · rw [List.mem_singleton] at hz; subst hz; exact ht
  · rw [List.getElem?_append] at hz
    split at hz
    · exact h.wl j z hz
    · rename_i hj
      have hlt := (List.getElem?_eq_some_iff.1 hz).1
      simp only [List.length_singleton] at hlt
      rw [show j - l.length = 0 by omega] at hz
      simp only [List.getElem?_cons_zero, Option.some.injEq] at hz
      subst hz
      have := h.wl i x hi
      have := (List.getElem?_eq_some_iff.1 hi).1
      simp only [List.length_append, List.length_singleton]
      omega
theorem bsr_done {nx : S → Int → S} {ok : S → Bool} {evs : S → List Int} {bad : S → Bool} {l : List (S × List Int)} {i : Nat} (h : l.length ≤ i) : ∀ f, bsr nx ok evs bad f i l = none
  | 0 => rfl
  | f + 1 => by simp only [bsr, List.getElem?_eq_none h]
end
def keyOk {S : Type} [DecidableEq S] (V : List S) (key : S → ByteArray) (km : List (Value × Bool)) (l : List (S × List Int)) : Prop := ∀ y ∈ V, mgetB km (.string (key y)) = decide (∃ z ∈ l, z.1 = y)
theorem keyOk_app {S : Type} [DecidableEq S] {V : List S} {key : S → ByteArray} (hinj : ∀ a ∈ V, ∀ b ∈ V, key a = key b → a = b) {km : List (Value × Bool)} {l : List (S × List Int)} (h : keyOk V key km l) {t : S} (ht : t ∈ V) (w : List Int) : keyOk V key (mset km (.string (key t)) true) (l ++ [(t, w)]) := by
  intro y hy
  rw [mgetB_msetS, h y hy]
  by_cases e : y = t
  · subst e
    simp
  · have : key y ≠ key t := fun h' => e (hinj y hy t ht h')
    rw [decide_eq_false this, Bool.false_or]
    refine decide_eq_decide.2 ⟨fun ⟨z, hz, h2⟩ => ⟨z, List.mem_append_left _ hz, h2⟩, fun ⟨z, hz, h2⟩ => ?_⟩
    rcases List.mem_append.1 hz with hz | hz
    · exact ⟨z, hz, h2⟩
    · rw [List.mem_singleton] at hz; subst hz; exact absurd h2.symm e
theorem keyOk_one {S : Type} [DecidableEq S] {V : List S} {key : S → ByteArray} (hinj : ∀ a ∈ V, ∀ b ∈ V, key a = key b → a = b) {t : S} (ht : t ∈ V) : keyOk V key (mset [] (.string (key t)) true) [(t, [])] :=
  keyOk_app (l := []) hinj (fun y _ => by simp [mgetB, mlook]) ht []
end Go.AI


namespace Go.AI
open Go.Proofs
set_option maxRecDepth 20000
theorem wk_arrco {c : Cx} {s : St} (nm : Nat) {ty es n : Nat} {xs ys : List (List I)} {wr : Bool} {H : Heap} {O : List Heap} (hS : s.S = H :: O) (ho : look H nm = some (.arr ty es n xs wr)) (hl : ys.length = xs.length) (he : ∀ d ∈ ys, d.length = es) (hco : ∀ K vs, RepL K vs xs.flatten → RepL K vs ys.flatten) :
    Wk c s { σ := s.σ, S := ((nm, .arr ty es n ys wr) :: H) :: O, n := s.n } := by
  intro K ρ a w hi
  have hh := hi.h
  rw [hS] at hh
  have hsh : shape (((nm, Ob.arr ty es n ys wr) :: H) :: O) = shape (H :: O) := shape_over ho rfl
  refine ⟨K, ρ, hh.reob ho rfl (fun h => h) fun h => ?_, hi.defers, hi.size, fun t d e => ?_⟩
  · obtain ⟨h1, h2, h3, h4, h5⟩ := h
    refine ⟨he, by rw [hl]; exact h2, h3, h4, ?_⟩
    rcases h5 with h5 | ⟨h5, c', h6, h7, h8, h9⟩
    · exact .inl h5
    · exact .inr ⟨h5, c', h6, h7, hco _ _ h8, h9⟩
  · show RepD K ρ (shape (((nm, Ob.arr ty es n ys wr) :: H) :: O)) _ _
    rw [hsh, ← hS]
    exact hi.slots t d e
theorem mem_subs : ∀ {n : Nat} {l : List Int}, l ∈ subs n → l.length ≤ n ∧ ∀ x ∈ l, 0 ≤ x ∧ x < (n : Int)
  | 0, l, h => by
    simp only [subs, List.mem_singleton] at h
    subst h
    simp
  | n + 1, l, h => by
    simp only [subs, List.mem_append, List.mem_map] at h
    rcases h with h | ⟨m, h, rfl⟩
    · obtain ⟨h1, h2⟩ := mem_subs h
      exact ⟨by omega, fun x hx => by have := h2 x hx; omega⟩
    · obtain ⟨h1, h2⟩ := mem_subs h
      refine ⟨by simp only [List.length_append, List.length_singleton]; omega, fun x hx => ?_⟩
      rcases List.mem_append.1 hx with hx | hx
      · have := h2 x hx; omega
      · rw [List.mem_singleton] at hx; omega
abbrev PS := List Int × List Int
def pairsV (n : Nat) : List PS := (subs n).flatMap fun a => (subs n).map fun b => (a, b)
theorem mem_pairsV {n : Nat} {y : PS} : y ∈ pairsV n ↔ y.1 ∈ subs n ∧ y.2 ∈ subs n := by
  unfold pairsV
  simp only [List.mem_flatMap, List.mem_map]
  exact ⟨fun ⟨a, h1, b, h2, e⟩ => by subst e; exact ⟨h1, h2⟩, fun ⟨h1, h2⟩ => ⟨y.1, h1, y.2, h2, rfl⟩⟩
theorem pairsV_len {n : Nat} (h : n ≤ 5) : (pairsV n).length ≤ 1024 := by
  have e : ∀ (l m : List (List Int)), (l.flatMap fun a => m.map fun b => (a, b)).length = l.length * m.length := by
    intro l m
    induction l with
    | nil => simp
    | cons a r ih => rw [List.flatMap_cons, List.length_append, ih, List.length_map, List.length_cons, Nat.add_mul]; omega
  unfold pairsV
  rw [e, subs_len]
  have : 2 ^ n ≤ 2 ^ 5 := Nat.pow_le_pow_right (by decide) h
  exact Nat.le_trans (Nat.mul_le_mul this this) (by decide)
def keyP (y : PS) : ByteArray := fkeyB [y.1, y.2]
theorem keyP_inj {n : Nat} (hn : n ≤ 5) : ∀ a ∈ pairsV n, ∀ b ∈ pairsV n, keyP a = keyP b → a = b := by
  intro a ha b hb h
  have hs : ∀ l ∈ subs n, ∀ x ∈ l, (0 : Int) ≤ x ∧ x < 64 := fun l hl x hx => by have := (mem_subs hl).2 x hx; omega
  obtain ⟨a1, a2⟩ := mem_pairsV.1 ha
  obtain ⟨b1, b2⟩ := mem_pairsV.1 hb
  obtain ⟨e1, e2⟩ := fkey2_inj (hs _ a1) (hs _ a2) (hs _ b1) (hs _ b2) h
  exact Prod.ext e1 e2
abbrev bothI (z : PS × List Int) : List I := [intsI z.1.1, intsI z.1.2, intsI z.2]
abbrev oboths (l : List (PS × List Int)) : Ob := .arr 137 3 l.length (l.map bothI) true
theorem oboths_app (l : List (PS × List Int)) (z : PS × List Int) : Ob.arr 137 3 (l.length + 1) (l.map bothI ++ [bothI z]) true = oboths (l ++ [z]) := by simp
def stepP (es : List Edg) (p : Int → Bool) (n : Nat) (x : PS) (ev : Int) : PS := (nxt es p n x.1 ev, nxt es p n x.2 ev)
def someP (y : PS) : Bool := decide (y.1.length + y.2.length > 0)
theorem stepP_in (es : List Edg) (p : Int → Bool) (n : Nat) (x : PS) (ev : Int) : stepP es p n x ev ∈ pairsV n := mem_pairsV.2 ⟨sorted_subs _ _, sorted_subs _ _⟩
def difR (a : Aut) (on un : List Int) (n : Nat) (bad : List Int → List Int → Bool) (A B : List Int) : Option (PS × List Int) :=
  bsr (stepP a.edges (lowP on un false) n) someP (fun _ => keptR a on) (fun y => bad y.1 y.2) 4096 0 [((A, B), [])]
def difD : Option (PS × List Int) → D
  | none => .tup [ints [], bb false]
  | some x => .tup [ints x.2, bb true]
set_option maxHeartbeats 8000000 in
theorem differ61 {g : Nat} (hg : IsTab g) {ty : TypeId} {fr : Nat × Nat} (O : List Heap) (a : Aut) (on un A B : List Int) (n f d cb : Nat) (bad : List Int → List Int → Bool) (hn : n ≤ 5) (hes : ∀ x ∈ a.edges, 0 ≤ x.2.2 ∧ x.2.2 < (n : Int)) (hed : a.edges.length ≤ 1000000)
    (hal : a.alpha.length ≤ 1000000) (hon : on.length ≤ max63) (hun : un.length ≤ max63) (hA : A ∈ subs n) (hB : B ∈ subs n)
    (hp : ∀ x ∈ subs n, ∀ y ∈ subs n, ∀ H, ASpec Tryz.prog f [ints x, ints y, .own (d + 1) cb 0 0] (H :: O) (bb (bad x y)) [] (H :: O)) :
    ASpecT g (ptab ty fr) Tryz.prog 61 [.i (vptr a on un (outOf n a.edges)), ints A, ints B, .fn (.func f) [] [.own d cb 0 0]] O (difD (difR a on un n bad A B)) [] O := by
  have hkey : ∀ x ∈ subs n, ∀ y ∈ subs n, ∀ O, ASpecT g (ptab ty fr) Tryz.prog 84 [.i (intssI [x, y])] O (.i (.v (.string (keyP (x, y))))) [] O := fun x hx y hy O =>
    key84 hg O [x, y] (by simp) (by simp) fun l hl => by
      have : l ∈ subs n := by simp only [List.mem_cons, List.not_mem_nil, or_false] at hl; rcases hl with rfl | rfl <;> assumption
      obtain ⟨h1, h2⟩ := mem_subs this
      exact ⟨by omega, fun v hv => by have := h2 v hv; constructor <;> omega⟩
  have hkept := fun O => kept46 O a on un (outOf n a.edges) hal hon
  have hnext := fun x hx ev O => next72 O a on un x ev n (by omega) hes hed (mem_subs hx).2 (by have := (mem_subs hx).1; omega) hon hun
  have hinj := keyP_inj hn
  have hst : ∀ x ev, (nxt a.edges (lowP on un false) n x.1 ev, nxt a.edges (lowP on un false) n x.2 ev) = stepP a.edges (lowP on un false) n x ev := fun _ _ => rfl
  have hsi := stepP_in a.edges (lowP on un false) n
  have hVl := pairsV_len hn
  have hns : ∀ x ev, nxt a.edges (lowP on un false) n x ev ∈ subs n := fun x ev => sorted_subs _ _
  unfold difR
  generalize hK : bsr (stepP a.edges (lowP on un false) n) someP (fun _ => keptR a on) (fun y => bad y.1 y.2) 4096 0 [((A, B), [])] = KK
  have hB0 : bOk (pairsV n) [((A, B), ([] : List Int))] := bOk_one (mem_pairsV.2 ⟨hA, hB⟩)
  have hk0 : keyOk (pairsV n) keyP (mset [] (.string (keyP (A, B))) true) [((A, B), [])] := keyOk_one hinj (mem_pairsV.2 ⟨hA, hB⟩)
  have hkr : (keptR a on).length ≤ 1000000 := Nat.le_trans (List.length_filter_le _ _) hal
  generalize keptR a on = kp at *
  refine aspecT_stop [13] Tk Tryz.func61 rfl Tryz.call61 Tryz.ntmps61 (Nat.le_of_ble_eq_true rfl) fun E hE => ?_
  refine g_run Tk Tryz.func61 ?_
  refine g_callT Tk Tryz.func61 hE (hkey A hA B hB _) rfl rfl rfl rfl rfl rfl ?_
  refine g_loop ?_
  refine rch_wk (wk_ren 20 98 rfl rfl rfl) ?_
  refine rch_wk (wk_arrco 98 (ys := [bothI ((A, B), [])]) rfl rfl rfl (by simp; rfl) fun K vs h => ?_) ?_
  · have h : RepL K vs [intsI A, intsI B, .v (.slice none 0 0)] := h
    show RepL K vs [intsI A, intsI B, .sl 1 0 []]
    cases h with
    | cons h1 h => cases h with
      | cons h2 h => cases h with
        | cons h3 h =>
          cases h
          refine .cons h1 (.cons h2 (.cons ?_ .nil))
          cases h3
          exact .nil
  refine rch_loop2 (fun x : Nat × Nat × List (Value × Bool) × List (PS × List Int) => [(0, .i (vptr a on un (outOf n a.edges))), (3, .fn (.func f) [] [.own (d + 1) cb 0 0]), (10, .osl 0 98), (11, .osl 0 21), (12, ii x.1)])
    (fun x => [(98, oboths x.2.2.2), (21, .mp .str (.b x.2.2.1))]) (fun _ => O) 100
    (fun x => x.1 ≤ x.2.2.2.length ∧ bOk (pairsV n) x.2.2.2 ∧ keyOk (pairsV n) keyP x.2.2.1 x.2.2.2 ∧ x.2.1 + x.1 = 4096 ∧ bsr (stepP a.edges (lowP on un false) n) someP (fun _ => kp) (fun y => bad y.1 y.2) x.2.1 x.1 x.2.2.2 = KK) (fun x => x.2.1) (0, 4096, mset [] (.string (keyP (A, B))) true, [((A, B), [])])
    ⟨Nat.zero_le _, hB0, hk0, rfl, hK⟩ ⟨rfl, rfl, rfl, rfl, rfl, trivial⟩ rfl ⟨rfl, rfl, trivial⟩ rfl rfl ?_
  clear hB0 hk0 hK
  rintro ⟨i, fu, km, l⟩ ⟨hi, hb, hk, hf, hno⟩ ih
  simp only at hi hb hk hf hno
  have hll := bOk_len hb
  refine g_run Tk Tryz.func61 ?_
  first | refine g_cnd Tk Tryz.func61 rfl (fun g1 => ?_) (fun g1 => ?_) | refine g_know Tk Tryz.func61 rfl (fun g1 => ?_) (fun g1 => ?_) | refine s_know Tk (fun g1 => ?_) (fun g1 => ?_)
  · have h1 : i < l.length := by simpa using g1
    clear g1
    obtain ⟨fu, rfl⟩ : ∃ f', fu = f' + 1 := ⟨fu - 1, by omega⟩
    have hgi : l[i]? = some l[i] := List.getElem?_eq_getElem h1
    have gl : (l.map bothI)[(i : Int).toNat]? = some (bothI l[i]) := get_mapZ h1
    have hzV := mem_pairsV.1 (hb.el _ (List.getElem_mem h1))
    simp only [bsr, hgi] at hno
    have hzw := hb.wl i _ hgi
    generalize l[i] = z at *
    obtain ⟨⟨za, zb⟩, zw⟩ := z
    simp only at hno hzV hzw
    have hbad := hp za hzV.1 zb hzV.2
    first | refine g_need Tk Tryz.func61 (by exact ⟨by omega, by show (i : Int) < (l.length : Int); omega⟩) ?_ | refine s_need Tk (by exact ⟨by omega, by show (i : Int) < (l.length : Int); omega⟩) ?_
    first | refine g_elem Tk Tryz.func61 (gl) ?_ | refine s_elem Tk (gl) ?_
    first | refine g_call Tk Tryz.func61 (hbad _) rfl rfl rfl rfl rfl ?_ | refine s_callq Tk (fun _ => hbad _) rfl rfl rfl ?_
    first | refine g_cnd Tk Tryz.func61 rfl (fun c1 => ?_) (fun c1 => ?_) | refine g_know Tk Tryz.func61 rfl (fun c1 => ?_) (fun c1 => ?_) | refine s_know Tk (fun c1 => ?_) (fun c1 => ?_)
    · rw [if_pos c1] at hno
      subst hno
      refine g_ret Tk (r := .tup [ints zw, bb true]) rfl rfl rfl trivial rfl rfl ?_
      rfl
    rw [if_neg (by rw [c1]; simp)] at hno
    first | refine g_call Tk Tryz.func61 (hkept _) rfl rfl rfl rfl rfl ?_ | refine s_callq Tk (fun _ => hkept _) rfl rfl rfl ?_
    refine g_loop ?_
    refine rch_loop2 (fun x : Nat × List (Value × Bool) × List (PS × List Int) => [(0, .i (vptr a on un (outOf n a.edges))), (3, .fn (.func f) [] [.own (d + 1) cb 0 0]), (10, .osl 0 98), (11, .osl 0 21), (12, ii i), (13, .own 0 13 0 0), (46, ints kp), (47, ii kp.length), (48, ii x.1)])
      (fun x => [(98, oboths x.2.2), (21, .mp .str (.b x.2.1)), (13, .box [ints za, ints zb, ints zw])]) (fun _ => O) 100
      (fun x => x.1 ≤ kp.length ∧ bOk (pairsV n) x.2.2 ∧ keyOk (pairsV n) keyP x.2.1 x.2.2 ∧ i < x.2.2.length ∧ x.2.2[i]? = some ((za, zb), zw) ∧ bsr (stepP a.edges (lowP on un false) n) someP (fun _ => kp) (fun y => bad y.1 y.2) fu (i + 1) (bvis (stepP a.edges (lowP on un false) n) someP ((za, zb), zw) (kp.drop x.1) x.2.2) = KK) (fun x => kp.length - x.1) (0, km, l)
      ⟨Nat.zero_le _, hb, hk, h1, hgi, by simpa using hno⟩ ⟨rfl, rfl, rfl, rfl, rfl, rfl, rfl, rfl, rfl, trivial⟩ rfl ⟨rfl, rfl, rfl, trivial⟩ rfl rfl ?_
    clear hb hk hno hgi gl h1 hll hi
    rintro ⟨j, km, l⟩ ⟨hj, hb, hk, h1, hgi, hno⟩ ih2
    simp only at hj hb hk h1 hgi hno
    have hll := bOk_len hb
    have hj1 : ii (IntKind.i64.wrap ((j : Int) + 1)) = ii ((j + 1 : Nat) : Int) := congrArg ii (wsucc (n := 1000001) (by omega) (by decide))
    refine g_run Tk Tryz.func61 ?_
    first | refine g_cnd Tk Tryz.func61 rfl (fun g2 => ?_) (fun g2 => ?_) | refine g_know Tk Tryz.func61 rfl (fun g2 => ?_) (fun g2 => ?_) | refine s_know Tk (fun g2 => ?_) (fun g2 => ?_)
    · have h2 : j < kp.length := by simpa using g2
      clear g2
      have gk : (kp.map fun x => [vi x])[(j : Int).toNat]? = some [vi kp[j]] := get_mapZ (f := fun x => [vi x]) h2
      rw [List.drop_eq_getElem_cons h2] at hno
      simp only [bvis] at hno
      generalize kp[j] = ev at *
      have hna := hnext za hzV.1 ev
      have hnb := hnext zb hzV.2 ev
      have hsv := hsi (za, zb) ev
      rw [← hst] at hno hsv
      have hka := hkey _ (hns za ev) _ (hns zb ev)
      simp only at hno hsv
      generalize nxt a.edges (lowP on un false) n za ev = na at *
      generalize nxt a.edges (lowP on un false) n zb ev = nb at *
      have hkk := hk _ hsv
      first | refine g_need Tk Tryz.func61 (by exact ⟨by omega, by show (j : Int) < (kp.length : Int); omega⟩) ?_ | refine s_need Tk (by exact ⟨by omega, by show (j : Int) < (kp.length : Int); omega⟩) ?_
      first | refine g_elem Tk Tryz.func61 (gk) ?_ | refine s_elem Tk (gk) ?_
      refine g_drawn Tk Tryz.func61 mixedT rfl ?_
      first | refine g_call Tk Tryz.func61 (hna _) rfl rfl rfl rfl rfl ?_ | refine s_callq Tk (fun _ => hna _) rfl rfl rfl ?_
      first | refine g_call Tk Tryz.func61 (hnb _) rfl rfl rfl rfl rfl ?_ | refine s_callq Tk (fun _ => hnb _) rfl rfl rfl ?_
      first | refine g_call Tk Tryz.func61 (clone57 64 _ zw (by simp only [big]; omega)) rfl rfl rfl rfl rfl ?_ | refine s_callq Tk (fun _ => clone57 64 _ zw (by simp only [big]; omega)) rfl rfl rfl ?_
      refine s_old Tk ?_
      refine d_need Tk (by exact ⟨by show (zw.length + 1) * 8 ≤ 140737488355328; omega, by show zw.length + 1 ≤ 9223372036854775807; omega⟩) ?_
      refine d_mod Tk (p := ⟨[(67, .osl 0 67), (64, .dead)], [(67, .arr 3 1 (zw.length + 1) ((zw.map fun x => [vi x]) ++ [[vi ev]]) true)], some 64⟩) rfl rfl rfl ?_
      refine d_mod Tk (p := ⟨[], [(16, .box [ints na, ints nb, .osl 0 67])], none⟩) rfl rfl rfl ?_
      refine d_done Tk Tryz.func61 (by kernel_rfl) (GM.h ?_)
      have e67 : Ob.box [ints na, ints nb, .i (.sl 1 (zw.length + 1) ((zw.map fun x => [vi x]) ++ [[vi ev]]))] = .box [ints na, ints nb, ints (zw ++ [ev])] := by simp
      refine g_stop ?_
      refine rch_wk (wk_freeze 67 rfl rfl) ?_
      refine rch_wk (wk_imm rfl) ?_
      refine rch_wk (wk_cut (l := [(0, .i (vptr a on un (outOf n a.edges))), (3, .fn (.func f) [] [.own (d + 1) cb 0 0]), (10, .osl 0 98), (11, .osl 0 21), (12, ii i), (13, .own 0 13 0 0), (16, .own 0 16 0 0), (46, ints kp), (47, ii kp.length), (48, ii j)])
        (Hv := [(98, oboths l), (21, .mp .str (.b km)), (13, .box [ints za, ints zb, ints zw]), (16, .box [ints na, ints nb, ints (zw ++ [ev])])]) ⟨rfl, rfl, rfl, rfl, rfl, rfl, rfl, rfl, rfl, rfl, trivial⟩ rfl ⟨rfl, rfl, rfl, congrArg some e67, trivial⟩ rfl rfl) ?_
      have hnl := (mem_subs (mem_pairsV.1 hsv).1).1
      have hml := (mem_subs (mem_pairsV.1 hsv).2).1
      simp only at hnl hml
      have hw : IntKind.i64.wrap ((na.length : Int) + (nb.length : Int)) = (na.length : Int) + (nb.length : Int) := w64 (by omega) (by omega)
      have hzl : (zw ++ [ev]).length = zw.length + 1 := by simp
      have hbo : (∀ z ∈ l, z.1 ≠ (na, nb)) → bOk (pairsV n) (l ++ [((na, nb), zw ++ [ev])]) := fun h => bOk_app hb hgi hsv h ev
      generalize zw ++ [ev] = zw2 at *
      refine g_run Tk Tryz.func61 ?_
      refine g_go Tk Tryz.func61 ?_
      first | refine g_cnd Tk Tryz.func61 rfl (fun c2 => ?_) (fun c2 => ?_) | refine g_know Tk Tryz.func61 rfl (fun c2 => ?_) (fun c2 => ?_) | refine s_know Tk (fun c2 => ?_) (fun c2 => ?_)
      · have c2 : someP (na, nb) = true := by
          have c2 : IntKind.i64.wrap ((na.length : Int) + (nb.length : Int)) > 0 := of_decide_eq_true c2
          rw [hw] at c2
          exact decide_eq_true (by show na.length + nb.length > 0; omega)
        refine g_callT Tk Tryz.func61 hE (hka _) rfl rfl rfl rfl rfl rfl ?_
        first | refine g_cnd Tk Tryz.func61 rfl (fun c3 => ?_) (fun c3 => ?_) | refine g_know Tk Tryz.func61 rfl (fun c3 => ?_) (fun c3 => ?_) | refine s_know Tk (fun c3 => ?_) (fun c3 => ?_)
        · have c3 : mgetB km (.string (keyP (na, nb))) = false := notT c3
          rw [hkk] at c3
          have c3 : ∀ z ∈ l, z.1 ≠ (na, nb) := fun z hz e => of_decide_eq_false c3 ⟨z, hz, e⟩
          rw [if_pos ⟨c2, c3⟩] at hno
          refine g_callT Tk Tryz.func61 hE (hka _) rfl rfl rfl rfl rfl rfl ?_
          first | refine g_need Tk Tryz.func61 (by exact ⟨by show (l.length + 1) * 72 ≤ 140737488355328; omega, by show l.length + 1 ≤ 9223372036854775807; omega⟩) ?_ | refine s_need Tk (by exact ⟨by show (l.length + 1) * 72 ≤ 140737488355328; omega, by show l.length + 1 ≤ 9223372036854775807; omega⟩) ?_
          refine g_loop ?_
          refine ih2 (j + 1, mset km (.string (keyP (na, nb))) true, l ++ [((na, nb), zw2)]) _ _ ⟨h2, ?_, keyOk_app hinj hk hsv _, by rw [List.length_append]; omega, by rw [List.getElem?_append_left h1]; exact hgi, ?_⟩ (by simp only; omega) ⟨rfl, rfl, rfl, rfl, rfl, rfl, rfl, rfl, hj1, trivial⟩ rfl ⟨congrArg some (oboths_app l ((na, nb), zw2)), rfl, rfl, trivial⟩ rfl rfl
          · exact hbo c3
          · exact hno
        · have c3 : mgetB km (.string (keyP (na, nb))) = true := notF c3
          rw [hkk] at c3
          obtain ⟨z, hz, hze⟩ := of_decide_eq_true c3
          rw [if_neg (fun h => h.2 z hz hze)] at hno
          refine g_loop ?_
          exact ih2 (j + 1, km, l) _ _ ⟨h2, hb, hk, h1, hgi, hno⟩ (by simp only; omega) ⟨rfl, rfl, rfl, rfl, rfl, rfl, rfl, rfl, hj1, trivial⟩ rfl ⟨rfl, rfl, rfl, trivial⟩ rfl rfl
      · have c2 : ¬ someP (na, nb) = true := by
          have c2 : ¬ IntKind.i64.wrap ((na.length : Int) + (nb.length : Int)) > 0 := of_decide_eq_false c2
          rw [hw] at c2
          exact fun h => c2 (by have := of_decide_eq_true h; have : na.length + nb.length > 0 := this; omega)
        rw [if_neg (fun h => c2 h.1)] at hno
        repeat (first | refine gcT Tk Tryz.func61 rfl ?_ | refine gkT Tk Tryz.func61 rfl ?_ | refine skT Tk ?_ | refine gcF Tk Tryz.func61 rfl ?_ | refine gkF Tk Tryz.func61 rfl ?_ | refine skF Tk ?_)
        refine g_loop ?_
        exact ih2 (j + 1, km, l) _ _ ⟨h2, hb, hk, h1, hgi, hno⟩ (by simp only; omega) ⟨rfl, rfl, rfl, rfl, rfl, rfl, rfl, rfl, hj1, trivial⟩ rfl ⟨rfl, rfl, rfl, trivial⟩ rfl rfl
    · have h2 : kp.length ≤ j := by simpa using g2
      rw [List.drop_eq_nil_of_le h2] at hno
      simp only [bvis] at hno
      refine g_loop ?_
      exact ih (i + 1, fu, km, l) _ _ ⟨h1, hb, hk, by simp only; omega, hno⟩ (by simp only; omega) ⟨rfl, rfl, rfl, rfl, congrArg ii (wsucc (n := 5000) (by omega) (by decide)), trivial⟩ rfl ⟨rfl, rfl, trivial⟩ rfl rfl
  · have h1 : l.length ≤ i := by simpa using g1
    rw [bsr_done h1] at hno
    subst hno
    refine g_ret_co Tk (r := .tup [.i (.v (.slice none 0 0)), bb false]) rfl rfl rfl trivial rfl rfl ?_
    repeat' (first | refine coD_tup ?_ | refine coD_agg ?_ | refine coD_i ?_ | refine CoDL.cons ?_ ?_ | exact CoDL.nil | exact coI_nil | refine coI_sl ?_ | refine CoLL.cons ?_ ?_ | exact CoLL.nil | refine CoL.cons ?_ ?_ | exact CoL.nil | exact CoI.refl _ | exact CoL.refl _ | exact CoLL.refl _ | exact CoDL.refl _ | exact CoD.refl _)
end Go.AI


namespace Go.AI
open Go.Proofs
set_option maxRecDepth 20000
abbrev marksR (a : Aut) (l : List Int) : Bool := l.any fun x => decide (x ∈ a.marked)
theorem ref116 (O : List Heap) (a : Aut) (on un x y : List Int) (R : List (List Edg)) (d nm : Nat) (hm : a.marked.length ≤ max63) (hx : x.length ≤ max63) (hy : y.length ≤ max63) (ho : objAt O d nm = some (.box [.i (vptr a on un R)])) :
    ASpec Tryz.prog 116 [ints x, ints y, .own d nm 0 0] O (bb (marksR a x && !marksR a y)) [] O := by
  have h1 := fun O => marks58 O a on un x R hm hx
  have h2 := fun O => marks58 O a on un y R hm hy
  unfold marksR
  generalize (x.any fun x => decide (x ∈ a.marked)) = p at *
  generalize (y.any fun x => decide (x ∈ a.marked)) = q at *
  refine aspec_intro Tk Tryz.func116 rfl Tryz.call116 Tryz.ntmps116 (Nat.le_of_ble_eq_true rfl) fun E => ?_
  refine g_run Tk Tryz.func116 ?_
  first | refine g_obj Tk Tryz.func116 (up_obj ho) ?_ | refine s_obj Tk (up_obj ho) ?_
  first | refine g_call Tk Tryz.func116 (h1 _) rfl rfl rfl rfl rfl ?_ | refine s_callq Tk (fun _ => h1 _) rfl rfl rfl ?_
  first | refine g_cnd Tk Tryz.func116 rfl (fun c1 => ?_) (fun c1 => ?_) | refine g_know Tk Tryz.func116 rfl (fun c1 => ?_) (fun c1 => ?_) | refine s_know Tk (fun c1 => ?_) (fun c1 => ?_)
  · have c1 : p = true := c1
    subst c1
    first | refine g_obj Tk Tryz.func116 (up_obj ho) ?_ | refine s_obj Tk (up_obj ho) ?_
    first | refine g_call Tk Tryz.func116 (h2 _) rfl rfl rfl rfl rfl ?_ | refine s_callq Tk (fun _ => h2 _) rfl rfl rfl ?_
    refine g_ret Tk (r := bb (!q)) rfl rfl rfl trivial rfl rfl ?_
    simp
  · have c1 : p = false := c1
    subst c1
    refine g_ret Tk (r := bb false) rfl rfl rfl trivial rfl rfl ?_
    rfl
def badM (a : Aut) (x y : List Int) : Bool := marksR a x && !marksR a y
def refR (a : Aut) (on un : List Int) (n : Nat) (est : List Int) (s : Int) : Option (PS × List Int) := difR a on un n (badM a) est (clo a.edges (lowP on un false) n [s])
set_option maxHeartbeats 4000000 in
theorem refuted85 {g : Nat} (hg : IsTab g) {ty : TypeId} {fr : Nat × Nat} (O : List Heap) (a : Aut) (on un est : List Int) (s : Int) (n : Nat) (hn : n ≤ 5) (hes : ∀ x ∈ a.edges, 0 ≤ x.2.2 ∧ x.2.2 < (n : Int)) (hed : a.edges.length ≤ 1000000)
    (hal : a.alpha.length ≤ 1000000) (hmk : a.marked.length ≤ max63) (hon : on.length ≤ max63) (hun : un.length ≤ max63) (he : est ∈ subs n) (hs : 0 ≤ s ∧ s < (n : Int)) :
    ASpecT g (ptab ty fr) Tryz.prog 85 [.i (vptr a on un (outOf n a.edges)), ints est, ii s] O (difD (refR a on un n est s)) [] O := by
  have h1 := fun O => closure62 O a on un [s] false n (by omega) hes hed (by simpa using hs) (by simp) hon hun
  have hcs : clo a.edges (lowP on un false) n [s] ∈ subs n := sorted_subs _ _
  have h2 := fun O hp => differ61 hg (ty := ty) (fr := fr) O a on un est (clo a.edges (lowP on un false) n [s]) n 116 0 3 (badM a) hn hes hed hal hon hun he hcs hp
  unfold refR
  have hh : ∀ x ∈ subs n, x.length ≤ max63 := fun x hx => by have := (mem_subs hx).1; simp only [max63]; omega
  generalize difR a on un n (badM a) est (clo a.edges (lowP on un false) n [s]) = R at *
  generalize clo a.edges (lowP on un false) n [s] = cs at *
  rcases R with _ | ⟨z, w⟩
  · have h2 : ∀ O, _ → ASpecT g (ptab ty fr) Tryz.prog 61 _ O (.tup [ints [], bb false]) [] O := h2
    refine aspecT_stop [] Tk Tryz.func85 rfl Tryz.call85 Tryz.ntmps85 (Nat.le_of_ble_eq_true rfl) fun E hE => ?_
    refine g_run Tk Tryz.func85 ?_
    refine g_drawn Tk Tryz.func85 mixedT rfl ?_
    first | refine g_call Tk Tryz.func85 (h1 _) rfl rfl rfl rfl rfl ?_ | refine s_callq Tk (fun _ => h1 _) rfl rfl rfl ?_
    refine s_callT Tk hE (h2 _ fun x hx y hy H => ref116 _ a on un x y (outOf n a.edges) 1 3 hmk (hh x hx) (hh y hy) rfl) rfl rfl rfl rfl ?_
    refine e_done Tk Tryz.func85 (by kernel_rfl) ?_
    refine g_ret Tk (r := .tup [ints [], bb false]) rfl rfl rfl trivial rfl rfl ?_
    rfl
  · have h2 : ∀ O, _ → ASpecT g (ptab ty fr) Tryz.prog 61 _ O (.tup [ints w, bb true]) [] O := h2
    refine aspecT_stop [] Tk Tryz.func85 rfl Tryz.call85 Tryz.ntmps85 (Nat.le_of_ble_eq_true rfl) fun E hE => ?_
    refine g_run Tk Tryz.func85 ?_
    refine g_drawn Tk Tryz.func85 mixedT rfl ?_
    first | refine g_call Tk Tryz.func85 (h1 _) rfl rfl rfl rfl rfl ?_ | refine s_callq Tk (fun _ => h1 _) rfl rfl rfl ?_
    refine s_callT Tk hE (h2 _ fun x hx y hy H => ref116 _ a on un x y (outOf n a.edges) 1 3 hmk (hh x hx) (hh y hy) rfl) rfl rfl rfl rfl ?_
    refine e_done Tk Tryz.func85 (by kernel_rfl) ?_
    refine g_ret Tk (r := .tup [ints w, bb true]) rfl rfl rfl trivial rfl rfl ?_
    rfl
end Go.AI


namespace Go.AI
open Go.Proofs
set_option maxRecDepth 20000
theorem stp3_of : ∀ {es : List Edg}, es.Pairwise ltE → ∀ {e : Edg}, e ∈ es → stp3 es e.1 e.2.1 = e.2.2
  | [], _, e, h => by cases h
  | x :: r, hp, e, h => by
    rw [List.pairwise_cons] at hp
    unfold stp3
    rcases List.mem_cons.1 h with rfl | h
    · rw [if_pos ⟨rfl, rfl⟩]
    · have := hp.1 e h
      unfold ltE at this
      rw [if_neg (by omega)]
      exact stp3_of hp.2 h
abbrev OS := Int × List Int
def statesV (n : Nat) : List OS := ((List.range n).map fun (k : Nat) => (k : Int)).flatMap fun s => (subs n).map fun e => (s, e)
theorem mem_statesV {n : Nat} {y : OS} : y ∈ statesV n ↔ (0 ≤ y.1 ∧ y.1 < (n : Int)) ∧ y.2 ∈ subs n := by
  unfold statesV
  simp only [List.mem_flatMap, List.mem_map, List.mem_range]
  constructor
  · rintro ⟨s, ⟨k, hk, rfl⟩, e, he, rfl⟩
    exact ⟨⟨by simp only; omega, by simp only; omega⟩, he⟩
  · rintro ⟨⟨h1, h2⟩, h3⟩
    exact ⟨y.1, ⟨y.1.toNat, by omega, by omega⟩, y.2, h3, rfl⟩
theorem statesV_len {n : Nat} (h : n ≤ 5) : (statesV n).length ≤ 160 := by
  have e : ∀ (l : List Int) (m : List (List Int)), (l.flatMap fun a => m.map fun b => (a, b)).length = l.length * m.length := by
    intro l m
    induction l with
    | nil => simp
    | cons a r ih => rw [List.flatMap_cons, List.length_append, ih, List.length_map, List.length_cons, Nat.add_mul]; omega
  unfold statesV
  rw [e, subs_len, List.length_map, List.length_range]
  have : 2 ^ n ≤ 2 ^ 5 := Nat.pow_le_pow_right (by decide) h
  exact Nat.le_trans (Nat.mul_le_mul h this) (by decide)
def keyO (y : OS) : ByteArray := fkeyB [[y.1], y.2]
theorem keyO_inj {n : Nat} (hn : n ≤ 5) : ∀ a ∈ statesV n, ∀ b ∈ statesV n, keyO a = keyO b → a = b := by
  intro a ha b hb h
  have hs : ∀ l ∈ subs n, ∀ x ∈ l, (0 : Int) ≤ x ∧ x < 64 := fun l hl x hx => by have := (mem_subs hl).2 x hx; omega
  obtain ⟨a1, a2⟩ := mem_statesV.1 ha
  obtain ⟨b1, b2⟩ := mem_statesV.1 hb
  obtain ⟨e1, e2⟩ := fkey2_inj (a := [a.1]) (c := [b.1]) (by simp; omega) (hs _ a2) (by simp; omega) (hs _ b2) h
  exact Prod.ext (by simpa using e1) e2
abbrev plI (z : OS × List Int) : List I := [vi z.1.1, intsI z.1.2, intsI z.2]
abbrev opls (l : List (OS × List Int)) : Ob := .arr 108 3 l.length (l.map plI) true
theorem opls_app (l : List (OS × List Int)) (z : OS × List Int) : Ob.arr 108 3 (l.length + 1) (l.map plI ++ [plI z]) true = opls (l ++ [z]) := by simp
def nxO (es : List Edg) (on un : List Int) (n : Nat) (x : OS) (ev : Int) : OS := (stp3 es x.1 ev, if ev ∈ on then nxt es (lowP on un false) n x.2 ev else x.2)
def evO (es : List Edg) (x : OS) : List Int := (es.filter fun e => e.1 == x.1).map fun e => e.2.1
def badO (a : Aut) (on un : List Int) (n : Nat) (y : OS) : Bool := (refR a on un n y.2 y.1).isSome
def obsR (a : Aut) (on un : List Int) (n : Nat) : Option (OS × List Int) :=
  if n = 0 then none else bsr (nxO a.edges on un n) (fun _ => true) (evO a.edges) (badO a on un n) 4096 0 [((0, clo a.edges (lowP on un false) n [0]), [])]
def obsO (a : Aut) (on un : List Int) (n : Nat) : Option (OS × List Int) → List Int × List Int × Bool
  | none => ([], [], true)
  | some x => (x.2, (match refR a on un n x.1.2 x.1.1 with | some t => t.2 | none => []), false)
abbrev obD (x : List Int × List Int × Bool) : D := .tup [ints x.1, ints x.2.1, bb x.2.2]
set_option maxHeartbeats 8000000 in
theorem observer44 {g : Nat} (hg : IsTab g) {ty : TypeId} {fr : Nat × Nat} (O : List Heap) (a : Aut) (on un : List Int) (n : Nat) (hst : a.states = n) (hn : n ≤ 5) (hc : chkA a = 0) (h : smallA a) (hon : on.length ≤ max63) (hun : un.length ≤ max63) :
    ASpecT g (ptab ty fr) Tryz.prog 44 [.i (vptr a on un (outOf n a.edges))] O (obD (obsO a on un n (obsR a on un n))) [] O := by
  obtain ⟨r1, r2, _⟩ := chk_rng hc
  rw [hst] at r1 r2
  obtain ⟨_, _, _, c4⟩ := chk_parts hc
  have hpw := (chkEds_sorted c4).1
  have hed := h.ed
  have hal := h.al
  have hmk : a.marked.length ≤ max63 := by have := h.mkd; simp only [max63]; omega
  have hkey : ∀ s e, 0 ≤ s ∧ s < (n : Int) → e ∈ subs n → ∀ O, ASpecT g (ptab ty fr) Tryz.prog 84 [.i (intssI [[s], e])] O (.i (.v (.string (keyO (s, e))))) [] O := fun s e hs he O =>
    key84 hg O [[s], e] (by simp) (by simp) fun l hl => by
      simp only [List.mem_cons, List.not_mem_nil, or_false] at hl
      rcases hl with rfl | rfl
      · exact ⟨by simp, fun v hv => by rw [List.mem_singleton] at hv; subst hv; constructor <;> omega⟩
      · obtain ⟨h1, h2⟩ := mem_subs he
        exact ⟨by omega, fun v hv => by have := h2 v hv; constructor <;> omega⟩
  have hnext := fun x hx ev O => next72 O a on un x ev n (by omega) r2 hed (mem_subs hx).2 (by have := (mem_subs hx).1; omega) hon hun
  have hcl := fun O => closure62 O a on un [0] false n (by omega) r2 hed
  have hrf := fun O est s he hs => refuted85 hg (ty := ty) (fr := fr) O a on un est s n hn r2 hed hal hmk hon hun he hs
  have hhi := fun O x => high86 O a on un (outOf n a.edges) x hon
  have hinj := keyO_inj hn
  have hVl := statesV_len hn
  have hns : ∀ x ev, nxt a.edges (lowP on un false) n x ev ∈ subs n := fun x ev => sorted_subs _ _
  unfold obsR
  refine aspecT_stop [16, 18] Tk Tryz.func44 rfl Tryz.call44 Tryz.ntmps44 (Nat.le_of_ble_eq_true rfl) fun E hE => ?_
  refine g_run Tk Tryz.func44 ?_
  first | refine g_elem Tk Tryz.func44 (rfl) ?_ | refine s_elem Tk (rfl) ?_
  first | refine g_cnd Tk Tryz.func44 rfl (fun g1 => ?_) (fun g1 => ?_) | refine g_know Tk Tryz.func44 rfl (fun g1 => ?_) (fun g1 => ?_) | refine s_know Tk (fun g1 => ?_) (fun g1 => ?_)
  · have g1 : a.states = 0 := beqT g1
    have hn0 : n = 0 := by omega
    rw [if_pos hn0]
    refine g_ret_co Tk (r := .tup [.i (.v (.slice none 0 0)), .i (.v (.slice none 0 0)), bb true]) rfl rfl rfl trivial rfl rfl ?_
    repeat' (first | refine coD_tup ?_ | refine coD_agg ?_ | refine coD_i ?_ | refine CoDL.cons ?_ ?_ | exact CoDL.nil | exact coI_nil | refine coI_sl ?_ | refine CoLL.cons ?_ ?_ | exact CoLL.nil | refine CoL.cons ?_ ?_ | exact CoL.nil | exact CoI.refl _ | exact CoL.refl _ | exact CoLL.refl _ | exact CoDL.refl _ | exact CoD.refl _)
  have hn0 : n ≠ 0 := by
    have : a.states ≠ 0 := beqF g1
    omega
  rw [if_neg hn0]
  generalize hK : bsr (nxO a.edges on un n) (fun _ => true) (evO a.edges) (badO a on un n) 4096 0 [((0, clo a.edges (lowP on un false) n [0]), [])] = KK
  have hV0 : ((0, clo a.edges (lowP on un false) n [0]) : OS) ∈ statesV n := mem_statesV.2 ⟨by simp only; omega, sorted_subs _ _⟩
  have hcl0 := fun O => hcl O (by simp; omega) (by simp) hon hun
  have hB0 : bOk (statesV n) [((0, clo a.edges (lowP on un false) n [0]), ([] : List Int))] := bOk_one hV0
  have hk0 : keyOk (statesV n) keyO (mset [] (.string (keyO (0, clo a.edges (lowP on un false) n [0]))) true) [((0, clo a.edges (lowP on un false) n [0]), [])] := keyOk_one hinj hV0
  have hkey0 := fun O => hkey 0 (clo a.edges (lowP on un false) n [0]) (by omega) (sorted_subs _ _) O
  generalize clo a.edges (lowP on un false) n [0] = c0 at *
  first | refine g_call Tk Tryz.func44 (hcl0 _) rfl rfl rfl rfl rfl ?_ | refine s_callq Tk (fun _ => hcl0 _) rfl rfl rfl ?_
  first | refine g_need Tk Tryz.func44 (by exact ⟨by decide, by decide⟩) ?_ | refine s_need Tk (by exact ⟨by decide, by decide⟩) ?_
  first | refine g_elem Tk Tryz.func44 (rfl) ?_ | refine s_elem Tk (rfl) ?_
  refine g_callT Tk Tryz.func44 hE (hkey0 _) rfl rfl rfl rfl rfl rfl ?_
  refine g_loop ?_
  refine rch_wk (wk_ren 25 110 rfl rfl rfl) ?_
  refine rch_wk (wk_arrco 110 (ys := [plI ((0, c0), [])]) rfl rfl rfl (by simp; rfl) fun K vs h => ?_) ?_
  · have h : RepL K vs [vi 0, intsI c0, .v (.slice none 0 0)] := h
    show RepL K vs [vi 0, intsI c0, .sl 1 0 []]
    cases h with
    | cons h1 h => cases h with
      | cons h2 h => cases h with
        | cons h3 h =>
          cases h
          refine .cons h1 (.cons h2 (.cons ?_ .nil))
          cases h3
          exact .nil
  refine rch_loop2 (fun x : Nat × Nat × List (Value × Bool) × List (OS × List Int) => [(0, .i (vptr a on un (outOf n a.edges))), (5, .osl 0 110), (6, .osl 0 26), (7, ii x.1)])
    (fun x => [(110, opls x.2.2.2), (26, .mp .str (.b x.2.2.1))]) (fun _ => O) 112
    (fun x => x.1 ≤ x.2.2.2.length ∧ bOk (statesV n) x.2.2.2 ∧ keyOk (statesV n) keyO x.2.2.1 x.2.2.2 ∧ x.2.1 + x.1 = 4096 ∧ bsr (nxO a.edges on un n) (fun _ => true) (evO a.edges) (badO a on un n) x.2.1 x.1 x.2.2.2 = KK) (fun x => x.2.1) (0, 4096, mset [] (.string (keyO (0, c0))) true, [((0, c0), [])])
    ⟨Nat.zero_le _, hB0, hk0, rfl, hK⟩ ⟨rfl, rfl, rfl, rfl, trivial⟩ rfl ⟨rfl, rfl, trivial⟩ rfl rfl ?_
  clear hB0 hk0 hK hV0
  rintro ⟨i, fu, km, l⟩ ⟨hi, hb, hk, hf, hno⟩ ih
  simp only at hi hb hk hf hno
  have hll := bOk_len hb
  refine g_run Tk Tryz.func44 ?_
  first | refine g_cnd Tk Tryz.func44 rfl (fun g2 => ?_) (fun g2 => ?_) | refine g_know Tk Tryz.func44 rfl (fun g2 => ?_) (fun g2 => ?_) | refine s_know Tk (fun g2 => ?_) (fun g2 => ?_)
  · have h1 : i < l.length := by simpa using g2
    clear g2
    obtain ⟨fu, rfl⟩ : ∃ f', fu = f' + 1 := ⟨fu - 1, by omega⟩
    have hgi : l[i]? = some l[i] := List.getElem?_eq_getElem h1
    have gl : (l.map plI)[(i : Int).toNat]? = some (plI l[i]) := get_mapZ h1
    have hzV := mem_statesV.1 (hb.el _ (List.getElem_mem h1))
    simp only [bsr, hgi] at hno
    have hzw := hb.wl i _ hgi
    generalize l[i] = z at *
    obtain ⟨⟨zs, ze⟩, zw⟩ := z
    simp only at hno hzV hzw
    obtain ⟨⟨hs0, hs1⟩, heV⟩ := hzV
    obtain ⟨zs, rfl⟩ : ∃ k : Nat, zs = k := ⟨zs.toNat, by omega⟩
    have hrf1 := fun O => hrf O ze zs heV ⟨by omega, by omega⟩
    have hbd : badO a on un n ((zs : Int), ze) = (refR a on un n ze zs).isSome := rfl
    have hob : obsO a on un n (some (((zs : Int), ze), zw)) = (zw, (match refR a on un n ze zs with | some t => t.2 | none => []), false) := rfl
    first | refine g_need Tk Tryz.func44 (by exact ⟨by omega, by show (i : Int) < (l.length : Int); omega⟩) ?_ | refine s_need Tk (by exact ⟨by omega, by show (i : Int) < (l.length : Int); omega⟩) ?_
    first | refine g_elem Tk Tryz.func44 (gl) ?_ | refine s_elem Tk (gl) ?_
    generalize refR a on un n ze zs = rf at *
    rcases rf with _ | ⟨tz, tw⟩
    rotate_left
    · have hrf1 : ∀ O, ASpecT g (ptab ty fr) Tryz.prog 85 _ O (.tup [ints tw, bb true]) [] O := hrf1
      rw [if_pos (by rw [hbd]; rfl)] at hno
      subst hno
      rw [hob]
      refine g_callT Tk Tryz.func44 hE (hrf1 _) rfl rfl rfl rfl rfl rfl ?_
      repeat (first | refine gcT Tk Tryz.func44 rfl ?_ | refine gkT Tk Tryz.func44 rfl ?_ | refine skT Tk ?_ | refine gcF Tk Tryz.func44 rfl ?_ | refine gkF Tk Tryz.func44 rfl ?_ | refine skF Tk ?_)
      refine g_ret Tk (r := .tup [ints zw, ints tw, bb false]) rfl rfl rfl trivial rfl rfl ?_
      rfl
    have hrf1 : ∀ O, ASpecT g (ptab ty fr) Tryz.prog 85 _ O (.tup [ints [], bb false]) [] O := hrf1
    rw [if_neg (by rw [hbd]; simp)] at hno
    refine g_callT Tk Tryz.func44 hE (hrf1 _) rfl rfl rfl rfl rfl rfl ?_
    repeat (first | refine gcT Tk Tryz.func44 rfl ?_ | refine gkT Tk Tryz.func44 rfl ?_ | refine skT Tk ?_ | refine gcF Tk Tryz.func44 rfl ?_ | refine gkF Tk Tryz.func44 rfl ?_ | refine skF Tk ?_)
    have hsn' : zs < n := by omega
    have gr : ((outOf n a.edges).map fun r => [I.sl 3 r.length (r.map edgI)])[(zs : Int).toNat]? = some [I.sl 3 (a.edges.filter fun e => e.1 == (zs : Int)).length ((a.edges.filter fun e => e.1 == (zs : Int)).map edgI)] := by rw [Int.toNat_natCast, List.getElem?_map, outOf_get hsn']; rfl
    have hrb : ∀ x ∈ a.edges.filter (fun e => e.1 == (zs : Int)), (0 ≤ x.2.2 ∧ x.2.2 < (n : Int)) ∧ stp3 a.edges zs x.2.1 = x.2.2 := fun x hx => by
      obtain ⟨h1, h2⟩ := List.mem_filter.1 hx
      have h2 : x.1 = (zs : Int) := by simpa using h2
      exact ⟨r2 x h1, by rw [← h2]; exact stp3_of hpw h1⟩
    have hrl : (a.edges.filter fun e => e.1 == (zs : Int)).length ≤ 1000000 := Nat.le_trans (List.length_filter_le _ _) hed
    have hev : evO a.edges ((zs : Int), ze) = (a.edges.filter fun e => e.1 == (zs : Int)).map fun e => e.2.1 := rfl
    rw [hev] at hno
    generalize (a.edges.filter fun e => e.1 == (zs : Int)) = row at *
    refine g_drawn Tk Tryz.func44 mixedT rfl ?_
    first | refine g_elem Tk Tryz.func44 (rfl) ?_ | refine s_elem Tk (rfl) ?_
    first | refine g_need Tk Tryz.func44 (by exact ⟨by omega, by show (zs : Int) < ((outOf n a.edges).length : Int); rw [outOf_len]; omega⟩) ?_ | refine s_need Tk (by exact ⟨by omega, by show (zs : Int) < ((outOf n a.edges).length : Int); rw [outOf_len]; omega⟩) ?_
    first | refine g_elem Tk Tryz.func44 (gr) ?_ | refine s_elem Tk (gr) ?_
    refine e_done Tk Tryz.func44 (by kernel_rfl) ?_
    refine g_loop ?_
    refine rch_loop2 (fun x : Nat × List (Value × Bool) × List (OS × List Int) => [(0, .i (vptr a on un (outOf n a.edges))), (5, .osl 0 110), (6, .osl 0 26), (7, ii i), (8, .own 0 8 0 0), (65, edgs row), (66, ii row.length), (67, ii x.1)])
      (fun x => [(110, opls x.2.2), (26, .mp .str (.b x.2.1)), (8, .box [ii zs, ints ze, ints zw])]) (fun _ => O) 112
      (fun x => x.1 ≤ row.length ∧ bOk (statesV n) x.2.2 ∧ keyOk (statesV n) keyO x.2.1 x.2.2 ∧ i < x.2.2.length ∧ x.2.2[i]? = some (((zs : Int), ze), zw) ∧ bsr (nxO a.edges on un n) (fun _ => true) (evO a.edges) (badO a on un n) fu (i + 1) (bvis (nxO a.edges on un n) (fun _ => true) (((zs : Int), ze), zw) ((row.drop x.1).map fun e => e.2.1) x.2.2) = KK) (fun x => row.length - x.1) (0, km, l)
      ⟨Nat.zero_le _, hb, hk, h1, hgi, by simpa using hno⟩ ⟨rfl, rfl, rfl, rfl, rfl, rfl, rfl, rfl, trivial⟩ rfl ⟨rfl, rfl, rfl, trivial⟩ rfl rfl ?_
    clear hb hk hno hgi gl gr h1 hll hi
    rintro ⟨j, km, l⟩ ⟨hj, hb, hk, h1, hgi, hno⟩ ih2
    simp only at hj hb hk h1 hgi hno
    have hll := bOk_len hb
    have hj1 : ii (IntKind.i64.wrap ((j : Int) + 1)) = ii ((j + 1 : Nat) : Int) := congrArg ii (wsucc (n := 1000001) (by omega) (by decide))
    refine g_run Tk Tryz.func44 ?_
    first | refine g_cnd Tk Tryz.func44 rfl (fun g3 => ?_) (fun g3 => ?_) | refine g_know Tk Tryz.func44 rfl (fun g3 => ?_) (fun g3 => ?_) | refine s_know Tk (fun g3 => ?_) (fun g3 => ?_)
    · have h2 : j < row.length := by simpa using g3
      clear g3
      have ge : (row.map edgI)[(j : Int).toNat]? = some (edgI row[j]) := get_mapZ h2
      obtain ⟨hte, hse⟩ := hrb _ (List.getElem_mem h2)
      rw [List.drop_eq_getElem_cons h2, List.map_cons] at hno
      simp only [bvis] at hno
      generalize row[j] = e at *
      obtain ⟨ef, ee, et⟩ := e
      simp only at hno hte hse
      have hnx : nxO a.edges on un n ((zs : Int), ze) ee = (et, if ee ∈ on then nxt a.edges (lowP on un false) n ze ee else ze) := by simp only [nxO, hse]
      rw [hnx] at hno
      have hn1 := hnext ze heV ee
      have hnS : (if ee ∈ on then nxt a.edges (lowP on un false) n ze ee else ze) ∈ subs n := by
        split
        · exact hns _ _
        · exact heV
      obtain ⟨ne, hne⟩ : ∃ ne, (if ee ∈ on then nxt a.edges (lowP on un false) n ze ee else ze) = ne := ⟨_, rfl⟩
      rw [hne] at hno hnS
      have hsv : ((et, ne) : OS) ∈ statesV n := mem_statesV.2 ⟨hte, hnS⟩
      have hkk := hk _ hsv
      have hka := hkey et ne hte hnS
      have hh1 := fun O => hhi O ee
      first | refine g_need Tk Tryz.func44 (by exact ⟨by omega, by show (j : Int) < (row.length : Int); omega⟩) ?_ | refine s_need Tk (by exact ⟨by omega, by show (j : Int) < (row.length : Int); omega⟩) ?_
      first | refine g_elem Tk Tryz.func44 (ge) ?_ | refine s_elem Tk (ge) ?_
      refine g_drawn Tk Tryz.func44 mixedT rfl ?_
      first | refine g_call Tk Tryz.func44 (clone57 77 _ zw (by simp only [big]; omega)) rfl rfl rfl rfl rfl ?_ | refine s_callq Tk (fun _ => clone57 77 _ zw (by simp only [big]; omega)) rfl rfl rfl ?_
      refine s_old Tk ?_
      refine d_need Tk (by exact ⟨by show (zw.length + 1) * 8 ≤ 140737488355328; omega, by show zw.length + 1 ≤ 9223372036854775807; omega⟩) ?_
      refine d_mod Tk (p := ⟨[(81, .osl 0 81), (77, .dead)], [(81, .arr 3 1 (zw.length + 1) ((zw.map fun x => [vi x]) ++ [[vi ee]]) true)], some 77⟩) rfl rfl rfl ?_
      refine d_mod Tk (p := ⟨[], [(13, .box [ii et, ints ze, .osl 0 81])], none⟩) rfl rfl rfl ?_
      refine d_done Tk Tryz.func44 (by kernel_rfl) (GM.h ?_)
      have e81 : Ob.box [ii et, ints ze, .i (.sl 1 (zw.length + 1) ((zw.map fun x => [vi x]) ++ [[vi ee]]))] = .box [ii et, ints ze, ints (zw ++ [ee])] := by simp
      have hbo : (∀ z ∈ l, z.1 ≠ (et, ne)) → bOk (statesV n) (l ++ [((et, ne), zw ++ [ee])]) := fun h => bOk_app hb hgi hsv h ee
      generalize zw ++ [ee] = zw2 at *
      refine g_stop ?_
      refine rch_wk (wk_freeze 81 rfl rfl) ?_
      refine rch_wk (wk_imm rfl) ?_
      refine rch_wk (wk_cut (l := [(0, .i (vptr a on un (outOf n a.edges))), (5, .osl 0 110), (6, .osl 0 26), (7, ii i), (8, .own 0 8 0 0), (12, .own 0 12 0 0), (13, .own 0 13 0 0), (65, edgs row), (66, ii row.length), (67, ii j)])
        (Hv := [(110, opls l), (26, .mp .str (.b km)), (8, .box [ii zs, ints ze, ints zw]), (12, .box [ii ef, ii ee, ii et]), (13, .box [ii et, ints ze, ints zw2])]) ⟨rfl, rfl, rfl, rfl, rfl, rfl, rfl, rfl, rfl, rfl, trivial⟩ rfl ⟨rfl, rfl, rfl, rfl, congrArg some e81, trivial⟩ rfl rfl) ?_
      apply join_p (P := True) (s6 := { σ := [(0, .i (vptr a on un (outOf n a.edges))), (5, .osl 0 110), (6, .osl 0 26), (7, ii i), (8, .own 0 8 0 0), (12, .own 0 12 0 0), (13, .own 0 13 0 0), (65, edgs row), (66, ii row.length), (67, ii j)], S := [(110, opls l), (26, .mp .str (.b km)), (8, .box [ii zs, ints ze, ints zw]), (12, .box [ii ef, ii ee, ii et]), (13, .box [ii et, ints ne, ints zw2])] :: O, n := 112 })
      · intro J
        refine g_run Tk Tryz.func44 ?_
        refine g_go Tk Tryz.func44 ?_
        first | refine g_call Tk Tryz.func44 (hh1 _) rfl rfl rfl rfl rfl ?_ | refine s_callq Tk (fun _ => hh1 _) rfl rfl rfl ?_
        first | refine g_cnd Tk Tryz.func44 rfl (fun c1 => ?_) (fun c1 => ?_) | refine g_know Tk Tryz.func44 rfl (fun c1 => ?_) (fun c1 => ?_) | refine s_know Tk (fun c1 => ?_) (fun c1 => ?_)
        · have c1 : ee ∈ on := of_decide_eq_true c1
          rw [if_pos c1] at hne
          rw [hne] at hn1
          first | refine g_call Tk Tryz.func44 (hn1 _) rfl rfl rfl rfl rfl ?_ | refine s_callq Tk (fun _ => hn1 _) rfl rfl rfl ?_
          refine g_stop ?_
          refine rch_meet (J trivial) ⟨rfl, rfl, rfl, rfl, rfl, rfl, rfl, rfl, rfl, rfl, trivial⟩ rfl ⟨rfl, rfl, rfl, rfl, rfl, trivial⟩ rfl rfl
        · have c1 : ee ∉ on := of_decide_eq_false c1
          rw [if_neg c1] at hne
          subst hne
          refine g_stop ?_
          refine rch_meet (J trivial) ⟨rfl, rfl, rfl, rfl, rfl, rfl, rfl, rfl, rfl, rfl, trivial⟩ rfl ⟨rfl, rfl, rfl, rfl, rfl, trivial⟩ rfl rfl
      intro _
      refine g_run Tk Tryz.func44 ?_
      refine g_go Tk Tryz.func44 ?_
      refine g_callT Tk Tryz.func44 hE (hka _) rfl rfl rfl rfl rfl rfl ?_
      first | refine g_cnd Tk Tryz.func44 rfl (fun c3 => ?_) (fun c3 => ?_) | refine g_know Tk Tryz.func44 rfl (fun c3 => ?_) (fun c3 => ?_) | refine s_know Tk (fun c3 => ?_) (fun c3 => ?_)
      · have c3 : mgetB km (.string (keyO (et, ne))) = false := notT c3
        rw [hkk] at c3
        have c3 : ∀ z ∈ l, z.1 ≠ (et, ne) := fun z hz e => of_decide_eq_false c3 ⟨z, hz, e⟩
        rw [if_pos ⟨trivial, c3⟩] at hno
        first | refine g_need Tk Tryz.func44 (by exact ⟨by show (l.length + 1) * 56 ≤ 140737488355328; omega, by show l.length + 1 ≤ 9223372036854775807; omega⟩) ?_ | refine s_need Tk (by exact ⟨by show (l.length + 1) * 56 ≤ 140737488355328; omega, by show l.length + 1 ≤ 9223372036854775807; omega⟩) ?_
        refine g_loop ?_
        refine ih2 (j + 1, mset km (.string (keyO (et, ne))) true, l ++ [((et, ne), zw2)]) _ _ ⟨h2, hbo c3, keyOk_app hinj hk hsv _, by rw [List.length_append]; omega, by rw [List.getElem?_append_left h1]; exact hgi, hno⟩ (by simp only; omega) ⟨rfl, rfl, rfl, rfl, rfl, rfl, rfl, hj1, trivial⟩ rfl ⟨congrArg some (opls_app l ((et, ne), zw2)), rfl, rfl, trivial⟩ rfl rfl
      · have c3 : mgetB km (.string (keyO (et, ne))) = true := notF c3
        rw [hkk] at c3
        obtain ⟨z, hz, hze⟩ := of_decide_eq_true c3
        rw [if_neg (fun h => h.2 z hz hze)] at hno
        refine g_loop ?_
        exact ih2 (j + 1, km, l) _ _ ⟨h2, hb, hk, h1, hgi, hno⟩ (by simp only; omega) ⟨rfl, rfl, rfl, rfl, rfl, rfl, rfl, hj1, trivial⟩ rfl ⟨rfl, rfl, rfl, trivial⟩ rfl rfl
    · have h2 : row.length ≤ j := by simpa using g3
      rw [List.drop_eq_nil_of_le h2] at hno
      simp only [bvis, List.map_nil] at hno
      refine g_loop ?_
      exact ih (i + 1, fu, km, l) _ _ ⟨h1, hb, hk, by simp only; omega, hno⟩ (by simp only; omega) ⟨rfl, rfl, rfl, congrArg ii (wsucc (n := 5000) (by omega) (by decide)), trivial⟩ rfl ⟨rfl, rfl, trivial⟩ rfl rfl
  · have h1 : l.length ≤ i := by simpa using g2
    rw [bsr_done h1] at hno
    subst hno
    refine g_ret_co Tk (r := .tup [.i (.v (.slice none 0 0)), .i (.v (.slice none 0 0)), bb true]) rfl rfl rfl trivial rfl rfl ?_
    repeat' (first | refine coD_tup ?_ | refine coD_agg ?_ | refine coD_i ?_ | refine CoDL.cons ?_ ?_ | exact CoDL.nil | exact coI_nil | refine coI_sl ?_ | refine CoLL.cons ?_ ?_ | exact CoLL.nil | refine CoL.cons ?_ ?_ | exact CoL.nil | exact CoI.refl _ | exact CoL.refl _ | exact CoLL.refl _ | exact CoDL.refl _ | exact CoD.refl _)
end Go.AI


namespace Go.AI
open Go.Proofs
set_option maxRecDepth 20000
theorem coNil {P : Program} {f : FuncId} {x y : D} {O O' : List Heap} {res : D} {Hr : Heap} (h : ASpec P f [x, y, ints []] O res Hr O') : ASpec P f [x, y, .i (.v (.slice none 0 0))] O res Hr O' :=
  ASpec.co h (.cons (CoD.refl _) (.cons (CoD.refl _) (.cons (coD_i coI_nil) .nil)))
set_option maxHeartbeats 4000000 in
theorem observer17 {g : Nat} (hg : IsTab g) {ty : TypeId} {fr : Nat × Nat} (O : List Heap) (a : Aut) (on : List Int) (n : Nat) (hst : a.states = n) (hn : n ≤ 5) (h : smallA a) (hon : on.length ≤ max63) (he : opE a on [] = 0) :
    ASpecT g (ptab ty fr) Tryz.prog 17 [autD a, ints on] O (.tup [ints (obsO a on [] n (obsR a on [] n)).1, ints (obsO a on [] n (obsR a on [] n)).2.1, bb (obsO a on [] n (obsR a on [] n)).2.2, ii 0]) [] O := by
  have h1 := fun O => coNil (opened42 O a on [] n hst (by omega) h hon (by simp) he)
  have hc : chkA a = 0 := by
    unfold opE at he
    by_cases c : chkA a = 0
    · exact c
    · rw [if_pos c] at he; exact he
  have h2 := fun O => observer44 hg (ty := ty) (fr := fr) O a on [] n hst hn hc h hon (by simp)
  have e : outOf a.states.toNat a.edges = outOf n a.edges := by rw [hst]; rfl
  have h1 : ∀ O, ASpec Tryz.prog 42 [autD a, ints on, .i (.v (.slice none 0 0))] O (.tup [.i (vptr a on [] (outOf n a.edges)), ii 0]) [] O := fun O => by
    have := h1 O
    unfold viewD viewI at this
    rw [e] at this
    exact this
  generalize obsO a on [] n (obsR a on [] n) = R at *
  obtain ⟨rw, rt, rb⟩ := R
  unfold vptr at h1 h2
  generalize [[intsI a.alpha, vi a.states, intsI a.marked, .sl 3 a.edges.length (a.edges.map edgI), intsI on, intsI [], rowsI (outOf n a.edges)]] = VP at *
  obtain ⟨al, st, mk, es⟩ := a
  refine aspecT_stop [] Tk Tryz.func17 rfl Tryz.call17 Tryz.ntmps17 (Nat.le_of_ble_eq_true rfl) fun E hE => ?_
  refine g_run Tk Tryz.func17 ?_
  first | refine g_call Tk Tryz.func17 (h1 _) rfl rfl rfl rfl rfl ?_ | refine s_callq Tk (fun _ => h1 _) rfl rfl rfl ?_
  first | refine gcF Tk Tryz.func17 rfl ?_ | refine gkF Tk Tryz.func17 rfl ?_ | refine skF Tk ?_
  refine g_callT Tk Tryz.func17 hE (h2 _) rfl rfl rfl rfl rfl rfl ?_
  refine g_ret Tk (r := .tup [ints rw, ints rt, bb rb, ii 0]) rfl rfl rfl trivial rfl rfl ?_
  rfl
end Go.AI


namespace Go.AI
open Go.Proofs
set_option maxRecDepth 20000
abbrev edD (e : Edg) : D := .agg [ii e.1, ii e.2.1, ii e.2.2]
theorem idx91c (O : List Heap) (l : List Int) (f d n1 n2 : Nat) (p : Int → Bool) (hl : l.length ≤ max63) (hp : ∀ x ∈ l, ASpec Tryz.prog f [ii x, .own (d + 1) n1 0 0, .own (d + 1) n2 0 0] ([] :: O) (bb (p x)) [] ([] :: O)) :
    ASpec Tryz.prog 91 [ints l, .fn (.func f) [] [.own d n1 0 0, .own d n2 0 0]] O (ii (findIx p l 0)) [] O := by
  generalize hR : findIx p l 0 = R
  refine aspec_intro Tk Tryz.func91 rfl Tryz.call91 Tryz.ntmps91 (Nat.le_of_ble_eq_true rfl) fun E => ?_
  refine g_run Tk Tryz.func91 ?_
  refine g_loop ?_
  refine rch_loop2 (fun i : Nat => [(0, ints l), (1, .fn (.func f) [] [.own (d + 1) n1 0 0, .own (d + 1) n2 0 0]), (7, ii l.length), (8, ii i)]) (fun _ => []) (fun _ => O) 19
    (fun i => i ≤ l.length ∧ findIx p (l.drop i) i = R) (fun i => l.length - i) 0 ⟨Nat.zero_le _, hR⟩ ⟨rfl, rfl, rfl, rfl, trivial⟩ rfl trivial rfl rfl ?_
  rintro i ⟨hi, hno⟩ ih
  clear hR
  refine g_run Tk Tryz.func91 ?_
  first | refine g_cnd Tk Tryz.func91 rfl (fun g1 => ?_) (fun g1 => ?_) | refine g_know Tk Tryz.func91 rfl (fun g1 => ?_) (fun g1 => ?_) | refine s_know Tk (fun g1 => ?_) (fun g1 => ?_)
  · have h1 : i < l.length := by simpa using g1
    have gs : (l.map fun x => [vi x])[(i : Int).toNat]? = some ([vi l[i]]) := get_mapZ (f := fun x => [vi x]) h1
    have hps := hp l[i] (List.getElem_mem h1)
    have hd : l.drop i = l[i] :: l.drop (i + 1) := List.drop_eq_getElem_cons h1
    rw [hd] at hno
    simp only [findIx] at hno
    clear hd
    generalize l[i] = s at *
    first | refine g_need Tk Tryz.func91 (by exact ⟨by omega, by show (i : Int) < (l.length : Int); omega⟩) ?_ | refine s_need Tk (by exact ⟨by omega, by show (i : Int) < (l.length : Int); omega⟩) ?_
    first | refine g_elem Tk Tryz.func91 (gs) ?_ | refine s_elem Tk (gs) ?_
    first | refine g_call Tk Tryz.func91 (hps) rfl rfl rfl rfl rfl ?_ | refine s_callq Tk (fun _ => hps) rfl rfl rfl ?_
    first | refine g_cnd Tk Tryz.func91 rfl (fun g2 => ?_) (fun g2 => ?_) | refine g_know Tk Tryz.func91 rfl (fun g2 => ?_) (fun g2 => ?_) | refine s_know Tk (fun g2 => ?_) (fun g2 => ?_)
    · rw [if_pos g2] at hno
      subst hno
      refine g_ret Tk (r := ii (i : Int)) rfl rfl rfl trivial rfl rfl ?_
      rfl
    · rw [if_neg (by rw [g2]; simp)] at hno
      refine g_loop ?_
      exact ih (i + 1) _ _ ⟨h1, hno⟩ (by omega) ⟨rfl, rfl, rfl, congrArg ii (wsucc h1 hl), trivial⟩ rfl trivial rfl rfl
  · have h1 : l.length ≤ i := by simpa using g1
    rw [List.drop_eq_nil_of_le h1] at hno
    simp only [findIx] at hno
    subst hno
    refine g_ret Tk (r := ii (-1)) rfl rfl rfl trivial rfl rfl ?_
    rfl
theorem idx95 (O : List Heap) (l : List Edg) (f d n1 : Nat) (p : Edg → Bool) (hl : l.length ≤ max63) (hp : ∀ x ∈ l, ASpec Tryz.prog f [edD x, .own (d + 1) n1 0 0] ([] :: O) (bb (p x)) [] ([] :: O)) :
    ASpec Tryz.prog 95 [edgs l, .fn (.func f) [] [.own d n1 0 0]] O (ii (findIx p l 0)) [] O := by
  generalize hR : findIx p l 0 = R
  refine aspec_intro Tk Tryz.func95 rfl Tryz.call95 Tryz.ntmps95 (Nat.le_of_ble_eq_true rfl) fun E => ?_
  refine g_run Tk Tryz.func95 ?_
  refine g_loop ?_
  refine rch_loop2 (fun i : Nat => [(0, edgs l), (1, .fn (.func f) [] [.own (d + 1) n1 0 0]), (7, ii l.length), (8, ii i)]) (fun _ => []) (fun _ => O) 19
    (fun i => i ≤ l.length ∧ findIx p (l.drop i) i = R) (fun i => l.length - i) 0 ⟨Nat.zero_le _, hR⟩ ⟨rfl, rfl, rfl, rfl, trivial⟩ rfl trivial rfl rfl ?_
  rintro i ⟨hi, hno⟩ ih
  clear hR
  refine g_run Tk Tryz.func95 ?_
  first | refine g_cnd Tk Tryz.func95 rfl (fun g1 => ?_) (fun g1 => ?_) | refine g_know Tk Tryz.func95 rfl (fun g1 => ?_) (fun g1 => ?_) | refine s_know Tk (fun g1 => ?_) (fun g1 => ?_)
  · have h1 : i < l.length := by simpa using g1
    have gs : (l.map edgI)[(i : Int).toNat]? = some (edgI l[i]) := get_mapZ h1
    have hps := hp l[i] (List.getElem_mem h1)
    have hd : l.drop i = l[i] :: l.drop (i + 1) := List.drop_eq_getElem_cons h1
    rw [hd] at hno
    simp only [findIx] at hno
    clear hd
    generalize l[i] = s at *
    first | refine g_need Tk Tryz.func95 (by exact ⟨by omega, by show (i : Int) < (l.length : Int); omega⟩) ?_ | refine s_need Tk (by exact ⟨by omega, by show (i : Int) < (l.length : Int); omega⟩) ?_
    first | refine g_elem Tk Tryz.func95 (gs) ?_ | refine s_elem Tk (gs) ?_
    first | refine g_call Tk Tryz.func95 (hps) rfl rfl rfl rfl rfl ?_ | refine s_callq Tk (fun _ => hps) rfl rfl rfl ?_
    first | refine g_cnd Tk Tryz.func95 rfl (fun g2 => ?_) (fun g2 => ?_) | refine g_know Tk Tryz.func95 rfl (fun g2 => ?_) (fun g2 => ?_) | refine s_know Tk (fun g2 => ?_) (fun g2 => ?_)
    · rw [if_pos g2] at hno
      subst hno
      refine g_ret Tk (r := ii (i : Int)) rfl rfl rfl trivial rfl rfl ?_
      rfl
    · rw [if_neg (by rw [g2]; simp)] at hno
      refine g_loop ?_
      exact ih (i + 1) _ _ ⟨h1, hno⟩ (by omega) ⟨rfl, rfl, rfl, congrArg ii (wsucc h1 hl), trivial⟩ rfl trivial rfl rfl
  · have h1 : l.length ≤ i := by simpa using g1
    rw [List.drop_eq_nil_of_le h1] at hno
    simp only [findIx] at hno
    subst hno
    refine g_ret Tk (r := ii (-1)) rfl rfl rfl trivial rfl rfl ?_
    rfl
theorem cf70c (O : List Heap) (l : List Int) (f d n1 n2 : Nat) (p : Int → Bool) (hl : l.length ≤ max63) (hp : ∀ x ∈ l, ASpec Tryz.prog f [ii x, .own (d + 2) n1 0 0, .own (d + 2) n2 0 0] ([] :: [] :: O) (bb (p x)) [] ([] :: [] :: O)) :
    ASpec Tryz.prog 70 [ints l, .fn (.func f) [] [.own d n1 0 0, .own d n2 0 0]] O (bb (l.any p)) [] O := by
  rw [← findIx_any p l 0]
  have h := idx91c ([] :: O) l f (d + 1) n1 n2 p hl hp
  refine aspec_intro Tk Tryz.func70 rfl Tryz.call70 Tryz.ntmps70 (Nat.le_of_ble_eq_true rfl) fun E => ?_
  refine g_run Tk Tryz.func70 ?_
  first | refine g_call Tk Tryz.func70 (h) rfl rfl rfl rfl rfl ?_ | refine s_callq Tk (fun _ => h) rfl rfl rfl ?_
  refine g_ret Tk (r := bb (decide (findIx p l 0 ≥ 0))) rfl rfl rfl trivial rfl rfl ?_
  rfl
theorem cf99 (O : List Heap) (l : List Edg) (f d n1 : Nat) (p : Edg → Bool) (hl : l.length ≤ max63) (hp : ∀ x ∈ l, ASpec Tryz.prog f [edD x, .own (d + 2) n1 0 0] ([] :: [] :: O) (bb (p x)) [] ([] :: [] :: O)) :
    ASpec Tryz.prog 99 [edgs l, .fn (.func f) [] [.own d n1 0 0]] O (bb (l.any p)) [] O := by
  rw [← findIx_any p l 0]
  have h := idx95 ([] :: O) l f (d + 1) n1 p hl hp
  refine aspec_intro Tk Tryz.func99 rfl Tryz.call99 Tryz.ntmps99 (Nat.le_of_ble_eq_true rfl) fun E => ?_
  refine g_run Tk Tryz.func99 ?_
  first | refine g_call Tk Tryz.func99 (h) rfl rfl rfl rfl rfl ?_ | refine s_callq Tk (fun _ => h) rfl rfl rfl ?_
  refine g_ret Tk (r := bb (decide (findIx p l 0 ≥ 0))) rfl rfl rfl trivial rfl rfl ?_
  rfl
theorem con100 (O : List Heap) (x : Edg) (ev : Int) (d nm : Nat) (ho : objAt O d nm = some (.box [ii ev])) : ASpec Tryz.prog 100 [edD x, .own d nm 0 0] O (bb (x.2.1 == ev)) [] O := by
  obtain ⟨xf, xe, xt⟩ := x
  refine aspec_intro Tk Tryz.func100 rfl Tryz.call100 Tryz.ntmps100 (Nat.le_of_ble_eq_true rfl) fun E => ?_
  refine g_run Tk Tryz.func100 ?_
  first | refine g_obj Tk Tryz.func100 (up_obj ho) ?_ | refine s_obj Tk (up_obj ho) ?_
  refine g_ret Tk (r := bb (xe == ev)) rfl rfl rfl trivial rfl rfl ?_
  rfl
theorem con98 (O : List Heap) (a : Aut) (on un : List Int) (n : Nat) (s ev : Int) (d n1 n2 : Nat) (hs : 0 ≤ s ∧ s < (n : Int)) (hed : a.edges.length ≤ 1000000) (h1 : objAt O d n1 = some (.box [.i (vptr a on un (outOf n a.edges))])) (h2 : objAt O d n2 = some (.box [ii ev])) :
    ASpec Tryz.prog 98 [ii s, .own d n1 0 0, .own d n2 0 0] O (bb ((a.edges.filter fun e => e.1 == s).any fun e => e.2.1 == ev)) [] O := by
  obtain ⟨s, rfl⟩ : ∃ k : Nat, s = k := ⟨s.toNat, by omega⟩
  have hsn' : s < n := by omega
  have gr : ((outOf n a.edges).map fun r => [I.sl 3 r.length (r.map edgI)])[(s : Int).toNat]? = some [I.sl 3 (a.edges.filter fun e => e.1 == (s : Int)).length ((a.edges.filter fun e => e.1 == (s : Int)).map edgI)] := by rw [Int.toNat_natCast, List.getElem?_map, outOf_get hsn']; rfl
  have hrl : (a.edges.filter fun e => e.1 == (s : Int)).length ≤ max63 := Nat.le_trans (List.length_filter_le _ _) (by simp only [max63]; omega)
  generalize (a.edges.filter fun e => e.1 == (s : Int)) = row at *
  have hc := fun O d' (h : objAt O d' n2 = some (.box [ii ev])) => cf99 O row 100 d' n2 (fun e => e.2.1 == ev) hrl fun x _ => con100 _ x ev (d' + 2) n2 (up_obj (up_obj h))
  refine aspec_intro Tk Tryz.func98 rfl Tryz.call98 Tryz.ntmps98 (Nat.le_of_ble_eq_true rfl) fun E => ?_
  refine g_run Tk Tryz.func98 ?_
  first | refine g_obj Tk Tryz.func98 (up_obj h1) ?_ | refine s_obj Tk (up_obj h1) ?_
  first | refine g_elem Tk Tryz.func98 (rfl) ?_ | refine s_elem Tk (rfl) ?_
  first | refine g_need Tk Tryz.func98 (by exact ⟨by omega, by show (s : Int) < ((outOf n a.edges).length : Int); rw [outOf_len]; omega⟩) ?_ | refine s_need Tk (by exact ⟨by omega, by show (s : Int) < ((outOf n a.edges).length : Int); rw [outOf_len]; omega⟩) ?_
  first | refine g_elem Tk Tryz.func98 (gr) ?_ | refine s_elem Tk (gr) ?_
  first | refine g_call Tk Tryz.func98 (hc _ _ (up_obj h2)) rfl rfl rfl rfl rfl ?_ | refine s_callq Tk (fun _ => hc _ _ (up_obj h2)) rfl rfl rfl ?_
  refine g_ret Tk (r := bb (row.any fun e => e.2.1 == ev)) rfl rfl rfl trivial rfl rfl ?_
  rfl
def enabR (es : List Edg) (l : List Int) (ev : Int) : Bool := l.any fun s => (es.filter fun e => e.1 == s).any fun e => e.2.1 == ev
theorem con97 (O : List Heap) (a : Aut) (on un l : List Int) (n : Nat) (ev : Int) (d n1 n2 : Nat) (hl : ∀ x ∈ l, 0 ≤ x ∧ x < (n : Int)) (hll : l.length ≤ max63) (hed : a.edges.length ≤ 1000000) (h1 : objAt O d n1 = some (.box [.i (vptr a on un (outOf n a.edges))])) (h2 : objAt O d n2 = some (.box [ii ev])) :
    ASpec Tryz.prog 97 [ints l, .own d n1 0 0, .own d n2 0 0] O (bb (enabR a.edges l ev)) [] O := by
  have h := cf70c ([] :: O) l 98 (d + 1) n1 n2 (fun s => (a.edges.filter fun e => e.1 == s).any fun e => e.2.1 == ev) hll fun x hx => con98 _ a on un n x ev (d + 3) n1 n2 (hl x hx) hed (up_obj (up_obj (up_obj h1))) (up_obj (up_obj (up_obj h2)))
  unfold enabR
  refine aspec_intro Tk Tryz.func97 rfl Tryz.call97 Tryz.ntmps97 (Nat.le_of_ble_eq_true rfl) fun E => ?_
  refine g_run Tk Tryz.func97 ?_
  first | refine g_call Tk Tryz.func97 (h) rfl rfl rfl rfl rfl ?_ | refine s_callq Tk (fun _ => h) rfl rfl rfl ?_
  refine g_ret Tk (r := bb (l.any fun s => (a.edges.filter fun e => e.1 == s).any fun e => e.2.1 == ev)) rfl rfl rfl trivial rfl rfl ?_
  rfl
def conR (a : Aut) (on un : List Int) (n : Nat) (s ev : Int) : Bool := decide (ev ∈ on) && decide (ev ∈ un) && (enabR a.edges (clo a.edges (lowP on un false) n [s]) ev && !enabR a.edges (clo a.edges (lowP on un true) n [s]) ev)
set_option maxHeartbeats 4000000 in
theorem contradicted68 (O : List Heap) (a : Aut) (on un : List Int) (n : Nat) (s ev : Int) (hn : n ≤ 4096) (hs : 0 ≤ s ∧ s < (n : Int)) (hes : ∀ x ∈ a.edges, 0 ≤ x.2.2 ∧ x.2.2 < (n : Int)) (hed : a.edges.length ≤ 1000000) (hon : on.length ≤ max63) (hun : un.length ≤ max63) :
    ASpec Tryz.prog 68 [.i (vptr a on un (outOf n a.edges)), ii s, ii ev] O (bb (conR a on un n s ev)) [] O := by
  have hcl := fun O b => closure62 O a on un [s] b n hn hes hed (by simpa using hs) (by simp) hon hun
  have hcb : ∀ p, (∀ x ∈ clo a.edges p n [s], 0 ≤ x ∧ x < (n : Int)) ∧ (clo a.edges p n [s]).length ≤ max63 := fun p => ⟨fun x hx => (mem_sortedBelow.1 hx).1, Nat.le_trans (sortedBelow_len _ _) (by simp only [max63]; omega)⟩
  have h7 := fun O l b1 b2 => con97 O a on un l n ev 0 3 5 b1 b2 hed
  have hhi := fun O => high86 O a on un (outOf n a.edges) ev hon
  have hco := fun O => contains110 O un ev hun
  have hf0 := fun O => hcl O false
  have hf1 := fun O => hcl O true
  obtain ⟨b0, b1⟩ := hcb (lowP on un false)
  obtain ⟨b2, b3⟩ := hcb (lowP on un true)
  unfold conR
  generalize clo a.edges (lowP on un false) n [s] = c0 at *
  generalize clo a.edges (lowP on un true) n [s] = c1 at *
  have h70 := fun O => h7 O c0 b0 b1
  have h71 := fun O => h7 O c1 b2 b3
  generalize enabR a.edges c0 ev = p0 at *
  generalize enabR a.edges c1 ev = p1 at *
  refine aspec_intro Tk Tryz.func68 rfl Tryz.call68 Tryz.ntmps68 (Nat.le_of_ble_eq_true rfl) fun E => ?_
  refine g_run Tk Tryz.func68 ?_
  refine g_drawn Tk Tryz.func68 mixedT rfl ?_
  first | refine g_call Tk Tryz.func68 (hhi _) rfl rfl rfl rfl rfl ?_ | refine s_callq Tk (fun _ => hhi _) rfl rfl rfl ?_
  first | refine g_cnd Tk Tryz.func68 rfl (fun q1 => ?_) (fun q1 => ?_) | refine g_know Tk Tryz.func68 rfl (fun q1 => ?_) (fun q1 => ?_) | refine s_know Tk (fun q1 => ?_) (fun q1 => ?_)
  · have q1 : ev ∉ on := of_decide_eq_false (notT q1)
    refine e_done Tk Tryz.func68 (by kernel_rfl) ?_
    repeat (first | refine gcT Tk Tryz.func68 rfl ?_ | refine gkT Tk Tryz.func68 rfl ?_ | refine skT Tk ?_ | refine gcF Tk Tryz.func68 rfl ?_ | refine gkF Tk Tryz.func68 rfl ?_ | refine skF Tk ?_)
    refine g_ret Tk (r := bb false) rfl rfl rfl trivial rfl rfl ?_
    simp [q1]
  have q1 : ev ∈ on := of_decide_eq_true (notF q1)
  first | refine g_elem Tk Tryz.func68 (rfl) ?_ | refine s_elem Tk (rfl) ?_
  first | refine g_call Tk Tryz.func68 (hco _) rfl rfl rfl rfl rfl ?_ | refine s_callq Tk (fun _ => hco _) rfl rfl rfl ?_
  refine e_done Tk Tryz.func68 (by kernel_rfl) ?_
  first | refine g_cnd Tk Tryz.func68 rfl (fun q2 => ?_) (fun q2 => ?_) | refine g_know Tk Tryz.func68 rfl (fun q2 => ?_) (fun q2 => ?_) | refine s_know Tk (fun q2 => ?_) (fun q2 => ?_)
  · have q2 : ev ∉ un := of_decide_eq_false (notT q2)
    refine g_ret Tk (r := bb false) rfl rfl rfl trivial rfl rfl ?_
    simp [q2]
  have q2 : ev ∈ un := of_decide_eq_true (notF q2)
  first | refine g_call Tk Tryz.func68 (hf0 _) rfl rfl rfl rfl rfl ?_ | refine s_callq Tk (fun _ => hf0 _) rfl rfl rfl ?_
  first | refine g_call Tk Tryz.func68 (h70 _ rfl rfl) rfl rfl rfl rfl rfl ?_ | refine s_callq Tk (fun _ => h70 _ rfl rfl) rfl rfl rfl ?_
  first | refine g_cnd Tk Tryz.func68 rfl (fun q3 => ?_) (fun q3 => ?_) | refine g_know Tk Tryz.func68 rfl (fun q3 => ?_) (fun q3 => ?_) | refine s_know Tk (fun q3 => ?_) (fun q3 => ?_)
  · have q3 : p0 = true := q3
    subst q3
    first | refine g_call Tk Tryz.func68 (hf1 _) rfl rfl rfl rfl rfl ?_ | refine s_callq Tk (fun _ => hf1 _) rfl rfl rfl ?_
    first | refine g_call Tk Tryz.func68 (h71 _ rfl rfl) rfl rfl rfl rfl rfl ?_ | refine s_callq Tk (fun _ => h71 _ rfl rfl) rfl rfl rfl ?_
    refine g_ret Tk (r := bb (!p1)) rfl rfl rfl trivial rfl rfl ?_
    simp [q1, q2]
  · have q3 : p0 = false := q3
    subst q3
    refine g_ret Tk (r := bb false) rfl rfl rfl trivial rfl rfl ?_
    simp
end Go.AI


namespace Go.AI
section
variable {c : Cx} {ops : Array Oper} {O : List Heap} {n : Nat} {F : SH → List Pl → Prop}
def frPl (p : Pl) (t ty es m : Nat) (xs : List (List I)) : Pl := ⟨(t, .i (.sl es m xs)) :: p.sets, [(t, .arr ty es m xs false)], p.rem⟩
theorem stepOK_freeze {o : Oper} {v : SH} {p : Pl} {t ty es m : Nat} {xs : List (List I)} (hs : look p.sets t = some (.osl 0 t)) (ha : p.adds = [(t, .arr ty es m xs true)]) (h : StepOK c ops O n o v p) : StepOK c ops O n o v (frPl p t ty es m xs) := by
  rcases h with ⟨_, t', _, _, rfl⟩ | ⟨hw, h⟩
  · cases ha
  · refine .inr ⟨hw, fun E hE K ρ a w hi next Qe hn => h E hE K ρ a w hi next Qe fun val w' σ' K' ρ' hle hk hi' hlk => ?_⟩
    have hh := hi'.h
    have ho : look (p.adds ++ rmv p.rem v.2) t = some (.arr ty es m xs true) := by rw [ha]; simp [look_cons]
    obtain ⟨K2, hle2, hI⟩ := hh.freeze ho
    have hl : ∀ nm, look ((t, Ob.arr ty es m xs false) :: rmv p.rem v.2) nm = look ((t, Ob.arr ty es m xs false) :: (p.adds ++ rmv p.rem v.2)) nm := by
      intro nm
      rw [ha]
      simp only [List.singleton_append, look_cons]
      by_cases e : t = nm
      · simp [e]
      · simp [e]
    have hI2 : HInv E K2 ρ' (((t, Ob.arr ty es m xs false) :: rmv p.rem v.2) :: O) w' := hI.same hl
    have hsh : shape (((t, Ob.arr ty es m xs false) :: rmv p.rem v.2) :: O) = shape ((p.adds ++ rmv p.rem v.2) :: O) := by
      rw [shape_same (O := O) hl]
      exact shape_over ho rfl
    have hS : (frPl p t ty es m xs).adds ++ rmv (frPl p t ty es m xs).rem v.2 = (t, Ob.arr ty es m xs false) :: rmv p.rem v.2 := rfl
    refine hn val w' ((t, .i (.sl es m xs)) :: σ') K2 ρ' (Kn.le_trans hle hle2) ?_ ⟨?_, hi'.defers, hi'.size, fun t' d e => ?_⟩ fun t' d e => ?_
    · rw [hS, hsh]; exact hk
    · rw [hS]; exact hI2
    · show RepD K2 ρ' (shape (((frPl p t ty es m xs).adds ++ rmv (frPl p t ty es m xs).rem v.2) :: O)) _ d
      rw [hS, hsh]
      replace e : look ((t, D.i (.sl es m xs)) :: σ') t' = some d := e
      rw [look_cons] at e
      rcases Nat.decEq t t' with h1 | h1
      rotate_left
      · rw [if_pos h1] at e
        subst h1
        simp only [Option.some.injEq] at e
        subst e
        have hsl : look σ' t = some (.osl 0 t) := by
          rcases hlk t _ hs with h2 | h2
          · cases h2
          · exact h2
        have h1 := hi'.slots t _ hsl
        have hown := hI.own 0 t (.arr ty es m xs false) (by simp [objAt, look_cons])
        have := inv_osl (es := es) (len := m) h1 (by
          show shape ((p.adds ++ rmv p.rem v.2) :: O) 0 t = _
          simp [shape, objAt, ha, look_cons, Ob.sh])
        rw [this]
        exact .i (rep_frozen hown)
      · rw [if_neg h1] at e
        exact (hi'.slots t' d e).stays ⟨hle2, fun _ _ _ h => h, fun _ _ _ _ => rfl⟩
    · replace e : look ((t, D.i (.sl es m xs)) :: p.sets) t' = some d := e
      rw [look_cons] at e
      rcases Nat.decEq t t' with h1 | h1
      · rw [if_neg h1] at e
        rcases hlk t' d e with h2 | h2
        · exact .inl h2
        · right
          show look ((t, D.i (.sl es m xs)) :: σ') t' = some d
          rw [look_cons, if_neg h1]
          exact h2
      · rw [if_pos h1] at e
        right
        show look ((t, D.i (.sl es m xs)) :: σ') t' = some d
        rw [look_cons, if_pos h1]
        exact e
theorem s_oldF (hT : TOk c.P c.T) {i : Nat} {o : Oper} {rest : List Oper} {x : SH} {acc : List Pl} (p : Pl) {t ty es m : Nat} {xs : List (List I)} (hs : look p.sets t = some (.osl 0 t)) (ha : p.adds = [(t, .arr ty es m xs true)])
    (h1 : MDx c ops O n (fun _ ps => ps = acc ++ [p]) (runD c.T ops O n [o] x acc)) (h2 : GE c ops O n F (runS c.T ops O n (i + 1) rest ((frPl p t ty es m xs).ap x) (acc ++ [frPl p t ty es m xs]))) : GE c ops O n F (.old i o rest x acc) := by
  refine ⟨fun _ => ?_⟩
  obtain ⟨qs, hc, hq⟩ := runD_sound hT _ _ _ h1
  have hq : qs = [p] := by simpa using hq
  subst hq
  exact gd_cons (stepOK_freeze hs ha hc.1) (runS_sound hT _ _ _ _ h2.h)
end
end Go.AI


namespace Go.AI
open Go.Proofs
set_option maxRecDepth 20000
abbrev CS := Int × List Int
def intsV (n : Nat) : List Int := (List.range n).map fun (k : Nat) => (k : Int)
theorem mem_intsV {n : Nat} {x : Int} : x ∈ intsV n ↔ 0 ≤ x ∧ x < (n : Int) := by
  unfold intsV
  simp only [List.mem_map, List.mem_range]
  exact ⟨fun ⟨k, h, e⟩ => by omega, fun h => ⟨x.toNat, by omega, by omega⟩⟩
theorem intsV_len (n : Nat) : (intsV n).length = n := by simp [intsV]
abbrev pcI (z : CS) : List I := [vi z.1, .v (.slice none 0 0), intsI z.2]
abbrev opcs (l : List CS) : Ob := .arr 108 3 l.length (l.map pcI) true
def evC (es : List Edg) (s : Int) : List Int := (es.filter fun e => e.1 == s).map fun e => e.2.1
def badC (a : Aut) (on un : List Int) (n : Nat) (s : Int) : Bool := a.alpha.any fun ev => conR a on un n s ev
def csR (a : Aut) (on un : List Int) (n : Nat) : Option CS := if n = 0 then none else bsr (stp3 a.edges) (fun _ => true) (evC a.edges) (badC a on un n) 4096 0 [(0, [])]
def csO (a : Aut) (on un : List Int) (n : Nat) : Option CS → List Int × Int × Bool
  | none => ([], -1, true)
  | some x => (x.2, (a.alpha.find? fun ev => conR a on un n x.1 ev).getD 0, false)
set_option maxHeartbeats 8000000 in
theorem consistent45 (O : List Heap) (a : Aut) (on un : List Int) (n : Nat) (hst : a.states = n) (hn : n ≤ 4095) (hc : chkA a = 0) (h : smallA a) (hon : on.length ≤ max63) (hun : un.length ≤ max63) :
    ASpec Tryz.prog 45 [.i (vptr a on un (outOf n a.edges))] O (.tup [ints (csO a on un n (csR a on un n)).1, ii (csO a on un n (csR a on un n)).2.1, bb (csO a on un n (csR a on un n)).2.2]) [] O := by
  obtain ⟨r1, r2, _⟩ := chk_rng hc
  rw [hst] at r1 r2
  obtain ⟨_, _, _, c4⟩ := chk_parts hc
  have hpw := (chkEds_sorted c4).1
  have hed := h.ed
  have hal := h.al
  have hcon := fun O s ev hs => contradicted68 O a on un n s ev (by omega) hs r2 hed hon hun
  have hVl := intsV_len n
  unfold csR
  refine aspec_stop [15] Tk Tryz.func45 rfl Tryz.call45 Tryz.ntmps45 (Nat.le_of_ble_eq_true rfl) fun E => ?_
  refine g_run Tk Tryz.func45 ?_
  first | refine g_elem Tk Tryz.func45 (rfl) ?_ | refine s_elem Tk (rfl) ?_
  first | refine g_cnd Tk Tryz.func45 rfl (fun g1 => ?_) (fun g1 => ?_) | refine g_know Tk Tryz.func45 rfl (fun g1 => ?_) (fun g1 => ?_) | refine s_know Tk (fun g1 => ?_) (fun g1 => ?_)
  · have g1 : a.states = 0 := beqT g1
    have hn0 : n = 0 := by omega
    rw [if_pos hn0]
    refine g_ret_co Tk (r := .tup [.i (.v (.slice none 0 0)), ii (-1), bb true]) rfl rfl rfl trivial rfl rfl ?_
    repeat' (first | refine coD_tup ?_ | refine coD_agg ?_ | refine coD_i ?_ | refine CoDL.cons ?_ ?_ | exact CoDL.nil | exact coI_nil | refine coI_sl ?_ | refine CoLL.cons ?_ ?_ | exact CoLL.nil | refine CoL.cons ?_ ?_ | exact CoL.nil | exact CoI.refl _ | exact CoL.refl _ | exact CoLL.refl _ | exact CoDL.refl _ | exact CoD.refl _)
  have hn0 : n ≠ 0 := by
    have : a.states ≠ 0 := beqF g1
    omega
  rw [if_neg hn0]
  generalize hK : bsr (stp3 a.edges) (fun _ => true) (evC a.edges) (badC a on un n) 4096 0 [(0, [])] = KK
  have hV0 : (0 : Int) ∈ intsV n := mem_intsV.2 (by omega)
  have hB0 : bOk (intsV n) [((0 : Int), ([] : List Int))] := bOk_one hV0
  have hk0 : mapOk (mset [] (.int .i64 0) true) ([((0 : Int), ([] : List Int))].map (·.1)) := mapOk_app (l := []) mapOk_nil 0
  refine g_loop ?_
  refine rch_wk (wk_ren 20 85 rfl rfl rfl) ?_
  refine rch_wk (wk_arrco 85 (ys := [pcI (0, [])]) rfl rfl rfl (by simp; rfl) fun K vs h => ?_) ?_
  · have h : RepL K vs [vi 0, .v (.slice none 0 0), .v (.slice none 0 0)] := h
    show RepL K vs [vi 0, .v (.slice none 0 0), .sl 1 0 []]
    cases h with
    | cons h1 h => cases h with
      | cons h2 h => cases h with
        | cons h3 h =>
          cases h
          refine .cons h1 (.cons h2 (.cons ?_ .nil))
          cases h3
          exact .nil
  refine rch_loop2 (fun x : Nat × Nat × List (Value × Bool) × List CS => [(0, .i (vptr a on un (outOf n a.edges))), (5, .osl 0 85), (6, .osl 0 21), (7, ii x.1)])
    (fun x => [(85, opcs x.2.2.2), (21, .mp (.int .i64) (.b x.2.2.1))]) (fun _ => O) 87
    (fun x => x.1 ≤ x.2.2.2.length ∧ bOk (intsV n) x.2.2.2 ∧ mapOk x.2.2.1 (x.2.2.2.map (·.1)) ∧ x.2.1 + x.1 = 4096 ∧ bsr (stp3 a.edges) (fun _ => true) (evC a.edges) (badC a on un n) x.2.1 x.1 x.2.2.2 = KK) (fun x => x.2.1) (0, 4096, mset [] (.int .i64 0) true, [(0, [])])
    ⟨Nat.zero_le _, hB0, hk0, rfl, hK⟩ ⟨rfl, rfl, rfl, rfl, trivial⟩ rfl ⟨rfl, rfl, trivial⟩ rfl rfl ?_
  clear hB0 hk0 hK hV0
  rintro ⟨i, fu, km, l⟩ ⟨hi, hb, hk, hf, hno⟩ ih
  simp only at hi hb hk hf hno
  have hll := bOk_len hb
  refine g_run Tk Tryz.func45 ?_
  first | refine g_cnd Tk Tryz.func45 rfl (fun g2 => ?_) (fun g2 => ?_) | refine g_know Tk Tryz.func45 rfl (fun g2 => ?_) (fun g2 => ?_) | refine s_know Tk (fun g2 => ?_) (fun g2 => ?_)
  · have h1 : i < l.length := by simpa using g2
    clear g2
    obtain ⟨fu, rfl⟩ : ∃ f', fu = f' + 1 := ⟨fu - 1, by omega⟩
    have hgi : l[i]? = some l[i] := List.getElem?_eq_getElem h1
    have gl : (l.map pcI)[(i : Int).toNat]? = some (pcI l[i]) := get_mapZ h1
    have hzV := mem_intsV.1 (hb.el _ (List.getElem_mem h1))
    simp only [bsr, hgi] at hno
    have hzw := hb.wl i _ hgi
    generalize l[i] = z at *
    obtain ⟨zs, zw⟩ := z
    simp only at hno hzV hzw
    obtain ⟨zs, rfl⟩ : ∃ k : Nat, zs = k := ⟨zs.toNat, by omega⟩
    have hcn := fun O ev => hcon O zs ev hzV
    first | refine g_need Tk Tryz.func45 (by exact ⟨by omega, by show (i : Int) < (l.length : Int); omega⟩) ?_ | refine s_need Tk (by exact ⟨by omega, by show (i : Int) < (l.length : Int); omega⟩) ?_
    first | refine g_elem Tk Tryz.func45 (gl) ?_ | refine s_elem Tk (gl) ?_
    first | refine g_elem Tk Tryz.func45 (rfl) ?_ | refine s_elem Tk (rfl) ?_
    have hsn' : zs < n := by omega
    have gr : ((outOf n a.edges).map fun r => [I.sl 3 r.length (r.map edgI)])[(zs : Int).toNat]? = some [I.sl 3 (a.edges.filter fun e => e.1 == (zs : Int)).length ((a.edges.filter fun e => e.1 == (zs : Int)).map edgI)] := by rw [Int.toNat_natCast, List.getElem?_map, outOf_get hsn']; rfl
    have hrb : ∀ x ∈ a.edges.filter (fun e => e.1 == (zs : Int)), (0 ≤ x.2.2 ∧ x.2.2 < (n : Int)) ∧ stp3 a.edges zs x.2.1 = x.2.2 := fun x hx => by
      obtain ⟨h1, h2⟩ := List.mem_filter.1 hx
      have h2 : x.1 = (zs : Int) := by simpa using h2
      exact ⟨r2 x h1, by rw [← h2]; exact stp3_of hpw h1⟩
    have hrl : (a.edges.filter fun e => e.1 == (zs : Int)).length ≤ 1000000 := Nat.le_trans (List.length_filter_le _ _) hed
    have hev : evC a.edges (zs : Int) = (a.edges.filter fun e => e.1 == (zs : Int)).map fun e => e.2.1 := rfl
    rw [hev] at hno
    have hbd : badC a on un n zs = (a.alpha.drop 0).any fun ev => conR a on un n zs ev := rfl
    have hso : csO a on un n (some ((zs : Int), zw)) = (zw, ((a.alpha.drop 0).find? fun ev => conR a on un n zs ev).getD 0, false) := rfl
    generalize (a.edges.filter fun e => e.1 == (zs : Int)) = row at *
    generalize badC a on un n zs = bd at *
    generalize hQ : csO a on un n (some ((zs : Int), zw)) = Q at *
    refine g_loop ?_
    refine rch_loop2 (fun x : Nat => [(0, .i (vptr a on un (outOf n a.edges))), (5, .osl 0 85), (6, .osl 0 21), (7, ii i), (8, .own 0 8 0 0), (37, ints a.alpha), (38, ii a.alpha.length), (39, ii x)])
      (fun x => [(85, opcs l), (21, .mp (.int .i64) (.b km)), (8, .box [ii zs, .i (.v (.slice none 0 0)), ints zw])]) (fun _ => O) 87
      (fun x => x ≤ a.alpha.length ∧ bd = ((a.alpha.drop x).any fun ev => conR a on un n zs ev) ∧ Q = (zw, ((a.alpha.drop x).find? fun ev => conR a on un n zs ev).getD 0, false)) (fun x => a.alpha.length - x) 0
      ⟨Nat.zero_le _, hbd, hso⟩ ⟨rfl, rfl, rfl, rfl, rfl, rfl, rfl, rfl, trivial⟩ rfl ⟨rfl, rfl, rfl, trivial⟩ rfl rfl ?_
    clear hbd hso
    rintro j ⟨hj, hbd, hso⟩ ih3
    refine g_run Tk Tryz.func45 ?_
    first | refine g_cnd Tk Tryz.func45 rfl (fun g3 => ?_) (fun g3 => ?_) | refine g_know Tk Tryz.func45 rfl (fun g3 => ?_) (fun g3 => ?_) | refine s_know Tk (fun g3 => ?_) (fun g3 => ?_)
    · have h2 : j < a.alpha.length := by simpa using g3
      clear g3
      have gk : (a.alpha.map fun x => [vi x])[(j : Int).toNat]? = some [vi a.alpha[j]] := get_mapZ (f := fun x => [vi x]) h2
      rw [List.drop_eq_getElem_cons h2] at hbd hso
      rw [List.any_cons] at hbd
      rw [List.find?_cons] at hso
      generalize a.alpha[j] = ev at *
      have hcv := fun O => hcn O ev
      generalize conR a on un n zs ev = cv at *
      first | refine g_need Tk Tryz.func45 (by exact ⟨by omega, by show (j : Int) < (a.alpha.length : Int); omega⟩) ?_ | refine s_need Tk (by exact ⟨by omega, by show (j : Int) < (a.alpha.length : Int); omega⟩) ?_
      first | refine g_elem Tk Tryz.func45 (gk) ?_ | refine s_elem Tk (gk) ?_
      first | refine g_call Tk Tryz.func45 (hcv _) rfl rfl rfl rfl rfl ?_ | refine s_callq Tk (fun _ => hcv _) rfl rfl rfl ?_
      first | refine g_cnd Tk Tryz.func45 rfl (fun c1 => ?_) (fun c1 => ?_) | refine g_know Tk Tryz.func45 rfl (fun c1 => ?_) (fun c1 => ?_) | refine s_know Tk (fun c1 => ?_) (fun c1 => ?_)
      · have c1 : cv = true := c1
        subst c1
        rw [Bool.true_or] at hbd
        subst hbd
        rw [if_pos rfl] at hno
        rw [← hno, hQ, hso]
        refine g_ret Tk (r := .tup [ints zw, ii ev, bb false]) rfl rfl rfl trivial rfl rfl ?_
        rfl
      · have c1 : cv = false := c1
        subst c1
        rw [Bool.false_or] at hbd
        refine g_loop ?_
        exact ih3 (j + 1) _ _ ⟨h2, hbd, hso⟩ (by omega) ⟨rfl, rfl, rfl, rfl, rfl, rfl, rfl, congrArg ii (wsucc (n := 1000001) (by omega) (by decide)), trivial⟩ rfl ⟨rfl, rfl, rfl, trivial⟩ rfl rfl
    have h2 : a.alpha.length ≤ j := by simpa using g3
    rw [List.drop_eq_nil_of_le h2] at hbd
    simp only [List.any_nil] at hbd
    subst hbd
    rw [if_neg (by decide)] at hno
    clear ih3 hso hQ
    refine g_stop ?_
    refine g_run Tk Tryz.func45 ?_
    refine g_go Tk Tryz.func45 ?_
    refine g_drawn Tk Tryz.func45 mixedT rfl ?_
    first | refine g_elem Tk Tryz.func45 (rfl) ?_ | refine s_elem Tk (rfl) ?_
    first | refine g_need Tk Tryz.func45 (by exact ⟨by omega, by show (zs : Int) < ((outOf n a.edges).length : Int); rw [outOf_len]; omega⟩) ?_ | refine s_need Tk (by exact ⟨by omega, by show (zs : Int) < ((outOf n a.edges).length : Int); rw [outOf_len]; omega⟩) ?_
    first | refine g_elem Tk Tryz.func45 (gr) ?_ | refine s_elem Tk (gr) ?_
    refine e_done Tk Tryz.func45 (by kernel_rfl) ?_
    refine g_loop ?_
    refine rch_loop2 (fun x : Nat × List (Value × Bool) × List CS => [(0, .i (vptr a on un (outOf n a.edges))), (5, .osl 0 85), (6, .osl 0 21), (7, ii i), (8, .own 0 8 0 0), (59, edgs row), (60, ii row.length), (61, ii x.1)])
      (fun x => [(85, opcs x.2.2), (21, .mp (.int .i64) (.b x.2.1)), (8, .box [ii zs, .i (.v (.slice none 0 0)), ints zw])]) (fun _ => O) 87
      (fun x => x.1 ≤ row.length ∧ bOk (intsV n) x.2.2 ∧ mapOk x.2.1 (x.2.2.map (·.1)) ∧ i < x.2.2.length ∧ x.2.2[i]? = some ((zs : Int), zw) ∧ bsr (stp3 a.edges) (fun _ => true) (evC a.edges) (badC a on un n) fu (i + 1) (bvis (stp3 a.edges) (fun _ => true) ((zs : Int), zw) ((row.drop x.1).map fun e => e.2.1) x.2.2) = KK) (fun x => row.length - x.1) (0, km, l)
      ⟨Nat.zero_le _, hb, hk, h1, hgi, by simpa using hno⟩ ⟨rfl, rfl, rfl, rfl, rfl, rfl, rfl, rfl, trivial⟩ rfl ⟨rfl, rfl, rfl, trivial⟩ rfl rfl ?_
    clear hb hk hno hgi gl gr h1 hll hi
    rintro ⟨j, km, l⟩ ⟨hj, hb, hk, h1, hgi, hno⟩ ih2
    simp only at hj hb hk h1 hgi hno
    have hll := bOk_len hb
    have hj1 : ii (IntKind.i64.wrap ((j : Int) + 1)) = ii ((j + 1 : Nat) : Int) := congrArg ii (wsucc (n := 1000001) (by omega) (by decide))
    refine g_run Tk Tryz.func45 ?_
    first | refine g_cnd Tk Tryz.func45 rfl (fun g3 => ?_) (fun g3 => ?_) | refine g_know Tk Tryz.func45 rfl (fun g3 => ?_) (fun g3 => ?_) | refine s_know Tk (fun g3 => ?_) (fun g3 => ?_)
    · have h2 : j < row.length := by simpa using g3
      clear g3
      have ge : (row.map edgI)[(j : Int).toNat]? = some (edgI row[j]) := get_mapZ h2
      obtain ⟨hte, hse⟩ := hrb _ (List.getElem_mem h2)
      rw [List.drop_eq_getElem_cons h2, List.map_cons] at hno
      simp only [bvis] at hno
      generalize row[j] = e at *
      obtain ⟨ef, ee, et⟩ := e
      simp only at hno hte hse
      rw [hse] at hno
      have hkk := hk et
      first | refine g_need Tk Tryz.func45 (by exact ⟨by omega, by show (j : Int) < (row.length : Int); omega⟩) ?_ | refine s_need Tk (by exact ⟨by omega, by show (j : Int) < (row.length : Int); omega⟩) ?_
      first | refine g_elem Tk Tryz.func45 (ge) ?_ | refine s_elem Tk (ge) ?_
      first | refine g_cnd Tk Tryz.func45 rfl (fun c3 => ?_) (fun c3 => ?_) | refine g_know Tk Tryz.func45 rfl (fun c3 => ?_) (fun c3 => ?_) | refine s_know Tk (fun c3 => ?_) (fun c3 => ?_)
      · have c3 : mgetB km (.int .i64 et) = false := notT c3
        rw [hkk] at c3
        have c3 : ∀ z ∈ l, z.1 ≠ et := fun z hz e => of_decide_eq_false c3 (List.mem_map.2 ⟨z, hz, e⟩)
        rw [if_pos ⟨trivial, c3⟩] at hno
        refine g_drawn Tk Tryz.func45 mixedT rfl ?_
        first | refine g_call Tk Tryz.func45 (clone57 78 _ zw (by simp only [big]; omega)) rfl rfl rfl rfl rfl ?_ | refine s_callq Tk (fun _ => clone57 78 _ zw (by simp only [big]; omega)) rfl rfl rfl ?_
        refine s_oldF Tk ⟨[(82, .osl 0 82), (78, .dead)], [(82, .arr 3 1 (zw.length + 1) ((zw.map fun x => [vi x]) ++ [[vi ee]]) true)], some 78⟩ rfl rfl ?_ ?_
        · refine d_need Tk (by exact ⟨by show (zw.length + 1) * 8 ≤ 140737488355328; omega, by show zw.length + 1 ≤ 9223372036854775807; omega⟩) ?_
          refine d_mod Tk (p := ⟨[(82, .osl 0 82), (78, .dead)], [(82, .arr 3 1 (zw.length + 1) ((zw.map fun x => [vi x]) ++ [[vi ee]]) true)], some 78⟩) rfl rfl rfl ?_
          exact rfl
        refine s_old Tk ?_
        refine d_need Tk (by exact ⟨by show (l.length + 1) * 56 ≤ 140737488355328; omega, by show l.length + 1 ≤ 9223372036854775807; omega⟩) ?_
        refine d_mod Tk (p := ⟨[(85, .osl 0 85), (73, .dead), (5, .dead)], [(85, .arr 108 3 (l.length + 1) (l.map pcI ++ [[vi et, .v (.slice none 0 0), .sl 1 (zw.length + 1) ((zw.map fun x => [vi x]) ++ [[vi ee]])]]) true)], some 85⟩) rfl rfl rfl ?_
        refine d_done Tk Tryz.func45 (by kernel_rfl) (GM.h ?_)
        refine g_loop ?_
        have e85 : Ob.arr 108 3 (l.length + 1) (l.map pcI ++ [[vi et, .v (.slice none 0 0), .sl 1 (zw.length + 1) ((zw.map fun x => [vi x]) ++ [[vi ee]])]]) true = opcs (l ++ [(et, zw ++ [ee])]) := by simp
        have hmk : mapOk (mset km (.int .i64 et) true) ((l ++ [(et, zw ++ [ee])]).map (·.1)) := by
          rw [List.map_append]
          exact mapOk_app hk et
        refine ih2 (j + 1, mset km (.int .i64 et) true, l ++ [(et, zw ++ [ee])]) _ _ ⟨h2, bOk_app hb hgi (mem_intsV.2 hte) c3 ee, hmk, by rw [List.length_append]; omega, by rw [List.getElem?_append_left h1]; exact hgi, hno⟩ (by simp only; omega) ⟨rfl, rfl, rfl, rfl, rfl, rfl, rfl, hj1, trivial⟩ rfl ⟨congrArg some e85, rfl, rfl, trivial⟩ rfl rfl
      · have c3 : mgetB km (.int .i64 et) = true := notF c3
        rw [hkk] at c3
        obtain ⟨z, hz, hze⟩ := List.mem_map.1 (of_decide_eq_true c3)
        rw [if_neg (fun h => h.2 z hz hze)] at hno
        refine g_loop ?_
        exact ih2 (j + 1, km, l) _ _ ⟨h2, hb, hk, h1, hgi, hno⟩ (by simp only; omega) ⟨rfl, rfl, rfl, rfl, rfl, rfl, rfl, hj1, trivial⟩ rfl ⟨rfl, rfl, rfl, trivial⟩ rfl rfl
    · have h2 : row.length ≤ j := by simpa using g3
      rw [List.drop_eq_nil_of_le h2] at hno
      simp only [bvis, List.map_nil] at hno
      refine g_loop ?_
      exact ih (i + 1, fu, km, l) _ _ ⟨h1, hb, hk, by simp only; omega, hno⟩ (by simp only; omega) ⟨rfl, rfl, rfl, congrArg ii (wsucc (n := 5000) (by omega) (by decide)), trivial⟩ rfl ⟨rfl, rfl, trivial⟩ rfl rfl
  · have h1 : l.length ≤ i := by simpa using g2
    rw [bsr_done h1] at hno
    subst hno
    refine g_ret_co Tk (r := .tup [.i (.v (.slice none 0 0)), ii (-1), bb true]) rfl rfl rfl trivial rfl rfl ?_
    repeat' (first | refine coD_tup ?_ | refine coD_agg ?_ | refine coD_i ?_ | refine CoDL.cons ?_ ?_ | exact CoDL.nil | exact coI_nil | refine coI_sl ?_ | refine CoLL.cons ?_ ?_ | exact CoLL.nil | refine CoL.cons ?_ ?_ | exact CoL.nil | exact CoI.refl _ | exact CoL.refl _ | exact CoLL.refl _ | exact CoDL.refl _ | exact CoD.refl _)
end Go.AI


namespace Go.AI
open Go.Proofs
set_option maxRecDepth 20000
theorem opE_chk {a : Aut} {on un : List Int} (he : opE a on un = 0) : chkA a = 0 := by
  unfold opE at he
  by_cases c : chkA a = 0
  · exact c
  · rw [if_pos c] at he; exact he
theorem opened42v (O : List Heap) (a : Aut) (on un : List Int) (n : Nat) (hst : a.states = n) (hn : n ≤ 12) (h : smallA a) (hon : on.length ≤ max63) (hun : un.length ≤ max63) (he : opE a on un = 0) : ASpec Tryz.prog 42 [autD a, ints on, ints un] O (.tup [.i (vptr a on un (outOf n a.edges)), ii 0]) [] O := by
  have e : outOf a.states.toNat a.edges = outOf n a.edges := by rw [hst]; rfl
  have := opened42 O a on un n hst hn h hon hun he
  unfold viewD viewI at this
  rw [e] at this
  exact this
set_option maxHeartbeats 4000000 in
theorem consistent18 (O : List Heap) (a : Aut) (on un : List Int) (n : Nat) (hst : a.states = n) (hn : n ≤ 12) (h : smallA a) (hon : on.length ≤ max63) (hun : un.length ≤ max63) (he : opE a on un = 0) :
    ASpec Tryz.prog 18 [autD a, ints on, ints un] O (.tup [ints (csO a on un n (csR a on un n)).1, ii (csO a on un n (csR a on un n)).2.1, bb (csO a on un n (csR a on un n)).2.2, ii 0]) [] O := by
  have h1 := fun O => opened42v O a on un n hst hn h hon hun he
  have h2 := fun O => consistent45 O a on un n hst (by omega) (opE_chk he) h hon hun
  generalize csO a on un n (csR a on un n) = R at *
  obtain ⟨rw, re, rb⟩ := R
  unfold vptr at h1 h2
  generalize [[intsI a.alpha, vi a.states, intsI a.marked, .sl 3 a.edges.length (a.edges.map edgI), intsI on, intsI un, rowsI (outOf n a.edges)]] = VP at *
  obtain ⟨al, st, mk, es⟩ := a
  refine aspec_intro Tk Tryz.func18 rfl Tryz.call18 Tryz.ntmps18 (Nat.le_of_ble_eq_true rfl) fun E => ?_
  refine g_run Tk Tryz.func18 ?_
  first | refine g_call Tk Tryz.func18 (h1 _) rfl rfl rfl rfl rfl ?_ | refine s_callq Tk (fun _ => h1 _) rfl rfl rfl ?_
  first | refine gcF Tk Tryz.func18 rfl ?_ | refine gkF Tk Tryz.func18 rfl ?_ | refine skF Tk ?_
  first | refine g_call Tk Tryz.func18 (h2 _) rfl rfl rfl rfl rfl ?_ | refine s_callq Tk (fun _ => h2 _) rfl rfl rfl ?_
  refine g_ret Tk (r := .tup [ints rw, ii re, bb rb, ii 0]) rfl rfl rfl trivial rfl rfl ?_
  rfl
theorem stp3_no : ∀ {es : List Edg} {s ev : Int}, (∀ e ∈ es, ¬ (e.1 = s ∧ e.2.1 = ev)) → stp3 es s ev = -1
  | [], _, _, _ => rfl
  | x :: r, s, ev, h => by
    unfold stp3
    rw [if_neg (h x (by simp))]
    exact stp3_no fun e he => h e (by simp [he])
end Go.AI


namespace Go.AI
open Go.Proofs
set_option maxRecDepth 20000
def nxtL (es : List Edg) (p : Int → Bool) (n : Nat) (l : List Int) (obs : List Int) : List Int := obs.foldl (nxt es p n) l
end Go.AI


namespace Go.AI
open Go.Proofs
inductive FrzA (nm : Nat) (d : I) : List D → List D → Prop
  | nil : FrzA nm d [] []
  | i {x : I} {l m : List D} : FrzA nm d l m → FrzA nm d (.i x :: l) (.i x :: m)
  | osl {l m : List D} : FrzA nm d l m → FrzA nm d (.osl 0 nm :: l) (.i d :: m)
def Shut (d : D) : Prop := ∀ K K' ρ ρ' sh sh' v, RepD K ρ sh v d → RepD K' ρ' sh' v d
theorem shut_v (x : Value) : Shut (.i (.v x)) := fun _ _ _ _ _ _ v h => by
  cases h with
  | i r => cases r with
    | v e => exact .i (.v e)
theorem shut_2 (x y : Value) : Shut (.tup [.i (.v x), .i (.v y)]) := fun K K' ρ ρ' sh sh' v h => by
  cases h with
  | tup r => cases r with
    | cons h1 r => cases r with
      | cons h2 r => cases r; exact .tup (.cons (shut_v _ K K' ρ ρ' sh sh' _ h1) (.cons (shut_v _ K K' ρ ρ' sh sh' _ h2) .nil))
theorem FrzA.rep {K K' : Kn} {ρ : Nat → Nat → Loc} {sh sh' : Nat → Nat → Option Sh} {nm es n : Nat} {xs : List (List I)} (hle : K.le K') (hs : sh 0 nm = some (.arr es n)) (hr : Rep K' (.slice (ρ 0 nm).base n (ρ 0 nm).cap) (.sl es n xs)) :
    ∀ {vs : List Value} {a b : List D}, FrzA nm (.sl es n xs) a b → RepDL K ρ sh vs a → RepDL K' ρ sh' vs b
  | _, _, _, .nil, .nil => .nil
  | _, _, _, .i h, .cons (.i r) rs => .cons (.i (r.mono hle)) (FrzA.rep hle hs hr h rs)
  | _, _, _, .osl h, .cons r rs => by
    have := inv_osl r hs
    subst this
    exact .cons (.i hr) (FrzA.rep hle hs hr h rs)
theorem does_forget {g : Nat} {tab : Obj} {c : Cx} {s : St} {o : Oper} {f : FuncId} {args dargs : List D} {res : D} {t nm ty es n : Nat} {xs : List (List I)} {wr : Bool} {H : Heap} {O O0 : List Heap} (htab : TabE g tab c.E O0)
    (hspec : ASpecT g tab c.P f dargs [] res [] []) (hsh : Shut res) (ha : FrzA nm (.sl es n xs) args dargs) (ht : o.dst = some t) (hn : t < s.n) (hS : s.S = H :: O) (hO : shape O = shape O0) (hl : look H nm = some (.arr ty es n xs wr)) :
    Wp c o s f args { σ := (t, res) :: s.σ, S := s.S, n := s.n } := by
  intro K ρ a w hi ⟨vs, hrun, hrep⟩ next Qe hnext
  have hh := hi.h
  rw [hS] at hh hrep
  obtain ⟨K', hle, hF⟩ := hh.freeze hl
  have hown := hF.own 0 nm (.arr ty es n xs false) (by simp [objAt, look_cons])
  have hrd : RepDL K' ρ (shape []) vs dargs := ha.rep hle (by simp [shape, objAt, hl, Ob.sh]) (rep_frozen hown) hrep
  have htq := tab_now htab hO hh
  have hE : HInv { K0 := K', ρ0 := fun d => ρ (d + 1), w0 := w, pr := fun b => b < w.heap.size, lt := fun _ h => h } K' ρ [] w :=
    ⟨hF.holds, fun _ _ _ e => by simp [objAt] at e, fun _ _ _ _ _ _ e => by simp [objAt] at e, Nat.le_refl _, fun _ _ _ => rfl, fun _ _ e => by simp [objAt] at e, fun _ => rfl, K'.le_refl, fun _ _ _ h => .inl h, ⟨rfl, rfl, rfl⟩⟩
  have fin : ∀ v w', (∃ K2 ρ2, HInv (.of K' ρ w) K2 ρ2 ([] :: []) w' ∧ RepD K2 ρ2 (shape ([] :: [])) v res) → next (a.put o.dst v) w' := by
    intro v w' ⟨K2, ρ2, h1, h2⟩
    have hold : ∀ b, b < w.heap.size → w'.heap[b]? = w.heap[b]? := fun b hb => h1.old b hb fun d n ob e => by simp [objAt] at e
    have hg : Grow K ρ s.S w [] K ρ w' := by
      refine ⟨K.le_refl, fun _ _ _ h => .inl h, h1.size, hold, h1.rest, fun _ _ _ => rfl, fun b o x hx => ?_, fun _ _ h => by simp [look] at h, fun _ _ _ _ h => by simp [look] at h⟩
      have h3 := hh.holds _ _ _ hx
      have hb : b < w.heap.size := by
        rcases Nat.lt_or_ge b w.heap.size with h | h
        · exact h
        · rw [hh.K_fresh h] at hx; cases hx
      rw [World.cell?, hold b hb]
      exact h3
    have hi0 := hi.h
    obtain ⟨hI, hst⟩ := HInv.grow (S := s.S) hS hi0 (fun _ _ _ e => e) (fun _ h => by simp [look] at h) hg
    have e0 : addS s.S [] = s.S := by rw [hS]; rfl
    rw [e0] at hI hst
    refine hnext v w' K ρ ?_
    rw [ht]
    refine ⟨hI, hi.defers, by simp [Act.put]; exact hi.size, fun t' d' e' => ?_⟩
    rw [tmps_put (by rw [hi.size]; exact hn)]
    simp only [look_cons] at e'
    split at e'
    · rename_i e2
      simp only [Option.some.injEq] at e'
      subst e'
      rw [if_pos e2]
      exact hsh _ _ _ _ _ _ _ h2
    · rename_i e2
      rw [if_neg e2]
      exact hi.slots _ _ e'
  have ht2 : TabQ g tab [] ρ w := ⟨htq.1, fun _ _ _ e => by simp [shape, objAt] at e⟩
  rcases hspec _ K' ρ w vs hE ht2 hrd with ⟨h1, h2⟩ | ⟨v, w', h1, h2⟩
  · rw [h1] at hrun
    simp only [Oper.wp, hrun, Oper.upon]
    refine h2.mono ?_
    rintro e w' ⟨v, rfl, hR⟩
    exact fin v w' hR
  · rw [h1] at hrun
    simp only [Oper.wp, hrun, Oper.upon]
    exact fin v w' h2
end Go.AI


namespace Go.AI
open Go.Proofs
set_option maxRecDepth 20000
abbrev autI (a : Aut) : I := .ptr 4 [[intsI a.alpha, vi a.states, intsI a.marked, .sl 3 a.edges.length (a.edges.map edgI)]] 0 0
abbrev lstI (l : List Int) : I := .ptr 1 [[intsI l]] 0 0
def hldB (a : Aut) (un : List Int) (n : Nat) (set : List Int) : Bool := (obsO a set un n (obsR a set un n)).2.2 && (csO a set un n (csR a set un n)).2.2
def hldR (a : Aut) (un : List Int) (n : Nat) (set : List Int) : Bool × Int := if opE a set un = 0 then (hldB a un n set, 0) else (false, opE a set un)
set_option maxHeartbeats 4000000 in
theorem holds43 {g : Nat} (hg : IsTab g) {ty : TypeId} {fr : Nat × Nat} (O : List Heap) (a : Aut) (set un : List Int) (n : Nat) (hst : a.states = n) (hn : n ≤ 5) (h : smallA a) (hon : set.length ≤ max63) (hun : un.length ≤ max63) :
    ASpecT g (ptab ty fr) Tryz.prog 43 [ints set, .i (autI a), .i (lstI un)] O (.tup [bb (hldR a un n set).1, ii (hldR a un n set).2]) [] O := by
  by_cases he : opE a set un = 0
  · have h1 := fun O => opened42v O a set un n hst (by omega) h hon hun he
    have hc := opE_chk he
    have h2 := fun O => observer44 hg (ty := ty) (fr := fr) O a set un n hst hn hc h hon hun
    have h3 := fun O => consistent45 O a set un n hst (by omega) hc h hon hun
    have e : hldR a un n set = ((obsO a set un n (obsR a set un n)).2.2 && (csO a set un n (csR a set un n)).2.2, 0) := by unfold hldR hldB; rw [if_pos he]
    rw [e]
    clear e hc he
    generalize obsO a set un n (obsR a set un n) = x at *
    generalize csO a set un n (csR a set un n) = y at *
    unfold vptr at h1 h2 h3
    generalize [[intsI a.alpha, vi a.states, intsI a.marked, .sl 3 a.edges.length (a.edges.map edgI), intsI set, intsI un, rowsI (outOf n a.edges)]] = VP at *
    obtain ⟨x1, x2, x3⟩ := x
    obtain ⟨y1, y2, y3⟩ := y
    refine aspecT_stop [] Tk Tryz.func43 rfl Tryz.call43 Tryz.ntmps43 (Nat.le_of_ble_eq_true rfl) fun E hE => ?_
    refine g_run Tk Tryz.func43 ?_
    first | refine g_elem Tk Tryz.func43 (rfl) ?_ | refine s_elem Tk (rfl) ?_
    first | refine g_elem Tk Tryz.func43 (rfl) ?_ | refine s_elem Tk (rfl) ?_
    first | refine g_call Tk Tryz.func43 (h1 _) rfl rfl rfl rfl rfl ?_ | refine s_callq Tk (fun _ => h1 _) rfl rfl rfl ?_
    first | refine gcF Tk Tryz.func43 rfl ?_ | refine gkF Tk Tryz.func43 rfl ?_ | refine skF Tk ?_
    refine g_callT Tk Tryz.func43 hE (h2 _) rfl rfl rfl rfl rfl rfl ?_
    first | refine g_call Tk Tryz.func43 (h3 _) rfl rfl rfl rfl rfl ?_ | refine s_callq Tk (fun _ => h3 _) rfl rfl rfl ?_
    first | refine g_cnd Tk Tryz.func43 rfl (fun g1 => ?_) (fun g1 => ?_) | refine g_know Tk Tryz.func43 rfl (fun g1 => ?_) (fun g1 => ?_) | refine s_know Tk (fun g1 => ?_) (fun g1 => ?_)
    · have g1 : x3 = true := g1
      subst g1
      refine g_ret Tk (r := .tup [bb y3, ii 0]) rfl rfl rfl trivial rfl rfl ?_
      rfl
    · have g1 : x3 = false := g1
      subst g1
      refine g_ret Tk (r := .tup [bb false, ii 0]) rfl rfl rfl trivial rfl rfl ?_
      rfl
  · have h1 := fun O => opened42e O a set un h hon hun he
    have e : hldR a un n set = (false, opE a set un) := by unfold hldR; rw [if_neg he]
    rw [e]
    clear e
    generalize opE a set un = e at *
    refine aspecT_stop [] Tk Tryz.func43 rfl Tryz.call43 Tryz.ntmps43 (Nat.le_of_ble_eq_true rfl) fun E hE => ?_
    refine g_run Tk Tryz.func43 ?_
    first | refine g_elem Tk Tryz.func43 (rfl) ?_ | refine s_elem Tk (rfl) ?_
    first | refine g_elem Tk Tryz.func43 (rfl) ?_ | refine s_elem Tk (rfl) ?_
    first | refine g_call Tk Tryz.func43 (h1 _) rfl rfl rfl rfl rfl ?_ | refine s_callq Tk (fun _ => h1 _) rfl rfl rfl ?_
    first | refine g_cnd Tk Tryz.func43 rfl (fun c1 => ?_) (fun c1 => ?_) | refine g_know Tk Tryz.func43 rfl (fun c1 => ?_) (fun c1 => ?_) | refine s_know Tk (fun c1 => ?_) (fun c1 => ?_)
    · refine g_ret Tk (r := .tup [bb false, ii e]) rfl rfl rfl trivial rfl rfl ?_
      rfl
    · have c1 : e = 0 := bneF c1
      exact absurd c1 he
theorem del51 (O : List Heap) (y x : Int) (d nm : Nat) (ho : objAt O d nm = some (.box [ii x])) : ASpec Tryz.prog 51 [ii y, .own d nm 0 0] O (bb (y == x)) [] O := by
  refine aspec_intro Tk Tryz.func51 rfl Tryz.call51 Tryz.ntmps51 (Nat.le_of_ble_eq_true rfl) fun E => ?_
  refine g_run Tk Tryz.func51 ?_
  first | refine g_obj Tk Tryz.func51 (ho) ?_ | refine s_obj Tk (ho) ?_
  refine g_ret Tk (r := bb (y == x)) rfl rfl rfl trivial rfl rfl ?_
  rfl
end Go.AI
