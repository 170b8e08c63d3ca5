/- The layer of abstract runs, part 48. -/
import Derived.Test.YtmhllkmceipdcaaGreatDoorIvyZU
import Derived.Test.YtmhllkmceipdcaaGreatDoorTie
import Derived.Test.YtmhllkmceipdcaaGreatDoorCards
import Derived.ProofKit
import Derived.LaidMore
import Derived.OpenShut
import Derived.Lay
import Derived.SevenTiedAt
import Derived.Stop.Joined
import Derived.Stop.LaidErr
import Derived.Lib.LaidTab
import Derived.WideKeyArgs
import Derived.Lib.SmallJoins
import Derived.Deep.Slices
set_option linter.unusedSimpArgs false
set_option linter.unusedVariables false
set_option linter.all false

/- A call that is handed an own row as data, and of which only a closed result is kept: behind it all is as it was. -/
namespace Go.AI
open Go.Proofs
/-- An argument as data, where the row nm holds d. -/
inductive FrzA (nm : Nat) (d : I) : List D → List D → Prop
  | nil : FrzA nm d [] []
  | i {x : I} {l m : List D} : FrzA nm d l m → FrzA nm d (.i x :: l) (.i x :: m)
  | osl {l m : List D} : FrzA nm d l m → FrzA nm d (.osl 0 nm :: l) (.i d :: m)
/-- A result that refers to nothing. -/
def Shut (d : D) : Prop := ∀ K K' ρ ρ' sh sh' v, RepD K ρ sh v d → RepD K' ρ' sh' v d
theorem shut_v (x : Value) : Shut (.i (.v x)) := fun _ _ _ _ _ _ v h => by
  cases h with
  | i r => cases r with
    | v e => exact .i (.v e)
theorem shut_2 (x y : Value) : Shut (.tup [.i (.v x), .i (.v y)]) := fun K K' ρ ρ' sh sh' v h => by
  cases h with
  | tup r => cases r with
    | cons h1 r => cases r with
      | cons h2 r => cases r; exact .tup (.cons (shut_v _ K K' ρ ρ' sh sh' _ h1) (.cons (shut_v _ K K' ρ ρ' sh sh' _ h2) .nil))
theorem FrzA.rep {K K' : Kn} {ρ : Nat → Nat → Loc} {sh sh' : Nat → Nat → Option Sh} {nm es n : Nat} {xs : List (List I)} (hle : K.le K') (hs : sh 0 nm = some (.arr es n)) (hr : Rep K' (.slice (ρ 0 nm).base n (ρ 0 nm).cap) (.sl es n xs)) :
    ∀ {vs : List Value} {a b : List D}, FrzA nm (.sl es n xs) a b → RepDL K ρ sh vs a → RepDL K' ρ sh' vs b
  | _, _, _, .nil, .nil => .nil
  | _, _, _, .i h, .cons (.i r) rs => .cons (.i (r.mono hle)) (FrzA.rep hle hs hr h rs)
  | _, _, _, .osl h, .cons r rs => by
    have := inv_osl r hs
    subst this
    exact .cons (.i hr) (FrzA.rep hle hs hr h rs)
theorem does_forget {g : Nat} {tab : Obj} {c : Cx} {s : St} {o : Oper} {f : FuncId} {args dargs : List D} {res : D} {t nm ty es n : Nat} {xs : List (List I)} {wr : Bool} {H : Heap} {O O0 : List Heap} (htab : TabE g tab c.E O0)
    (hspec : ASpecT g tab c.P f dargs [] res [] []) (hsh : Shut res) (ha : FrzA nm (.sl es n xs) args dargs) (ht : o.dst = some t) (hn : t < s.n) (hS : s.S = H :: O) (hO : shape O = shape O0) (hl : look H nm = some (.arr ty es n xs wr)) :
    Wp c o s f args { σ := (t, res) :: s.σ, S := s.S, n := s.n } := by
  intro K ρ a w hi ⟨vs, hrun, hrep⟩ next Qe hnext
  have hh := hi.h
  rw [hS] at hh hrep
  obtain ⟨K', hle, hF⟩ := hh.freeze hl
  have hown := hF.own 0 nm (.arr ty es n xs false) (by simp [objAt, look_cons])
  have hrd : RepDL K' ρ (shape []) vs dargs := ha.rep hle (by simp [shape, objAt, hl, Ob.sh]) (rep_frozen hown) hrep
  have htq := tab_now htab hO hh
  have hE : HInv { K0 := K', ρ0 := fun d => ρ (d + 1), w0 := w, pr := fun b => b < w.heap.size, lt := fun _ h => h } K' ρ [] w :=
    ⟨hF.holds, fun _ _ _ e => by simp [objAt] at e, fun _ _ _ _ _ _ e => by simp [objAt] at e, Nat.le_refl _, fun _ _ _ => rfl, fun _ _ e => by simp [objAt] at e, fun _ => rfl, K'.le_refl, fun _ _ _ h => .inl h, ⟨rfl, rfl, rfl⟩⟩
  have fin : ∀ v w', (∃ K2 ρ2, HInv (.of K' ρ w) K2 ρ2 ([] :: []) w' ∧ RepD K2 ρ2 (shape ([] :: [])) v res) → next (a.put o.dst v) w' := by
    intro v w' ⟨K2, ρ2, h1, h2⟩
    have hold : ∀ b, b < w.heap.size → w'.heap[b]? = w.heap[b]? := fun b hb => h1.old b hb fun d n ob e => by simp [objAt] at e
    have hg : Grow K ρ s.S w [] K ρ w' := by
      refine ⟨K.le_refl, fun _ _ _ h => .inl h, h1.size, hold, h1.rest, fun _ _ _ => rfl, fun b o x hx => ?_, fun _ _ h => by simp [look] at h, fun _ _ _ _ h => by simp [look] at h⟩
      have h3 := hh.holds _ _ _ hx
      have hb : b < w.heap.size := by
        rcases Nat.lt_or_ge b w.heap.size with h | h
        · exact h
        · rw [hh.K_fresh h] at hx; cases hx
      rw [World.cell?, hold b hb]
      exact h3
    have hi0 := hi.h
    obtain ⟨hI, hst⟩ := HInv.grow (S := s.S) hS hi0 (fun _ _ _ e => e) (fun _ h => by simp [look] at h) hg
    have e0 : addS s.S [] = s.S := by rw [hS]; rfl
    rw [e0] at hI hst
    refine hnext v w' K ρ ?_
    rw [ht]
    refine ⟨hI, hi.defers, by simp [Act.put]; exact hi.size, fun t' d' e' => ?_⟩
    rw [tmps_put (by rw [hi.size]; exact hn)]
    simp only [look_cons] at e'
    split at e'
    · rename_i e2
      simp only [Option.some.injEq] at e'
      subst e'
      rw [if_pos e2]
      exact hsh _ _ _ _ _ _ _ h2
    · rename_i e2
      rw [if_neg e2]
      exact hi.slots _ _ e'
  have ht2 : TabQ g tab [] ρ w := ⟨htq.1, fun _ _ _ e => by simp [shape, objAt] at e⟩
  rcases hspec _ K' ρ w vs hE ht2 hrd with ⟨h1, h2⟩ | ⟨v, w', h1, h2⟩
  · rw [h1] at hrun
    simp only [Oper.wp, hrun, Oper.upon]
    refine h2.mono ?_
    rintro e w' ⟨v, rfl, hR⟩
    exact fin v w' hR
  · rw [h1] at hrun
    simp only [Oper.wp, hrun, Oper.upon]
    exact fin v w' h2
end Go.AI


/- observerproperty: the closure of Extend, and Extend. -/
namespace Go.AI
open Go.Proofs
set_option maxRecDepth 20000
abbrev autI (a : Aut) : I := .ptr 4 [[intsI a.alpha, vi a.states, intsI a.marked, .sl 3 a.edges.length (a.edges.map edgI)]] 0 0
abbrev lstI (l : List Int) : I := .ptr 1 [[intsI l]] 0 0
/-- Do both properties hold? and the error. -/
def hldB (a : Aut) (un : List Int) (n : Nat) (set : List Int) : Bool := (obsO a set un n (obsR a set un n)).2.2 && (csO a set un n (csR a set un n)).2.2
def hldR (a : Aut) (un : List Int) (n : Nat) (set : List Int) : Bool × Int := if opE a set un = 0 then (hldB a un n set, 0) else (false, opE a set un)
set_option maxHeartbeats 4000000 in
theorem holds43 {g : Nat} (hg : IsTab g) {ty : TypeId} {fr : Nat × Nat} (O : List Heap) (a : Aut) (set un : List Int) (n : Nat) (hst : a.states = n) (hn : n ≤ 5) (h : smallA a) (hon : set.length ≤ max63) (hun : un.length ≤ max63) :
    ASpecT g (ptab ty fr) Tryz.prog 43 [ints set, .i (autI a), .i (lstI un)] O (.tup [bb (hldR a un n set).1, ii (hldR a un n set).2]) [] O := by
  by_cases he : opE a set un = 0
  · have h1 := fun O => opened42v O a set un n hst (by omega) h hon hun he
    have hc := opE_chk he
    have h2 := fun O => observer44 hg (ty := ty) (fr := fr) O a set un n hst hn hc h hon hun
    have h3 := fun O => consistent45 O a set un n hst (by omega) hc h hon hun
    have e : hldR a un n set = ((obsO a set un n (obsR a set un n)).2.2 && (csO a set un n (csR a set un n)).2.2, 0) := by unfold hldR hldB; rw [if_pos he]
    rw [e]
    clear e hc he
    generalize obsO a set un n (obsR a set un n) = x at *
    generalize csO a set un n (csR a set un n) = y at *
    unfold vptr at h1 h2 h3
    generalize [[intsI a.alpha, vi a.states, intsI a.marked, .sl 3 a.edges.length (a.edges.map edgI), intsI set, intsI un, rowsI (outOf n a.edges)]] = VP at *
    obtain ⟨x1, x2, x3⟩ := x
    obtain ⟨y1, y2, y3⟩ := y
    refine aspecT_stop [] Tk Tryz.func43 rfl Tryz.call43 Tryz.ntmps43 (Nat.le_of_ble_eq_true rfl) fun E hE => ?_
    refine g_run Tk Tryz.func43 ?_
    first | refine g_elem Tk Tryz.func43 (rfl) ?_ | refine s_elem Tk (rfl) ?_
    first | refine g_elem Tk Tryz.func43 (rfl) ?_ | refine s_elem Tk (rfl) ?_
    first | refine g_call Tk Tryz.func43 (h1 _) rfl rfl rfl rfl rfl ?_ | refine s_callq Tk (fun _ => h1 _) rfl rfl rfl ?_
    first | refine g_cnd Tk Tryz.func43 rfl (fun h => absurd h (by decide)) (fun _ => ?_) | refine g_know Tk Tryz.func43 rfl (fun h => absurd h (by decide)) (fun _ => ?_) | refine s_know Tk (fun h => absurd h (by decide)) (fun _ => ?_)
    refine g_callT Tk Tryz.func43 hE (h2 _) rfl rfl rfl rfl rfl rfl ?_
    first | refine g_call Tk Tryz.func43 (h3 _) rfl rfl rfl rfl rfl ?_ | refine s_callq Tk (fun _ => h3 _) rfl rfl rfl ?_
    first | refine g_cnd Tk Tryz.func43 rfl (fun g1 => ?_) (fun g1 => ?_) | refine g_know Tk Tryz.func43 rfl (fun g1 => ?_) (fun g1 => ?_) | refine s_know Tk (fun g1 => ?_) (fun g1 => ?_)
    · have g1 : x3 = true := g1
      subst g1
      refine g_ret Tk (r := .tup [bb y3, ii 0]) rfl rfl rfl trivial rfl rfl ?_
      rfl
    · have g1 : x3 = false := g1
      subst g1
      refine g_ret Tk (r := .tup [bb false, ii 0]) rfl rfl rfl trivial rfl rfl ?_
      rfl
  · have h1 := fun O => opened42e O a set un h hon hun he
    have e : hldR a un n set = (false, opE a set un) := by unfold hldR; rw [if_neg he]
    rw [e]
    clear e
    generalize opE a set un = e at *
    refine aspecT_stop [] Tk Tryz.func43 rfl Tryz.call43 Tryz.ntmps43 (Nat.le_of_ble_eq_true rfl) fun E hE => ?_
    refine g_run Tk Tryz.func43 ?_
    first | refine g_elem Tk Tryz.func43 (rfl) ?_ | refine s_elem Tk (rfl) ?_
    first | refine g_elem Tk Tryz.func43 (rfl) ?_ | refine s_elem Tk (rfl) ?_
    first | refine g_call Tk Tryz.func43 (h1 _) rfl rfl rfl rfl rfl ?_ | refine s_callq Tk (fun _ => h1 _) rfl rfl rfl ?_
    first | refine g_cnd Tk Tryz.func43 rfl (fun c1 => ?_) (fun c1 => ?_) | refine g_know Tk Tryz.func43 rfl (fun c1 => ?_) (fun c1 => ?_) | refine s_know Tk (fun c1 => ?_) (fun c1 => ?_)
    · refine g_ret Tk (r := .tup [bb false, ii e]) rfl rfl rfl trivial rfl rfl ?_
      rfl
    · have c1 : e = 0 := bneF c1
      exact absurd c1 he
theorem del51 (O : List Heap) (y x : Int) (d nm : Nat) (ho : objAt O d nm = some (.box [ii x])) : ASpec Tryz.prog 51 [ii y, .own d nm 0 0] O (bb (y == x)) [] O := by
  refine aspec_intro Tk Tryz.func51 rfl Tryz.call51 Tryz.ntmps51 (Nat.le_of_ble_eq_true rfl) fun E => ?_
  refine g_run Tk Tryz.func51 ?_
  first | refine g_obj Tk Tryz.func51 (ho) ?_ | refine s_obj Tk (ho) ?_
  refine g_ret Tk (r := bb (y == x)) rfl rfl rfl trivial rfl rfl ?_
  rfl
end Go.AI


/- observerproperty: Extend. -/
namespace Go.AI
open Go.Proofs
set_option maxRecDepth 20000
theorem kept46o (O : List Heap) (a : Aut) (on un : List Int) (R : List (List Edg)) (hal : a.alpha.length ≤ 1000000) (hl : on.length ≤ max63) : ASpec Tryz.prog 46 [.i (vptr a on un R)] O (.osl 0 63) [(63, oints (keptR a on))] O := by
  have e : keptR a on = a.alpha.filter fun x => !(!decide (x ∈ on)) := by simp [keptR]
  rw [e]
  refine aspec_stop [200010] Tk Tryz.func46 rfl Tryz.call46 Tryz.ntmps46 (Nat.le_of_ble_eq_true rfl) fun E => ?_
  refine g_run Tk Tryz.func46 ?_
  first | refine g_elem Tk Tryz.func46 (rfl) ?_ | refine s_elem Tk (rfl) ?_
  first | refine g_call Tk Tryz.func46 (clone57 63 _ a.alpha (by simp only [big]; omega)) rfl rfl rfl rfl rfl ?_ | refine s_callq Tk (fun _ => clone57 63 _ a.alpha (by simp only [big]; omega)) rfl rfl rfl ?_
  refine g_callP Tk Tryz.func46 rfl rfl rfl rfl (does_delF (R := [(1, .box [.i (vptr a on un R)])]) (B := .box [.i (vptr a on un R)]) rfl (fun x => !decide (x ∈ on)) hal (by decide) rfl rfl (fun x _ d O ho => kept87 O x d 1 a on un R hl ho) rfl (show 10 < 11 by decide) rfl) ?_
  exact ⟨m_ret' (hT := Tk) (r := .osl 0 63) rfl rfl rfl ⟨⟨_, rfl, rfl⟩, trivial⟩ (ret_osl _ _ _) rfl rfl⟩
def ext1 (a : Aut) (un : List Int) (n : Nat) : List Int → List Int → List Int → Int ⊕ (List Int × List Int)
  | [], set, ad => .inr (set, ad)
  | x :: r, set, ad => if (hldR a un n set).2 ≠ 0 then .inl (hldR a un n set).2 else if (hldR a un n set).1 = true then .inr (set, ad) else if x ∈ set then ext1 a un n r set ad else ext1 a un n r (sortI (set ++ [x])) (ad ++ [x])
def ext2 (a : Aut) (un : List Int) (n : Nat) : List Int → List Int → Int ⊕ List Int
  | [], set => .inr set
  | x :: r, set => if (hldR a un n (set.filter fun y => !(y == x))).2 ≠ 0 then .inl (hldR a un n (set.filter fun y => !(y == x))).2 else ext2 a un n r (if (hldR a un n (set.filter fun y => !(y == x))).1 = true then set.filter fun y => !(y == x) else set)
def exF2 : Int ⊕ List Int → List Int × Int
  | .inl e => ([], e)
  | .inr l => (l, 0)
def exF1 (a : Aut) (un : List Int) (n : Nat) : Int ⊕ (List Int × List Int) → List Int × Int
  | .inl e => ([], e)
  | .inr x => exF2 (ext2 a un n x.2 x.1)
def extR (a : Aut) (on un : List Int) (n : Nat) : List Int × Int := exF1 a un n (ext1 a un n a.alpha (keptR a on) [])
set_option maxHeartbeats 4000000 in
theorem extend14 {g : Nat} (hg : IsTab g) {ty : TypeId} {fr : Nat × Nat} (O : List Heap) (a : Aut) (on un : List Int) (n : Nat) (hst : a.states = n) (hn : n ≤ 5) (h : smallA a) (hon : on.length ≤ max63) (hun : un.length ≤ max63) (he : opE a on un = 0) (hA : a.alpha.length ≤ 500000) :
    ASpecT g (ptab ty fr) Tryz.prog 14 [autD a, ints on, ints un] O (.tup [ints (extR a on un n).1, ii (extR a on un n).2]) [] O := by
  have h1 := fun O => opened42v O a on un n hst (by omega) h hon hun he
  have hk := fun O => kept46o O a on un (outOf n a.edges) h.al hon
  have hkl : (keptR a on).length ≤ 500000 := by
    have := List.length_filter_le (fun x => decide (x ∈ on)) a.alpha
    have := h.al
    unfold keptR
    omega
  have hH := fun O set hs => holds43 hg (ty := ty) (fr := fr) O a set un n hst hn h hs hun
  have hal := h.al
  unfold extR
  generalize keptR a on = kp at *
  generalize hK : exF1 a un n (ext1 a un n a.alpha kp []) = KK
  unfold vptr at h1 hk
  generalize [[intsI a.alpha, vi a.states, intsI a.marked, .sl 3 a.edges.length (a.edges.map edgI), intsI on, intsI un, rowsI (outOf n a.edges)]] = VP at *
  refine aspecT_stop [200032, 200045, 200054, 17, 19, 200076, 23] Tk Tryz.func14 rfl Tryz.call14 Tryz.ntmps14 (Nat.le_of_ble_eq_true rfl) fun E hE => ?_
  refine g_run Tk Tryz.func14 ?_
  first | refine g_call Tk Tryz.func14 (h1 _) rfl rfl rfl rfl rfl ?_ | refine s_callq Tk (fun _ => h1 _) rfl rfl rfl ?_
  first | refine g_cnd Tk Tryz.func14 rfl (fun h => absurd h (by decide)) (fun _ => ?_) | refine g_know Tk Tryz.func14 rfl (fun h => absurd h (by decide)) (fun _ => ?_) | refine s_know Tk (fun h => absurd h (by decide)) (fun _ => ?_)
  refine g_wkpause (wk_frzbox 3 [intsI a.alpha, vi a.states, intsI a.marked, .sl 3 a.edges.length (a.edges.map edgI)] rfl rfl) ?_
  refine g_pause Tk Tryz.func14 rfl rfl (wk_frzbox 5 [intsI un] rfl rfl) ?_
  first | refine g_call Tk Tryz.func14 (hk _) rfl rfl rfl rfl rfl ?_ | refine s_callq Tk (fun _ => hk _) rfl rfl rfl ?_
  first | refine g_elem Tk Tryz.func14 (rfl) ?_ | refine s_elem Tk (rfl) ?_
  refine g_loop ?_
  refine rch_wk (wk_nil 12 59 3 1 rfl rfl rfl) ?_
  apply join_q (α := List Int × List Int) (P := fun y => exF2 (ext2 a un n y.2 y.1) = KK ∧ y.1.length ≤ 1000000 ∧ y.2.length ≤ 1000000) (s6 := fun y => { σ := [(10, .fn (.func 43) [] [.i (autI a), .i (lstI un)]), (11, ints y.1), (12, ints y.2)], S := [] :: O, n := 90 })
  · intro J
    refine rch_loop2 (fun x : Nat × List Int × List Int => [(10, .fn (.func 43) [] [.i (autI a), .i (lstI un)]), (11, .osl 0 63), (12, .osl 0 59), (36, ints a.alpha), (37, ii a.alpha.length), (38, ii x.1)])
      (fun x => [(63, oints x.2.1), (59, oints x.2.2)]) (fun _ => O) 90
      (fun x => x.1 ≤ a.alpha.length ∧ x.2.1.length ≤ 500000 + x.1 ∧ x.2.2.length ≤ x.1 ∧ exF1 a un n (ext1 a un n (a.alpha.drop x.1) x.2.1 x.2.2) = KK) (fun x => a.alpha.length - x.1) (0, kp, [])
      ⟨Nat.zero_le _, by simp only; omega, Nat.le_refl _, by simpa using hK⟩ ⟨rfl, rfl, rfl, rfl, rfl, rfl, trivial⟩ rfl ⟨rfl, rfl, trivial⟩ rfl rfl ?_
    rintro ⟨k, set, ad⟩ ⟨hk1, hsl, hadl, hno⟩ ih
    simp only at hk1 hsl hadl hno
    have hj1 : ii (IntKind.i64.wrap ((k : Int) + 1)) = ii ((k + 1 : Nat) : Int) := congrArg ii (wsucc (n := 1000001) (by omega) (by decide))
    refine g_run Tk Tryz.func14 ?_
    first | refine g_cnd Tk Tryz.func14 rfl (fun g1 => ?_) (fun g1 => ?_) | refine g_know Tk Tryz.func14 rfl (fun g1 => ?_) (fun g1 => ?_) | refine s_know Tk (fun g1 => ?_) (fun g1 => ?_)
    · have g1 : k < a.alpha.length := by simpa using g1
      have gx : (a.alpha.map fun x => [vi x])[(k : Int).toNat]? = some [vi a.alpha[k]] := get_mapZ (f := fun x => [vi x]) g1
      rw [List.drop_eq_getElem_cons g1] at hno
      simp only [ext1] at hno
      have hh := hH [] set (by simp only [max63]; omega)
      generalize a.alpha[k] = x at *
      generalize hldR a un n set = hr at *
      obtain ⟨hb, he1⟩ := hr
      simp only at hno
      first | refine g_need Tk Tryz.func14 (by exact ⟨by omega, by show (k : Int) < (a.alpha.length : Int); omega⟩) ?_ | refine s_need Tk (by exact ⟨by omega, by show (k : Int) < (a.alpha.length : Int); omega⟩) ?_
      first | refine g_elem Tk Tryz.func14 (gx) ?_ | refine s_elem Tk (gx) ?_
      refine g_callP Tk Tryz.func14 rfl rfl rfl rfl (does_forget hE hh (shut_2 _ _) (.osl (.i (.i .nil))) rfl (show 45 < 90 by decide) rfl rfl rfl) ?_
      first | refine g_cnd Tk Tryz.func14 rfl (fun c1 => ?_) (fun c1 => ?_) | refine g_know Tk Tryz.func14 rfl (fun c1 => ?_) (fun c1 => ?_) | refine s_know Tk (fun c1 => ?_) (fun c1 => ?_)
      · have c1 : he1 ≠ 0 := bneT c1
        rw [if_pos c1] at hno
        have hno : (([], he1) : List Int × Int) = KK := hno
        subst hno
        refine g_ret_co Tk (r := .tup [.i (.v (.slice none 0 0)), ii he1]) rfl rfl rfl trivial rfl rfl ?_
        repeat' (first | refine coD_tup ?_ | refine coD_agg ?_ | refine coD_i ?_ | refine CoDL.cons ?_ ?_ | exact CoDL.nil | exact coI_nil | refine coI_sl ?_ | refine CoLL.cons ?_ ?_ | exact CoLL.nil | refine CoL.cons ?_ ?_ | exact CoL.nil | exact CoI.refl _ | exact CoL.refl _ | exact CoLL.refl _ | exact CoDL.refl _ | exact CoD.refl _)
      have c1 : he1 = 0 := bneF c1
      rw [if_neg (fun h => h c1)] at hno
      first | refine g_cnd Tk Tryz.func14 rfl (fun c2 => ?_) (fun c2 => ?_) | refine g_know Tk Tryz.func14 rfl (fun c2 => ?_) (fun c2 => ?_) | refine s_know Tk (fun c2 => ?_) (fun c2 => ?_)
      · have c2 : hb = true := c2
        rw [if_pos c2] at hno
        refine g_stop ?_
        refine rch_wk (wk_freeze 63 rfl rfl) ?_
        refine rch_wk (wk_freeze 59 rfl rfl) ?_
        refine rch_meet (J (set, ad) ⟨hno, by simp only; omega, by simp only; omega⟩) ⟨rfl, rfl, rfl, trivial⟩ rfl trivial rfl rfl
      have c2 : hb = false := c2
      rw [if_neg (by rw [c2]; decide)] at hno
      refine g_callP Tk Tryz.func14 rfl rfl rfl rfl (does_forget hE (contains110 [] set x (by simp only [max63]; omega)).tab (shut_v _) (.osl (.i .nil)) rfl (show 54 < 90 by decide) rfl rfl rfl) ?_
      first | refine g_cnd Tk Tryz.func14 rfl (fun c3 => ?_) (fun c3 => ?_) | refine g_know Tk Tryz.func14 rfl (fun c3 => ?_) (fun c3 => ?_) | refine s_know Tk (fun c3 => ?_) (fun c3 => ?_)
      · have c3 : x ∉ set := of_decide_eq_false (notT c3)
        rw [if_neg c3] at hno
        first | refine g_need Tk Tryz.func14 (by exact ⟨by show (ad.length + 1) * 8 ≤ 140737488355328; omega, by show ad.length + 1 ≤ 9223372036854775807; omega⟩) ?_ | refine s_need Tk (by exact ⟨by show (ad.length + 1) * 8 ≤ 140737488355328; omega, by show ad.length + 1 ≤ 9223372036854775807; omega⟩) ?_
        first | refine g_need Tk Tryz.func14 (by exact ⟨by show (set.length + 1) * 8 ≤ 140737488355328; omega, by show set.length + 1 ≤ 9223372036854775807; omega⟩) ?_ | refine s_need Tk (by exact ⟨by show (set.length + 1) * 8 ≤ 140737488355328; omega, by show set.length + 1 ≤ 9223372036854775807; omega⟩) ?_
        refine g_stop ?_
        refine rch_wk (wk_cut (l := [(10, .fn (.func 43) [] [.i (autI a), .i (lstI un)]), (11, .osl 0 63), (12, .osl 0 59), (36, ints a.alpha), (37, ii a.alpha.length), (38, ii k)])
          (Hv := [(63, oints (set ++ [x])), (59, oints (ad ++ [x]))]) ⟨rfl, rfl, rfl, rfl, rfl, rfl, trivial⟩ rfl ⟨congrArg some (oints_app set x), congrArg some (oints_app ad x), trivial⟩ rfl rfl) ?_
        have hpos : 0 < (set ++ [x]).length := by simp
        have hml : (set ++ [x]).length ≤ 2000001 := by rw [List.length_append, List.length_singleton]; omega
        have hal2 : (ad ++ [x]).length ≤ k + 1 := by rw [List.length_append, List.length_singleton]; omega
        have hml2 : (set ++ [x]).length ≤ 500000 + (k + 1) := by rw [List.length_append, List.length_singleton]; omega
        generalize set ++ [x] = m at *
        generalize ad ++ [x] = ad2 at *
        refine g_run Tk Tryz.func14 ?_
        refine g_go Tk Tryz.func14 ?_
        refine g_call Tk Tryz.func14 (sort48 _ 0 63 m hpos (by omega) rfl) rfl rfl rfl (shape_over (ob := oints m) rfl (by simp [Ob.sh, sortI_len])) rfl ?_
        refine g_loop ?_
        exact ih (k + 1, sortI m, ad2) _ _ ⟨g1, by simp only [sortI_len]; exact hml2, hal2, hno⟩ (by simp only; omega) ⟨rfl, rfl, rfl, rfl, rfl, hj1, trivial⟩ rfl ⟨rfl, rfl, trivial⟩ rfl rfl
      · have c3 : x ∈ set := of_decide_eq_true (notF c3)
        rw [if_pos c3] at hno
        refine g_loop ?_
        exact ih (k + 1, set, ad) _ _ ⟨g1, by simp only; omega, by simp only; omega, hno⟩ (by simp only; omega) ⟨rfl, rfl, rfl, rfl, rfl, hj1, trivial⟩ rfl ⟨rfl, rfl, trivial⟩ rfl rfl
    · have g1 : a.alpha.length ≤ k := by simpa using g1
      rw [List.drop_of_length_le g1] at hno
      refine g_stop ?_
      refine rch_wk (wk_freeze 63 rfl rfl) ?_
      refine rch_wk (wk_freeze 59 rfl rfl) ?_
      refine rch_meet (J (set, ad) ⟨hno, by simp only; omega, by simp only; omega⟩) ⟨rfl, rfl, rfl, trivial⟩ rfl trivial rfl rfl
  rintro ⟨set, ad⟩ ⟨hno, hsl, hadl⟩
  simp only at hno hsl hadl
  refine g_run Tk Tryz.func14 ?_
  refine g_go Tk Tryz.func14 ?_
  refine g_loop ?_
  refine rch_loop2 (fun x : Nat × List Int => [(10, .fn (.func 43) [] [.i (autI a), .i (lstI un)]), (11, ints x.2), (67, ints ad), (68, ii ad.length), (69, ii x.1)])
    (fun x => []) (fun _ => O) 90
    (fun x => x.1 ≤ ad.length ∧ x.2.length ≤ 1000000 ∧ exF2 (ext2 a un n (ad.drop x.1) x.2) = KK) (fun x => ad.length - x.1) (0, set)
    ⟨Nat.zero_le _, hsl, by simpa using hno⟩ ⟨rfl, rfl, rfl, rfl, rfl, trivial⟩ rfl trivial rfl rfl ?_
  clear hno hsl
  rintro ⟨k, set⟩ ⟨hk1, hsl, hno⟩ ih
  simp only at hk1 hsl hno
  have hj1 : ii (IntKind.i64.wrap ((k : Int) + 1)) = ii ((k + 1 : Nat) : Int) := congrArg ii (wsucc (n := 1000001) (by omega) (by decide))
  refine g_run Tk Tryz.func14 ?_
  first | refine g_cnd Tk Tryz.func14 rfl (fun g1 => ?_) (fun g1 => ?_) | refine g_know Tk Tryz.func14 rfl (fun g1 => ?_) (fun g1 => ?_) | refine s_know Tk (fun g1 => ?_) (fun g1 => ?_)
  · have g1 : k < ad.length := by simpa using g1
    have gx : (ad.map fun x => [vi x])[(k : Int).toNat]? = some [vi ad[k]] := get_mapZ (f := fun x => [vi x]) g1
    rw [List.drop_eq_getElem_cons g1] at hno
    simp only [ext2] at hno
    generalize ad[k] = x at *
    first | refine g_need Tk Tryz.func14 (by exact ⟨by omega, by show (k : Int) < (ad.length : Int); omega⟩) ?_ | refine s_need Tk (by exact ⟨by omega, by show (k : Int) < (ad.length : Int); omega⟩) ?_
    first | refine g_elem Tk Tryz.func14 (gx) ?_ | refine s_elem Tk (gx) ?_
    first | refine g_call Tk Tryz.func14 (clone57 74 _ set (by simp only [big]; omega)) rfl rfl rfl rfl rfl ?_ | refine s_callq Tk (fun _ => clone57 74 _ set (by simp only [big]; omega)) rfl rfl rfl ?_
    refine g_callP Tk Tryz.func14 rfl rfl rfl rfl (does_delF (R := [(18, .box [ii x]), (18, .box [ii 0])]) (B := .box [ii x]) (l := set) rfl (fun y => y == x) hsl (by decide) rfl rfl (fun y _ d O ho => del51 O y x d 18 ho) rfl (show 76 < 90 by decide) rfl) ?_
    have hll : (set.filter fun y => !(y == x)).length ≤ 1000000 := Nat.le_trans (List.length_filter_le _ _) hsl
    have hh := fun O => hH O (set.filter fun y => !(y == x)) (by simp only [max63]; omega)
    generalize (set.filter fun y => !(y == x)) = ls at *
    generalize hldR a un n ls = hr at *
    obtain ⟨hb, he1⟩ := hr
    simp only at hno
    refine g_stop ?_
    refine rch_wk (wk_freeze 74 rfl rfl) ?_
    refine g_run Tk Tryz.func14 ?_
    refine g_go Tk Tryz.func14 ?_
    refine g_callT Tk Tryz.func14 hE (hh _) rfl rfl rfl rfl rfl rfl ?_
    first | refine g_cnd Tk Tryz.func14 rfl (fun c1 => ?_) (fun c1 => ?_) | refine g_know Tk Tryz.func14 rfl (fun c1 => ?_) (fun c1 => ?_) | refine s_know Tk (fun c1 => ?_) (fun c1 => ?_)
    · have c1 : he1 ≠ 0 := bneT c1
      rw [if_pos c1] at hno
      have hno : (([], he1) : List Int × Int) = KK := hno
      subst hno
      refine g_ret_co Tk (r := .tup [.i (.v (.slice none 0 0)), ii he1]) rfl rfl rfl trivial rfl rfl ?_
      repeat' (first | refine coD_tup ?_ | refine coD_agg ?_ | refine coD_i ?_ | refine CoDL.cons ?_ ?_ | exact CoDL.nil | exact coI_nil | refine coI_sl ?_ | refine CoLL.cons ?_ ?_ | exact CoLL.nil | refine CoL.cons ?_ ?_ | exact CoL.nil | exact CoI.refl _ | exact CoL.refl _ | exact CoLL.refl _ | exact CoDL.refl _ | exact CoD.refl _)
    have c1 : he1 = 0 := bneF c1
    rw [if_neg (fun h => h c1)] at hno
    first | refine g_cnd Tk Tryz.func14 rfl (fun c2 => ?_) (fun c2 => ?_) | refine g_know Tk Tryz.func14 rfl (fun c2 => ?_) (fun c2 => ?_) | refine s_know Tk (fun c2 => ?_) (fun c2 => ?_)
    · have c2 : hb = true := c2
      rw [if_pos c2] at hno
      refine g_loop ?_
      exact ih (k + 1, ls) _ _ ⟨g1, hll, hno⟩ (by simp only; omega) ⟨rfl, rfl, rfl, rfl, hj1, trivial⟩ rfl trivial rfl rfl
    · have c2 : hb = false := c2
      rw [if_neg (by rw [c2]; decide)] at hno
      refine g_loop ?_
      exact ih (k + 1, set) _ _ ⟨g1, hsl, hno⟩ (by simp only; omega) ⟨rfl, rfl, rfl, rfl, hj1, trivial⟩ rfl trivial rfl rfl
  · have g1 : ad.length ≤ k := by simpa using g1
    rw [List.drop_of_length_le g1] at hno
    have hno : ((set, 0) : List Int × Int) = KK := hno
    subst hno
    refine g_ret Tk (r := .tup [ints set, ii 0]) rfl rfl rfl trivial rfl rfl ?_
    rfl
set_option maxHeartbeats 4000000 in
theorem extend14e (O : List Heap) (a : Aut) (on un : List Int) (h : smallA a) (hon : on.length ≤ max63) (hun : un.length ≤ max63) (he : opE a on un ≠ 0) : ASpec Tryz.prog 14 [autD a, ints on, ints un] O (.tup [ints [], ii (opE a on un)]) [] O := by
  have h1 := fun O => opened42e O a on un h hon hun he
  generalize opE a on un = e at *
  obtain ⟨al, st, mk, es⟩ := a
  refine aspec_intro Tk Tryz.func14 rfl Tryz.call14 Tryz.ntmps14 (Nat.le_of_ble_eq_true rfl) fun E => ?_
  refine g_run Tk Tryz.func14 ?_
  first | refine g_call Tk Tryz.func14 (h1 _) rfl rfl rfl rfl rfl ?_ | refine s_callq Tk (fun _ => h1 _) rfl rfl rfl ?_
  first | refine g_cnd Tk Tryz.func14 rfl (fun c1 => ?_) (fun c1 => ?_) | refine g_know Tk Tryz.func14 rfl (fun c1 => ?_) (fun c1 => ?_) | refine s_know Tk (fun c1 => ?_) (fun c1 => ?_)
  · refine g_ret_co Tk (r := .tup [.i (.v (.slice none 0 0)), ii e]) rfl rfl rfl trivial rfl rfl ?_
    repeat' (first | refine coD_tup ?_ | refine coD_agg ?_ | refine coD_i ?_ | refine CoDL.cons ?_ ?_ | exact CoDL.nil | exact coI_nil | refine coI_sl ?_ | refine CoLL.cons ?_ ?_ | exact CoLL.nil | refine CoL.cons ?_ ?_ | exact CoL.nil | exact CoI.refl _ | exact CoL.refl _ | exact CoLL.refl _ | exact CoDL.refl _ | exact CoD.refl _)
  · have c1 : e = 0 := bneF c1
    exact absurd c1 he
end Go.AI


/- The first law's example: known. -/
namespace Go.AI
open Go.Proofs
set_option maxRecDepth 100000
def forkA : Aut := { alpha := [0, 1, 2, 3], states := 4, marked := [3], edges := [(0, 0, 1), (0, 1, 2), (1, 2, 3), (2, 3, 3)] }
theorem fork_small : smallA forkA := ⟨by decide, by decide, by decide⟩
theorem fork_obs : obsO forkA [2, 3] [] 4 (obsR forkA [2, 3] [] 4) = ([0], [3], false) := by kernel_rfl
theorem fork_cs : csO forkA [2, 3] [2] 4 (csR forkA [2, 3] [2] 4) = ([], 2, false) := by kernel_rfl
theorem fork_op : opE forkA [2, 3] [] = 0 := by kernel_rfl
theorem fork_op2 : opE forkA [2, 3] [2] = 0 := by kernel_rfl
theorem fork_h1 : hldR forkA [] 4 [2, 3] = (false, 0) := by kernel_rfl
theorem fork_h2 : hldR forkA [] 4 [0, 2, 3] = (false, 0) := by kernel_rfl
theorem fork_h3 : hldR forkA [] 4 [0, 1, 2, 3] = (true, 0) := by kernel_rfl
theorem fork_h4 : hldR forkA [] 4 [1, 2, 3] = (false, 0) := by kernel_rfl
theorem fork_kp : keptR forkA [2, 3] = [2, 3] := by kernel_rfl
theorem fork_s1 : sortI [2, 3, 0] = [0, 2, 3] := by simp [sortI, List.mergeSort, List.MergeSort.Internal.splitInTwo]
theorem fork_s2 : sortI [0, 2, 3, 1] = [0, 1, 2, 3] := by simp [sortI, List.mergeSort, List.MergeSort.Internal.splitInTwo]
theorem fork_al : forkA.alpha = [0, 1, 2, 3] := rfl
theorem fork_ext : extR forkA [2, 3] [] 4 = ([0, 1, 2, 3], 0) := by
  unfold extR
  rw [fork_kp, fork_al]
  have e1 : ext1 forkA [] 4 [0, 1, 2, 3] [2, 3] [] = ext1 forkA [] 4 [1, 2, 3] (sortI [2, 3, 0]) [0] := by
    rw [ext1, fork_h1]; rfl
  have e2 : ext1 forkA [] 4 [1, 2, 3] [0, 2, 3] [0] = ext1 forkA [] 4 [2, 3] (sortI [0, 2, 3, 1]) [0, 1] := by
    rw [ext1, fork_h2]; rfl
  have e3 : ext1 forkA [] 4 [2, 3] [0, 1, 2, 3] [0, 1] = .inr ([0, 1, 2, 3], [0, 1]) := by
    rw [ext1, fork_h3]; rfl
  rw [e1, fork_s1, e2, fork_s2, e3]
  show exF2 (ext2 forkA [] 4 [0, 1] [0, 1, 2, 3]) = _
  have f1 : ext2 forkA [] 4 [0, 1] [0, 1, 2, 3] = ext2 forkA [] 4 [1] [0, 1, 2, 3] := by
    rw [ext2, show ([0, 1, 2, 3] : List Int).filter (fun y => !(y == 0)) = [1, 2, 3] from rfl, fork_h4]; rfl
  have f2 : ext2 forkA [] 4 [1] [0, 1, 2, 3] = .inr [0, 1, 2, 3] := by
    rw [ext2, show ([0, 1, 2, 3] : List Int).filter (fun y => !(y == 1)) = [0, 2, 3] from rfl, fork_h2]; rfl
  rw [f1, f2]
  rfl
theorem fork39 (O : List Heap) : ASpec Tryz.prog 39 [] O (autD forkA) [] O := by
  refine aspec_intro Tk Tryz.func39 rfl Tryz.call39 Tryz.ntmps39 (Nat.le_of_ble_eq_true rfl) fun E => ?_
  refine g_run Tk Tryz.func39 ?_
  refine g_ret Tk (r := autD forkA) rfl rfl rfl trivial rfl rfl ?_
  rfl
theorem extNil {g : Nat} {tab : Obj} {P : Program} {f : FuncId} {x y : D} {O O' : List Heap} {res : D} {Hr : Heap} (h : ASpecT g tab P f [x, y, ints []] O res Hr O') : ASpecT g tab P f [x, y, .i (.v (.slice none 0 0))] O res Hr O' :=
  fun E K ρ w vs hw ht hr => h E K ρ w vs hw ht ((CoDL.cons (CoD.refl _) (.cons (CoD.refl _) (.cons (coD_i coI_nil) .nil))).rep hr)
theorem known11 {g : Nat} (hg : IsTab g) {ty : TypeId} {fr : Nat × Nat} (O : List Heap) : ASpecT g (ptab ty fr) Tryz.prog 11 [] O (bb true) [] O := by
  have ho := fun O => observer17 hg (ty := ty) (fr := fr) O forkA [2, 3] 4 rfl (by decide) fork_small (by decide) fork_op
  simp only [fork_obs] at ho
  have hx := fun O => extNil (extend14 hg (ty := ty) (fr := fr) O forkA [2, 3] [] 4 rfl (by decide) fork_small (by decide) (by decide) fork_op (by decide))
  simp only [fork_ext] at hx
  have hc := fun O => consistent18 O forkA [2, 3] [2] 4 rfl (by decide) fork_small (by decide) (by decide) fork_op2
  simp only [fork_cs] at hc
  have hf := fun O => fork39 O
  have h1 := fun O => sameInts36 O [0] [0] (by decide)
  have h2 := fun O => sameInts36 O [3] [3] (by decide)
  have h3 := fun O => sameInts36 O [0, 1, 2, 3] [0, 1, 2, 3] (by decide)
  refine aspecT_stop [] Tk Tryz.func11 rfl Tryz.call11 Tryz.ntmps11 (Nat.le_of_ble_eq_true rfl) fun E hE => ?_
  refine g_run Tk Tryz.func11 ?_
  first | refine g_call Tk Tryz.func11 (hf _) rfl rfl rfl rfl rfl ?_ | refine s_callq Tk (fun _ => hf _) rfl rfl rfl ?_
  refine g_callT Tk Tryz.func11 hE (ho _) rfl rfl rfl rfl rfl rfl ?_
  first | refine g_call Tk Tryz.func11 (hf _) rfl rfl rfl rfl rfl ?_ | refine s_callq Tk (fun _ => hf _) rfl rfl rfl ?_
  refine g_callT Tk Tryz.func11 hE (hx _) rfl rfl rfl rfl rfl rfl ?_
  first | refine g_call Tk Tryz.func11 (hf _) rfl rfl rfl rfl rfl ?_ | refine s_callq Tk (fun _ => hf _) rfl rfl rfl ?_
  first | refine g_call Tk Tryz.func11 (hc _) rfl rfl rfl rfl rfl ?_ | refine s_callq Tk (fun _ => hc _) rfl rfl rfl ?_
  repeat (first | refine g_cnd Tk Tryz.func11 rfl (fun _ => ?_) (fun h => absurd h (by decide)) | refine g_know Tk Tryz.func11 rfl (fun _ => ?_) (fun h => absurd h (by decide)) | refine s_know Tk (fun _ => ?_) (fun h => absurd h (by decide)) | refine g_cnd Tk Tryz.func11 rfl (fun h => absurd h (by decide)) (fun _ => ?_) | refine g_know Tk Tryz.func11 rfl (fun h => absurd h (by decide)) (fun _ => ?_) | refine s_know Tk (fun h => absurd h (by decide)) (fun _ => ?_) | refine g_cnd Tk Tryz.func11 rfl (fun _ => ?_) (fun h => absurd (show true = false from h) (by decide)) | refine g_know Tk Tryz.func11 rfl (fun _ => ?_) (fun h => absurd (show true = false from h) (by decide)) | refine s_know Tk (fun _ => ?_) (fun h => absurd (show true = false from h) (by decide)) | refine g_cnd Tk Tryz.func11 rfl (fun h => absurd (show false = true from h) (by decide)) (fun _ => ?_) | refine g_know Tk Tryz.func11 rfl (fun h => absurd (show false = true from h) (by decide)) (fun _ => ?_) | refine s_know Tk (fun h => absurd (show false = true from h) (by decide)) (fun _ => ?_))
  first | refine g_call Tk Tryz.func11 (h1 _) rfl rfl rfl rfl rfl ?_ | refine s_callq Tk (fun _ => h1 _) rfl rfl rfl ?_
  repeat (first | refine g_cnd Tk Tryz.func11 rfl (fun _ => ?_) (fun h => absurd h (by decide)) | refine g_know Tk Tryz.func11 rfl (fun _ => ?_) (fun h => absurd h (by decide)) | refine s_know Tk (fun _ => ?_) (fun h => absurd h (by decide)) | refine g_cnd Tk Tryz.func11 rfl (fun h => absurd h (by decide)) (fun _ => ?_) | refine g_know Tk Tryz.func11 rfl (fun h => absurd h (by decide)) (fun _ => ?_) | refine s_know Tk (fun h => absurd h (by decide)) (fun _ => ?_) | refine g_cnd Tk Tryz.func11 rfl (fun _ => ?_) (fun h => absurd (show true = false from h) (by decide)) | refine g_know Tk Tryz.func11 rfl (fun _ => ?_) (fun h => absurd (show true = false from h) (by decide)) | refine s_know Tk (fun _ => ?_) (fun h => absurd (show true = false from h) (by decide)) | refine g_cnd Tk Tryz.func11 rfl (fun h => absurd (show false = true from h) (by decide)) (fun _ => ?_) | refine g_know Tk Tryz.func11 rfl (fun h => absurd (show false = true from h) (by decide)) (fun _ => ?_) | refine s_know Tk (fun h => absurd (show false = true from h) (by decide)) (fun _ => ?_))
  first | refine g_call Tk Tryz.func11 (h2 _) rfl rfl rfl rfl rfl ?_ | refine s_callq Tk (fun _ => h2 _) rfl rfl rfl ?_
  repeat (first | refine g_cnd Tk Tryz.func11 rfl (fun _ => ?_) (fun h => absurd h (by decide)) | refine g_know Tk Tryz.func11 rfl (fun _ => ?_) (fun h => absurd h (by decide)) | refine s_know Tk (fun _ => ?_) (fun h => absurd h (by decide)) | refine g_cnd Tk Tryz.func11 rfl (fun h => absurd h (by decide)) (fun _ => ?_) | refine g_know Tk Tryz.func11 rfl (fun h => absurd h (by decide)) (fun _ => ?_) | refine s_know Tk (fun h => absurd h (by decide)) (fun _ => ?_) | refine g_cnd Tk Tryz.func11 rfl (fun _ => ?_) (fun h => absurd (show true = false from h) (by decide)) | refine g_know Tk Tryz.func11 rfl (fun _ => ?_) (fun h => absurd (show true = false from h) (by decide)) | refine s_know Tk (fun _ => ?_) (fun h => absurd (show true = false from h) (by decide)) | refine g_cnd Tk Tryz.func11 rfl (fun h => absurd (show false = true from h) (by decide)) (fun _ => ?_) | refine g_know Tk Tryz.func11 rfl (fun h => absurd (show false = true from h) (by decide)) (fun _ => ?_) | refine s_know Tk (fun h => absurd (show false = true from h) (by decide)) (fun _ => ?_))
  first | refine g_call Tk Tryz.func11 (h3 _) rfl rfl rfl rfl rfl ?_ | refine s_callq Tk (fun _ => h3 _) rfl rfl rfl ?_
  repeat (first | refine g_cnd Tk Tryz.func11 rfl (fun _ => ?_) (fun h => absurd h (by decide)) | refine g_know Tk Tryz.func11 rfl (fun _ => ?_) (fun h => absurd h (by decide)) | refine s_know Tk (fun _ => ?_) (fun h => absurd h (by decide)) | refine g_cnd Tk Tryz.func11 rfl (fun h => absurd h (by decide)) (fun _ => ?_) | refine g_know Tk Tryz.func11 rfl (fun h => absurd h (by decide)) (fun _ => ?_) | refine s_know Tk (fun h => absurd h (by decide)) (fun _ => ?_) | refine g_cnd Tk Tryz.func11 rfl (fun _ => ?_) (fun h => absurd (show true = false from h) (by decide)) | refine g_know Tk Tryz.func11 rfl (fun _ => ?_) (fun h => absurd (show true = false from h) (by decide)) | refine s_know Tk (fun _ => ?_) (fun h => absurd (show true = false from h) (by decide)) | refine g_cnd Tk Tryz.func11 rfl (fun h => absurd (show false = true from h) (by decide)) (fun _ => ?_) | refine g_know Tk Tryz.func11 rfl (fun h => absurd (show false = true from h) (by decide)) (fun _ => ?_) | refine s_know Tk (fun h => absurd (show false = true from h) (by decide)) (fun _ => ?_))
  refine g_ret Tk (r := bb true) rfl rfl rfl trivial rfl rfl ?_
  rfl
end Go.AI


/- The way from a row to a contract. -/
namespace Go.Proofs.YtmhllkmceipdcaaGreatDoor
open Go.ChangeShapes Go.WideShapes Go.ChangeAt Go.RowKit
set_option maxRecDepth 100000
theorem Tryz.own : ownKnob Tryz.prog.godebug = none := by kernel_rfl
theorem powG : Tryz.prog.globalNamed "internal/strconv.uint64pow10" = some 0 := by kernel_rfl
theorem isTab0 : AI.IsTab 0 := fun _ _ _ h => AI.tabIs_of powG h
theorem tab_of_laid {W : World} (h : laidMetH Tryz.prog [("math/bits.deBruijn32tab", Rows.laid_math_bits_deBruijn32tab), ("math/bits.deBruijn64tab", Rows.laid_math_bits_deBruijn64tab), ("internal/strconv.uint64pow10", Rows.laid_internal_strconv_uint64pow10)] W) :
    ∃ ty fr, W.heap[0]? = some (AI.ptab ty fr) := by
  rw [MakeChecks.laidMetH_plain _ _ _ (by kernel_rfl)] at h
  have h3 := laidMet.tail (laidMet.tail h)
  have hT : Lib.TabIs Tryz.prog W "internal/strconv.uint64pow10" .u64 Lib.pow10Tab :=
    Lib.tabIs_of_head (t := 197) (e := 176) (n := 20) powG (by kernel_rfl) (by kernel_rfl) (by kernel_rfl) (by kernel_rfl) (by kernel_rfl) (rest := []) h3
  unfold Lib.TabIs World.var? at hT
  rw [powG] at hT
  simp only [Option.bind_some] at hT
  cases hc : W.heap[0]? with
  | none => rw [hc] at hT; cases hT
  | some o =>
    rw [hc] at hT
    cases o with
    | cells cs ty fr =>
      simp only [Option.some.injEq] at hT
      subst hT
      exact ⟨ty, fr, rfl⟩
    | _ => cases hT
/-- A contract with no memory of one's own, from the outside. -/
theorem calls_of {f : FuncId} {args : List AI.D} {vs : List Value} {b : Bool} {W : World} {ty : TypeId} {fr : Nat × Nat} (h0 : W.heap[0]? = some (AI.ptab ty fr))
    (hcall : ∀ a w, (callFunc f a).run Tryz.prog w = .ok (.enter f a) w) (hs : AI.ASpecT 0 (AI.ptab ty fr) Tryz.prog f args [] (AI.bb b) [] [])
    {K : AI.Kn} (hK : ∀ bl o x, K bl o = some x → W.cell? ⟨bl, o, none⟩ = some x) (hr : ∀ ρ sh, AI.RepDL K ρ sh vs args) :
    Calls Tryz.prog f vs.toArray W fun e W' => e = .returned (.bool b) ∧ (∀ i, i < W.heap.size → W'.heap[i]? = W.heap[i]?) ∧ W'.os = W.os ∧ W'.output = W.output := by
  let ρ : Nat → Nat → AI.Loc := fun _ _ => ⟨0, 0, none⟩
  have hobj : ∀ d n, AI.objAt [] d n = none := fun d n => by simp [AI.objAt]
  have hI : AI.HInv (AI.Env.of K ρ W) K ρ [] W :=
    ⟨hK, (fun d n ob e => absurd ((hobj d n).symm.trans e) (by simp)), (fun d n ob d' n' ob' e => absurd ((hobj d n).symm.trans e) (by simp)), Nat.le_refl _, fun _ _ _ => rfl, (fun n ob e => absurd ((hobj 0 n).symm.trans e) (by simp)), fun _ => rfl, fun _ _ _ h => h, fun _ _ _ h => .inl h, rfl, rfl, rfl⟩
  have ht : AI.TabQ 0 (AI.ptab ty fr) [] ρ W := ⟨h0, fun d n x e => by simp [AI.shape, hobj] at e⟩
  rcases hs _ K ρ W vs hI ht (hr _ _) with ⟨_, h⟩ | ⟨v, w', h, _⟩
  · refine h.mono fun e W' => ?_
    rintro ⟨v, rfl, K', ρ', h1, h2⟩
    obtain rfl := AI.inv_v h2
    refine ⟨rfl, fun i hi => h1.old i hi fun d n ob e => ?_, h1.rest.2.1, h1.rest.2.2⟩
    simp [AI.objAt] at e
  · rw [hcall] at h
    cases h
theorem kept_of {W W' : World} {P : MemPlace → Prop} (h : ∀ i, i < W.heap.size → W'.heap[i]? = W.heap[i]?) (h1 : W'.os = W.os) (h2 : W'.output = W.output) : W.keptBut W' P := by
  refine ⟨h1, h2, fun i hi => ?_⟩
  rw [h i hi]
  exact (World.keptBut_refl W P).2.2 i hi
end Go.Proofs.YtmhllkmceipdcaaGreatDoor


/- Arguments: slices and structs of them, opened to data, and read again behind the call. -/

namespace Go.Proofs.YtmhllkmceipdcaaGreatDoor
open Go.ChangeShapes Go.WideShapes Go.ChangeAt Go.RowKit Go.Deep Go.WideElems
set_option maxRecDepth 100000
/-- All that memory holds. -/
def KW (W : World) : AI.Kn := fun b o => W.cell? ⟨b, o, none⟩
theorem KW_ok (W : World) : ∀ bl o x, KW W bl o = some x → W.cell? ⟨bl, o, none⟩ = some x := fun _ _ _ h => h
section
variable {H : Type} {enc : TypeId × Value → H} {P : Program} {W : World}
/-- What is read of a type is data of a kind. -/
def Opn (enc : TypeId × Value → H) (P : Program) (W : World) (t : TypeId) (R : List AI.I → Prop) : Prop :=
  ∀ n cs x, DataW.trod enc P W 0 (fun _ => true) true n t cs = some x → ∃ is, AI.RepL (KW W) cs is ∧ R is
theorem repL_app {K : AI.Kn} {a b : List Value} {c d : List AI.I} (h : AI.RepL K a c) (h' : AI.RepL K b d) : AI.RepL K (a ++ b) (c ++ d) := h.append h'
theorem opn_int {t : TypeId} {k : IntKind} (ht : P.underlying t = some (.int k)) : Opn enc P W t fun is => ∃ z, is = [.v (.int k z)] ∧ (Lit.int k z).wf = true := by
  intro n cs x h
  obtain ⟨z, rfl, rfl, hw⟩ := DataW.trod_int ht h
  exact ⟨[.v (.int k z)], .cons (.v rfl) .nil, z, rfl, hw⟩
/-- A slice. -/
theorem opn_slice {t e : TypeId} {z : Nat} {R : List AI.I → Prop} (ht : P.underlying t = some (.slice e)) (hc : P.cellsOf e = z) (hz : 0 < z) (he : Opn enc P W e R) :
    Opn enc P W t fun is => ∃ xs : List (List AI.I), is = [.sl z xs.length xs] ∧ (∀ d ∈ xs, R d) ∧ xs.length ≤ maxLen := by
  intro n cs x h
  rcases open_slice ht h with ⟨rfl, _⟩ | ⟨a, len, cap, m, f, D, Pl, rfl, _, hle, hm, hmm, _, hx⟩
  · exact ⟨[.sl z 0 []], .cons .nil .nil, [], rfl, by simp, Nat.zero_le _⟩
  · simp only [if_true] at hmm
    subst hmm
    rw [hc] at hx
    by_cases h0 : m = 0
    · subst h0
      obtain rfl : len = 0 := by omega
      exact ⟨[.sl z 0 []], .cons .nil .nil, [], rfl, by simp, Nat.zero_le _⟩
    · have hspot : a.spot = none := by
        obtain ⟨cs', h1, _⟩ := hx 0 (by omega)
        obtain ⟨_, hl, hcell⟩ := World.cells?_some h1
        have := hcell 0 hz
        rw [Nat.zero_mul] at this
        have ha : (a.add 0).add 0 = a := by simp [Addr.add]
        rw [ha, List.getElem?_eq_getElem (by omega)] at this
        unfold World.cell? at this
        cases hsp : a.spot with
        | none => rfl
        | some s =>
          rw [hsp] at this
          split at this <;> simp at this
      obtain ⟨bl, o, sp⟩ := a
      simp only at hspot
      subst hspot
      have build : ∀ k, k ≤ len → ∃ (xs : List (List AI.I)) (vs : List Value), xs.length = k ∧ vs.length = k * z ∧ AI.RepL (KW W) vs xs.flatten ∧ (∀ d ∈ xs, R d) ∧ (∀ d ∈ xs, d.length = z) ∧ ∀ j c, vs[j]? = some c → KW W bl (o + j) = some c := by
        intro k
        induction k with
        | zero => intro _; exact ⟨[], [], rfl, by simp, .nil, by simp, by simp, by simp⟩
        | succ k ih =>
          intro hk
          obtain ⟨xs, vs, h1, h2, h3, h4, h5, h6⟩ := ih (by omega)
          obtain ⟨cs', hc1, hc2⟩ := hx k (by omega)
          obtain ⟨_, hl, hcell⟩ := World.cells?_some hc1
          obtain ⟨is, hr, hR⟩ := he f cs' _ hc2
          refine ⟨xs ++ [is], vs ++ cs', by simp [h1], by simp [h2, hl, Nat.add_mul], ?_, ?_, ?_, ?_⟩
          · rw [List.flatten_append]
            simpa using repL_app h3 hr
          · intro d hd
            rcases List.mem_append.1 hd with h | h
            · exact h4 d h
            · simp only [List.mem_singleton] at h
              subst h
              exact hR
          · intro d hd
            rcases List.mem_append.1 hd with h | h
            · exact h5 d h
            · simp only [List.mem_singleton] at h
              subst h
              rw [← hr.length, hl]
          · intro j c hj
            rw [List.getElem?_append] at hj
            split at hj
            · exact h6 j c hj
            · rename_i hge
              have hlt : j - vs.length < cs'.length := (List.getElem?_eq_some_iff.1 hj).1
              have := hcell (j - vs.length) (by omega)
              rw [hj] at this
              unfold KW
              rw [← this]
              have e : ((⟨bl, o, none⟩ : Addr).add (k * z)).add (j - vs.length) = ⟨bl, o + j, none⟩ := by
                have e1 : (⟨bl, o, none⟩ : Addr).add (k * z) = ⟨bl, o + k * z, none⟩ := by unfold Addr.add; split <;> simp_all
                rw [e1]
                unfold Addr.add
                split
                · simp <;> omega
                · simp <;> omega
              rw [e]
      obtain ⟨xs, vs, h1, h2, h3, h4, h5, h6⟩ := build len (Nat.le_refl _)
      refine ⟨[.sl z xs.length xs], .cons ?_ .nil, xs, rfl, h4, by omega⟩
      rw [h1]
      exact .sl h3 h5 h6 hle h1
/-- Structs of three fields, and of two. -/
theorem opn_struct3 {t : TypeId} {f0 f1 f2 : Field} {R0 R1 R2 : List AI.I → Prop} {z0 z1 z2 : Nat} (ht : P.underlying t = some (.struct #[f0, f1, f2])) (hc : P.cellsOf t = z0 + z1 + z2)
    (c0 : P.cellsOf f0.type = z0) (c1 : P.cellsOf f1.type = z1) (c2 : P.cellsOf f2.type = z2) (o0 : f0.offset = 0) (o1 : f1.offset = z0) (o2 : f2.offset = z0 + z1)
    (h0 : Opn enc P W f0.type R0) (h1 : Opn enc P W f1.type R1) (h2 : Opn enc P W f2.type R2) : Opn enc P W t fun is => ∃ a b c, is = a ++ b ++ c ∧ R0 a ∧ R1 b ∧ R2 c := by
  intro n cs x h
  obtain ⟨y0, y1, y2, m, _, hl, g0, g1, g2⟩ := trod_struct3 ht h
  obtain ⟨a, ra, ha⟩ := h0 _ _ _ g0
  obtain ⟨b, rb, hb⟩ := h1 _ _ _ g1
  obtain ⟨c, rc, hcc⟩ := h2 _ _ _ g2
  refine ⟨a ++ b ++ c, ?_, a, b, c, rfl, ha, hb, hcc⟩
  have e : cs = (cs.drop f0.offset).take (P.cellsOf f0.type) ++ (cs.drop f1.offset).take (P.cellsOf f1.type) ++ (cs.drop f2.offset).take (P.cellsOf f2.type) := by
    rw [c0, c1, c2, o0, o1, o2, List.drop_zero]
    have e1 : (cs.drop (z0 + z1)).take z2 = cs.drop (z0 + z1) := List.take_of_length_le (by simp; omega)
    rw [e1]
    have e2 : cs.drop (z0 + z1) = (cs.drop z0).drop z1 := by rw [List.drop_drop]
    rw [e2, List.append_assoc, List.take_append_drop, List.take_append_drop]
  rw [e]
  exact repL_app (repL_app ra rb) rc
theorem opn_struct4 {t : TypeId} {f0 f1 f2 f3 : Field} {R0 R1 R2 R3 : List AI.I → Prop} {z0 z1 z2 z3 : Nat} (ht : P.underlying t = some (.struct #[f0, f1, f2, f3])) (hc : P.cellsOf t = z0 + z1 + z2 + z3)
    (c0 : P.cellsOf f0.type = z0) (c1 : P.cellsOf f1.type = z1) (c2 : P.cellsOf f2.type = z2) (c3 : P.cellsOf f3.type = z3) (o0 : f0.offset = 0) (o1 : f1.offset = z0) (o2 : f2.offset = z0 + z1) (o3 : f3.offset = z0 + z1 + z2)
    (h0 : Opn enc P W f0.type R0) (h1 : Opn enc P W f1.type R1) (h2 : Opn enc P W f2.type R2) (h3 : Opn enc P W f3.type R3) : Opn enc P W t fun is => ∃ a b c d, is = a ++ b ++ c ++ d ∧ R0 a ∧ R1 b ∧ R2 c ∧ R3 d := by
  intro n cs x h
  obtain ⟨y0, y1, y2, y3, m, _, hl, g0, g1, g2, g3⟩ := Go.Joins.trod_struct4 ht h
  obtain ⟨a, ra, ha⟩ := h0 _ _ _ g0
  obtain ⟨b, rb, hb⟩ := h1 _ _ _ g1
  obtain ⟨c, rc, hcc⟩ := h2 _ _ _ g2
  obtain ⟨d, rd, hd⟩ := h3 _ _ _ g3
  refine ⟨a ++ b ++ c ++ d, ?_, a, b, c, d, rfl, ha, hb, hcc, hd⟩
  have e : cs = (cs.drop f0.offset).take (P.cellsOf f0.type) ++ (cs.drop f1.offset).take (P.cellsOf f1.type) ++ (cs.drop f2.offset).take (P.cellsOf f2.type) ++ (cs.drop f3.offset).take (P.cellsOf f3.type) := by
    rw [c0, c1, c2, c3, o0, o1, o2, o3, List.drop_zero]
    have e1 : (cs.drop (z0 + z1 + z2)).take z3 = cs.drop (z0 + z1 + z2) := List.take_of_length_le (by simp; omega)
    rw [e1]
    have e2 : cs.drop (z0 + z1 + z2) = ((cs.drop z0).drop z1).drop z2 := by rw [List.drop_drop, List.drop_drop, Nat.add_assoc]
    have e3 : cs.drop (z0 + z1) = (cs.drop z0).drop z1 := by rw [List.drop_drop]
    rw [e2, e3, List.append_assoc, List.take_append_drop, List.append_assoc, List.take_append_drop, List.take_append_drop]
  rw [e]
  exact repL_app (repL_app (repL_app ra rb) rc) rd
/-- Read again behind the call. -/
theorem args_again {t : TypeId} (hl : laidOutB P = true) (hr : P.readableRec t = true) (hrow : decide (t < P.types.size) = true) {W' : World} {v : Value} {d : DataW H} {ps : List MemPlace}
    (h : DataW.Trod enc P W 0 (fun _ => true) true t v d ps) (hold : ∀ i, i < W.heap.size → W'.heap[i]? = W.heap[i]?) : DataW.Trod enc P W' 0 (fun b => decide (b < W.heap.size)) true t v d ps := by
  have hlt : ∀ p ∈ ps, p.block < W.heap.size := by
    obtain ⟨n, hn⟩ := h
    exact DataW.trod_lt n t _ _ hn
  refine Trod_stays hl hr (of_decide_eq_true hrow) h (fun p hp => ?_) (fun p hp => decide_eq_true (hlt p hp))
  have hb := hlt p hp
  cases p with
  | cell b off =>
    show W'.cell? ⟨b, off, none⟩ = W.cell? ⟨b, off, none⟩
    unfold World.cell?
    rw [hold b hb]
  | map b => exact hold b hb
end
end Go.Proofs.YtmhllkmceipdcaaGreatDoor


/- An automaton as an argument, and lists of ints: data. -/
namespace Go.Proofs.YtmhllkmceipdcaaGreatDoor
open Go.ChangeShapes Go.WideShapes Go.ChangeAt Go.RowKit Go.Deep Go.WideElems
set_option maxRecDepth 100000
section
variable {H : Type} {enc : TypeId × Value → H} {W : World}
theorem list_of {α β : Type} {f : α → β} {Q : α → Prop} : ∀ {xs : List β}, (∀ d ∈ xs, ∃ a, d = f a ∧ Q a) → ∃ l : List α, xs = l.map f ∧ ∀ a ∈ l, Q a
  | [], _ => ⟨[], rfl, by simp⟩
  | d :: xs, h => by
    obtain ⟨a, ha, hq⟩ := h d (by simp)
    obtain ⟨l, hl, hql⟩ := list_of (xs := xs) fun e he => h e (by simp [he])
    refine ⟨a :: l, by rw [ha, hl]; rfl, fun b hb => ?_⟩
    rcases List.mem_cons.1 hb with rfl | hb
    · exact hq
    · exact hql b hb
theorem maxLen63 {n : Nat} (h : n ≤ maxLen) : n ≤ AI.max63 := by
  simp only [maxLen] at h
  simp only [AI.max63]
  omega
theorem okWide_slice {P : Program} {W : World} {r : Reach} {b0 : Nat} {t e : TypeId} {v : Value} (ht : P.underlying t = some (.slice e)) (h : Value.okWide P W r b0 t v) : v.cells.toList = [v] := by
  simp only [Value.okWide, ht, Cell.okWide] at h
  cases v <;> simp_all [Cell.ok, Value.cells]
/-- Ints, and lists of them. -/
theorem opn_ints : Opn enc Tryz.prog W 29 fun is => ∃ l : List Int, is = [AI.intsI l] ∧ l.length ≤ AI.max63 := by
  intro n cs x h
  obtain ⟨is, hr, xs, rfl, hx, hl⟩ := opn_slice Tryz.underlying29 (z := 1) (by kernel_rfl) (by decide) (opn_int Tryz.underlying3) n cs x h
  obtain ⟨l, rfl, -⟩ := list_of (f := fun z : Int => [AI.vi z]) (Q := fun _ => True) (xs := xs) fun d hd => by
    obtain ⟨z, hz, _⟩ := hx d hd
    exact ⟨z, hz, trivial⟩
  refine ⟨_, hr, l, by simp, maxLen63 (by simpa using hl)⟩
theorem open_ints {r : Reach} {b0 : Nat} {v : Value} {d : DataW H} {p : List MemPlace} (hv : Value.okWide Tryz.prog W r b0 29 v) (h : DataW.Trod enc Tryz.prog W 0 (fun _ => true) true 29 v d p) :
    ∃ l : List Int, l.length ≤ AI.max63 ∧ ∀ ρ sh, AI.RepD (KW W) ρ sh v (AI.ints l) := by
  obtain ⟨n, hn⟩ := h
  obtain ⟨is, hr, l, rfl, hl⟩ := opn_ints n _ _ hn
  rw [okWide_slice Tryz.underlying29 hv] at hr
  cases hr with
  | cons h1 h2 => exact ⟨l, hl, fun ρ sh => .i h1⟩
theorem opn_edg : Opn enc Tryz.prog W 79 fun is => ∃ x : AI.Edg, is = AI.edgI x ∧ True := by
  intro n cs x h
  obtain ⟨is, hr, a, b, c, rfl, ⟨p, rfl, _⟩, ⟨q, rfl, _⟩, ⟨u, rfl, _⟩⟩ := opn_struct3 Tryz.underlying79 (z0 := 1) (z1 := 1) (z2 := 1) (by kernel_rfl) (by kernel_rfl) (by kernel_rfl) (by kernel_rfl) rfl rfl rfl
    (opn_int Tryz.underlying3) (opn_int Tryz.underlying3) (opn_int Tryz.underlying3) n cs x h
  exact ⟨_, hr, (p, q, u), rfl, trivial⟩
theorem opn_edgs : Opn enc Tryz.prog W 30 fun is => ∃ l : List AI.Edg, is = [.sl 3 l.length (l.map AI.edgI)] ∧ l.length ≤ AI.max63 := by
  intro n cs x h
  obtain ⟨is, hr, xs, rfl, hx, hl⟩ := opn_slice Tryz.underlying30 (z := 3) (by kernel_rfl) (by decide) opn_edg n cs x h
  obtain ⟨l, rfl, -⟩ := list_of (f := AI.edgI) (Q := fun _ => True) (xs := xs) hx
  refine ⟨_, hr, l, by simp, maxLen63 (by simpa using hl)⟩
abbrev autF (a : AI.Aut) : List AI.I := [AI.intsI a.alpha, AI.vi a.states, AI.intsI a.marked, .sl 3 a.edges.length (a.edges.map AI.edgI)]
structure autLen (x : AI.Aut) : Prop where
  e : x.edges.length ≤ AI.max63
  a : x.alpha.length ≤ AI.max63
  m : x.marked.length ≤ AI.max63
theorem opn_aut : Opn enc Tryz.prog W 32 fun is => ∃ a : AI.Aut, is = autF a ∧ autLen a := by
  intro n cs x h
  obtain ⟨is, hr, a, b, c, d, rfl, ⟨p, rfl, hp⟩, ⟨q, rfl, _⟩, ⟨r, rfl, h1⟩, ⟨l, rfl, h3⟩⟩ := opn_struct4 Tryz.underlying32 (z0 := 1) (z1 := 1) (z2 := 1) (z3 := 1) (by kernel_rfl) (by kernel_rfl) (by kernel_rfl) (by kernel_rfl) (by kernel_rfl) rfl rfl rfl rfl
    opn_ints (opn_int Tryz.underlying3) opn_ints opn_edgs n cs x h
  exact ⟨_, hr, ⟨p, q, r, l⟩, rfl, h3, hp, h1⟩
/-- An automaton, by value. -/
theorem open_aut {r : Reach} {b0 : Nat} {v : Value} {d : DataW H} {p : List MemPlace} (hv : Value.okWide Tryz.prog W r b0 32 v) (h : DataW.Trod enc Tryz.prog W 0 (fun _ => true) true 32 v d p) :
    ∃ a : AI.Aut, autLen a ∧ ∀ ρ sh, AI.RepD (KW W) ρ sh v (AI.autD a) := by
  obtain ⟨cs, rfl, _⟩ := okWide_struct Tryz.underlying32 hv
  obtain ⟨n, hn⟩ := h
  obtain ⟨is, hr, a, rfl, hk⟩ := opn_aut n _ _ hn
  refine ⟨a, hk, fun ρ sh => ?_⟩
  have := AI.RepD.agg (AI.RepDL.ofL (ρ := ρ) (sh := sh) hr)
  simpa [Value.cells] using this
end
end Go.Proofs.YtmhllkmceipdcaaGreatDoor


/- Law Checks: the first error. -/
namespace Go.AI
open Go.Proofs
set_option maxRecDepth 20000
set_option maxHeartbeats 4000000 in
theorem classes21e (O : List Heap) (a : Aut) (on : List Int) (h : smallA a) (hon : on.length ≤ max63) (he : opE a on [] ≠ 0) : ASpec Tryz.prog 21 [autD a, ints on] O (.tup [.i (.v (.slice none 0 0)), ii (opE a on [])]) [] O := by
  have h1 := fun O => coNil (opened42e O a on [] h hon (by simp) he)
  generalize opE a on [] = e at *
  obtain ⟨al, st, mk, es⟩ := a
  refine aspec_intro Tk Tryz.func21 rfl Tryz.call21 Tryz.ntmps21 (Nat.le_of_ble_eq_true rfl) fun E => ?_
  refine g_run Tk Tryz.func21 ?_
  first | refine g_call Tk Tryz.func21 (h1 _) rfl rfl rfl rfl rfl ?_ | refine s_callq Tk (fun _ => h1 _) rfl rfl rfl ?_
  first | refine g_cnd Tk Tryz.func21 rfl (fun c1 => ?_) (fun c1 => ?_) | refine g_know Tk Tryz.func21 rfl (fun c1 => ?_) (fun c1 => ?_) | refine s_know Tk (fun c1 => ?_) (fun c1 => ?_)
  · refine g_ret Tk (r := .tup [.i (.v (.slice none 0 0)), ii e]) rfl rfl rfl trivial rfl rfl ?_
    rfl
  · have c1 : e = 0 := bneF c1
    exact absurd c1 he
theorem nil34 {P : Program} {f : FuncId} {x y : D} {O O' : List Heap} {res : D} {Hr : Heap} (h : ASpec P f [x, y, ints [], ints []] O res Hr O') : ASpec P f [x, y, .i (.v (.slice none 0 0)), .i (.v (.slice none 0 0))] O res Hr O' :=
  ASpec.co h (.cons (CoD.refl _) (.cons (CoD.refl _) (.cons (coD_i coI_nil) (.cons (coD_i coI_nil) .nil))))
theorem nil45 {P : Program} {f : FuncId} {x y z u : D} {O O' : List Heap} {res : D} {Hr : Heap} (h : ASpec P f [x, y, z, ints [], u] O res Hr O') : ASpec P f [x, y, z, .i (.v (.slice none 0 0)), u] O res Hr O' :=
  ASpec.co h (.cons (CoD.refl _) (.cons (CoD.refl _) (.cons (CoD.refl _) (.cons (coD_i coI_nil) (.cons (CoD.refl _) .nil)))))
theorem opE_1 {a : Aut} {on un : List Int} (h : chkA a ≠ 0) : opE a on un = chkA a := by unfold opE; rw [if_pos h]
theorem opE_2 {a : Aut} {on un : List Int} (h : chkA a = 0) (h2 : checkSet 32 on none ≠ 0) : opE a on un = checkSet 32 on none := by unfold opE; rw [if_neg (fun c => c h), if_pos h2]
theorem opE_3 {a : Aut} {on un : List Int} (h : chkA a = 0) (h2 : checkSet 32 on none = 0) : opE a on un = checkSet 32 un none := by unfold opE; rw [if_neg (fun c => c h), if_neg (fun c => c h2)]
set_option maxHeartbeats 8000000 in
theorem checks10 {g : Nat} (hg : IsTab g) {ty : TypeId} {fr : Nat × Nat} (O : List Heap) (a : Aut) (on un : List Int) : ASpecT g (ptab ty fr) Tryz.prog 10 [autD a, ints on, ints un] O (bb true) [] O := by
  have hkn := fun O => known11 hg (ty := ty) (fr := fr) O
  have hn : ∀ {l : Nat} {k : Int}, decide (k < (l : Int)) = false → (l : Int) ≤ k := fun h => by simpa using h
  refine aspecT_stop [6, 13] Tk Tryz.func10 rfl Tryz.call10 Tryz.ntmps10 (Nat.le_of_ble_eq_true rfl) fun E hE => ?_
  refine g_run Tk Tryz.func10 ?_
  refine g_callT Tk Tryz.func10 hE (hkn _) rfl rfl rfl rfl rfl rfl ?_
  repeat (first | refine g_cnd Tk Tryz.func10 rfl (fun _ => ?_) (fun h => absurd h (by decide)) | refine g_know Tk Tryz.func10 rfl (fun _ => ?_) (fun h => absurd h (by decide)) | refine s_know Tk (fun _ => ?_) (fun h => absurd h (by decide)) | refine g_cnd Tk Tryz.func10 rfl (fun h => absurd h (by decide)) (fun _ => ?_) | refine g_know Tk Tryz.func10 rfl (fun h => absurd h (by decide)) (fun _ => ?_) | refine s_know Tk (fun h => absurd h (by decide)) (fun _ => ?_) | refine g_cnd Tk Tryz.func10 rfl (fun _ => ?_) (fun h => absurd (show true = false from h) (by decide)) | refine g_know Tk Tryz.func10 rfl (fun _ => ?_) (fun h => absurd (show true = false from h) (by decide)) | refine s_know Tk (fun _ => ?_) (fun h => absurd (show true = false from h) (by decide)) | refine g_cnd Tk Tryz.func10 rfl (fun h => absurd (show false = true from h) (by decide)) (fun _ => ?_) | refine g_know Tk Tryz.func10 rfl (fun h => absurd (show false = true from h) (by decide)) (fun _ => ?_) | refine s_know Tk (fun h => absurd (show false = true from h) (by decide)) (fun _ => ?_))
  first | refine g_cnd Tk Tryz.func10 rfl (fun c1 => ?_) (fun c1 => ?_) | refine g_know Tk Tryz.func10 rfl (fun c1 => ?_) (fun c1 => ?_) | refine s_know Tk (fun c1 => ?_) (fun c1 => ?_)
  · repeat (first | refine g_cnd Tk Tryz.func10 rfl (fun _ => ?_) (fun h => absurd h (by decide)) | refine g_know Tk Tryz.func10 rfl (fun _ => ?_) (fun h => absurd h (by decide)) | refine s_know Tk (fun _ => ?_) (fun h => absurd h (by decide)) | refine g_cnd Tk Tryz.func10 rfl (fun h => absurd h (by decide)) (fun _ => ?_) | refine g_know Tk Tryz.func10 rfl (fun h => absurd h (by decide)) (fun _ => ?_) | refine s_know Tk (fun h => absurd h (by decide)) (fun _ => ?_) | refine g_cnd Tk Tryz.func10 rfl (fun _ => ?_) (fun h => absurd (show true = false from h) (by decide)) | refine g_know Tk Tryz.func10 rfl (fun _ => ?_) (fun h => absurd (show true = false from h) (by decide)) | refine s_know Tk (fun _ => ?_) (fun h => absurd (show true = false from h) (by decide)) | refine g_cnd Tk Tryz.func10 rfl (fun h => absurd (show false = true from h) (by decide)) (fun _ => ?_) | refine g_know Tk Tryz.func10 rfl (fun h => absurd (show false = true from h) (by decide)) (fun _ => ?_) | refine s_know Tk (fun h => absurd (show false = true from h) (by decide)) (fun _ => ?_))
    refine g_callT Tk Tryz.func10 hE (hkn _) rfl rfl rfl rfl rfl rfl ?_
    refine g_ret Tk (r := bb true) rfl rfl rfl trivial rfl rfl ?_
    rfl
  first | refine g_cnd Tk Tryz.func10 rfl (fun c2 => ?_) (fun c2 => ?_) | refine g_know Tk Tryz.func10 rfl (fun c2 => ?_) (fun c2 => ?_) | refine s_know Tk (fun c2 => ?_) (fun c2 => ?_)
  · repeat (first | refine g_cnd Tk Tryz.func10 rfl (fun _ => ?_) (fun h => absurd h (by decide)) | refine g_know Tk Tryz.func10 rfl (fun _ => ?_) (fun h => absurd h (by decide)) | refine s_know Tk (fun _ => ?_) (fun h => absurd h (by decide)) | refine g_cnd Tk Tryz.func10 rfl (fun h => absurd h (by decide)) (fun _ => ?_) | refine g_know Tk Tryz.func10 rfl (fun h => absurd h (by decide)) (fun _ => ?_) | refine s_know Tk (fun h => absurd h (by decide)) (fun _ => ?_) | refine g_cnd Tk Tryz.func10 rfl (fun _ => ?_) (fun h => absurd (show true = false from h) (by decide)) | refine g_know Tk Tryz.func10 rfl (fun _ => ?_) (fun h => absurd (show true = false from h) (by decide)) | refine s_know Tk (fun _ => ?_) (fun h => absurd (show true = false from h) (by decide)) | refine g_cnd Tk Tryz.func10 rfl (fun h => absurd (show false = true from h) (by decide)) (fun _ => ?_) | refine g_know Tk Tryz.func10 rfl (fun h => absurd (show false = true from h) (by decide)) (fun _ => ?_) | refine s_know Tk (fun h => absurd (show false = true from h) (by decide)) (fun _ => ?_))
    refine g_callT Tk Tryz.func10 hE (hkn _) rfl rfl rfl rfl rfl rfl ?_
    refine g_ret Tk (r := bb true) rfl rfl rfl trivial rfl rfl ?_
    rfl
  first | refine g_cnd Tk Tryz.func10 rfl (fun c3 => ?_) (fun c3 => ?_) | refine g_know Tk Tryz.func10 rfl (fun c3 => ?_) (fun c3 => ?_) | refine s_know Tk (fun c3 => ?_) (fun c3 => ?_)
  · repeat (first | refine g_cnd Tk Tryz.func10 rfl (fun _ => ?_) (fun h => absurd h (by decide)) | refine g_know Tk Tryz.func10 rfl (fun _ => ?_) (fun h => absurd h (by decide)) | refine s_know Tk (fun _ => ?_) (fun h => absurd h (by decide)) | refine g_cnd Tk Tryz.func10 rfl (fun h => absurd h (by decide)) (fun _ => ?_) | refine g_know Tk Tryz.func10 rfl (fun h => absurd h (by decide)) (fun _ => ?_) | refine s_know Tk (fun h => absurd h (by decide)) (fun _ => ?_) | refine g_cnd Tk Tryz.func10 rfl (fun _ => ?_) (fun h => absurd (show true = false from h) (by decide)) | refine g_know Tk Tryz.func10 rfl (fun _ => ?_) (fun h => absurd (show true = false from h) (by decide)) | refine s_know Tk (fun _ => ?_) (fun h => absurd (show true = false from h) (by decide)) | refine g_cnd Tk Tryz.func10 rfl (fun h => absurd (show false = true from h) (by decide)) (fun _ => ?_) | refine g_know Tk Tryz.func10 rfl (fun h => absurd (show false = true from h) (by decide)) (fun _ => ?_) | refine s_know Tk (fun h => absurd (show false = true from h) (by decide)) (fun _ => ?_))
    refine g_callT Tk Tryz.func10 hE (hkn _) rfl rfl rfl rfl rfl rfl ?_
    refine g_ret Tk (r := bb true) rfl rfl rfl trivial rfl rfl ?_
    rfl
  first | refine g_cnd Tk Tryz.func10 rfl (fun c4 => ?_) (fun c4 => ?_) | refine g_know Tk Tryz.func10 rfl (fun c4 => ?_) (fun c4 => ?_) | refine s_know Tk (fun c4 => ?_) (fun c4 => ?_)
  · repeat (first | refine g_cnd Tk Tryz.func10 rfl (fun _ => ?_) (fun h => absurd h (by decide)) | refine g_know Tk Tryz.func10 rfl (fun _ => ?_) (fun h => absurd h (by decide)) | refine s_know Tk (fun _ => ?_) (fun h => absurd h (by decide)) | refine g_cnd Tk Tryz.func10 rfl (fun h => absurd h (by decide)) (fun _ => ?_) | refine g_know Tk Tryz.func10 rfl (fun h => absurd h (by decide)) (fun _ => ?_) | refine s_know Tk (fun h => absurd h (by decide)) (fun _ => ?_) | refine g_cnd Tk Tryz.func10 rfl (fun _ => ?_) (fun h => absurd (show true = false from h) (by decide)) | refine g_know Tk Tryz.func10 rfl (fun _ => ?_) (fun h => absurd (show true = false from h) (by decide)) | refine s_know Tk (fun _ => ?_) (fun h => absurd (show true = false from h) (by decide)) | refine g_cnd Tk Tryz.func10 rfl (fun h => absurd (show false = true from h) (by decide)) (fun _ => ?_) | refine g_know Tk Tryz.func10 rfl (fun h => absurd (show false = true from h) (by decide)) (fun _ => ?_) | refine s_know Tk (fun h => absurd (show false = true from h) (by decide)) (fun _ => ?_))
    refine g_callT Tk Tryz.func10 hE (hkn _) rfl rfl rfl rfl rfl rfl ?_
    refine g_ret Tk (r := bb true) rfl rfl rfl trivial rfl rfl ?_
    rfl
  first | refine g_cnd Tk Tryz.func10 rfl (fun c5 => ?_) (fun c5 => ?_) | refine g_know Tk Tryz.func10 rfl (fun c5 => ?_) (fun c5 => ?_) | refine s_know Tk (fun c5 => ?_) (fun c5 => ?_)
  · refine g_callT Tk Tryz.func10 hE (hkn _) rfl rfl rfl rfl rfl rfl ?_
    refine g_ret Tk (r := bb true) rfl rfl rfl trivial rfl rfl ?_
    rfl
  have k1 := hn c1
  have k2 := hn c2
  have k3 := hn c3
  have k4 := hn c4
  have k5 := hn c5
  have hsm : smallA a := ⟨by omega, by omega, by omega⟩
  have hon : on.length ≤ max63 := by simp only [max63]; omega
  have hun : un.length ≤ max63 := by simp only [max63]; omega
  have hc := fun O => check55 O a (by simp only [max63]; omega) (by simp only [max63]; omega) (by simp only [max63]; omega)
  have hl1 := fun O => list117 O on 32 hon
  have hl2 := fun O => list117 O un 32 hun
  have e1 := fun un => opE_1 (a := a) (on := on) (un := un)
  have e2 := fun un => opE_2 (a := a) (on := on) (un := un)
  have e3 := fun un => opE_3 (a := a) (on := on) (un := un)
  have a1 := fun O => observer17e O a on hsm hon
  have a2 := fun h O => nil34 (refutes27e O a on [] [] hsm hon h)
  have a3 := fun O => classes21e O a on hsm hon
  clear c1 c2 c3 c4 c5 hn k1 k2 k3 k4 k5
  apply join_q (α := Int) (P := fun e => (e ≠ 0 → opE a on [] = e ∧ opE a on un = e) ∧ (e = 0 → chkA a = 0 ∧ checkSet 32 on none = 0)) (s6 := fun e => { σ := [(1, ints on), (2, ints un), (3, .own 0 3 0 0), (7, ii e)], S := [(3, .box (autC a))] :: O, n := 177 })
  · intro J
    first | refine g_call Tk Tryz.func10 (hc _) rfl rfl rfl rfl rfl ?_ | refine s_callq Tk (fun _ => hc _) rfl rfl rfl ?_
    first | refine g_cnd Tk Tryz.func10 rfl (fun g1 => ?_) (fun g1 => ?_) | refine g_know Tk Tryz.func10 rfl (fun g1 => ?_) (fun g1 => ?_) | refine s_know Tk (fun g1 => ?_) (fun g1 => ?_)
    · have g1 : chkA a = 0 := beqT g1
      first | refine g_call Tk Tryz.func10 (hl1 _) rfl rfl rfl rfl rfl ?_ | refine s_callq Tk (fun _ => hl1 _) rfl rfl rfl ?_
      refine g_stop ?_
      refine rch_meet (J (checkSet 32 on none) ⟨fun h => ⟨e2 _ g1 h, e2 _ g1 h⟩, fun h => ⟨g1, h⟩⟩) ⟨rfl, rfl, rfl, rfl, trivial⟩ rfl ⟨rfl, trivial⟩ rfl rfl
    · have g1 : chkA a ≠ 0 := beqF g1
      refine g_stop ?_
      refine rch_meet (J (chkA a) ⟨fun h => ⟨e1 _ g1, e1 _ g1⟩, fun h => absurd h g1⟩) ⟨rfl, rfl, rfl, rfl, trivial⟩ rfl ⟨rfl, trivial⟩ rfl rfl
  rintro e ⟨he, he0⟩
  apply join_q (α := Int) (P := fun e => e ≠ 0 → opE a on un = e) (s6 := fun e => { σ := [(1, ints on), (2, ints un), (3, .own 0 3 0 0), (7, ii e)], S := [(3, .box (autC a))] :: O, n := 177 })
  · intro J
    refine g_run Tk Tryz.func10 ?_
    refine g_go Tk Tryz.func10 ?_
    first | refine g_cnd Tk Tryz.func10 rfl (fun g1 => ?_) (fun g1 => ?_) | refine g_know Tk Tryz.func10 rfl (fun g1 => ?_) (fun g1 => ?_) | refine s_know Tk (fun g1 => ?_) (fun g1 => ?_)
    · have g1 : e ≠ 0 := bneT g1
      obtain ⟨h1, h2⟩ := he g1
      have a2 := a2 (by rw [h1]; exact g1)
      rw [h1] at a1 a2 a3
      have a1 := fun O => a1 O g1
      have a3 := fun O => a3 O g1
      first | refine g_call Tk Tryz.func10 (a1 _) rfl rfl rfl rfl rfl ?_ | refine s_callq Tk (fun _ => a1 _) rfl rfl rfl ?_
      first | refine g_call Tk Tryz.func10 (a2 _) rfl rfl rfl rfl rfl ?_ | refine s_callq Tk (fun _ => a2 _) rfl rfl rfl ?_
      first | refine g_call Tk Tryz.func10 (a3 _) rfl rfl rfl rfl rfl ?_ | refine s_callq Tk (fun _ => a3 _) rfl rfl rfl ?_
      repeat (first | refine g_cnd Tk Tryz.func10 rfl (fun _ => ?_) (fun h => absurd h (by decide)) | refine g_know Tk Tryz.func10 rfl (fun _ => ?_) (fun h => absurd h (by decide)) | refine s_know Tk (fun _ => ?_) (fun h => absurd h (by decide)) | refine g_cnd Tk Tryz.func10 rfl (fun h => absurd h (by decide)) (fun _ => ?_) | refine g_know Tk Tryz.func10 rfl (fun h => absurd h (by decide)) (fun _ => ?_) | refine s_know Tk (fun h => absurd h (by decide)) (fun _ => ?_) | refine g_cnd Tk Tryz.func10 rfl (fun _ => ?_) (fun h => absurd (show true = false from h) (by decide)) | refine g_know Tk Tryz.func10 rfl (fun _ => ?_) (fun h => absurd (show true = false from h) (by decide)) | refine s_know Tk (fun _ => ?_) (fun h => absurd (show true = false from h) (by decide)) | refine g_cnd Tk Tryz.func10 rfl (fun h => absurd (show false = true from h) (by decide)) (fun _ => ?_) | refine g_know Tk Tryz.func10 rfl (fun h => absurd (show false = true from h) (by decide)) (fun _ => ?_) | refine s_know Tk (fun h => absurd (show false = true from h) (by decide)) (fun _ => ?_))
      first | refine g_cnd Tk Tryz.func10 rfl (fun d1 => ?_) (fun d1 => ?_) | refine g_know Tk Tryz.func10 rfl (fun d1 => ?_) (fun d1 => ?_) | refine s_know Tk (fun d1 => ?_) (fun d1 => ?_)
      · exact absurd d1 (by simp)
      repeat (first | refine g_cnd Tk Tryz.func10 rfl (fun _ => ?_) (fun h => absurd h (by decide)) | refine g_know Tk Tryz.func10 rfl (fun _ => ?_) (fun h => absurd h (by decide)) | refine s_know Tk (fun _ => ?_) (fun h => absurd h (by decide)) | refine g_cnd Tk Tryz.func10 rfl (fun h => absurd h (by decide)) (fun _ => ?_) | refine g_know Tk Tryz.func10 rfl (fun h => absurd h (by decide)) (fun _ => ?_) | refine s_know Tk (fun h => absurd h (by decide)) (fun _ => ?_) | refine g_cnd Tk Tryz.func10 rfl (fun _ => ?_) (fun h => absurd (show true = false from h) (by decide)) | refine g_know Tk Tryz.func10 rfl (fun _ => ?_) (fun h => absurd (show true = false from h) (by decide)) | refine s_know Tk (fun _ => ?_) (fun h => absurd (show true = false from h) (by decide)) | refine g_cnd Tk Tryz.func10 rfl (fun h => absurd (show false = true from h) (by decide)) (fun _ => ?_) | refine g_know Tk Tryz.func10 rfl (fun h => absurd (show false = true from h) (by decide)) (fun _ => ?_) | refine s_know Tk (fun h => absurd (show false = true from h) (by decide)) (fun _ => ?_))
      first | refine g_cnd Tk Tryz.func10 rfl (fun d2 => ?_) (fun d2 => ?_) | refine g_know Tk Tryz.func10 rfl (fun d2 => ?_) (fun d2 => ?_) | refine s_know Tk (fun d2 => ?_) (fun d2 => ?_)
      · exact absurd d2 (by simp)
      repeat (first | refine g_cnd Tk Tryz.func10 rfl (fun _ => ?_) (fun h => absurd h (by decide)) | refine g_know Tk Tryz.func10 rfl (fun _ => ?_) (fun h => absurd h (by decide)) | refine s_know Tk (fun _ => ?_) (fun h => absurd h (by decide)) | refine g_cnd Tk Tryz.func10 rfl (fun h => absurd h (by decide)) (fun _ => ?_) | refine g_know Tk Tryz.func10 rfl (fun h => absurd h (by decide)) (fun _ => ?_) | refine s_know Tk (fun h => absurd h (by decide)) (fun _ => ?_) | refine g_cnd Tk Tryz.func10 rfl (fun _ => ?_) (fun h => absurd (show true = false from h) (by decide)) | refine g_know Tk Tryz.func10 rfl (fun _ => ?_) (fun h => absurd (show true = false from h) (by decide)) | refine s_know Tk (fun _ => ?_) (fun h => absurd (show true = false from h) (by decide)) | refine g_cnd Tk Tryz.func10 rfl (fun h => absurd (show false = true from h) (by decide)) (fun _ => ?_) | refine g_know Tk Tryz.func10 rfl (fun h => absurd (show false = true from h) (by decide)) (fun _ => ?_) | refine s_know Tk (fun h => absurd (show false = true from h) (by decide)) (fun _ => ?_))
      first | refine g_cnd Tk Tryz.func10 rfl (fun d3 => ?_) (fun d3 => ?_) | refine g_know Tk Tryz.func10 rfl (fun d3 => ?_) (fun d3 => ?_) | refine s_know Tk (fun d3 => ?_) (fun d3 => ?_)
      · exact absurd d3 (by simp)
      refine g_stop ?_
      refine rch_meet (J e fun _ => h2) ⟨rfl, rfl, rfl, rfl, trivial⟩ rfl ⟨rfl, trivial⟩ rfl rfl
    · have g1 : e = 0 := bneF g1
      obtain ⟨h1, h2⟩ := he0 g1
      first | refine g_call Tk Tryz.func10 (hl2 _) rfl rfl rfl rfl rfl ?_ | refine s_callq Tk (fun _ => hl2 _) rfl rfl rfl ?_
      refine g_stop ?_
      refine rch_meet (J (checkSet 32 un none) fun h => e3 _ h1 h2) ⟨rfl, rfl, rfl, rfl, trivial⟩ rfl ⟨rfl, trivial⟩ rfl rfl
  clear he he0
  clear e
  rintro e he
  refine g_run Tk Tryz.func10 ?_
  refine g_go Tk Tryz.func10 ?_
  first | refine g_cnd Tk Tryz.func10 rfl (fun g1 => ?_) (fun g1 => ?_) | refine g_know Tk Tryz.func10 rfl (fun g1 => ?_) (fun g1 => ?_) | refine s_know Tk (fun g1 => ?_) (fun g1 => ?_)
  · refine g_ret Tk (r := bb true) rfl rfl rfl trivial rfl rfl ?_
    rfl
  have g1 : e ≠ 0 := beqF g1
  have he := he g1
  have b1 := fun O => consistent18e O a on un hsm hon hun (by rw [he]; exact g1)
  have b2 := fun O => nil45 (contradicts25e O a on un [] 0 hsm hon hun (by rw [he]; exact g1))
  have b3 := fun O => extend14e O a on un hsm hon hun (by rw [he]; exact g1)
  rw [he] at b1 b2 b3
  first | refine g_call Tk Tryz.func10 (b1 _) rfl rfl rfl rfl rfl ?_ | refine s_callq Tk (fun _ => b1 _) rfl rfl rfl ?_
  first | refine g_call Tk Tryz.func10 (b2 _) rfl rfl rfl rfl rfl ?_ | refine s_callq Tk (fun _ => b2 _) rfl rfl rfl ?_
  first | refine g_call Tk Tryz.func10 (b3 _) rfl rfl rfl rfl rfl ?_ | refine s_callq Tk (fun _ => b3 _) rfl rfl rfl ?_
  repeat (first | refine g_cnd Tk Tryz.func10 rfl (fun _ => ?_) (fun h => absurd h (by decide)) | refine g_know Tk Tryz.func10 rfl (fun _ => ?_) (fun h => absurd h (by decide)) | refine s_know Tk (fun _ => ?_) (fun h => absurd h (by decide)) | refine g_cnd Tk Tryz.func10 rfl (fun h => absurd h (by decide)) (fun _ => ?_) | refine g_know Tk Tryz.func10 rfl (fun h => absurd h (by decide)) (fun _ => ?_) | refine s_know Tk (fun h => absurd h (by decide)) (fun _ => ?_) | refine g_cnd Tk Tryz.func10 rfl (fun _ => ?_) (fun h => absurd (show true = false from h) (by decide)) | refine g_know Tk Tryz.func10 rfl (fun _ => ?_) (fun h => absurd (show true = false from h) (by decide)) | refine s_know Tk (fun _ => ?_) (fun h => absurd (show true = false from h) (by decide)) | refine g_cnd Tk Tryz.func10 rfl (fun h => absurd (show false = true from h) (by decide)) (fun _ => ?_) | refine g_know Tk Tryz.func10 rfl (fun h => absurd (show false = true from h) (by decide)) (fun _ => ?_) | refine s_know Tk (fun h => absurd (show false = true from h) (by decide)) (fun _ => ?_))
  first | refine g_cnd Tk Tryz.func10 rfl (fun d1 => ?_) (fun d1 => ?_) | refine g_know Tk Tryz.func10 rfl (fun d1 => ?_) (fun d1 => ?_) | refine s_know Tk (fun d1 => ?_) (fun d1 => ?_)
  rotate_left
  · exact absurd d1 (by simp)
  repeat (first | refine g_cnd Tk Tryz.func10 rfl (fun _ => ?_) (fun h => absurd h (by decide)) | refine g_know Tk Tryz.func10 rfl (fun _ => ?_) (fun h => absurd h (by decide)) | refine s_know Tk (fun _ => ?_) (fun h => absurd h (by decide)) | refine g_cnd Tk Tryz.func10 rfl (fun h => absurd h (by decide)) (fun _ => ?_) | refine g_know Tk Tryz.func10 rfl (fun h => absurd h (by decide)) (fun _ => ?_) | refine s_know Tk (fun h => absurd h (by decide)) (fun _ => ?_) | refine g_cnd Tk Tryz.func10 rfl (fun _ => ?_) (fun h => absurd (show true = false from h) (by decide)) | refine g_know Tk Tryz.func10 rfl (fun _ => ?_) (fun h => absurd (show true = false from h) (by decide)) | refine s_know Tk (fun _ => ?_) (fun h => absurd (show true = false from h) (by decide)) | refine g_cnd Tk Tryz.func10 rfl (fun h => absurd (show false = true from h) (by decide)) (fun _ => ?_) | refine g_know Tk Tryz.func10 rfl (fun h => absurd (show false = true from h) (by decide)) (fun _ => ?_) | refine s_know Tk (fun h => absurd (show false = true from h) (by decide)) (fun _ => ?_))
  first | refine g_cnd Tk Tryz.func10 rfl (fun d2 => ?_) (fun d2 => ?_) | refine g_know Tk Tryz.func10 rfl (fun d2 => ?_) (fun d2 => ?_) | refine s_know Tk (fun d2 => ?_) (fun d2 => ?_)
  rotate_left
  · exact absurd d2 (by simp)
  repeat (first | refine g_cnd Tk Tryz.func10 rfl (fun _ => ?_) (fun h => absurd h (by decide)) | refine g_know Tk Tryz.func10 rfl (fun _ => ?_) (fun h => absurd h (by decide)) | refine s_know Tk (fun _ => ?_) (fun h => absurd h (by decide)) | refine g_cnd Tk Tryz.func10 rfl (fun h => absurd h (by decide)) (fun _ => ?_) | refine g_know Tk Tryz.func10 rfl (fun h => absurd h (by decide)) (fun _ => ?_) | refine s_know Tk (fun h => absurd h (by decide)) (fun _ => ?_) | refine g_cnd Tk Tryz.func10 rfl (fun _ => ?_) (fun h => absurd (show true = false from h) (by decide)) | refine g_know Tk Tryz.func10 rfl (fun _ => ?_) (fun h => absurd (show true = false from h) (by decide)) | refine s_know Tk (fun _ => ?_) (fun h => absurd (show true = false from h) (by decide)) | refine g_cnd Tk Tryz.func10 rfl (fun h => absurd (show false = true from h) (by decide)) (fun _ => ?_) | refine g_know Tk Tryz.func10 rfl (fun h => absurd (show false = true from h) (by decide)) (fun _ => ?_) | refine s_know Tk (fun h => absurd (show false = true from h) (by decide)) (fun _ => ?_))
  refine g_ret Tk (r := bb (e == e)) rfl rfl rfl trivial rfl rfl ?_
  simp
end Go.AI
