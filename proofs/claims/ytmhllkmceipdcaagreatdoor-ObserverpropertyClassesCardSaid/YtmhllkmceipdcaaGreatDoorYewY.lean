/- The layer of abstract runs, part 25. -/
import Derived.Test.YtmhllkmceipdcaaGreatDoorYewX
set_option linter.unusedSimpArgs false
set_option linter.unusedVariables false
set_option linter.all false

namespace Go.AI
inductive MD where
  | at (o : Oper) (rest : List Oper) (x : SH) (acc : List Pl) (a : Ask)
  | know (b : Bool) (t : Nat) (o : Oper) (rest : List Oper) (x : SH) (acc : List Pl)
  | modS (o : Oper) (rest : List Oper) (x : SH) (acc : List Pl) (s' : St)
  | done (x : SH) (acc : List Pl)
  | bad
def isSrc (i : Nat) : List Oper → Bool
  | [] => false
  | o :: r => match o.guard with
    | some (j, _) => bif Nat.beq j i then true else isSrc i r
    | none => isSrc i r
def Pl.one (t : Nat) (d : D) : Pl := ⟨[(t, d)], [], none⟩
def asBool : D → Option Bool
  | .i (.v (.bool b)) => some b
  | _ => none
def forceAs {α β : Type} : List (Nat × α) → (List (Nat × α) → β) → β
  | [], k => k []
  | (t, d) :: r, k => forceAs r fun r' => k ((t, d) :: r')
theorem forceAs_eq {α β : Type} : ∀ (l : List (Nat × α)) (k : List (Nat × α) → β), forceAs l k = k l
  | [], k => rfl
  | (t, d) :: r, k => by simp only [forceAs, forceAs_eq r]
def forceX {β : Type} (x : SH) (k : SH → β) : β := forceAs x.1 fun a => forceAs x.2 fun b => k (a, b)
theorem forceX_eq {β : Type} (x : SH) (k : SH → β) : forceX x k = k x := by simp only [forceX, forceAs_eq]
section
variable (T : TT) (ops : Array Oper) (O : List Heap) (n : Nat)
abbrev vw (o : Oper) (x : SH) : St := St.of O n (viewOf ops o x)
def finD0 (o : Oper) (rest : List Oper) (x : SH) (acc : List Pl) (a : Ask) (stop : MD) (k : Pl → MD) : MD := match a with
  | .alt _ _ => .bad
  | .val d => match o.dst, goneOf (vw ops O n o x) o with
    | some t, none => bif Nat.ble (t + 1) n then (bif isSrc acc.length ops.toList then (match asBool d with
        | some b => .know b t o rest x acc
        | none => k (.one t d)) else k (.one t d)) else .bad
    | _, _ => .bad
  | .new adds d => match o.dst, goneOf (vw ops O n o x) o with
    | some t, none => bif Nat.ble (t + 1) n && freshB adds (viewOf ops o x).2 then k ⟨[(t, d)], adds, none⟩ else .bad
    | _, _ => .bad
  | .mod s' => bif turns o then .modS o rest x acc s' else .bad
  | .bad => .bad
  | _ => stop
def finD (o : Oper) (rest : List Oper) (x : SH) (acc : List Pl) (a : Ask) (stop : MD) (k : Pl → MD) : MD := match a with
  | .alt y z => finD0 ops O n o rest x acc (bif ownB ops o then y else z) .bad k
  | a => finD0 ops O n o rest x acc a stop k
def runD : List Oper → SH → List Pl → MD
  | [], x, acc => .done x acc
  | o :: rest, x, acc => forceX x fun x => match wantedD ops (vw ops O n o x) o with
    | none => .bad
    | some false => match o.dst with
      | some t => bif Nat.ble (t + 1) n then runD rest ((Pl.one t (.tup [])).ap x) (acc ++ [.one t (.tup [])]) else .bad
      | none => .bad
    | some true => finD ops O n o rest x acc (exec T (vw ops O n o x) o) (.at o rest x acc (exec T (vw ops O n o x) o)) fun p => runD rest (p.ap x) (acc ++ [p])
def contD (o : Oper) (rest : List Oper) (x : SH) (acc : List Pl) (a : Ask) : MD := finD ops O n o rest x acc a (.at o rest x acc a) fun p => runD T ops O n rest (p.ap x) (acc ++ [p])
end
def PQ (O : List Heap) (n : Nat) (v : SH) (p : Pl) (s' : St) : Prop :=
  s'.S = (p.adds ++ rmv p.rem v.2) :: O ∧ s'.n = n ∧
    ∀ t d, look p.sets t = some d → d = .dead ∨ look s'.σ t = some d ∨ (d = .bt ∧ look s'.σ t = some (.i (.v (.bool true)))) ∨ (d = .bf ∧ look s'.σ t = some (.i (.v (.bool false))))
theorem stepOK_of {c : Cx} {ops : Array Oper} {O : List Heap} {n : Nat} {o : Oper} {v : SH} {p : Pl} (hw : wantedD ops (St.of O n v) o = some true) (hg : p.rem = goneOf (St.of O n v) o)
    (h : ∀ E, EOk c.E E O → Stp { c with E := E } o (St.of O n v) (PQ O n v p)) : StepOK c ops O n o v p := by
  refine .inr ⟨hw, fun E hE K ρ a w hi next Qe hn => h E hE K ρ a w hi next Qe fun val w' s' K' ρ' hle hk hi' hq => ?_⟩
  obtain ⟨h1, h2, h3⟩ := hq
  have hh := hi'.h
  rw [h1] at hh hk
  refine hn val w' p.sets K' ρ' hle (fun d n x e1 e2 => hk d n x (by rw [← hg]; exact e1) e2) ⟨hh, hi'.defers, by rw [hi'.size, h2], fun t d e => ?_⟩ fun t d e => .inr e
  have hsl := fun d (e : look s'.σ t = some d) => hi'.slots t d e
  rw [h1] at hsl
  rcases h3 t d e with rfl | h4 | ⟨rfl, h4⟩ | ⟨rfl, h4⟩
  · exact .dead _
  · exact hsl _ h4
  · have := inv_v (hsl _ h4)
    rw [this]; exact .bt
  · have := inv_v (hsl _ h4)
    rw [this]; exact .bf
section
variable (c : Cx) (ops : Array Oper) (O : List Heap) (n : Nat) (F : SH → List Pl → Prop)
def GD (rest : List Oper) (x : SH) (acc : List Pl) : Prop := ∃ qs, ChainS c ops O n rest qs x ∧ F (foldP qs x) (acc ++ qs)
def DG (o : Oper) (rest : List Oper) (x : SH) (acc : List Pl) (a : Ask) : Prop :=
  ∃ p, p.rem = goneOf (vw ops O n o x) o ∧ (∀ E, EOk c.E E O → Does { c with E := E } o (vw ops O n o x) (PQ O n (viewOf ops o x) p) a) ∧ GD c ops O n F rest (p.ap x) (acc ++ [p])
def MDx : MD → Prop
  | .at o rest x acc a => DG c ops O n F o rest x acc a
  | .know b t o rest x acc => (b = true → GD c ops O n F rest ((Pl.one t .bt).ap x) (acc ++ [.one t .bt])) ∧ (b = false → GD c ops O n F rest ((Pl.one t .bf).ap x) (acc ++ [.one t .bf]))
  | .modS o rest x acc s' => ∃ p, p.rem = goneOf (vw ops O n o x) o ∧ PQ O n (viewOf ops o x) p s' ∧ GD c ops O n F rest (p.ap x) (acc ++ [p])
  | .done x acc => F x acc
  | .bad => False
end
section
variable {c : Cx} {ops : Array Oper} {O : List Heap} {n : Nat} {F : SH → List Pl → Prop}
theorem gd_cons {o : Oper} {rest : List Oper} {x : SH} {acc : List Pl} {p : Pl} (hs : StepOK c ops O n o (viewOf ops o x) p) (h : GD c ops O n F rest (p.ap x) (acc ++ [p])) : GD c ops O n F (o :: rest) x acc := by
  obtain ⟨qs, h1, h2⟩ := h
  refine ⟨p :: qs, ⟨hs, h1⟩, ?_⟩
  rw [List.append_assoc] at h2
  exact h2
theorem look_one {α : Type} {t t' : Nat} {d d' : α} (h : look [(t, d)] t' = some d') : t = t' ∧ d = d' := by
  rw [look_cons] at h
  split at h
  · rename_i e; exact ⟨e, by simpa using h⟩
  · simp [look] at h
theorem finD0_ok {o : Oper} {rest : List Oper} {x : SH} {acc : List Pl} {a : Ask} {stop : MD} {k : Pl → MD} (hk : ∀ p, MDx c ops O n F (k p) → GD c ops O n F rest (p.ap x) (acc ++ [p])) (hstop : MDx c ops O n F stop → DG c ops O n F o rest x acc a)
    (h : MDx c ops O n F (finD0 ops O n o rest x acc a stop k)) : DG c ops O n F o rest x acc a := by
  unfold finD0 at h
  split at h
  · exact h.elim
  · rename_i d
    split at h
    · rename_i t ht hg
      have hval : Nat.ble (t + 1) n = true → MDx c ops O n F (k (.one t d)) → DG c ops O n F o rest x acc (.val d) := by
        intro hb h
        refine ⟨.one t d, hg.symm, fun E hE => ?_, hk _ h⟩
        simp only [Does, ht]
        refine ⟨Nat.le_of_ble_eq_true hb, rfl, rfl, fun t' d' e => ?_⟩
        obtain ⟨rfl, rfl⟩ := look_one e
        exact .inr (.inl (by simp [St.set, look_cons]))
      cases hb : Nat.ble (t + 1) n with
      | false => rw [hb] at h; exact h.elim
      | true =>
        rw [hb] at h
        simp only [cond_true] at h
        cases hsrc : isSrc acc.length ops.toList with
        | false => rw [hsrc] at h; exact hval hb h
        | true =>
          rw [hsrc] at h
          simp only [cond_true] at h
          split at h
          · rename_i b hbool
            have hd : d = .i (.v (.bool b)) := by
              unfold asBool at hbool
              split at hbool
              · simpa using hbool
              · cases hbool
            subst hd
            cases b with
            | true =>
              refine ⟨.one t .bt, hg.symm, fun E hE => ?_, h.1 rfl⟩
              simp only [Does, ht]
              refine ⟨Nat.le_of_ble_eq_true hb, rfl, rfl, fun t' d' e => ?_⟩
              obtain ⟨rfl, rfl⟩ := look_one e
              exact .inr (.inr (.inl ⟨rfl, by simp [St.set, look_cons]⟩))
            | false =>
              refine ⟨.one t .bf, hg.symm, fun E hE => ?_, h.2 rfl⟩
              simp only [Does, ht]
              refine ⟨Nat.le_of_ble_eq_true hb, rfl, rfl, fun t' d' e => ?_⟩
              obtain ⟨rfl, rfl⟩ := look_one e
              exact .inr (.inr (.inr ⟨rfl, by simp [St.set, look_cons]⟩))
          · exact hval hb h
    · exact h.elim
  · rename_i adds d
    split at h
    · rename_i t ht hg
      cases hb : Nat.ble (t + 1) n && freshB adds (viewOf ops o x).2 with
      | false => rw [hb] at h; exact h.elim
      | true =>
        rw [hb] at h
        simp only [Bool.and_eq_true] at hb
        refine ⟨⟨[(t, d)], adds, none⟩, hg.symm, fun E hE => ?_, hk _ h⟩
        simp only [Does, ht, St.of]
        refine ⟨Nat.le_of_ble_eq_true hb.1, freshB_ok hb.2, rfl, rfl, fun t' d' e => ?_⟩
        obtain ⟨rfl, rfl⟩ := look_one e
        exact .inr (.inl (by simp [look_cons]))
    · exact h.elim
  · rename_i s'
    cases ht : turns o with
    | false => rw [ht] at h; exact h.elim
    | true =>
      rw [ht] at h
      obtain ⟨p, h1, h2, h3⟩ := h
      exact ⟨p, h1, fun E hE => ⟨ht, h2⟩, h3⟩
  · exact h.elim
  · exact hstop h
theorem finD_ok {o : Oper} {rest : List Oper} {x : SH} {acc : List Pl} {a : Ask} {stop : MD} {k : Pl → MD} (hk : ∀ p, MDx c ops O n F (k p) → GD c ops O n F rest (p.ap x) (acc ++ [p])) (hstop : MDx c ops O n F stop → DG c ops O n F o rest x acc a)
    (h : MDx c ops O n F (finD ops O n o rest x acc a stop k)) : DG c ops O n F o rest x acc a := by
  unfold finD at h
  split at h
  · rename_i y z
    cases hb : ownB ops o with
    | true =>
      rw [hb] at h
      obtain ⟨p, h1, h2, h3⟩ := finD0_ok (stop := .bad) hk (fun h => h.elim) h
      exact ⟨p, h1, fun E hE => .inl (h2 E hE), h3⟩
    | false =>
      rw [hb] at h
      obtain ⟨p, h1, h2, h3⟩ := finD0_ok (stop := .bad) hk (fun h => h.elim) h
      exact ⟨p, h1, fun E hE => .inr (h2 E hE), h3⟩
  · exact finD0_ok hk hstop h
variable (hT : TOk c.P c.T)
include hT
theorem runD_sound : ∀ (rest : List Oper) (x : SH) (acc : List Pl), MDx c ops O n F (runD c.T ops O n rest x acc) → GD c ops O n F rest x acc
  | [], x, acc, h => ⟨[], trivial, by rw [List.append_nil]; exact h⟩
  | o :: rest, x, acc, h => by
    unfold runD at h
    rw [forceX_eq] at h
    split at h
    · exact h.elim
    · rename_i hw
      split at h
      · rename_i t ht
        cases hb : Nat.ble (t + 1) n with
        | false => rw [hb] at h; exact h.elim
        | true =>
          rw [hb] at h
          exact gd_cons (.inl ⟨hw, t, ht, Nat.le_of_ble_eq_true hb, rfl⟩) (runD_sound rest _ _ h)
      · exact h.elim
    · rename_i hw
      obtain ⟨p, h1, h2, h3⟩ := finD_ok (stop := .at o rest x acc (exec c.T (vw ops O n o x) o)) (fun p h => runD_sound rest _ _ h) (fun h => h) h
      exact gd_cons (stepOK_of hw h1 fun E hE => stp_of_does (c := { c with E := E }) hT (h2 E hE)) h3
theorem contD_ok {o : Oper} {rest : List Oper} {x : SH} {acc : List Pl} {a : Ask} (h : MDx c ops O n F (contD c.T ops O n o rest x acc a)) : DG c ops O n F o rest x acc a :=
  finD_ok (stop := .at o rest x acc a) (fun p h => runD_sound hT rest _ _ h) (fun h => h) h
variable {o : Oper} {rest : List Oper} {x : SH} {acc : List Pl}
theorem d_need {q : Prop} {a : Ask} (hp : q) (h : MDx c ops O n F (contD c.T ops O n o rest x acc a)) : MDx c ops O n F (.at o rest x acc (.need q a)) := by
  obtain ⟨p, h1, h2, h3⟩ := contD_ok hT h
  exact ⟨p, h1, fun E hE => ⟨hp, h2 E hE⟩, h3⟩
end
def deadsOf (g : Option Nat) : List (Nat × D) → List (Nat × D)
  | [] => []
  | (t, d) :: r => bif d.within (butG g) then deadsOf g r else (t, .dead) :: deadsOf g r
theorem deadsOf_dead {g : Option Nat} {t : Nat} {d : D} : ∀ {l : List (Nat × D)}, look (deadsOf g l) t = some d → d = .dead
  | [], h => by simp [deadsOf, look] at h
  | (k, x) :: r, h => by
    simp only [deadsOf] at h
    cases hw : x.within (butG g) with
    | true => rw [hw] at h; exact deadsOf_dead h
    | false =>
      rw [hw, cond_false, look_cons] at h
      split at h
      · simpa using h.symm
      · exact deadsOf_dead h
def dstL (o : Oper) (s' : St) : List (Nat × D) := match o.dst with
  | some t => [(t, s'.get t)]
  | none => []
def firstL (S : List Heap) : Heap := match S with
  | (y :: _) :: _ => [y]
  | _ => []
def modPl (ops : Array Oper) (O : List Heap) (n : Nat) (o : Oper) (x : SH) (s' : St) : Pl :=
  ⟨dstL o s' ++ deadsOf (goneOf (vw ops O n o x) o) x.1, firstL s'.S, goneOf (vw ops O n o x) o⟩
section
variable {c : Cx} {ops : Array Oper} {O : List Heap} {n : Nat} {F : SH → List Pl → Prop} (hT : TOk c.P c.T) {o : Oper} {rest : List Oper} {x : SH} {acc : List Pl}
include hT
theorem d_mod {s' : St} {p : Pl} (hp : modPl ops O n o x s' = p) (hS : s'.S = (p.adds ++ rmv p.rem (viewOf ops o x).2) :: O) (hn : s'.n = n) (h : MDx c ops O n F (runD c.T ops O n rest (p.ap x) (acc ++ [p]))) : MDx c ops O n F (.modS o rest x acc s') := by
  subst hp
  refine ⟨modPl ops O n o x s', rfl, ⟨hS, hn, fun t d e => ?_⟩, runD_sound hT _ _ _ h⟩
  simp only [modPl, look_append] at e
  cases hl : look (dstL o s') t with
  | none => rw [hl] at e; exact .inl (deadsOf_dead e)
  | some d' =>
    rw [hl] at e
    simp only [Option.some.injEq] at e
    subst e
    unfold dstL at hl
    split at hl
    · obtain ⟨rfl, rfl⟩ := look_one hl
      unfold St.get
      split
      · rename_i h1; exact .inr (.inl h1)
      · exact .inl rfl
    · simp [look] at hl
variable (hfn : c.P.funcs[c.f]? = some c.fn)
include hfn
theorem d_done {k : List Item} {x0 : SH} (hok : okD ops acc x0 = true) (h : MSx c (run c.T c.stop 1000 k (St.of O n x))) : MDx c ops O n (FD c ops O n x0 k) (.done x acc) := fd_done hok (tgt_rch (run_sound hT hfn 1000 k _ h))
end
end Go.AI
