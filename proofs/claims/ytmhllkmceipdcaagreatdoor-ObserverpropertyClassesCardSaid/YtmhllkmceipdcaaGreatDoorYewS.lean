/- The layer of abstract runs, part 19. -/
import Derived.Test.YtmhllkmceipdcaaGreatDoorYewR
set_option linter.unusedSimpArgs false
set_option linter.unusedVariables false
set_option linter.all false

namespace Go.AI
def PostOf (E : Env) (res : D) (Hr : Heap) (O' : List Heap) : Value → World → Prop := fun v w' => ∃ K' ρ', HInv E K' ρ' (Hr :: O') w' ∧ RepD K' ρ' (shape (Hr :: O')) v res
def argσ : Nat → List D → List (Nat × D)
  | _, [] => []
  | n, d :: r => (n, d) :: argσ (n + 1) r
theorem look_argσ : ∀ (l : List D) (n t : Nat), look (argσ n l) t = if n ≤ t then l[t - n]? else none
  | [], n, t => by simp [argσ, look]
  | d :: r, n, t => by
    simp only [argσ, look_cons, look_argσ r (n + 1) t]
    by_cases h : n = t
    · subst h; simp
    · rw [if_neg h]
      by_cases h2 : n + 1 ≤ t
      · rw [if_pos h2, if_pos (by omega), show t - n = (t - (n + 1)) + 1 by omega]
        simp
      · rw [if_neg h2, if_neg (by omega)]
section
variable {P : Program} {T : TT} {f : FuncId} {fn : Func} {code : Code}
theorem aspec_stop (stop : List Nat) (hT : TOk P T) (hf : P.funcs[f]? = some fn) (hb : fn.body = some code) (hcall : ∀ args w, (callFunc f args).run P w = .ok (.enter f args) w) {args : List D} {O O' : List Heap} {res : D} {Hr : Heap} {n : Nat}
    (hn : fn.ntmps = n) (hlen : args.length ≤ n)
    (h : ∀ E, Rch { P := P, T := T, E := E, f := f, fn := fn, post := PostOf E res Hr O', stop := stop } [.code code] { σ := argσ 0 (D.shifts 1 args), S := [] :: O, n := n }) : ASpec P f args O res Hr O' := by
  intro E K ρ w vs hw hrep
  refine .inl ⟨hcall _ _, fun cs => ?_⟩
  let ρ1 : Nat → Nat → Loc := fun d n => match d with
    | 0 => ⟨0, 0, none⟩
    | d + 1 => ρ d n
  have hI : HInv (.of K ρ w) K ρ1 ([] :: O) w := by
    refine ⟨hw.holds, ?_, ?_, Nat.le_refl _, fun _ _ _ => rfl, ?_, fun d => rfl, K.le_refl, fun _ _ _ h => .inl h, ⟨rfl, rfl, rfl⟩⟩
    · intro d nm ob e
      cases d with
      | zero => simp [objAt, look] at e
      | succ d =>
        have e' : objAt O d nm = some ob := by simpa [objAt] using e
        have := hw.own _ _ _ e'
        have e1 : (fun d' n => ρ1 (d + 1 + d') n) = fun d' n => ρ (d + d') n := by
          funext d' n
          rw [show d + 1 + d' = (d + d') + 1 by omega]
        rw [e1]
        simpa using this
    · intro d nm ob d' nm' ob' e e' b b' hbe
      cases d with
      | zero => simp [objAt, look] at e
      | succ d =>
        cases d' with
        | zero => simp [objAt, look] at e'
        | succ d' =>
          have := hw.inj d nm ob d' nm' ob' (by simpa [objAt] using e) (by simpa [objAt] using e') b b' hbe
          exact ⟨by omega, this.2⟩
    · intro nm ob e _
      simp [objAt, look] at e
  have hvl := hrep.length
  let b : Frame := { (default : Frame) with fn := f, kind := .normal }
  have henter : Frame.enter P f vs.toArray .normal = b.at { tmps := vs.toArray ++ Array.replicate (fn.ntmps - vs.toArray.size) undef, defers := [] } [.code code] := by
    simp [Frame.enter, Frame.at, hf, hb, b]
  have hinv : Inv (.of K ρ w) K ρ1 { σ := argσ 0 (D.shifts 1 args), S := [] :: O, n := n } { tmps := vs.toArray ++ Array.replicate (fn.ntmps - vs.toArray.size) undef, defers := [] } w := by
    refine ⟨hI, rfl, by simp; omega, fun t d e => ?_⟩
    rw [look_argσ] at e
    simp only [Nat.zero_le, if_true, Nat.sub_zero] at e
    have hsh : RepDL K ρ1 (shape ([] :: O)) vs (D.shifts 1 args) := by
      refine RepDL.shift (ρ := ρ1) (sh := shape ([] :: O)) 1 ?_
      have e1 : (fun d n => ρ1 (1 + d) n) = ρ := by funext d n; rw [Nat.add_comm]
      have e2 : (fun d n => shape ([] :: O) (1 + d) n) = shape O := by
        funext d n
        rw [Nat.add_comm]
        simp [shape, objAt]
      rw [e1, e2]
      exact hrep
    obtain ⟨y, hy, hr⟩ := hsh.get e
    have : (vs.toArray ++ Array.replicate (fn.ntmps - vs.toArray.size) undef).getD t undef = y := by
      have hlt : t < vs.length := (List.getElem?_eq_some_iff.1 hy).1
      simp only [Array.getD_eq_getD_getElem?]
      rw [Array.getElem?_append_left (by simpa using hlt)]
      simp [hy]
    rw [this]
    exact hr
  obtain ⟨v, w', fr, hp, hst, hfr, hlv⟩ := h (.of K ρ w) K ρ1 _ w b cs hinv rfl rfl
  rw [← henter] at hst
  exact ⟨.returned v, w', fr, ⟨v, rfl, hp⟩, hst, hfr, hlv⟩
theorem aspec_intro (hT : TOk P T) (hf : P.funcs[f]? = some fn) (hb : fn.body = some code) (hcall : ∀ args w, (callFunc f args).run P w = .ok (.enter f args) w) {args : List D} {O O' : List Heap} {res : D} {Hr : Heap} {n : Nat}
    (hn : fn.ntmps = n) (hlen : args.length ≤ n)
    (h : ∀ E, Rch { P := P, T := T, E := E, f := f, fn := fn, post := PostOf E res Hr O' } [.code code] { σ := argσ 0 (D.shifts 1 args), S := [] :: O, n := n }) : ASpec P f args O res Hr O' := aspec_stop [] hT hf hb hcall hn hlen h
def resOne (T : TT) (s : St) : ResultVar → Option D
  | .tmp t => some (s.get t)
  | .cell x ty => match exLoad T s ty (s.get x) with
    | .val d => some d
    | _ => none
def resAll (T : TT) (s : St) : List ResultVar → Option (List D)
  | [] => some []
  | r :: l => match resOne T s r, resAll T s l with
    | some d, some ds => some (d :: ds)
    | _, _ => none
def resD (T : TT) (s : St) (l : List ResultVar) : Option D := match resAll T s l with
  | some [d] => some d
  | some ds => some (.tup ds)
  | none => none
def rvOf (tmps : Array Value) : ResultVar → Sem Value
  | .tmp t => pure (tmps.getD t undef)
  | .cell x t => do loadVar t (← asAddr (tmps.getD x undef))
theorem results_eq (fn : Func) (tmps : Array Value) : results fn tmps = (do let vs ← fn.results.mapM (rvOf tmps); pure (if h : vs.size = 1 then vs[0] else .tuple vs)) := rfl
theorem mapM_cons (g : ResultVar → Sem Value) (r : ResultVar) (l : List ResultVar) {v : Value} {vs : List Value} {w : World} (h1 : (g r).run P w = .ok v w) (h2 : (l.mapM g).run P w = .ok vs w) : ((r :: l).mapM g).run P w = .ok (v :: vs) w := by
  simp only [List.mapM_cons, Sem.run_bind, h1, h2, Result.andThen_ok, Sem.run_pure]
theorem resAll_ok (hT : TOk P T) {E : Env} {K : Kn} {ρ : Nat → Nat → Loc} {s : St} {a : Act} {w : World} (hi : Inv E K ρ s a w) : ∀ (l : List ResultVar) {ds : List D}, resAll T s l = some ds →
    ∃ vs, (l.mapM (rvOf a.tmps)).run P w = .ok vs w ∧ RepDL K ρ (shape s.S) vs ds
  | [], ds, h => by
    simp only [resAll, Option.some.injEq] at h
    subst h
    exact ⟨[], by simp, .nil⟩
  | r :: l, ds, h => by
    simp only [resAll] at h
    cases h1 : resOne T s r with
    | none => simp [h1] at h
    | some d =>
      cases h2 : resAll T s l with
      | none => simp [h1, h2] at h
      | some ds' =>
        simp only [h1, h2, Option.some.injEq] at h
        subst h
        obtain ⟨vs, hv, hr⟩ := resAll_ok hT hi l h2
        cases r with
        | tmp t =>
          simp only [resOne, Option.some.injEq] at h1
          subst h1
          exact ⟨_ :: vs, mapM_cons _ _ _ rfl hv, .cons (hi.get t) hr⟩
        | cell x ty =>
          simp only [resOne] at h1
          split at h1
          · rename_i d' hd
            simp only [Option.some.injEq] at h1
            subst h1
            have hl := snd_load (dst := 0) hT hi.h (t := ty) (hi.get x)
            rw [hd] at hl
            obtain ⟨v, hrun, hrep⟩ := hl
            have hld : (rvOf a.tmps (.cell x ty)).run P w = .ok v w := by
              unfold rvOf
              cases hx : a.tmps.getD x undef with
              | pointer p =>
                cases p with
                | none => rw [hx] at hrun; simp [Instr.loadAt, Instr.sureAddr] at hrun
                | some p =>
                  rw [hx] at hrun
                  simp only [Instr.loadAt, Instr.sureAddr, Sem.run_bind, Sem.run_pure, Result.andThen_ok] at hrun
                  simp only [Sem.run_bind, hx, asAddr, Sem.run_pure, Result.andThen_ok]
                  exact hrun
              | _ => rw [hx] at hrun; simp [Instr.loadAt, Instr.sureAddr] at hrun
            exact ⟨v :: vs, mapM_cons _ _ _ hld hv, .cons hrep hr⟩
          · cases h1
theorem results_ok (hT : TOk P T) {E : Env} {K : Kn} {ρ : Nat → Nat → Loc} {s : St} {a : Act} {w : World} (hi : Inv E K ρ s a w) {d : D} (h : resD T s fn.results.toList = some d) :
    ∃ v, (results fn a.tmps).run P w = .ok v w ∧ RepD K ρ (shape s.S) v d := by
  unfold resD at h
  have key : ∀ ds, resAll T s fn.results.toList = some ds → ∃ vs : List Value, RepDL K ρ (shape s.S) vs ds ∧ (results fn a.tmps).run P w = .ok (if h : vs.toArray.size = 1 then vs.toArray[0] else .tuple vs.toArray) w := by
    intro ds hds
    obtain ⟨vs, hv, hr⟩ := resAll_ok (P := P) (w := w) hT hi _ hds
    refine ⟨vs, hr, ?_⟩
    rw [results_eq, Array.mapM_eq_mapM_toList]
    simp only [Sem.run_bind, Sem.run_map, hv, Result.andThen_ok, Sem.run_pure]
  split at h
  · rename_i d' hds
    simp only [Option.some.injEq] at h
    subst h
    obtain ⟨vs, hr, hrun⟩ := key _ hds
    cases hr with
    | cons r rs =>
      cases rs with
      | nil => exact ⟨_, hrun, r⟩
  · rename_i ds hne hds
    simp only [Option.some.injEq] at h
    subst h
    obtain ⟨vs, hr, hrun⟩ := key _ hds
    refine ⟨_, hrun, ?_⟩
    have hlen := hr.length
    rw [dif_neg]
    · exact .tup hr
    · intro h1
      have h2 : ds.length = 1 := by rw [← hlen]; simpa using h1
      obtain ⟨d', rfl⟩ := List.length_eq_one_iff.1 h2
      exact hne d' rfl
  · cases h
def takesB (H Hr : Heap) (l : Heap) : Prop := match l with
  | [] => True
  | (n, ob) :: r => (∃ o0, look H n = some o0 ∧ ob = o0.ret H Hr) ∧ takesB H Hr r
theorem takes_ok {H Hr : Heap} : ∀ {l : Heap}, takesB H Hr l → ∀ nm ob, look l nm = some ob → ∃ o0, look H nm = some o0 ∧ ob = o0.ret H Hr
  | [], _, nm, ob, e => by simp [look] at e
  | (n, o) :: r, h, nm, ob, e => by
    rw [look_cons] at e
    split at e
    · rename_i hn
      subst hn
      simp only [Option.some.injEq] at e
      subst e
      exact h.1
    · exact takes_ok h.2 nm ob e
theorem m_ret {c : Cx} (hT : TOk c.P c.T) {s : St} {res d : D} {Hr H : Heap} {O O' : List Heap} (hd : resD c.T s c.fn.results.toList = some d) (hS : s.S = H :: O) (ht : takesB H Hr Hr) (hr : d.ret H Hr = res) (hO : O = O')
    (hp : c.post = PostOf c.E res Hr O') : MSx c (.ret s) := by
  intro K ρ a w hi
  obtain ⟨v, hrun, hrep⟩ := results_ok (fn := c.fn) hT hi hd
  refine ⟨v, hrun, ?_⟩
  rw [hp]
  have hh := hi.h
  rw [hS] at hh hrep
  subst hO
  have htk : Takes H Hr := takes_ok ht
  exact ⟨_, ρ, hh.leave htk, by rw [← hr]; exact ret_rep hh htk hrep⟩
def Sub (s : St) : List (Nat × D) → Prop
  | [] => True
  | (t, d) :: r => s.get t = d ∧ Sub s r
def SubH (H : Heap) : Heap → Prop
  | [] => True
  | (n, o) :: r => look H n = some o ∧ SubH H r
theorem sub_ok {s : St} : ∀ {l : List (Nat × D)}, Sub s l → ∀ t d, look l t = some d → s.get t = d
  | [], _, t, d, e => by simp [look] at e
  | (k, x) :: r, h, t, d, e => by
    rw [look_cons] at e
    split at e
    · rename_i hk
      subst hk
      simp only [Option.some.injEq] at e
      subst e
      exact h.1
    · exact sub_ok h.2 t d e
theorem rch_cut {c : Cx} {todo : List Item} {s : St} {l : List (Nat × D)} (h : Rch c todo { σ := l, S := s.S, n := s.n }) (hs : Sub s l) : Rch c todo s := by
  intro K ρ a w b cs hi hb hk
  refine h K ρ a w b cs ⟨hi.h, hi.defers, hi.size, fun t d e => ?_⟩ hb hk
  have := hi.get t
  rwa [sub_ok hs t d e] at this
end
end Go.AI
