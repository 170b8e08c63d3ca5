/- The layer of abstract runs, part 26. -/
import Derived.Test.YtmhllkmceipdcaaGreatDoorYewY
set_option linter.unusedSimpArgs false
set_option linter.unusedVariables false
set_option linter.all false

namespace Go.AI
theorem look_restr {α : Type} {l : List (Nat × α)} {t : Nat} : ∀ {ks : List Nat}, t ∈ ks → look (restr l ks) t = look l t
  | k :: r, h => by
    simp only [restr]
    by_cases hk : k = t
    · subst hk
      cases hl : look l k with
      | some d => simp [look_cons]
      | none =>
        simp only
        cases hr : look (restr l r) k with
        | none => rfl
        | some d => have := restr_look hr; rw [hl] at this; cases this
    · have ht : t ∈ r := by
        rcases List.mem_cons.1 h with h | h
        · exact absurd h.symm hk
        · exact h
      cases hl : look l k with
      | some d => simp only [look_cons, if_neg hk]; exact look_restr ht
      | none => exact look_restr ht
theorem mem_namesS {t : Nat} {d : D} {nm : Nat} : ∀ {l : List (Nat × D)}, look l t = some d → nm ∈ d.names → nm ∈ namesS l
  | [], h, _ => by simp [look] at h
  | (k, x) :: r, h, hn => by
    simp only [namesS, List.mem_append]
    rw [look_cons] at h
    split at h
    · simp only [Option.some.injEq] at h; subst h; exact .inl hn
    · exact .inr (mem_namesS h hn)
def Ags (s s' : St) (d : D) : Prop := ∀ nm ∈ d.names, objAt s.S 0 nm = objAt s'.S 0 nm
section
variable {T : TT} {s s' : St}
theorem objOf_congr {dep nm : Nat} {k : Ob → Ask} (h : dep = 0 → objAt s.S 0 nm = objAt s'.S 0 nm) : objOf s dep nm k = objOf s' dep nm k := by
  unfold objOf
  cases dep with
  | zero => simp only [h rfl]
  | succ d => rfl
theorem exLoad_congr {t : Nat} {p : D} (h : Ags s s' p) : exLoad T s t p = exLoad T s' t p := by
  unfold exLoad
  split
  · rfl
  · split
    · refine objOf_congr fun e => ?_
      subst e
      exact h _ (by simp [D.names])
    · rfl
    · rfl
theorem exIndexAddr_congr {t : Nat} {x ix : D} (h : Ags s s' x) : exIndexAddr T s t x ix = exIndexAddr T s' t x ix := by
  unfold exIndexAddr
  split
  · split
    · refine congrArg _ (funext fun z => ?_)
      split
      · rfl
      · rfl
      · refine objOf_congr fun e => ?_
        subst e
        exact h _ (by simp [D.names])
      · rfl
    · rfl
    · rfl
  · rfl
theorem exLen_congr {t : Nat} {x : D} (h : Ags s s' x) : exLen T s t x = exLen T s' t x := by
  unfold exLen
  split
  · rfl
  · rfl
  · rfl
  · refine objOf_congr fun e => ?_
    subst e
    exact h _ (by simp [D.names])
  · rfl
  · rfl
theorem contOf_congr {x : D} {k : Nat → Nat → List (List I) → Ask} (h : Ags s s' x) : contOf s x k = contOf s' x k := by
  unfold contOf
  split
  · rfl
  · rfl
  · refine objOf_congr fun e => ?_
    subst e
    exact h _ (by simp [D.names])
  · rfl
theorem exSlice_congr {t : Nat} {x : D} {lo hi mx : Option D} (h : Ags s s' x) : exSlice T s t x lo hi mx = exSlice T s' t x lo hi mx := by
  unfold exSlice
  split
  · refine congrArg _ (funext fun z => ?_)
    exact contOf_congr h
  · rfl
  · rfl
theorem exLookup_congr {t : Nat} {x ix : D} {ok : Bool} (h : Ags s s' x) : exLookup T s t x ix ok = exLookup T s' t x ix ok := by
  unfold exLookup
  split
  · split
    · split
      · refine objOf_congr fun e => ?_
        subst e
        exact h _ (by simp [D.names])
      · rfl
    · rfl
  · rfl
def roB (o : Oper) : Bool := match o.op with
  | .call { callee := .builtin .append, .. } => false
  | .store _ _ _ => false
  | .mapUpdate _ _ _ _ => false
  | .insert _ _ _ _ => false
  | _ => true
theorem map_congr_op {l : List Operand} (h : ∀ x ∈ l, evD s x = evD s' x) : l.map (evD s) = l.map (evD s') := List.map_congr_left h
theorem exec_congr {o : Oper} (hro : roB o = true) (hev : ∀ x ∈ o.op.operands.toList, evD s x = evD s' x) (hob : ∀ x ∈ o.op.operands.toList, Ags s s' (evD s x)) : exec T s o = exec T s' o := by
  obtain ⟨dst, op, ty, pos, after, guard⟩ := o
  cases op with
  | move x | assign x | nilCheck x | unOp _ _ x | convert _ _ x | fieldAddr _ x _ | field _ x _ | extract x _ =>
    have h1 := hev x (by simp [Op.operands])
    simp only [exec, h1]
  | pick c a b =>
    simp only [exec, hev c (by simp [Op.operands]), hev a (by simp [Op.operands]), hev b (by simp [Op.operands])]
  | alloc t => rfl
  | box t x => simp only [exec, hev x (by simp [Op.operands])]
  | build t parts =>
    have : (parts.toList.map fun p => (p.1, evD s p.2)) = parts.toList.map fun p => (p.1, evD s' p.2) := List.map_congr_left fun p hp => by
      rw [hev p.2 (by simp only [Op.operands]; exact List.mem_map.2 ⟨p, hp, rfl⟩)]
    simp only [exec, this]
  | buildSlice t len parts =>
    have : (parts.toList.map fun p => (p.1, evD s p.2)) = parts.toList.map fun p => (p.1, evD s' p.2) := List.map_congr_left fun p hp => by
      rw [hev p.2 (by simp only [Op.operands]; exact List.mem_map.2 ⟨p, hp, rfl⟩)]
    simp only [exec, this]
  | load t a =>
    simp only [exec]
    rw [exLoad_congr (hob a (by simp [Op.operands])), hev a (by simp [Op.operands])]
  | store => simp [roB] at hro
  | mapUpdate => simp [roB] at hro
  | insert => simp [roB] at hro
  | binOp op t x y _ => simp only [exec, hev x (by simp [Op.operands]), hev y (by simp [Op.operands])]
  | makeFunc fn first cap =>
    have h1 : first.toList.map (evD s) = first.toList.map (evD s') := map_congr_op fun x hx => hev x (by simp only [Op.operands, Array.toList_append, List.mem_append]; exact .inl hx)
    have h2 : cap.toList.map (evD s) = cap.toList.map (evD s') := map_congr_op fun x hx => hev x (by simp only [Op.operands, Array.toList_append, List.mem_append]; exact .inr hx)
    simp only [exec, h1, h2]
  | makeSlice t l c => simp only [exec, hev l (by simp [Op.operands]), hev c (by simp [Op.operands])]
  | slice t x lo hi mx =>
    have hx := hob x (by simp [Op.operands])
    have h0 := hev x (by simp [Op.operands])
    have h1 : lo.map (evD s) = lo.map (evD s') := by
      cases lo with
      | none => rfl
      | some a => simp only [Option.map_some, hev a (by simp [Op.operands])]
    have h2 : hi.map (evD s) = hi.map (evD s') := by
      cases hi with
      | none => rfl
      | some a => simp only [Option.map_some, hev a (by simp [Op.operands])]
    have h3 : mx.map (evD s) = mx.map (evD s') := by
      cases mx with
      | none => rfl
      | some a => simp only [Option.map_some, hev a (by simp [Op.operands])]
    simp only [exec]
    rw [exSlice_congr hx, h0, h1, h2, h3]
  | indexAddr t x ix =>
    simp only [exec]
    rw [exIndexAddr_congr (hob x (by simp [Op.operands])), hev x (by simp [Op.operands]), hev ix (by simp [Op.operands])]
  | makeMap t r =>
    have h1 : r.map (evD s) = r.map (evD s') := by
      cases r with
      | none => rfl
      | some a => simp only [Option.map_some, hev a (by simp [Op.operands])]
    simp only [exec, h1]
  | lookup t x ix ok =>
    simp only [exec]
    rw [exLookup_congr (hob x (by simp [Op.operands])), hev x (by simp [Op.operands]), hev ix (by simp [Op.operands])]
  | index t x ix => simp only [exec, hev x (by simp [Op.operands]), hev ix (by simp [Op.operands])]
  | call c =>
    obtain ⟨callee, args, argTypes⟩ := c
    have ha : ∀ x ∈ args.toList, evD s x = evD s' x := fun x hx => hev x (by simp only [Op.operands, Call.operands, Array.toList_append, List.mem_append]; exact .inr hx)
    have hb : ∀ x ∈ args.toList, Ags s s' (evD s x) := fun x hx => hob x (by simp only [Op.operands, Call.operands, Array.toList_append, List.mem_append]; exact .inr hx)
    cases callee with
    | value f =>
      have h1 : evD s f = evD s' f := hev f (by simp [Op.operands, Call.operands])
      simp only [exec, h1, map_congr_op ha]
    | invoke => rfl
    | builtin b =>
      cases b with
      | append => simp [roB] at hro
      | len =>
        simp only [exec]
        split
        · rename_i x t e1 e2
          rw [exLen_congr (hb x (by rw [e1]; simp)), ha x (by rw [e1]; simp)]
        · rfl
      | min | max => simp only [exec, map_congr_op ha]
      | _ => rfl
  | _ => rfl
end
theorem view_get {ops : Array Oper} {O : List Heap} {n : Nat} {o : Oper} {x : SH} {t : Nat} (h : t ∈ o.looksAt ops) : (St.of O n (viewOf ops o x)).get t = (St.of O n x).get t := by
  unfold St.get St.of viewOf
  simp only [look_restr h]
theorem view_ev {ops : Array Oper} {O : List Heap} {n : Nat} {o : Oper} {x : SH} {y : Operand} (h : y ∈ o.op.operands.toList) : evD (St.of O n (viewOf ops o x)) y = evD (St.of O n x) y := by
  cases y with
  | tmp t => exact view_get (by unfold Oper.looksAt; exact List.mem_append.2 (.inl (List.mem_filterMap.2 ⟨_, h, rfl⟩)))
  | const => rfl
  | global => rfl
  | func => rfl
theorem view_ags {ops : Array Oper} {O : List Heap} {n : Nat} {o : Oper} {x : SH} {y : Operand} (h : y ∈ o.op.operands.toList) : Ags (St.of O n (viewOf ops o x)) (St.of O n x) (evD (St.of O n (viewOf ops o x)) y) := by
  intro nm hn
  cases y with
  | tmp t =>
    have ht : t ∈ o.looksAt ops := by unfold Oper.looksAt; exact List.mem_append.2 (.inl (List.mem_filterMap.2 ⟨_, h, rfl⟩))
    simp only [evD, St.get] at hn
    split at hn
    · rename_i d hd
      have : nm ∈ namesS (viewOf ops o x).1 := mem_namesS hd hn
      simp only [objAt, St.of, List.getElem?_cons_zero]
      exact look_restr (List.mem_append.2 (.inl this))
    · simp [D.names] at hn
  | const v =>
    simp only [evD] at hn
    cases hv : v.oneCell' <;> simp [hv, D.names] at hn
  | global => simp [evD, D.names] at hn
  | func => simp [evD, D.names, D.namesL] at hn
theorem view_exec {T : TT} {ops : Array Oper} {O : List Heap} {n : Nat} {o : Oper} {x : SH} (hro : roB o = true) : exec T (St.of O n (viewOf ops o x)) o = exec T (St.of O n x) o :=
  exec_congr hro (fun y hy => view_ev hy) (fun y hy => view_ags hy)
theorem view_wanted {ops : Array Oper} {O : List Heap} {n : Nat} {o : Oper} {x : SH} : wantedD ops (St.of O n (viewOf ops o x)) o = wantedD ops (St.of O n x) o := by
  unfold wantedD
  cases hg : o.guard with
  | none => rfl
  | some g =>
    obtain ⟨j, want⟩ := g
    simp only
    cases ht : (ops[j]?).bind (·.dst) with
    | none => rfl
    | some t =>
      simp only
      rw [view_get (by unfold Oper.looksAt; rw [hg]; simp [ht])]
theorem freshB_of {adds H H' : Heap} (h : ∀ n o, look H' n = some o → look H n = some o) : freshB adds H = true → freshB adds H' = true := by
  induction adds with
  | nil => intro _; rfl
  | cons a r ih =>
    obtain ⟨n, o⟩ := a
    intro hb
    simp only [freshB] at hb ⊢
    cases hl : look H n with
    | some _ => simp [hl] at hb
    | none =>
      simp only [hl] at hb
      cases hl' : look H' n with
      | some _ => have := h _ _ hl'; rw [hl] at this; cases this
      | none => exact ih hb
theorem view_sub {ops : Array Oper} {o : Oper} {x : SH} : ∀ n ob, look (viewOf ops o x).2 n = some ob → look x.2 n = some ob := fun n ob h => restr_look h
theorem gone_ro {s : St} {o : Oper} (h : roB o = true) : goneOf s o = none := by
  unfold goneOf
  unfold roB at h
  split <;> simp_all
inductive SA where
  | put (nm : Nat) (ob : Ob)
  | elem (xs : List (List I)) (i : Nat) (k : List I → SA)
  | bad
def forceSA (l : List D) (k : List D → SA) : SA := match l with
  | [] => k []
  | d :: r => forceSA r fun r => k (d :: r)
theorem forceSA_eq (l : List D) (k : List D → SA) : forceSA l k = k l := by
  induction l generalizing k with
  | nil => rfl
  | cons d r ih => simp only [forceSA, ih]
def exStoreS (T : TT) (H : Heap) (t : Nat) (p v : D) : SA := match look T t with
  | none => .bad
  | some i => bif !(Nat.beq v.cells.length i.size && D.ones v.cells) then .bad else match p with
    | .own 0 nm x off => (match look H nm with
      | some (.box cs) => bif Nat.ble (off + i.size) cs.length then forceSA (splice cs off v.cells) fun cs' => .put nm (.box cs') else .bad
      | some (.arr ty es n xs true) => (match D.toIs v.cells with
        | some l => bif Nat.beq off 0 && Nat.beq i.size es then .put nm (.arr ty es n (xs.set x l) true)
          else .elem xs x fun d => bif Nat.ble (off + i.size) d.length then .put nm (.arr ty es n (xs.set x (spliceI d off l)) true) else .bad
        | none => .bad)
      | _ => .bad)
    | _ => .bad
def SA.gives (a : SA) (nm : Nat) (ob : Ob) : Prop := a = .put nm ob ∨ ∃ xs j g d, a = .elem xs j g ∧ xs[j]? = some d ∧ g d = .put nm ob
theorem store_does {T : TT} {c : Cx} {o : Oper} {s : St} {H Hf : Heap} {O : List Heap} {t nm : Nat} {p v : D} {ob : Ob} {Q : St → Prop} (hS : s.S = H :: O) (ht : turns o = true) (hn : ∀ k ∈ p.names, look H k = look Hf k) (h : (exStoreS T Hf t p v).gives nm ob)
    (hq : Q { s with S := ((nm, ob) :: H) :: O }) : Does c o s Q (exStore T s t p v) := by
  unfold exStoreS at h
  unfold exStore
  cases hi : look T t with
  | none => rw [hi] at h; rcases h with h | ⟨_, _, _, _, h, _⟩ <;> cases h
  | some i =>
    rw [hi] at h
    dsimp only at h ⊢
    cases hb : !(Nat.beq v.cells.length i.size && D.ones v.cells) with
    | true => rw [hb] at h; rcases h with h | ⟨_, _, _, _, h, _⟩ <;> cases h
    | false =>
      rw [hb] at h
      simp only [cond_false] at h ⊢
      split at h
      · rename_i nm' x off
        have hob : objAt s.S 0 nm' = look Hf nm' := by
          rw [hS, ← hn nm' (by simp [D.names])]
          simp [objAt]
        dsimp only
        unfold objOf
        dsimp only
        rw [hob]
        split at h
        · rename_i cs hcs
          rw [hcs]
          dsimp only
          cases hf : Nat.ble (off + i.size) cs.length with
          | false => rw [hf] at h; rcases h with h | ⟨_, _, _, _, h, _⟩ <;> cases h
          | true =>
            rw [hf] at h
            simp only [cond_true, forceSA_eq] at h ⊢
            rw [forceL_eq]
            rcases h with h | ⟨_, _, _, _, h, _⟩
            · simp only [SA.put.injEq] at h
              obtain ⟨rfl, rfl⟩ := h
              refine ⟨ht, ?_⟩
              rw [hS]; exact hq
            · cases h
        · rename_i ty es n xs hxs
          rw [hxs]
          dsimp only
          cases hl : D.toIs v.cells with
          | none => rw [hl] at h; rcases h with h | ⟨_, _, _, _, h, _⟩ <;> cases h
          | some l =>
            rw [hl] at h
            dsimp only at h ⊢
            cases hc : Nat.beq off 0 && Nat.beq i.size es with
            | true =>
              rw [hc] at h
              simp only [cond_true] at h ⊢
              rcases h with h | ⟨_, _, _, _, h, _⟩
              · simp only [SA.put.injEq] at h
                obtain ⟨rfl, rfl⟩ := h
                refine ⟨ht, ?_⟩
                rw [hS]; exact hq
              · cases h
            | false =>
              rw [hc] at h
              simp only [cond_false] at h ⊢
              rcases h with h | ⟨xs', j, g, d, h, h2, h3⟩
              · cases h
              · simp only [SA.elem.injEq] at h
                obtain ⟨rfl, rfl, rfl⟩ := h
                refine ⟨d, h2, ?_⟩
                dsimp only at h3 ⊢
                cases hf : Nat.ble (off + i.size) d.length with
                | false => rw [hf] at h3; cases h3
                | true =>
                  rw [hf] at h3
                  simp only [cond_true, SA.put.injEq] at h3 ⊢
                  obtain ⟨rfl, rfl⟩ := h3
                  refine ⟨ht, ?_⟩
                  rw [hS]; exact hq
        · rcases h with h | ⟨_, _, _, _, h, _⟩ <;> cases h
      · rcases h with h | ⟨_, _, _, _, h, _⟩ <;> cases h
def setX (x : SH) (t : Nat) (d : D) : SH := match x with
  | (a, b) => ((t, d) :: a, b)
def newX (x : SH) (t : Nat) (d : D) (adds : Heap) : SH := match x with
  | (a, b) => ((t, d) :: a, adds ++ b)
def putX (x : SH) (nm : Nat) (ob : Ob) : SH := match x with
  | (a, b) => (a, (nm, ob) :: b)
inductive ME where
  | at (i : Nat) (o : Oper) (rest : List Oper) (x : SH) (acc : List Pl) (a : Ask)
  | know (i : Nat) (b : Bool) (t : Nat) (o : Oper) (rest : List Oper) (x : SH) (acc : List Pl)
  | old (i : Nat) (o : Oper) (rest : List Oper) (x : SH) (acc : List Pl)
  | done (x : SH) (acc : List Pl)
  | bad
section
variable (T : TT) (ops : Array Oper) (O : List Heap) (n : Nat)
def finS0 (i : Nat) (o : Oper) (rest : List Oper) (x : SH) (acc : List Pl) (a : Ask) (stop : ME) (k : SH → Pl → ME) : ME := match a with
  | .val d => match o.dst with
    | some t => bif Nat.ble (t + 1) n then (bif isSrc i ops.toList then (match asBool d with
        | some b => .know i b t o rest x acc
        | none => k (setX x t d) (.one t d)) else k (setX x t d) (.one t d)) else .bad
    | none => .bad
  | .new adds d => match o.dst with
    | some t => bif Nat.ble (t + 1) n && freshB adds x.2 then k (newX x t d adds) ⟨[(t, d)], adds, none⟩ else .bad
    | none => .bad
  | .mod _ => .bad
  | .bad => .bad
  | _ => stop
def finS (i : Nat) (o : Oper) (rest : List Oper) (x : SH) (acc : List Pl) (a : Ask) (stop : ME) (k : SH → Pl → ME) : ME := match a with
  | .alt y z => finS0 ops n i o rest x acc (bif ownB ops o then y else z) .bad k
  | a => finS0 ops n i o rest x acc a stop k
def runS : Nat → List Oper → SH → List Pl → ME
  | _, [], x, acc => .done x acc
  | i, o :: rest, x, acc => match wantedD ops (St.of O n x) o with
    | none => .bad
    | some false => match o.dst with
      | some t => bif Nat.ble (t + 1) n then runS (i + 1) rest (setX x t (.tup [])) (acc ++ [.one t (.tup [])]) else .bad
      | none => .bad
    | some true => bif roB o then finS ops n i o rest x acc (exec T (St.of O n x) o) (.at i o rest x acc (exec T (St.of O n x) o)) fun y p => runS (i + 1) rest y (acc ++ [p]) else .old i o rest x acc
def contS (i : Nat) (o : Oper) (rest : List Oper) (x : SH) (acc : List Pl) (a : Ask) : ME := finS ops n i o rest x acc a (.at i o rest x acc a) fun y p => runS T ops O n (i + 1) rest y (acc ++ [p])
end
section
variable (c : Cx) (ops : Array Oper) (O : List Heap) (n : Nat) (F : SH → List Pl → Prop)
def MEx : ME → Prop
  | .at i o rest x acc a => roB o = true → DG c ops O n F o rest x acc a
  | .know i b t o rest x acc => (b = true → GD c ops O n F rest (setX x t .bt) (acc ++ [.one t .bt])) ∧ (b = false → GD c ops O n F rest (setX x t .bf) (acc ++ [.one t .bf]))
  | .old i o rest x acc => wantedD ops (St.of O n x) o = some true → GD c ops O n F (o :: rest) x acc
  | .done x acc => F x acc
  | .bad => False
structure GE (m : ME) : Prop where
  h : MEx c ops O n F m
end
section
variable {c : Cx} {ops : Array Oper} {O : List Heap} {n : Nat} {F : SH → List Pl → Prop}
theorem finS0_ok {i : Nat} {o : Oper} {rest : List Oper} {x : SH} {acc : List Pl} {a : Ask} {stop : ME} {k : SH → Pl → ME} (hro : roB o = true) (hk : ∀ y p, y = p.ap x → MEx c ops O n F (k y p) → GD c ops O n F rest (p.ap x) (acc ++ [p])) (hstop : MEx c ops O n F stop → DG c ops O n F o rest x acc a)
    (h : MEx c ops O n F (finS0 ops n i o rest x acc a stop k)) : DG c ops O n F o rest x acc a := by
  have hg : ∀ s, goneOf s o = none := fun s => gone_ro hro
  unfold finS0 at h
  split at h
  · rename_i d
    split at h
    · rename_i t ht
      have hval : Nat.ble (t + 1) n = true → MEx c ops O n F (k (setX x t d) (.one t d)) → DG c ops O n F o rest x acc (.val d) := by
        intro hb h
        refine ⟨.one t d, (hg _).symm, fun E hE => ?_, hk _ _ rfl h⟩
        simp only [Does, ht]
        refine ⟨Nat.le_of_ble_eq_true hb, rfl, rfl, fun t' d' e => ?_⟩
        obtain ⟨rfl, rfl⟩ := look_one e
        exact .inr (.inl (by simp [St.set, look_cons]))
      cases hb : Nat.ble (t + 1) n with
      | false => rw [hb] at h; exact h.elim
      | true =>
        rw [hb] at h
        simp only [cond_true] at h
        cases hsrc : isSrc i ops.toList with
        | false => rw [hsrc] at h; exact hval hb h
        | true =>
          rw [hsrc] at h
          simp only [cond_true] at h
          split at h
          · rename_i b hbool
            have hd : d = .i (.v (.bool b)) := by
              unfold asBool at hbool
              split at hbool
              · simpa using hbool
              · cases hbool
            subst hd
            cases b with
            | true =>
              refine ⟨.one t .bt, (hg _).symm, fun E hE => ?_, h.1 rfl⟩
              simp only [Does, ht]
              refine ⟨Nat.le_of_ble_eq_true hb, rfl, rfl, fun t' d' e => ?_⟩
              obtain ⟨rfl, rfl⟩ := look_one e
              exact .inr (.inr (.inl ⟨rfl, by simp [St.set, look_cons]⟩))
            | false =>
              refine ⟨.one t .bf, (hg _).symm, fun E hE => ?_, h.2 rfl⟩
              simp only [Does, ht]
              refine ⟨Nat.le_of_ble_eq_true hb, rfl, rfl, fun t' d' e => ?_⟩
              obtain ⟨rfl, rfl⟩ := look_one e
              exact .inr (.inr (.inr ⟨rfl, by simp [St.set, look_cons]⟩))
          · exact hval hb h
    · exact h.elim
  · rename_i adds d
    split at h
    · rename_i t ht
      cases hb : Nat.ble (t + 1) n && freshB adds x.2 with
      | false => rw [hb] at h; exact h.elim
      | true =>
        rw [hb] at h
        simp only [Bool.and_eq_true] at hb
        refine ⟨⟨[(t, d)], adds, none⟩, (hg _).symm, fun E hE => ?_, hk _ _ rfl h⟩
        simp only [Does, ht, St.of]
        refine ⟨Nat.le_of_ble_eq_true hb.1, freshB_ok (freshB_of (H := x.2) view_sub hb.2), rfl, rfl, fun t' d' e => ?_⟩
        obtain ⟨rfl, rfl⟩ := look_one e
        exact .inr (.inl (by simp [look_cons]))
    · exact h.elim
  · exact h.elim
  · exact h.elim
  · exact hstop h
theorem finS_ok {i : Nat} {o : Oper} {rest : List Oper} {x : SH} {acc : List Pl} {a : Ask} {stop : ME} {k : SH → Pl → ME} (hro : roB o = true) (hk : ∀ y p, y = p.ap x → MEx c ops O n F (k y p) → GD c ops O n F rest (p.ap x) (acc ++ [p])) (hstop : MEx c ops O n F stop → DG c ops O n F o rest x acc a)
    (h : MEx c ops O n F (finS ops n i o rest x acc a stop k)) : DG c ops O n F o rest x acc a := by
  unfold finS at h
  split at h
  · rename_i y z
    cases hb : ownB ops o with
    | true =>
      rw [hb] at h
      obtain ⟨p, h1, h2, h3⟩ := finS0_ok (stop := .bad) hro hk (fun h => h.elim) h
      exact ⟨p, h1, fun E hE => .inl (h2 E hE), h3⟩
    | false =>
      rw [hb] at h
      obtain ⟨p, h1, h2, h3⟩ := finS0_ok (stop := .bad) hro hk (fun h => h.elim) h
      exact ⟨p, h1, fun E hE => .inr (h2 E hE), h3⟩
  · exact finS0_ok hro hk hstop h
variable (hT : TOk c.P c.T)
include hT
theorem runS_sound : ∀ (rest : List Oper) (i : Nat) (x : SH) (acc : List Pl), MEx c ops O n F (runS c.T ops O n i rest x acc) → GD c ops O n F rest x acc
  | [], i, x, acc, h => ⟨[], trivial, by rw [List.append_nil]; exact h⟩
  | o :: rest, i, x, acc, h => by
    unfold runS at h
    split at h
    · exact h.elim
    · rename_i hw
      split at h
      · rename_i t ht
        cases hb : Nat.ble (t + 1) n with
        | false => rw [hb] at h; exact h.elim
        | true =>
          rw [hb] at h
          exact gd_cons (.inl ⟨by rw [view_wanted]; exact hw, t, ht, Nat.le_of_ble_eq_true hb, rfl⟩) (runS_sound rest _ _ _ h)
      · exact h.elim
    · rename_i hw
      cases hro : roB o with
      | false => rw [hro] at h; exact h hw
      | true =>
        rw [hro] at h
        obtain ⟨p, h1, h2, h3⟩ := finS_ok (stop := .at i o rest x acc (exec c.T (St.of O n x) o)) (k := fun y p => runS c.T ops O n (i + 1) rest y (acc ++ [p])) hro (fun y p hy h => by subst hy; exact runS_sound rest _ _ _ h) (fun h => h hro) h
        refine gd_cons (stepOK_of (by rw [view_wanted]; exact hw) h1 fun E hE => stp_of_does (c := { c with E := E }) hT ?_) h3
        have := h2 E hE
        rw [view_exec (T := c.T) hro]
        exact this
theorem put_step {o : Oper} {x : SH} {t nm : Nat} {a v : Operand} {ob : Ob} (hw : wantedD ops (St.of O n x) o = some true) (ho : o.op = .store t a v) (hd : o.dst = none) (hs : (exStoreS c.T x.2 t (evD (St.of O n x) a) (evD (St.of O n x) v)).gives nm ob) :
    StepOK c ops O n o (viewOf ops o x) ⟨[], [(nm, ob)], none⟩ := by
  refine stepOK_of (by rw [view_wanted]; exact hw) (by simp [goneOf, ho]) fun E hE => stp_of_does (c := { c with E := E }) hT ?_
  have e1 : exec c.T (St.of O n (viewOf ops o x)) o = exStore c.T (St.of O n (viewOf ops o x)) t (evD (St.of O n x) a) (evD (St.of O n x) v) := by
    unfold exec
    rw [ho]
    dsimp only
    rw [hd]
    dsimp only
    rw [view_ev (by rw [ho]; simp [Op.operands]), view_ev (by rw [ho]; simp [Op.operands])]
  show Does { c with E := E } o _ _ (exec c.T _ o)
  rw [e1]
  refine store_does (H := (viewOf ops o x).2) (Hf := x.2) rfl (by unfold turns; rw [ho]) ?_ hs ⟨rfl, rfl, fun t d h => by simp [look] at h⟩
  intro k hk
  have := view_ags (ops := ops) (O := O) (n := n) (o := o) (x := x) (y := a) (by rw [ho]; simp [Op.operands]) k (by rw [view_ev (by rw [ho]; simp [Op.operands])]; exact hk)
  simpa [objAt, St.of] using this
theorem contS_ok {i : Nat} {o : Oper} {rest : List Oper} {x : SH} {acc : List Pl} {a : Ask} (hro : roB o = true) (h : MEx c ops O n F (contS c.T ops O n i o rest x acc a)) : DG c ops O n F o rest x acc a :=
  finS_ok (stop := .at i o rest x acc a) (k := fun y p => runS c.T ops O n (i + 1) rest y (acc ++ [p])) hro (fun y p hy h => by subst hy; exact runS_sound hT rest _ _ _ h) (fun h => h hro) h
variable {i : Nat} {o : Oper} {rest : List Oper} {x : SH} {acc : List Pl}
theorem s_need {q : Prop} {a : Ask} (hp : q) (h : GE c ops O n F (contS c.T ops O n i o rest x acc a)) : GE c ops O n F (.at i o rest x acc (.need q a)) := by
  refine ⟨fun hro => ?_⟩
  obtain ⟨p, h1, h2, h3⟩ := contS_ok hT hro h.h
  exact ⟨p, h1, fun E hE => ⟨hp, h2 E hE⟩, h3⟩
theorem s_elem {xs : List (List I)} {j : Nat} {g : List I → Ask} {d : List I} (hd : xs[j]? = some d) (h : GE c ops O n F (contS c.T ops O n i o rest x acc (g d))) : GE c ops O n F (.at i o rest x acc (.elem xs j g)) := by
  refine ⟨fun hro => ?_⟩
  obtain ⟨p, h1, h2, h3⟩ := contS_ok hT hro h.h
  exact ⟨p, h1, fun E hE => ⟨d, hd, h2 E hE⟩, h3⟩
theorem s_obj {dep nm : Nat} {g : Ob → Ask} {ob : Ob} (hd : objAt O dep nm = some ob) (h : GE c ops O n F (contS c.T ops O n i o rest x acc (g ob))) : GE c ops O n F (.at i o rest x acc (.obj (dep + 1) nm g)) := by
  refine ⟨fun hro => ?_⟩
  obtain ⟨p, h1, h2, h3⟩ := contS_ok hT hro h.h
  exact ⟨p, h1, fun E hE => ⟨ob, hd, h2 E hE⟩, h3⟩
theorem s_call {f : FuncId} {args : List D} {res : D} {Hr : Heap} {t : Nat} (hspec : ASpec c.P f (D.imms (viewOf ops o x).2 args) ((viewOf ops o x).2 :: O) res Hr ((viewOf ops o x).2 :: O)) (ht : o.dst = some t) (hn : Nat.ble (t + 1) n = true)
    (hf : freshB Hr x.2 = true) (h : GE c ops O n F (runS c.T ops O n (i + 1) rest (newX x t res.down (downH Hr)) (acc ++ [⟨[(t, res.down)], downH Hr, none⟩]))) :
    GE c ops O n F (.at i o rest x acc (.call f args)) := by
  refine ⟨fun hro => ⟨⟨[(t, res.down)], downH Hr, none⟩, (gone_ro hro).symm, fun E hE => ?_, runS_sound hT rest _ _ _ h.h⟩⟩
  refine does_call (c := { c with E := E }) (s := vw ops O n o x) hspec ht (Nat.le_of_ble_eq_true hn) (by simp [vw, St.of]) rfl (freshB_ok (freshB_of view_sub hf)) ⟨rfl, rfl, fun t' d' e => ?_⟩
  obtain ⟨rfl, rfl⟩ := look_one e
  exact .inr (.inl (by simp [look_cons]))
theorem s_callq {f : FuncId} {args : List D} {res : D} {Hr : Heap} {t : Nat} (hspec : ∀ H, ASpec c.P f (D.imms H args) (H :: O) res Hr (H :: O)) (ht : o.dst = some t) (hn : Nat.ble (t + 1) n = true)
    (hf : freshB Hr x.2 = true) (h : GE c ops O n F (runS c.T ops O n (i + 1) rest (newX x t res.down (downH Hr)) (acc ++ [⟨[(t, res.down)], downH Hr, none⟩]))) :
    GE c ops O n F (.at i o rest x acc (.call f args)) := s_call hT (hspec _) ht hn hf h
theorem s_know {b : Bool} {t : Nat} (h1 : b = true → GE c ops O n F (runS c.T ops O n (i + 1) rest (setX x t .bt) (acc ++ [.one t .bt]))) (h2 : b = false → GE c ops O n F (runS c.T ops O n (i + 1) rest (setX x t .bf) (acc ++ [.one t .bf]))) :
    GE c ops O n F (.know i b t o rest x acc) := ⟨fun e => runS_sound hT _ _ _ _ (h1 e).h, fun e => runS_sound hT _ _ _ _ (h2 e).h⟩
theorem s_put {t nm : Nat} {a v : Operand} {ob : Ob} (ho : o.op = .store t a v) (hd : o.dst = none) (hs : exStoreS c.T x.2 t (evD (St.of O n x) a) (evD (St.of O n x) v) = .put nm ob)
    (h : GE c ops O n F (runS c.T ops O n (i + 1) rest (putX x nm ob) (acc ++ [⟨[], [(nm, ob)], none⟩]))) : GE c ops O n F (.old i o rest x acc) := by
  refine ⟨fun hw => gd_cons (put_step hT hw ho hd (.inl hs)) ?_⟩
  exact runS_sound hT _ _ _ _ h.h
theorem s_old (h : MDx c ops O n F (runD c.T ops O n (o :: rest) x acc)) : GE c ops O n F (.old i o rest x acc) := ⟨fun _ => runD_sound hT _ _ _ h⟩
theorem s_done (hfn : c.P.funcs[c.f]? = some c.fn) {k : List Item} {x0 : SH} (hok : okD ops acc x0 = true) (h : MSx c (run c.T c.stop 1000 k (St.of O n x))) : GE c ops O n (FD c ops O n x0 k) (.done x acc) := ⟨fd_done hok (tgt_rch (run_sound hT hfn 1000 k _ h))⟩
theorem s_tail (hfn : c.P.funcs[c.f]? = some c.fn) {k : List Item} {x0 : SH} (l : List Nat) (hok : okT ops acc x0 = true) (hl : List.range' acc.length (ops.size - acc.length) = l) (h : MSx c (forceX x fun x => run c.T c.stop 1000 (.inRegion ops l :: k) (St.of O n x))) : GE c ops O n (FD c ops O n x0 k) (.old i o rest x acc) :=
  ⟨fun _ => ⟨[], by trivial, by rw [forceX_eq] at h; rw [List.append_nil]; refine ⟨hok, ?_⟩; rw [hl]; exact run_sound hT hfn 1000 _ _ h⟩⟩
theorem m_drawnS {id : Nat} {s : St} {k : List Item} (hm : c.P.follows .mixedOrders = true) {H : Heap} (hS : s.S = H :: O) (h : GE c ops O s.n (FD c ops O s.n (s.σ, H) k) (runS c.T ops O s.n 0 ops.toList (s.σ, H) [])) :
    MSx c (.drawn id ops s k) := by
  obtain ⟨qs, h1, h2⟩ := runS_sound hT _ _ _ _ h.h
  rw [List.nil_append] at h2
  have hs : s = St.of O s.n (s.σ, H) := by
    cases s
    simp only at hS
    subst hS
    rfl
  show Rch c (.code (.region id ops true) :: k) s
  rw [hs]
  exact rch_tail hm h2.1 h1 h2.2
end
end Go.AI
