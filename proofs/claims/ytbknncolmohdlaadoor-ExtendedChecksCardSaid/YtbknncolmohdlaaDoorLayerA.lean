/- The layer of abstract runs, part 1. -/
import Derived.Orders
import Derived.Calls
import Derived.Laws.AppendOwn
import Derived.Laws.OwnMore
import Derived.Laws.BytesString
set_option linter.unusedSimpArgs false
set_option linter.unusedVariables false
set_option linter.all false
/- The abstract data of the prover's own layer: values that are known as plain data, and what it means that a value of the model shows them. -/
namespace Go.AI

/-- The content of one cell that nobody changes any more: a plain value, a slice (the cells of each element), a pointer to a cell of an element. -/
inductive I where
  | v (x : Value)
  | sl (es n : Nat) (xs : List (List I))
  | ptr (es : Nat) (xs : List (List I)) (i off : Nat)

/-- What a slot holds: nothing that is known; a cell's content; cells; a tuple; a pointer into an object of the own frame (dep 0) or of a caller; a slice that is such an object, whole; a slice without spare; a test's known outcome; a function value. -/
inductive D where
  | dead
  | i (x : I)
  | agg (cs : List D)
  | tup (cs : List D)
  | own (dep nm i off : Nat)
  | osl (dep nm : Nat)
  | xsl (es n : Nat) (xs : List (List I))
  | bt
  | bf
  | fn (f : Fn) (first cap : List D)

/-- What a map holds, whose values are bools or ints. -/
inductive MC where
  | b (es : List (Value × Bool))
  | i (k : IntKind) (es : List (Value × Int))
/-- The kind of a map's keys. -/
inductive KK where
  | str
  | int (k : IntKind)
inductive Ob where
  | mp (kk : KK) (m : MC)
  | box (cs : List D)
  | arr (ty es n : Nat) (xs : List (List I)) (wr : Bool)

abbrev Heap := List (Nat × Ob)

/-- Memory that nobody changes any more. -/
abbrev Kn := Nat → Nat → Option Value
def Kn.le (K K' : Kn) : Prop := ∀ b o x, K b o = some x → K' b o = some x
theorem Kn.le_refl (K : Kn) : K.le K := fun _ _ _ h => h
theorem Kn.le_trans {K K' K'' : Kn} (h : K.le K') (h' : K'.le K'') : K.le K'' := fun _ _ _ e => h' _ _ _ (h _ _ _ e)

mutual
inductive Rep (K : Kn) : Value → I → Prop
  | v {x : Value} : x.oneCell' = true → Rep K x (.v x)
  | nil {es : Nat} {a : Option Addr} : Rep K (.slice a 0 0) (.sl es 0 [])
  | sl {b o cap es n : Nat} {cs : List Value} {xs : List (List I)} : RepL K cs xs.flatten → (∀ d ∈ xs, d.length = es) →
      (∀ j c, cs[j]? = some c → K b (o + j) = some c) → n ≤ cap → xs.length = n → Rep K (.slice (some ⟨b, o, none⟩) n cap) (.sl es n xs)
  | ptr {b o es i off : Nat} {cs : List Value} {xs : List (List I)} : RepL K cs xs.flatten → (∀ d ∈ xs, d.length = es) →
      (∀ j c, cs[j]? = some c → K b (o + j) = some c) → Rep K (.pointer (some ⟨b, o + i * es + off, none⟩)) (.ptr es xs i off)
inductive RepL (K : Kn) : List Value → List I → Prop
  | nil : RepL K [] []
  | cons {x : Value} {d : I} {xs : List Value} {ds : List I} : Rep K x d → RepL K xs ds → RepL K (x :: xs) (d :: ds)
end

mutual
theorem Rep.mono {K K' : Kn} (h : K.le K') : ∀ {v : Value} {d : I}, Rep K v d → Rep K' v d
  | _, _, .v e => .v e
  | _, _, .nil => .nil
  | _, _, .sl r e k c l => .sl (RepL.mono h r) e (fun j c hc => h _ _ _ (k j c hc)) c l
  | _, _, .ptr r e k => .ptr (RepL.mono h r) e (fun j c hc => h _ _ _ (k j c hc))
theorem RepL.mono {K K' : Kn} (h : K.le K') : ∀ {v : List Value} {d : List I}, RepL K v d → RepL K' v d
  | _, _, .nil => .nil
  | _, _, .cons r rs => .cons (Rep.mono h r) (RepL.mono h rs)
end

theorem Rep.one {K : Kn} {v : Value} {d : I} (h : Rep K v d) : v.oneCell' = true := by
  cases h with
  | v e => exact e
  | _ => rfl
theorem RepL.one {K : Kn} : ∀ {v : List Value} {d : List I}, RepL K v d → ∀ x ∈ v, x.oneCell' = true
  | _, _, .cons r rs, x, hx => by
    rcases List.mem_cons.1 hx with rfl | hx
    · exact r.one
    · exact rs.one x hx
theorem RepL.length {K : Kn} : ∀ {v : List Value} {d : List I}, RepL K v d → v.length = d.length
  | _, _, .nil => rfl
  | _, _, .cons _ rs => by simp [rs.length]
theorem RepL.append {K : Kn} : ∀ {v : List Value} {d : List I} {v' : List Value} {d' : List I}, RepL K v d → RepL K v' d' → RepL K (v ++ v') (d ++ d')
  | _, _, _, _, .nil, h => h
  | _, _, _, _, .cons r rs, h => .cons r (rs.append h)
theorem RepL.drop {K : Kn} : ∀ {v : List Value} {d : List I} (n : Nat), RepL K v d → RepL K (v.drop n) (d.drop n)
  | _, _, 0, h => h
  | _, _, _ + 1, .nil => .nil
  | _, _, n + 1, .cons _ rs => rs.drop n
theorem RepL.take {K : Kn} : ∀ {v : List Value} {d : List I} (n : Nat), RepL K v d → RepL K (v.take n) (d.take n)
  | _, _, 0, _ => .nil
  | _, _, _ + 1, .nil => .nil
  | _, _, n + 1, .cons r rs => .cons r (rs.take n)
theorem RepL.get {K : Kn} : ∀ {v : List Value} {d : List I} {n : Nat} {x : I}, RepL K v d → d[n]? = some x → ∃ y, v[n]? = some y ∧ Rep K y x
  | _, _, 0, _, .cons r _, h => by simp at h; subst h; exact ⟨_, rfl, r⟩
  | _, _, n + 1, _, .cons _ rs, h => by simp at h; exact rs.get (n := n) h
theorem RepL.getv {K : Kn} : ∀ {v : List Value} {d : List I} {n : Nat} {y : Value}, RepL K v d → v[n]? = some y → ∃ x, d[n]? = some x ∧ Rep K y x
  | _, _, 0, _, .cons r _, h => by simp at h; subst h; exact ⟨_, rfl, r⟩
  | _, _, n + 1, _, .cons _ rs, h => by simp at h; exact rs.getv (n := n) h
theorem RepL.set {K : Kn} : ∀ {v : List Value} {d : List I} (n : Nat) {x : Value} {y : I}, RepL K v d → Rep K x y → RepL K (v.set n x) (d.set n y)
  | _, _, _, _, _, .nil, _ => .nil
  | _, _, 0, _, _, .cons _ rs, h => .cons h rs
  | _, _, n + 1, _, _, .cons r rs, h => .cons r (rs.set n h)

/-- Where an object lies: its block; a slice's capacity and base. -/
structure Loc where
  block : Nat
  cap : Nat
  base : Option Addr

/-- The kind of an object, so far as a reference to it must know. -/
inductive Sh where
  | mp
  | box
  | arr (es len : Nat)
def Ob.sh : Ob → Sh
  | .mp _ _ => .mp
  | .box _ => .box
  | .arr _ es n _ _ => .arr es n

def look {α : Type} : List (Nat × α) → Nat → Option α
  | [], _ => none
  | (k, x) :: r, t => bif Nat.beq k t then some x else look r t
theorem look_cons {α : Type} (k : Nat) (x : α) (r : List (Nat × α)) (t : Nat) : look ((k, x) :: r) t = if k = t then some x else look r t := by
  simp only [look]
  by_cases h : k = t
  · subst h; simp
  · rw [if_neg h]
    cases hb : Nat.beq k t
    · rfl
    · exact absurd (Nat.eq_of_beq_eq_true hb) h

def objAt (S : List Heap) (dep nm : Nat) : Option Ob := match S[dep]? with
  | some H => look H nm
  | none => none
def shape (S : List Heap) (dep nm : Nat) : Option Sh := (objAt S dep nm).map Ob.sh

mutual
inductive RepD (K : Kn) (ρ : Nat → Nat → Loc) (sh : Nat → Nat → Option Sh) : Value → D → Prop
  | dead (x : Value) : RepD K ρ sh x .dead
  | i {x : Value} {d : I} : Rep K x d → RepD K ρ sh x (.i d)
  | agg {cs : List Value} {ds : List D} : RepDL K ρ sh cs ds → RepD K ρ sh (.agg cs.toArray) (.agg ds)
  | tup {cs : List Value} {ds : List D} : RepDL K ρ sh cs ds → RepD K ρ sh (.tuple cs.toArray) (.tup ds)
  | box {dep nm off : Nat} : sh dep nm = some .box → RepD K ρ sh (.pointer (some ⟨(ρ dep nm).block, off, none⟩)) (.own dep nm 0 off)
  | arr {dep nm i off es len : Nat} : sh dep nm = some (.arr es len) → i < len → RepD K ρ sh (.pointer (some ⟨(ρ dep nm).block, i * es + off, none⟩)) (.own dep nm i off)
  | osl {dep nm es len : Nat} : sh dep nm = some (.arr es len) → RepD K ρ sh (.slice (ρ dep nm).base len (ρ dep nm).cap) (.osl dep nm)
  | omp {dep nm : Nat} : sh dep nm = some .mp → RepD K ρ sh (.map (some (ρ dep nm).block)) (.osl dep nm)
  | xsl {b o es n : Nat} {cs : List Value} {xs : List (List I)} : RepL K cs xs.flatten → (∀ d ∈ xs, d.length = es) →
      (∀ j c, cs[j]? = some c → K b (o + j) = some c) → xs.length = n → RepD K ρ sh (.slice (some ⟨b, o, none⟩) n n) (.xsl es n xs)
  | xnil {es : Nat} {a : Option Addr} : RepD K ρ sh (.slice a 0 0) (.xsl es 0 [])
  | bt : RepD K ρ sh (.bool true) .bt
  | bf : RepD K ρ sh (.bool false) .bf
  | fn {f : Fn} {first cap : List Value} {d e : List D} : RepDL K ρ sh first d → RepDL K ρ sh cap e → RepD K ρ sh (.func f first.toArray cap.toArray) (.fn f d e)
inductive RepDL (K : Kn) (ρ : Nat → Nat → Loc) (sh : Nat → Nat → Option Sh) : List Value → List D → Prop
  | nil : RepDL K ρ sh [] []
  | cons {x : Value} {d : D} {xs : List Value} {ds : List D} : RepD K ρ sh x d → RepDL K ρ sh xs ds → RepDL K ρ sh (x :: xs) (d :: ds)
end

/-- References stay what they are: more memory that is known, the same places and kinds of the objects that there were. -/
structure Stays (K K' : Kn) (ρ ρ' : Nat → Nat → Loc) (sh sh' : Nat → Nat → Option Sh) : Prop where
  le : K.le K'
  shp : ∀ dep nm x, sh dep nm = some x → sh' dep nm = some x
  loc : ∀ dep nm x, sh dep nm = some x → ρ' dep nm = ρ dep nm

mutual
theorem RepD.stays {K K' : Kn} {ρ ρ' : Nat → Nat → Loc} {sh sh' : Nat → Nat → Option Sh} (h : Stays K K' ρ ρ' sh sh') :
    ∀ {v : Value} {d : D}, RepD K ρ sh v d → RepD K' ρ' sh' v d
  | _, _, .dead x => .dead x
  | _, _, .i r => .i (r.mono h.le)
  | _, _, .agg r => .agg (RepDL.stays h r)
  | _, _, .tup r => .tup (RepDL.stays h r)
  | _, _, .box e => by rw [← h.loc _ _ _ e]; exact .box (h.shp _ _ _ e)
  | _, _, .arr e l => by rw [← h.loc _ _ _ e]; exact .arr (h.shp _ _ _ e) l
  | _, _, .osl e => by rw [← h.loc _ _ _ e]; exact .osl (h.shp _ _ _ e)
  | _, _, .omp e => by rw [← h.loc _ _ _ e]; exact .omp (h.shp _ _ _ e)
  | _, _, .xsl r e k l => .xsl (r.mono h.le) e (fun j c hc => h.le _ _ _ (k j c hc)) l
  | _, _, .xnil => .xnil
  | _, _, .bt => .bt
  | _, _, .bf => .bf
  | _, _, .fn r s => .fn (RepDL.stays h r) (RepDL.stays h s)
theorem RepDL.stays {K K' : Kn} {ρ ρ' : Nat → Nat → Loc} {sh sh' : Nat → Nat → Option Sh} (h : Stays K K' ρ ρ' sh sh') :
    ∀ {v : List Value} {d : List D}, RepDL K ρ sh v d → RepDL K' ρ' sh' v d
  | _, _, .nil => .nil
  | _, _, .cons r rs => .cons (RepD.stays h r) (RepDL.stays h rs)
end

section
variable {K : Kn} {ρ : Nat → Nat → Loc} {sh : Nat → Nat → Option Sh}
theorem RepDL.length : ∀ {v : List Value} {d : List D}, RepDL K ρ sh v d → v.length = d.length
  | _, _, .nil => rfl
  | _, _, .cons _ rs => by simp [rs.length]
theorem RepDL.append : ∀ {v : List Value} {d : List D} {v' : List Value} {d' : List D}, RepDL K ρ sh v d → RepDL K ρ sh v' d' → RepDL K ρ sh (v ++ v') (d ++ d')
  | _, _, _, _, .nil, h => h
  | _, _, _, _, .cons r rs, h => .cons r (rs.append h)
theorem RepDL.drop : ∀ {v : List Value} {d : List D} (n : Nat), RepDL K ρ sh v d → RepDL K ρ sh (v.drop n) (d.drop n)
  | _, _, 0, h => h
  | _, _, _ + 1, .nil => .nil
  | _, _, n + 1, .cons _ rs => rs.drop n
theorem RepDL.take : ∀ {v : List Value} {d : List D} (n : Nat), RepDL K ρ sh v d → RepDL K ρ sh (v.take n) (d.take n)
  | _, _, 0, _ => .nil
  | _, _, _ + 1, .nil => .nil
  | _, _, n + 1, .cons r rs => .cons r (rs.take n)
theorem RepDL.get : ∀ {v : List Value} {d : List D} {n : Nat} {x : D}, RepDL K ρ sh v d → d[n]? = some x → ∃ y, v[n]? = some y ∧ RepD K ρ sh y x
  | _, _, 0, _, .cons r _, h => by simp at h; subst h; exact ⟨_, rfl, r⟩
  | _, _, n + 1, _, .cons _ rs, h => by simp at h; exact rs.get (n := n) h
theorem RepDL.set : ∀ {v : List Value} {d : List D} (n : Nat) {x : Value} {y : D}, RepDL K ρ sh v d → RepD K ρ sh x y → RepDL K ρ sh (v.set n x) (d.set n y)
  | _, _, _, _, _, .nil, _ => .nil
  | _, _, 0, _, _, .cons _ rs, h => .cons h rs
  | _, _, n + 1, _, _, .cons r rs, h => .cons r (rs.set n h)
theorem RepDL.ofL : ∀ {v : List Value} {d : List I}, RepL K v d → RepDL K ρ sh v (d.map .i)
  | _, _, .nil => .nil
  | _, _, .cons r rs => .cons (.i r) (RepDL.ofL rs)
theorem RepDL.toL : ∀ {v : List Value} {d : List I}, RepDL K ρ sh v (d.map .i) → RepL K v d
  | _, [], .nil => .nil
  | _, _ :: _, .cons (.i r) rs => .cons r (RepDL.toL rs)
end

/-- The cells of a value. -/
def D.cells : D → List D
  | .agg cs => cs
  | d => [d]
/-- It is known, and fits one cell. -/
def D.one : D → Bool
  | .dead | .agg _ | .tup _ => false
  | _ => true
def D.ones (l : List D) : Bool := l.all D.one

section
variable {K : Kn} {ρ : Nat → Nat → Loc} {sh : Nat → Nat → Option Sh}
theorem RepD.one {v : Value} {d : D} (h : RepD K ρ sh v d) (hd : d.one = true) : v.oneCell' = true := by
  cases h with
  | i r => exact r.one
  | dead | agg | tup => simp [D.one] at hd
  | _ => rfl
theorem RepDL.one : ∀ {v : List Value} {d : List D}, RepDL K ρ sh v d → D.ones d = true → ∀ x ∈ v, x.oneCell' = true
  | _, _, .cons r rs, h, x, hx => by
    simp only [D.ones, List.all_cons, Bool.and_eq_true] at h
    rcases List.mem_cons.1 hx with rfl | hx
    · exact r.one h.1
    · exact rs.one h.2 x hx
theorem cells_of_one {v : Value} (h : v.oneCell' = true) : v.cells = #[v] := by
  cases v <;> simp_all [Value.cells, Value.oneCell']
theorem RepD.cells {v : Value} {d : D} (h : RepD K ρ sh v d) (hd : D.ones d.cells = true) : RepDL K ρ sh v.cells.toList d.cells := by
  cases h with
  | agg r => exact r
  | dead | tup => simp [D.cells, D.ones, D.one] at hd
  | i r => rw [cells_of_one r.one]; exact .cons (.i r) .nil
  | box e => exact .cons (.box e) .nil
  | arr e l => exact .cons (.arr e l) .nil
  | osl e => exact .cons (.osl e) .nil
  | omp e => exact .cons (.omp e) .nil
  | xsl a b c d => exact .cons (.xsl a b c d) .nil
  | xnil => exact .cons .xnil .nil
  | bt => exact .cons .bt .nil
  | bf => exact .cons .bf .nil
  | fn a b => exact .cons (.fn a b) .nil
end
end Go.AI

/- The invariant that ties the abstract state to a frame and a world. -/
namespace Go.AI

/-- A key of a kind. -/
def KK.ok : KK → Value → Bool
  | .str, .string _ => true
  | .int k, .int k' _ => k == k'
  | _, _ => false
def MC.vals : MC → List (Value × Value)
  | .b es => es.map fun p => (p.1, .bool p.2)
  | .i k es => es.map fun p => (p.1, .int k p.2)
/-- An object lies in the world as it should. -/
def OwnAt (K : Kn) (ρ : Nat → Nat → Loc) (sh : Nat → Nat → Option Sh) (w : World) (l : Loc) : Ob → Prop
  | .mp kk m => (∃ es clock, w.heap[l.block]? = some (.map es clock) ∧ es.toList.map (fun e => (e.key, e.val)) = m.vals ∧ ∀ p ∈ m.vals, kk.ok p.1 = true) ∧ ∀ o, K l.block o = none
  | .box cs => ∃ c T, w.heap[l.block]? = some (.cells c T (0, 0)) ∧ RepDL K ρ sh c.toList cs ∧ ∀ o, K l.block o = none
  | .arr ty es n xs wr => (∀ d ∈ xs, d.length = es) ∧ xs.length = n ∧ n ≤ l.cap ∧ l.cap ≤ maxLen ∧ ((l.cap = 0 ∧ l.base = none) ∨ (l.base = some ⟨l.block, 0, none⟩ ∧
      ∃ c, w.heap[l.block]? = some (.cells c ty (0, 0)) ∧ c.size = l.cap * es ∧ RepL K (c.toList.take (n * es)) xs.flatten ∧
        (wr = true → ∀ o, K l.block o = none) ∧ (∀ o, n * es ≤ o → K l.block o = none) ∧
        (wr = false → ∀ o, o < n * es → K l.block o = c[o]?)))

/-- Does it take up a block of its own? -/
def backed (l : Loc) : Ob → Prop
  | .mp _ _ => True
  | .box _ => True
  | .arr _ _ _ _ _ => l.base ≠ none

structure Env where
  K0 : Kn
  ρ0 : Nat → Nat → Loc
  w0 : World
  pr : Nat → Prop
  lt : ∀ b, pr b → b < w0.heap.size
def Env.of (K : Kn) (ρ : Nat → Nat → Loc) (w : World) : Env := { K0 := K, ρ0 := ρ, w0 := w, pr := fun b => b < w.heap.size, lt := fun _ h => h }

structure HInv (E : Env) (K : Kn) (ρ : Nat → Nat → Loc) (S : List Heap) (w : World) : Prop where
  holds : ∀ b o x, K b o = some x → w.cell? ⟨b, o, none⟩ = some x
  own : ∀ dep nm ob, objAt S dep nm = some ob → OwnAt K (fun d n => ρ (dep + d) n) (shape (S.drop dep)) w (ρ dep nm) ob
  inj : ∀ dep nm ob dep' nm' ob', objAt S dep nm = some ob → objAt S dep' nm' = some ob' → backed (ρ dep nm) ob → backed (ρ dep' nm') ob' →
    (ρ dep nm).block = (ρ dep' nm').block → dep = dep' ∧ nm = nm'
  size : E.w0.heap.size ≤ w.heap.size
  old : ∀ b, E.pr b → (∀ dep nm ob, objAt S (dep + 1) nm = some ob → backed (ρ (dep + 1) nm) ob → (ρ (dep + 1) nm).block ≠ b) →
    w.heap[b]? = E.w0.heap[b]?
  loc : ∀ nm ob, objAt S 0 nm = some ob → backed (ρ 0 nm) ob → ¬ E.pr (ρ 0 nm).block
  outer : ∀ dep, ρ (dep + 1) = E.ρ0 dep
  Kle : E.K0.le K
  Knew : ∀ b o x, K b o = some x → E.K0 b o = some x ∨ ¬ E.pr b
  rest : w.tape = E.w0.tape ∧ w.os = E.w0.os ∧ w.output = E.w0.output

structure St where
  σ : List (Nat × D)
  S : List Heap
  n : Nat

def St.get (s : St) (t : Nat) : D := match look s.σ t with | some d => d | none => .dead
def St.set (s : St) (t : Nat) (d : D) : St := { s with σ := (t, d) :: s.σ }

structure Inv (E : Env) (K : Kn) (ρ : Nat → Nat → Loc) (s : St) (a : Act) (w : World) : Prop where
  h : HInv E K ρ s.S w
  defers : a.defers = []
  size : a.tmps.size = s.n
  slots : ∀ t d, look s.σ t = some d → RepD K ρ (shape s.S) (a.tmps.getD t undef) d

theorem Inv.get {E : Env} {K : Kn} {ρ : Nat → Nat → Loc} {s : St} {a : Act} {w : World} (h : Inv E K ρ s a w) (t : Nat) :
    RepD K ρ (shape s.S) (a.tmps.getD t undef) (s.get t) := by
  unfold St.get
  split
  · exact h.slots _ _ (by assumption)
  · exact .dead _

/-- Objects more, in the own frame. -/
def addS (S : List Heap) (adds : Heap) : List Heap := match S with
  | [] => [adds]
  | H :: O => (adds ++ H) :: O

theorem look_append {α : Type} (l r : List (Nat × α)) (t : Nat) : look (l ++ r) t = match look l t with | some x => some x | none => look r t := by
  induction l with
  | nil => simp [look]
  | cons p l ih =>
    obtain ⟨k, x⟩ := p
    rw [List.cons_append, look_cons, look_cons, ih]
    by_cases h : k = t <;> simp [h]

/-- S' holds all that S holds; the callers' objects are the same. -/
structure SubS (S S' : List Heap) : Prop where
  obj : ∀ dep nm ob, objAt S dep nm = some ob → objAt S' dep nm = some ob
  tail : ∀ dep nm, objAt S (dep + 1) nm = objAt S' (dep + 1) nm

theorem shape_of_obj {S S' : List Heap} (h : ∀ dep nm ob, objAt S dep nm = some ob → objAt S' dep nm = some ob) {dep nm : Nat} {x : Sh} (e : shape S dep nm = some x) : shape S' dep nm = some x := by
  unfold shape at *
  cases ho : objAt S dep nm with
  | none => simp [ho] at e
  | some ob => rw [h _ _ _ ho]; simpa [ho] using e

theorem objAt_drop (S : List Heap) (k dep nm : Nat) : objAt (S.drop k) dep nm = objAt S (k + dep) nm := by
  simp [objAt, List.getElem?_drop]
theorem shape_drop (S : List Heap) (k dep nm : Nat) : shape (S.drop k) dep nm = shape S (k + dep) nm := by
  simp [shape, objAt_drop]

theorem OwnAt.stays {K K' : Kn} {ρ ρ' : Nat → Nat → Loc} {sh sh' : Nat → Nat → Option Sh} {w w' : World} {l : Loc} {ob : Ob} (h : OwnAt K ρ sh w l ob)
    (hs : Stays K K' ρ ρ' sh sh') (hw : backed l ob → w'.heap[l.block]? = w.heap[l.block]?) (hK : backed l ob → ∀ o, K' l.block o = K l.block o) : OwnAt K' ρ' sh' w' l ob := by
  cases ob with
  | mp kk m =>
    obtain ⟨⟨es, ck, h1, h2⟩, h3⟩ := h
    exact ⟨⟨es, ck, by rw [hw trivial]; exact h1, h2⟩, fun o => by rw [hK trivial]; exact h3 o⟩
  | box cs =>
    obtain ⟨c, T, h1, h2, h3⟩ := h
    exact ⟨c, T, by rw [hw trivial]; exact h1, h2.stays hs, fun o => by rw [hK trivial]; exact h3 o⟩
  | arr ty es n xs wr =>
    obtain ⟨h1, h2, h2', h2'', h3⟩ := h
    refine ⟨h1, h2, h2', h2'', ?_⟩
    by_cases hc : l.base = none
    · rcases h3 with h3 | ⟨h4, _⟩
      · exact .inl h3
      · rw [hc] at h4; cases h4
    · rcases h3 with ⟨_, h3⟩ | ⟨h4, c, h5, h6, h7, h8, h9, h10⟩
      · exact absurd h3 hc
      · refine .inr ⟨h4, c, by rw [hw hc]; exact h5, h6, h7.mono hs.le, fun e o => by rw [hK hc]; exact h8 e o, fun o ho => by rw [hK hc]; exact h9 o ho, fun e o ho => by rw [hK hc]; exact h10 e o ho⟩

/-- The block of an object that lies somewhere is one of the heap's. -/
theorem OwnAt.lt {K : Kn} {ρ : Nat → Nat → Loc} {sh : Nat → Nat → Option Sh} {w : World} {l : Loc} {ob : Ob} (h : OwnAt K ρ sh w l ob) (hb : backed l ob) : l.block < w.heap.size := by
  have hh : ∃ x, w.heap[l.block]? = some x := by
    cases ob with
    | mp kk m => obtain ⟨⟨es, ck, h1, _⟩, _⟩ := h; exact ⟨_, h1⟩
    | box cs => obtain ⟨c, T, h1, _⟩ := h; exact ⟨_, h1⟩
    | arr ty es n xs wr =>
      obtain ⟨_, _, _, _, h3⟩ := h
      rcases h3 with ⟨_, h3⟩ | ⟨_, c, h5, _⟩
      · exact absurd h3 hb
      · exact ⟨_, h5⟩
  obtain ⟨x, hx⟩ := hh
  rcases Nat.lt_or_ge l.block w.heap.size with h | h
  · exact h
  · simp [Array.getElem?_eq_none h] at hx

/-- What a step leaves that changes nothing that was there, and adds objects of the own frame. -/
structure Grow (K : Kn) (ρ : Nat → Nat → Loc) (S : List Heap) (w : World) (adds : Heap) (K' : Kn) (ρ' : Nat → Nat → Loc) (w' : World) : Prop where
  le : K.le K'
  new : ∀ b o x, K' b o = some x → K b o = some x ∨ w.heap.size ≤ b
  size : w.heap.size ≤ w'.heap.size
  old : ∀ b, b < w.heap.size → w'.heap[b]? = w.heap[b]?
  rest : w'.tape = w.tape ∧ w'.os = w.os ∧ w'.output = w.output
  loc : ∀ dep nm, (dep ≠ 0 ∨ look adds nm = none) → ρ' dep nm = ρ dep nm
  holds : ∀ b o x, K' b o = some x → w'.cell? ⟨b, o, none⟩ = some x
  own : ∀ nm ob, look adds nm = some ob → OwnAt K' ρ' (shape (addS S adds)) w' (ρ' 0 nm) ob ∧ (backed (ρ' 0 nm) ob → w.heap.size ≤ (ρ' 0 nm).block)
  inj : ∀ nm ob nm' ob', look adds nm = some ob → look adds nm' = some ob' → backed (ρ' 0 nm) ob → backed (ρ' 0 nm') ob' → (ρ' 0 nm).block = (ρ' 0 nm').block → nm = nm'

theorem Grow.refl {E : Env} {K : Kn} {ρ : Nat → Nat → Loc} {S : List Heap} {w : World} (h : HInv E K ρ S w) : Grow K ρ S w [] K ρ w :=
  ⟨K.le_refl, fun _ _ _ h => .inl h, Nat.le_refl _, fun _ _ => rfl, ⟨rfl, rfl, rfl⟩, fun _ _ _ => rfl, h.holds, fun _ _ h => by simp [look] at h, fun _ _ _ _ h => by simp [look] at h⟩

theorem objAt_addS (H : Heap) (O : List Heap) (adds : Heap) (dep nm : Nat) : objAt (addS (H :: O) adds) dep nm = if dep = 0 then (match look adds nm with | some x => some x | none => look H nm) else objAt (H :: O) dep nm := by
  cases dep with
  | zero =>
    simp only [addS, objAt, List.getElem?_cons_zero, look_append, if_true]
    cases look adds nm <;> rfl
  | succ k => simp [addS, objAt]

theorem SubS.add {H : Heap} {O : List Heap} {adds : Heap} (hf : ∀ nm, look adds nm ≠ none → look H nm = none) : SubS (H :: O) (addS (H :: O) adds) where
  obj := by
    intro dep nm ob h
    rw [objAt_addS]
    by_cases hd : dep = 0
    · subst hd
      simp only [if_true]
      cases ha : look adds nm with
      | none => simpa [objAt] using h
      | some x => have := hf nm (by simp [ha]); simp [objAt, this] at h
    · rw [if_neg hd]; exact h
  tail := by intro dep nm; rw [objAt_addS, if_neg (by omega)]

/-- A growth, laid over the invariant of a state that may hold more than the step knew of. -/
theorem HInv.grow {E : Env} {K K' : Kn} {ρ ρ' : Nat → Nat → Loc} {S S' : List Heap} {w w' : World} {adds : Heap} {H' : Heap} {O : List Heap} (hS : S' = H' :: O)
    (h : HInv E K ρ S' w) (hsub : ∀ dep nm x, shape (addS S adds) dep nm = some x → shape (addS S' adds) dep nm = some x)
    (hf : ∀ nm, look adds nm ≠ none → look H' nm = none) (g : Grow K ρ S w adds K' ρ' w') : HInv E K' ρ' (addS S' adds) w' ∧ Stays K K' ρ ρ' (shape S') (shape (addS S' adds)) := by
  subst hS
  have hadd := SubS.add (O := O) hf
  have hst : Stays K K' ρ ρ' (shape (H' :: O)) (shape (addS (H' :: O) adds)) := by
    refine ⟨g.le, fun dep nm x e => shape_of_obj hadd.obj e, fun dep nm x e => g.loc _ _ ?_⟩
    by_cases hd : dep = 0
    · subst hd
      refine .inr ?_
      cases ha : look adds nm with
      | none => rfl
      | some y =>
        have := hf nm (by simp [ha])
        simp [shape, objAt, this] at e
    · exact .inl hd
  have hKsame : ∀ b, b < w.heap.size → ∀ o, K' b o = K b o := by
    intro b hb o
    cases hk : K' b o with
    | none =>
      cases hk2 : K b o with
      | none => rfl
      | some x => rw [g.le _ _ _ hk2] at hk; exact absurd hk (by simp)
    | some x =>
      rcases g.new _ _ _ hk with h1 | h1
      · exact h1.symm
      · omega
  have cases_obj : ∀ dep nm ob, objAt (addS (H' :: O) adds) dep nm = some ob → (dep = 0 ∧ look adds nm = some ob) ∨ (objAt (H' :: O) dep nm = some ob ∧ ρ' dep nm = ρ dep nm) := by
    intro dep nm ob ho
    rw [objAt_addS] at ho
    by_cases hd : dep = 0
    · subst hd
      simp only [if_true] at ho
      cases ha : look adds nm with
      | none =>
        rw [ha] at ho
        exact .inr ⟨by simpa [objAt] using ho, g.loc _ _ (.inr ha)⟩
      | some y => rw [ha] at ho; exact .inl ⟨rfl, ho⟩
    · rw [if_neg hd] at ho
      exact .inr ⟨ho, g.loc _ _ (.inl hd)⟩
  have own' : ∀ dep nm ob, objAt (H' :: O) dep nm = some ob → ρ' dep nm = ρ dep nm → OwnAt K' (fun d n => ρ' (dep + d) n) (shape ((addS (H' :: O) adds).drop dep)) w' (ρ' dep nm) ob := by
    intro dep nm ob ho he
    have h0 := h.own _ _ _ ho
    rw [he]
    refine h0.stays ⟨g.le, ?_, ?_⟩ ?_ ?_
    · intro d n x e
      rw [shape_drop] at *
      exact hst.shp _ _ _ e
    · intro d n x e
      rw [shape_drop] at e
      exact hst.loc _ _ _ e
    · intro hb; exact g.old _ (h0.lt hb)
    · intro hb o; exact hKsame _ (h0.lt hb) o
  refine ⟨⟨g.holds, ?_, ?_, by have := h.size; have := g.size; omega, ?_, ?_, ?_, Kn.le_trans h.Kle g.le, ?_, ?_⟩, hst⟩
  · intro dep nm ob ho
    rcases cases_obj _ _ _ ho with ⟨rfl, ha⟩ | ⟨ho', he⟩
    · have h1 := (g.own nm ob ha).1
      refine h1.stays ⟨K'.le_refl, ?_, fun d n _ _ => by simp⟩ (fun _ => rfl) (fun _ _ => rfl)
      intro d n x e
      rw [List.drop_zero]
      exact hsub _ _ _ e
    · exact own' _ _ _ ho' he
  · intro dep nm ob dep' nm' ob' h1 h2 b1 b2 he
    rcases cases_obj _ _ _ h1 with ⟨rfl, ha⟩ | ⟨ho1, e1⟩ <;> rcases cases_obj _ _ _ h2 with ⟨rfl, ha'⟩ | ⟨ho2, e2⟩
    · exact ⟨rfl, g.inj _ _ _ _ ha ha' b1 b2 he⟩
    · rw [e2] at b2 he
      have := (h.own _ _ _ ho2).lt b2
      have := (g.own nm ob ha).2 b1
      omega
    · rw [e1] at b1 he
      have := (h.own _ _ _ ho1).lt b1
      have := (g.own nm' ob' ha').2 b2
      omega
    · rw [e1] at b1 he
      rw [e2] at b2 he
      exact h.inj _ _ _ _ _ _ ho1 ho2 b1 b2 he
  · intro b hb hno
    rw [g.old b (by have := h.size; have := E.lt b hb; omega)]
    refine h.old b hb fun dep nm ob ho hbk => ?_
    have e1 : ρ' (dep + 1) nm = ρ (dep + 1) nm := g.loc _ _ (.inl (by omega))
    have := hno dep nm ob (by rw [objAt_addS, if_neg (by omega)]; exact ho) (by rw [e1]; exact hbk)
    rw [e1] at this
    exact this
  · intro nm ob ho hb
    rcases cases_obj _ _ _ ho with ⟨_, ha⟩ | ⟨ho', e⟩
    · have := (g.own nm ob ha).2 hb
      have := h.size
      intro hp
      have := E.lt _ hp
      omega
    · rw [e] at hb ⊢; exact h.loc _ _ ho' hb
  · intro dep
    funext nm
    rw [g.loc _ _ (.inl (by omega)), h.outer]
  · intro b o x hx
    rcases g.new _ _ _ hx with h1 | h1
    · exact h.Knew _ _ _ h1
    · have := h.size; exact .inr fun hp => by have := E.lt _ hp; omega
  · obtain ⟨r1, r2, r3⟩ := h.rest
    obtain ⟨q1, q2, q3⟩ := g.rest
    exact ⟨q1.trans r1, q2.trans r2, q3.trans r3⟩

/-- The invariant of a state that holds less. -/
theorem HInv.restrict {E : Env} {K : Kn} {ρ : Nat → Nat → Loc} {S S' : List Heap} {w : World} (h : HInv E K ρ S' w) (hs : SubS S S')
    (hsh : ∀ dep nm ob, objAt S dep nm = some ob → OwnAt K (fun d n => ρ (dep + d) n) (shape (S.drop dep)) w (ρ dep nm) ob) : HInv E K ρ S w where
  holds := h.holds
  own := hsh
  inj := fun _ _ _ _ _ _ a b => h.inj _ _ _ _ _ _ (hs.obj _ _ _ a) (hs.obj _ _ _ b)
  size := h.size
  old := fun b hb hn => h.old b hb fun dep nm ob ho => hn dep nm ob (by rw [hs.tail]; exact ho)
  loc := fun _ _ a => h.loc _ _ (hs.obj _ _ _ a)
  outer := h.outer
  Kle := h.Kle
  Knew := h.Knew
  rest := h.rest
end Go.AI

/- One operation, carried out on abstract values. -/
namespace Go.AI

inductive TK where
  | sc
  | str
  | bool
  | int (k : IntKind)
  | slice (e : Nat)
  | ptr (e : Nat)
  | struct (fs : List (Nat × Nat × Bool))
  | arr (n e : Nat)
  | map (k e : Nat)
def TK.agg : TK → Bool
  | .struct _ | .arr _ _ => true
  | _ => false
structure TI where
  size : Nat
  bytes : Nat
  k : TK
  zero : List Value
abbrev TT := List (Nat × TI)

def TK.kk : TK → Option KK
  | .str => some .str
  | .int k => some (.int k)
  | _ => none
def TK.isKK : TK → KK → Bool
  | .str, .str => true
  | .int k, .int k' => decide (k = k')
  | _, _ => false
def TK.mc : TK → Option MC
  | .bool => some (.b [])
  | .int k => some (.i k [])
  | _ => none
def isFalse' : List Value → Bool
  | [.bool false] => true
  | _ => false
def isZero' (k : IntKind) : List Value → Bool
  | [.int k' 0] => decide (k = k')
  | _ => false
/-- Keys that are equal. -/
def keyB : Value → Value → Bool
  | .string a, .string b => a == b
  | .int _ a, .int _ b => a == b
  | _, _ => false
def mlook {α : Type} : List (Value × α) → Value → Option α
  | [], _ => none
  | (k', x) :: r, k => bif keyB k k' then some x else mlook r k
def mset {α : Type} : List (Value × α) → Value → α → List (Value × α)
  | [], k, x => [(k, x)]
  | (k', y) :: r, k, x => bif keyB k k' then (k, x) :: r else (k', y) :: mset r k x
def mgetB (es : List (Value × Bool)) (k : Value) : Bool := (mlook es k).getD false
def mgetI (es : List (Value × Int)) (k : Value) : Int := (mlook es k).getD 0
def mhas {α : Type} (es : List (Value × α)) (k : Value) : Bool := (mlook es k).isSome

/-- What an operation asks for, or gives. -/
inductive Ask where
  | val (d : D)
  | new (adds : Heap) (d : D)
  | mod (s : St)
  | need (p : Prop) (a : Ask)
  | elem (xs : List (List I)) (i : Nat) (k : List I → Ask)
  | obj (dep nm : Nat) (k : Ob → Ask)
  | anyb (p : Bool → Prop)
  | call (f : FuncId) (args : List D)
  | alt (own dat : Ask)
  | bad

def force (d : D) (k : D → Ask) : Ask := match d with
  | .dead => k .dead
  | .i (.v x) => k (.i (.v x))
  | .i (.sl a b c) => k (.i (.sl a b c))
  | .i (.ptr a b c e) => k (.i (.ptr a b c e))
  | .agg cs => k (.agg cs)
  | .tup cs => k (.tup cs)
  | .own a b c e => k (.own a b c e)
  | .osl a b => k (.osl a b)
  | .xsl a b c => k (.xsl a b c)
  | .bt => k .bt
  | .bf => k .bf
  | .fn a b c => k (.fn a b c)
theorem force_eq (d : D) (k : D → Ask) : force d k = k d := by
  unfold force
  split <;> rfl
def forceL (l : List D) (k : List D → Ask) : Ask := match l with
  | [] => k []
  | d :: r => force d fun d => forceL r fun r => k (d :: r)
theorem forceL_eq (l : List D) (k : List D → Ask) : forceL l k = k l := by
  induction l generalizing k with
  | nil => rfl
  | cons d r ih => simp only [forceL, force_eq, ih]

/- A reference, as the frame that is k frames further up sees it. -/
mutual
def D.shift (k : Nat) : D → D
  | .own dep nm j off => .own (dep + k) nm j off
  | .osl dep nm => .osl (dep + k) nm
  | .fn f a b => .fn f (D.shifts k a) (D.shifts k b)
  | .agg cs => .agg (D.shifts k cs)
  | .tup cs => .tup (D.shifts k cs)
  | d => d
def D.shifts (k : Nat) : List D → List D
  | [] => []
  | d :: r => d.shift k :: D.shifts k r
end

/- Without the references to an object of the own frame. -/
mutual
def D.kill (m : Nat) : D → D
  | .own 0 nm j off => bif Nat.beq nm m then .dead else .own 0 nm j off
  | .osl 0 nm => bif Nat.beq nm m then .dead else .osl 0 nm
  | .fn f a b => .fn f (D.kills m a) (D.kills m b)
  | .agg cs => .agg (D.kills m cs)
  | .tup cs => .tup (D.kills m cs)
  | d => d
def D.kills (m : Nat) : List D → List D
  | [] => []
  | d :: r => d.kill m :: D.kills m r
end
def killσ (m : Nat) : List (Nat × D) → List (Nat × D)
  | [] => []
  | (t, d) :: r => (t, d.kill m) :: killσ m r
def Ob.kill (m : Nat) : Ob → Ob
  | .box cs => .box (D.kills m cs)
  | o => o
def killH (m : Nat) : Heap → Heap
  | [] => []
  | (t, o) :: r => bif Nat.beq t m then killH m r else (t, o.kill m) :: killH m r

def D.toB : D → Option Bool
  | .bt => some true
  | .bf => some false
  | .i (.v (.bool b)) => some b
  | _ => none
def D.toI : D → Option I
  | .i x => some x
  | .bt => some (.v (.bool true))
  | .bf => some (.v (.bool false))
  | .xsl es n xs => some (.sl es n xs)
  | _ => none
def D.toIs : List D → Option (List I)
  | [] => some []
  | d :: r => match d.toI, D.toIs r with
    | some x, some xs => some (x :: xs)
    | _, _ => none

section
variable (T : TT) (s : St)

def evD : Operand → D
  | .tmp t => s.get t
  | .const v => bif v.oneCell' then .i (.v v) else .dead
  | .global _ => .dead
  | .func f => .fn (.func f) [] []

/-- The cells of a value of a type, all of them known; those of its zero value. -/
def cellsOf (t : Nat) (d : D) (k : List D → Ask) : Ask := match look T t with
  | some i => bif Nat.beq d.cells.length i.size && D.ones d.cells then forceL d.cells k else .bad
  | none => .bad
def zeroOf (t : Nat) (k : List D → Ask) : Ask := match look T t with
  | some i => forceL (i.zero.map fun v => .i (.v v)) k
  | none => .bad

/-- A variable of a type out of cells. -/
def ofCells (i : TI) (off : Nat) (cs : List D) (k : D → Ask) : Ask :=
  bif i.k.agg then (bif Nat.ble (off + i.size) cs.length then forceL ((cs.drop off).take i.size) fun l => k (.agg l) else .bad)
  else match cs.drop off with
    | d :: _ => force d k
    | [] => .bad

def objOf (dep nm : Nat) (k : Ob → Ask) : Ask := match dep with
  | 0 => match objAt s.S 0 nm with
    | some o => k o
    | none => .bad
  | dep + 1 => .obj (dep + 1) nm k

def exLoad (t : Nat) (p : D) : Ask := match look T t with
  | none => .bad
  | some i => match p with
    | .own dep nm x off => objOf s dep nm fun
      | .box cs => ofCells i off (D.shifts dep cs) .val
      | .arr _ _ _ xs _ => .elem xs x fun d => ofCells i off (d.map .i) .val
      | .mp _ _ => .bad
    | .i (.ptr _ xs x off) => .elem xs x fun d => ofCells i off (d.map .i) .val
    | _ => .bad

def exFieldAddr (t : Nat) (p : D) (f : Nat) : Ask := match look T t with
  | some { k := .struct fs, .. } => match fs[f]? with
    | some (o, _, _) => match p with
      | .own dep nm i off => .val (.own dep nm i (off + o))
      | .i (.ptr es xs i off) => .val (.i (.ptr es xs i (off + o)))
      | _ => .bad
    | none => .bad
  | _ => .bad

def sizeT (t : Nat) (k : Nat → Ask) : Ask := match look T t with
  | some i => k i.size
  | none => .bad

def exIndexAddr (t : Nat) (x ix : D) : Ask := match ix with
  | .i (.v (.int _ k)) => match look T t with
    | some { k := .slice e, .. } => sizeT T e fun z => match x with
      | .i (.sl es n xs) => bif Nat.beq es z then .need (0 ≤ k ∧ k < n) (.val (.i (.ptr es xs k.toNat 0))) else .bad
      | .xsl es n xs => bif Nat.beq es z then .need (0 ≤ k ∧ k < n) (.val (.i (.ptr es xs k.toNat 0))) else .bad
      | .osl dep nm => objOf s dep nm fun
        | .arr _ es n _ _ => bif Nat.beq es z then .need (0 ≤ k ∧ k < n) (.val (.own dep nm k.toNat 0)) else .bad
        | _ => .bad
      | _ => .bad
    | some { k := .arr n e, .. } => sizeT T e fun z => match x with
      | .own dep nm i off => .need (0 ≤ k ∧ k < n) (.val (.own dep nm i (off + k.toNat * z)))
      | .i (.ptr es xs i off) => .need (0 ≤ k ∧ k < n) (.val (.i (.ptr es xs i (off + k.toNat * z))))
      | _ => .bad
    | _ => .bad
  | _ => .bad

def exBin (op : BinOp) (t : Nat) (x y : D) : Ask := match x, y with
  | .i (.v (.int k a)), .i (.v (.int k' b)) => match op with
    | .add => bif decide (k = k') then .val (.i (.v (.int k (k.wrap (a + b))))) else .bad
    | .sub => bif decide (k = k') then .val (.i (.v (.int k (k.wrap (a - b))))) else .bad
    | .mul => bif decide (k = k') then .val (.i (.v (.int k (k.wrap (a * b))))) else .bad
    | .quo => bif decide (k = k') then .need (b ≠ 0) (.val (.i (.v (.int k (k.wrap (a.tdiv b)))))) else .bad
    | .rem => bif decide (k = k') then .need (b ≠ 0) (.val (.i (.v (.int k (a.tmod b))))) else .bad
    | .and => bif decide (k = k') then .val (.i (.v (.int k (bits .and k a b)))) else .bad
    | .or => bif decide (k = k') then .val (.i (.v (.int k (bits .or k a b)))) else .bad
    | .xor => bif decide (k = k') then .val (.i (.v (.int k (bits .xor k a b)))) else .bad
    | .andNot => bif decide (k = k') then .val (.i (.v (.int k (bits .andNot k a b)))) else .bad
    | .eql => bif decide (k = k') then .val (.i (.v (.bool (a == b)))) else .bad
    | .neq => bif decide (k = k') then .val (.i (.v (.bool (a != b)))) else .bad
    | .lss => bif decide (k = k') then .val (.i (.v (.bool (a < b)))) else .bad
    | .leq => bif decide (k = k') then .val (.i (.v (.bool (a ≤ b)))) else .bad
    | .gtr => bif decide (k = k') then .val (.i (.v (.bool (a > b)))) else .bad
    | .geq => bif decide (k = k') then .val (.i (.v (.bool (a ≥ b)))) else .bad
    | .shl => .need (0 ≤ b ∧ b ≤ k.bits) (.val (.i (.v (.int k (k.wrap (a * 2 ^ b.toNat))))))
    | .shr => .need (0 ≤ b ∧ b ≤ k.bits) (.val (.i (.v (.int k (a / 2 ^ b.toNat)))))
  | .i (.v (.string a)), .i (.v (.string b)) => match op with
    | .add => .need (a.size + b.size ≤ 9223372036854775807) (.val (.i (.v (.string (a ++ b)))))
    | .eql => .val (.i (.v (.bool (a.toList == b.toList))))
    | .neq => .val (.i (.v (.bool (!(a.toList == b.toList)))))
    | _ => .bad
  | .i (.v (.bool a)), .i (.v (.bool b)) => match look T t with
    | some { k := .bool, .. } => match op with
      | .eql => .val (.i (.v (.bool (a == b))))
      | .neq => .val (.i (.v (.bool (!(a == b)))))
      | _ => .bad
    | _ => .bad
  | x, y => match look T t with
    | some { k := .ptr _, .. } => match y with
      | .i (.v (.pointer none)) => match op, x with
        | .eql, .i (.v (.pointer none)) => .val (.i (.v (.bool true)))
        | .neq, .i (.v (.pointer none)) => .val (.i (.v (.bool false)))
        | .eql, .i (.ptr _ _ _ _) => .val (.i (.v (.bool false)))
        | .neq, .i (.ptr _ _ _ _) => .val (.i (.v (.bool true)))
        | .eql, .own _ _ _ _ => .val (.i (.v (.bool false)))
        | .neq, .own _ _ _ _ => .val (.i (.v (.bool true)))
        | _, _ => .bad
      | _ => .bad
    | some { k := .slice _, .. } => match y with
      | .i (.v (.slice none 0 0)) => match op, x with
        | .eql, .i (.sl _ n _) => .anyb fun b => b = true → n = 0
        | _, _ => .bad
      | _ => .bad
    | _ => .bad

def exUn (op : UnOp) (x : D) : Ask := match op, x with
  | .not, .i (.v (.bool b)) => .val (.i (.v (.bool (!b))))
  | .not, .bt => .val .bf
  | .not, .bf => .val .bt
  | .neg, .i (.v (.int k n)) => .val (.i (.v (.int k (k.wrap (0 - n)))))
  | _, _ => .bad

/-- Bytes of a slice, and the text of them. -/
def u8s : List (List I) → Option (List Int)
  | [] => some []
  | [.v (.int .u8 n)] :: r => (match u8s r with
    | some l => some (n :: l)
    | none => none)
  | _ => none
def bytesOf (l : List Int) : ByteArray := l.foldl (fun r n => r.push (UInt8.ofNat n.toNat)) ByteArray.empty
def exConv (src dst : Nat) (x : D) : Ask := match x, look T src, look T dst with
  | .i (.v (.int _ n)), some _, some { k := .int k, .. } => .val (.i (.v (.int k (k.wrap n))))
  | .i (.sl es _ xs), some { k := .slice e, .. }, some { k := .str, .. } => (match look T e with
    | some { k := .int .u8, .. } => bif Nat.beq es 1 then (match u8s xs with
      | some l => .val (.i (.v (.string (bytesOf l))))
      | none => .bad) else .bad
    | _ => .bad)
  | _, _, _ => .bad

def exPick (c a b : D) : Ask := match c with
  | .bt => force a .val
  | .bf => force b .val
  | .i (.v (.bool c)) => match a.toB, b.toB with
    | some x, some y => .val (.i (.v (.bool (bif c then x else y))))
    | _, _ => .bad
  | _ => .bad

def exLen (t : Nat) (x : D) : Ask := match x, look T t with
  | .i (.sl _ n _), some { k := .slice _, .. } => .val (.i (.v (.int .i64 n)))
  | .xsl _ n _, some { k := .slice _, .. } => .val (.i (.v (.int .i64 n)))
  | .i (.v (.slice none 0 0)), some { k := .slice _, .. } => .val (.i (.v (.int .i64 0)))
  | .osl dep nm, some { k := .slice _, .. } => objOf s dep nm fun
    | .arr _ _ n _ _ => .val (.i (.v (.int .i64 n)))
    | _ => .bad
  | .i (.v (.string b)), some { k := .str, .. } => .val (.i (.v (.int .i64 b.size)))
  | _, _ => .bad

/-- A slice's content: data, or an object that nobody writes any more. -/
def contOf (x : D) (k : Nat → Nat → List (List I) → Ask) : Ask := match x with
  | .i (.sl es n xs) => k es n xs
  | .xsl es n xs => k es n xs
  | .osl dep nm => objOf s dep nm fun
    | .arr _ es n xs false => k es n xs
    | _ => .bad
  | _ => .bad

def exSlice (t : Nat) (x : D) (lo hi mx : Option D) : Ask := match look T t with
  | some { k := .slice e, .. } => sizeT T e fun z => contOf s x fun es n xs => bif !Nat.beq es z then .bad else match lo, hi, mx with
    | none, none, none => .val (.i (.sl es n xs))
    | some (.i (.v (.int _ a))), none, none => .need (0 ≤ a ∧ a ≤ n) (.val (.i (.sl es (n - a.toNat) (xs.drop a.toNat))))
    | none, some (.i (.v (.int _ b))), none => .need (0 ≤ b ∧ b ≤ n) (.val (.i (.sl es b.toNat (xs.take b.toNat))))
    | some (.i (.v (.int _ a))), some (.i (.v (.int _ b))), none => .need (0 ≤ a ∧ a ≤ b ∧ b ≤ n) (.val (.i (.sl es (b.toNat - a.toNat) ((xs.take b.toNat).drop a.toNat))))
    | none, some (.i (.v (.int _ b))), some (.i (.v (.int _ c))) => .need (0 ≤ b ∧ b = c ∧ b ≤ n) (.val (.xsl es b.toNat (xs.take b.toNat)))
    | _, _, _ => .bad
  | some { k := .str, .. } => match x with
    | .i (.v (.string b)) => match lo, hi, mx with
      | some (.i (.v (.int _ l))), none, none => .need (0 ≤ l ∧ l ≤ b.size) (.val (.i (.v (.string (b.extract l.toNat b.size)))))
      | none, some (.i (.v (.int _ h))), none => .need (0 ≤ h ∧ h ≤ b.size) (.val (.i (.v (.string (b.extract 0 h.toNat)))))
      | _, _, _ => .bad
    | _ => .bad
  | _ => .bad

def exIndex (t : Nat) (x ix : D) : Ask := match look T t, x, ix with
  | some { k := .str, .. }, .i (.v (.string b)), .i (.v (.int _ k)) => .need (0 ≤ k ∧ k < b.size) (.val (.i (.v (.int .u8 (b.data.toList.getD k.toNat 0).toNat))))
  | _, _, _ => .bad

def exField (t : Nat) (x : D) (f : Nat) : Ask := match look T t with
  | some { k := .struct fs, .. } => match fs[f]?, x with
    | some (o, z, true), .agg cs => bif Nat.ble (o + z) cs.length then forceL ((cs.drop o).take z) fun l => .val (.agg l) else .bad
    | some (o, _, false), .agg cs => match cs.drop o with
      | d :: _ => force d .val
      | [] => .bad
    | _, _ => .bad
  | _ => .bad

/-- Parts laid into cells. -/
def fillD (fs : Nat → Option (Nat × Nat)) (cs : List D) : List (Nat × D) → Option (List D)
  | [] => some cs
  | (i, d) :: r => match fs i with
    | none => none
    | some (o, z) => bif Nat.beq d.cells.length z && Nat.ble (o + z) cs.length && D.ones d.cells then fillD fs (cs.take o ++ d.cells ++ cs.drop (o + z)) r else none

def exBuild (t : Nat) (parts : List (Nat × D)) : Ask := match look T t with
  | some i => match i.k with
    | .struct fs => match fillD (fun j => (fs[j]?).map fun p => (p.1, p.2.1)) (i.zero.map fun v => .i (.v v)) parts with
      | some cs => forceL cs fun l => .val (.agg l)
      | none => .bad
    | .arr _ e => sizeT T e fun z => match fillD (fun j => some (j * z, z)) (i.zero.map fun v => .i (.v v)) parts with
      | some cs => forceL cs fun l => .val (.agg l)
      | none => .bad
    | _ => .bad
  | none => .bad

/-- Cells, cut into the elements of a slice. -/
def chunk (z : Nat) : Nat → List I → List (List I)
  | 0, _ => []
  | n + 1, l => l.take z :: chunk z n (l.drop z)

def repl {α : Type} : Nat → List α → List α
  | 0, _ => []
  | n + 1, l => l ++ repl n l

def exBuildSlice (dst t len : Nat) (parts : List (Nat × D)) : Ask := match look T t with
  | some { k := .slice e, .. } => match look T e with
    | some i => match len with
      | 0 => match parts with
        | [] => .new [(dst, .arr e i.size 0 [] true)] (.osl 0 dst)
        | _ => .bad
      | len + 1 => match fillD (fun j => some (j * i.size, i.size)) (repl (len + 1) (i.zero.map fun v => .i (.v v))) parts with
        | some cs => match D.toIs cs with
          | some l => bif Nat.ble ((len + 1) * i.size) 16777216 then .alt (.new [(dst, .arr e i.size (len + 1) (chunk i.size (len + 1) l) true)] (.osl 0 dst)) (.new [] (.i (.sl i.size (len + 1) (chunk i.size (len + 1) l)))) else .bad
          | none => .bad
        | none => .bad
    | none => .bad
  | _ => .bad


def setAt : List Heap → Nat → Nat → Ob → List Heap
  | H :: O, 0, nm, ob => ((nm, ob) :: H) :: O
  | H :: O, d + 1, nm, ob => H :: setAt O d nm ob
  | [], _, _, _ => []

/-- Cells laid into cells. -/
def splice (cs : List D) (off : Nat) (l : List D) : List D := cs.take off ++ l ++ cs.drop (off + l.length)
def spliceI (cs : List I) (off : Nat) (l : List I) : List I := cs.take off ++ l ++ cs.drop (off + l.length)

def exStore (t : Nat) (p v : D) : Ask := match look T t with
  | none => .bad
  | some i => bif !(Nat.beq v.cells.length i.size && D.ones v.cells) then .bad else match p with
    | .own dep nm x off => objOf s dep nm fun
      | .box cs => bif Nat.ble (off + i.size) cs.length then (match dep with
          | 0 => forceL (splice cs off v.cells) fun cs' => .mod { s with S := setAt s.S 0 nm (.box cs') }
          | dep + 1 => match D.toIs v.cells with
            | some l => forceL (splice cs off (l.map .i)) fun cs' => .mod { s with S := setAt s.S (dep + 1) nm (.box cs') }
            | none => .bad) else .bad
      | .arr ty es n xs true => match D.toIs v.cells with
        | some l => bif Nat.beq off 0 && Nat.beq i.size es then .mod { s with S := setAt s.S dep nm (.arr ty es n (xs.set x l) true) }
          else .elem xs x fun d => bif Nat.ble (off + i.size) d.length then .mod { s with S := setAt s.S dep nm (.arr ty es n (xs.set x (spliceI d off l)) true) } else .bad
        | none => .bad
      | _ => .bad
    | _ => .bad

/-- What a slice holds now. -/
def nowOf (x : D) (z : Nat) (k : Nat → List (List I) → Ask) : Ask := match x with
  | .i (.sl es n xs) => bif Nat.beq es z then k n xs else .bad
  | .xsl es n xs => bif Nat.beq es z then k n xs else .bad
  | .i (.v (.slice none 0 0)) => k 0 []
  | .osl dep nm => objOf s dep nm fun
    | .arr _ es n xs _ => bif Nat.beq es z then k n xs else .bad
    | _ => .bad
  | _ => .bad

def exAppend (dst t : Nat) (x y : D) : Ask := match look T t with
  | some { k := .slice e, .. } => match look T e with
    | some i => nowOf s y i.size fun m ys => match x with
      | .osl 0 nm => (match objAt s.S 0 nm with
        | some (.arr ty es n xs true) => bif Nat.beq ty e && Nat.beq es i.size then .need ((n + m) * i.bytes ≤ 140737488355328 ∧ n + m ≤ 9223372036854775807)
            (match s.S with
            | H :: O => (match look (killH nm H) dst with
              | none => bif Nat.ble s.n dst then .bad else .mod { σ := (dst, .osl 0 dst) :: killσ nm s.σ, S := ((dst, .arr e i.size (n + m) (xs ++ ys) true) :: killH nm H) :: O, n := s.n }
              | some _ => .bad)
            | [] => .bad) else .bad
        | _ => .bad)
      | .i (.v (.slice none 0 0)) => .need (m * i.bytes ≤ 140737488355328 ∧ m ≤ 9223372036854775807) (.new [(dst, .arr e i.size m ys true)] (.osl 0 dst))
      | .xsl es n xs => bif Nat.beq es i.size then .need ((n + m) * i.bytes ≤ 140737488355328 ∧ n + m ≤ 9223372036854775807 ∧ 0 < m) (.new [(dst, .arr e i.size (n + m) (xs ++ ys) true)] (.osl 0 dst)) else .bad
      | _ => .bad
    | none => .bad
  | _ => .bad

def exMin (k : IntKind) (a : Int) : List D → Ask
  | [] => .val (.i (.v (.int k a)))
  | .i (.v (.int _ b)) :: r => exMin k (if b < a then b else a) r
  | _ => .bad
def exMax (k : IntKind) (a : Int) : List D → Ask
  | [] => .val (.i (.v (.int k a)))
  | .i (.v (.int _ b)) :: r => exMax k (if b > a then b else a) r
  | _ => .bad

def exMakeSlice (dst t : Nat) (l c : D) : Ask := match look T t, l, c with
  | some { k := .slice e, .. }, .i (.v (.int .i64 a)), .i (.v (.int .i64 b)) => match look T e with
    | some i => .need (0 ≤ a ∧ a ≤ b ∧ b * i.bytes ≤ 140737488355328 ∧ b ≤ 140737488355328)
        (.new [(dst, .arr e i.size a.toNat (List.replicate a.toNat (i.zero.map .v)) true)] (.osl 0 dst))
    | none => .bad
  | _, _, _ => .bad

def exNil (x : D) : Ask := match x with
  | .own a b c d => .val (.own a b c d)
  | .i (.ptr a b c d) => .val (.i (.ptr a b c d))
  | .fn (.func f) a b => .val (.fn (.func f) a b)
  | _ => .bad

def exMakeMap (dst t : Nat) (r : Option D) : Ask := match look T t with
  | some { k := .map kt vt, .. } => match look T kt, look T vt, r with
    | some ki, some vi, none => (match ki.k.kk, vi.k.mc with
      | some kk, some m => .new [(dst, .mp kk m)] (.osl 0 dst)
      | _, _ => .bad)
    | some ki, some vi, some (.i (.v (.int _ _))) => (match ki.k.kk, vi.k.mc with
      | some kk, some m => .new [(dst, .mp kk m)] (.osl 0 dst)
      | _, _ => .bad)
    | _, _, _ => .bad
  | _ => .bad
def exLookup (t : Nat) (x ix : D) (ok : Bool) : Ask := match look T t with
  | some { k := .map kt vt, .. } => match look T kt, look T vt with
    | some ki, some vi => match x, ix with
      | .osl dep nm, .i (.v key) => objOf s dep nm fun
        | .mp kk (.b es) => bif ki.k.isKK kk && kk.ok key && isFalse' vi.zero && !vi.k.agg then (match ok with
            | true => .val (.tup [.i (.v (.bool (mgetB es key))), .i (.v (.bool (mhas es key)))])
            | false => .val (.i (.v (.bool (mgetB es key))))) else .bad
        | .mp kk (.i k es) => bif ki.k.isKK kk && kk.ok key && isZero' k vi.zero && !vi.k.agg then (match ok with
            | true => .val (.tup [.i (.v (.int k (mgetI es key))), .i (.v (.bool (mhas es key)))])
            | false => .val (.i (.v (.int k (mgetI es key))))) else .bad
        | _ => .bad
      | _, _ => .bad
    | _, _ => .bad
  | _ => .bad
def exMapSet (t : Nat) (x ix v : D) : Ask := match look T t with
  | some { k := .map kt _, .. } => match look T kt with
    | some ki => match x, ix with
      | .osl dep nm, .i (.v key) => objOf s dep nm fun
        | .mp kk (.b es) => bif ki.k.isKK kk && kk.ok key then (match v.toB with
            | some b => .mod { s with S := setAt s.S dep nm (.mp kk (.b (mset es key b))) }
            | none => .bad) else .bad
        | .mp kk (.i k es) => bif ki.k.isKK kk && kk.ok key then (match v with
            | .i (.v (.int k' n)) => bif decide (k = k') then .mod { s with S := setAt s.S dep nm (.mp kk (.i k (mset es key n))) } else .bad
            | _ => .bad) else .bad
        | _ => .bad
      | _, _ => .bad
    | none => .bad
  | _ => .bad

/-- Is the result of an operation kept in a variable, or appended to, within the region? -/
def ownL : List Oper → Nat → Bool
  | [], _ => false
  | p :: r, t => match p.op with
    | .assign (.tmp x) => bif Nat.beq x t then true else ownL r t
    | .move (.tmp x) => bif Nat.beq x t then true else ownL r t
    | .call { callee := .builtin .append, args := args, .. } => match args.toList with
      | .tmp x :: _ => bif Nat.beq x t then true else ownL r t
      | _ => ownL r t
    | _ => ownL r t
def ownB (ops : Array Oper) (o : Oper) : Bool := match o.dst with
  | some t => ownL ops.toList t
  | none => true
def exec (o : Oper) : Ask := match o.op with
  | .makeMap t r => match o.dst with
    | some dst => exMakeMap T dst t (r.map (evD s))
    | none => .bad
  | .lookup t x ix ok => exLookup T s t (evD s x) (evD s ix) ok
  | .mapUpdate t m k v | .insert t m k v => match o.dst with
    | none => exMapSet T s t (evD s m) (evD s k) (evD s v)
    | some _ => .bad
  | .move x | .assign x => force (evD s x) .val
  | .pick c a b => exPick (evD s c) (evD s a) (evD s b)
  | .alloc t => match o.dst with
    | some dst => zeroOf T t fun cs => .new [(dst, .box cs)] (.own 0 dst 0 0)
    | none => .bad
  | .box t x => match o.dst with
    | some dst => cellsOf T t (evD s x) fun cs => .new [(dst, .box cs)] (.own 0 dst 0 0)
    | none => .bad
  | .build t parts => exBuild T t (parts.toList.map fun p => (p.1, evD s p.2))
  | .buildSlice t len parts => match o.dst with
    | some dst => exBuildSlice T dst t len (parts.toList.map fun p => (p.1, evD s p.2))
    | none => .bad
  | .load t a => exLoad T s t (evD s a)
  | .store t a v => match o.dst with
    | none => exStore T s t (evD s a) (evD s v)
    | some _ => .bad
  | .nilCheck x => exNil (evD s x)
  | .binOp op t x y _ => exBin T op t (evD s x) (evD s y)
  | .unOp op _ x => exUn op (evD s x)
  | .convert src dst x => exConv T src dst (evD s x)
  | .makeFunc fn first cap => forceL (first.toList.map (evD s)) fun a => forceL (cap.toList.map (evD s)) fun b => .val (.fn fn a b)
  | .makeSlice t l c => match o.dst with
    | some dst => exMakeSlice T dst t (evD s l) (evD s c)
    | none => .bad
  | .slice t x lo hi mx => exSlice T s t (evD s x) (lo.map (evD s)) (hi.map (evD s)) (mx.map (evD s))
  | .fieldAddr t x f => exFieldAddr T t (evD s x) f
  | .field t x f => exField T t (evD s x) f
  | .indexAddr t x ix => exIndexAddr T s t (evD s x) (evD s ix)
  | .index t x ix => exIndex T t (evD s x) (evD s ix)
  | .extract t ix => match evD s t with
    | .tup l => match l[ix]? with
      | some d => force d .val
      | none => .bad
    | _ => .bad
  | .call c => match c.callee with
    | .builtin .len => match c.args.toList, c.argTypes.toList with
      | [x], [t] => exLen T s t (evD s x)
      | _, _ => .bad
    | .builtin .append => match c.args.toList, c.argTypes.toList, o.dst with
      | [x, y], [t, t'], some dst => bif Nat.beq t t' then exAppend T s dst t (evD s x) (evD s y) else .bad
      | _, _, _ => .bad
    | .builtin .min => match c.args.toList.map (evD s) with
      | .i (.v (.int k a)) :: r => exMin k a r
      | _ => .bad
    | .builtin .max => match c.args.toList.map (evD s) with
      | .i (.v (.int k a)) :: r => exMax k a r
      | _ => .bad
    | .value f => match evD s f with
      | .fn (.func k) first cap => forceL (first ++ c.args.toList.map (evD s) ++ cap) (.call k)
      | _ => .bad
    | _ => .bad
  | _ => .bad

end
end Go.AI

/- Each operation does what the abstract one says. -/
namespace Go.AI

def TKok (P : Program) (t : Nat) : TK → Prop
  | .sc => ∃ d, P.underlying t = some d ∧ (∀ x, d ≠ .struct x) ∧ ∀ x y, d ≠ .array x y
  | .str => P.underlying t = some .string
  | .bool => P.underlying t = some .bool
  | .int k => P.underlying t = some (.int k)
  | .slice e => P.underlying t = some (.slice e)
  | .ptr e => P.underlying t = some (.pointer e)
  | .map k e => P.underlying t = some (.map k e)
  | .arr n e => P.underlying t = some (.array n e)
  | .struct fs => ∃ fields : Array Field, P.underlying t = some (.struct fields) ∧
      (∀ w, (fields.mapM fun f => do pure (f.offset, ← Go.sizeOf f.type) : Sem (Array (Nat × Nat))).run P w = .ok (fs.map fun f => (f.1, f.2.1)).toArray w) ∧ ∀ (j : Nat) (f : Nat × Nat × Bool), fs[j]? = some f →
      ∃ (fl : Field) (inf : TypeInfo), fields[j]? = some fl ∧ fl.offset = f.1 ∧ P.info? fl.type = some inf ∧ inf.size = f.2.1 ∧ f.2.1 ≠ 0 ∧
        ∀ w, (isAgg fl.type).run P w = .ok f.2.2 w
structure TIok (P : Program) (t : Nat) (i : TI) : Prop where
  info : ∃ inf, P.info? t = some inf ∧ inf.size = i.size ∧ inf.bytes = i.bytes ∧ ∃ z, inf.zero = some z ∧ z.cells.toList = i.zero ∧ (i.k.agg = false → i.zero = [z])
  kind : TKok P t i.k
  one : ∀ x ∈ i.zero, x.oneCell' = true
  len : i.zero.length = i.size
  pos : i.size ≠ 0
def TOk (P : Program) (T : TT) : Prop := ∀ t i, look T t = some i → TIok P t i

section
variable {P : Program} {T : TT} {E : Env} {K : Kn} {ρ : Nat → Nat → Loc} {S : List Heap} {w : World}

theorem run_isAgg {t : Nat} {i : TI} (h : TIok P t i) (w : World) : (isAgg t).run P w = .ok i.k.agg w := by
  have hk := h.kind
  cases hi : i.k <;> rw [hi] at hk <;> simp only [TKok] at hk
  case sc =>
    obtain ⟨d, hd, h1, h2⟩ := hk
    simp only [isAgg, Sem.run_bind, run_underlying hd, Result.andThen_ok, TK.agg]
    cases d <;> first | rfl | exact absurd rfl (h1 _) | exact absurd rfl (h2 _ _)
  case struct fs =>
    obtain ⟨fl, hd, _⟩ := hk
    simp [isAgg, Sem.run_bind, run_underlying hd, Result.andThen_ok, TK.agg]
  all_goals simp [isAgg, Sem.run_bind, run_underlying hk, Result.andThen_ok, TK.agg]
theorem run_sizeOf {t : Nat} {i : TI} (h : TIok P t i) (w : World) : (Go.sizeOf t).run P w = .ok i.size w := by
  obtain ⟨inf, h1, h2, _⟩ := h.info
  simp [Go.sizeOf, typeInfo, h1, h2]

/-- What an answer promises of a computation that gives a value. -/
def SndV (P : Program) (dst : Nat) (K : Kn) (ρ : Nat → Nat → Loc) (S : List Heap) (w : World) (m : Sem Value) : Ask → Prop
  | .val d => ∃ v, m.run P w = .ok v w ∧ RepD K ρ (shape S) v d
  | .new adds d => (∀ nm, look adds nm ≠ none → objAt S 0 nm = none) → ∃ v K' ρ' w', m.run P w = .ok v w' ∧ Grow K ρ S w adds K' ρ' w' ∧ RepD K' ρ' (shape (addS S adds)) v d
  | .need p a => p → SndV P dst K ρ S w m a
  | .elem xs i k => ∀ d, xs[i]? = some d → SndV P dst K ρ S w m (k d)
  | .obj dep nm k => ∀ ob, objAt S dep nm = some ob → SndV P dst K ρ S w m (k ob)
  | .anyb p => ∃ b, m.run P w = .ok (.bool b) w ∧ p b
  | .alt a b => SndV P dst K ρ S w m a ∧ SndV P dst K ρ S w m b
  | .call _ _ => False
  | _ => True

variable {dst : Nat} {m : Sem Value}
theorem sndV_force {d : D} {k : D → Ask} (h : SndV P dst K ρ S w m (k d)) : SndV P dst K ρ S w m (force d k) := by rw [force_eq]; exact h
theorem sndV_forceL {d : List D} {k : List D → Ask} (h : SndV P dst K ρ S w m (k d)) : SndV P dst K ρ S w m (forceL d k) := by rw [forceL_eq]; exact h

theorem inv_v {sh : Nat → Nat → Option Sh} {v x : Value} (h : RepD K ρ sh v (.i (.v x))) : v = x := by
  cases h with
  | i r => cases r with
    | v e => rfl
theorem rep_v {sh : Nat → Nat → Option Sh} {x : Value} (h : x.oneCell' = true) : RepD K ρ sh x (.i (.v x)) := .i (.v h)

/-- The cells that an element of known memory has. -/
theorem mem_elem {b o es i : Nat} {cs : List Value} {xs : List (List I)} (hr : RepL K cs xs.flatten) (he : ∀ d ∈ xs, d.length = es) (hk : ∀ j c, cs[j]? = some c → K b (o + j) = some c)
    {d : List I} (hd : xs[i]? = some d) : ∃ c, RepL K c d ∧ c.length = es ∧ ∀ j x, c[j]? = some x → K b (o + i * es + j) = some x := by
  have hdl : d.length = es := he d (List.mem_of_getElem? hd)
  have hfl : ∀ (xs : List (List I)) (i : Nat), (∀ d ∈ xs, d.length = es) → xs[i]? = some d → (xs.flatten.drop (i * es)).take es = d := by
    intro xs
    induction xs with
    | nil => intro i _ h; simp at h
    | cons x xs ih =>
      intro i hl h
      have hx : x.length = es := hl x (by simp)
      cases i with
      | zero =>
        simp at h
        subst h
        simp [← hx]
      | succ i =>
        simp at h
        have := ih i (fun d hd => hl d (by simp [hd])) h
        rw [List.flatten_cons, show (i + 1) * es = x.length + i * es by rw [Nat.add_mul, hx]; omega, List.drop_length_add_append]
        exact this
  refine ⟨(cs.drop (i * es)).take es, ?_, ?_, ?_⟩
  · have := (hr.drop (i * es)).take es
    rwa [hfl xs i he hd] at this
  · have h1 := ((hr.drop (i * es)).take es).length
    rw [h1, hfl xs i he hd, hdl]
  · intro j x hx
    rw [List.getElem?_take] at hx
    split at hx
    · rw [List.getElem?_drop] at hx
      have := hk _ _ hx
      rwa [show o + i * es + j = o + (i * es + j) by omega]
    · cases hx

theorem snd_ofCells {t : Nat} {i : TI} (hi : TIok P t i) (hw : HInv E K ρ S w) {b o off : Nat} {cs : List Value} {ds : List D} (hr : RepDL K ρ (shape S) cs ds)
    (hc : ∀ j c, cs[j]? = some c → w.cell? ⟨b, o + j, none⟩ = some c) :
    SndV P dst K ρ S w (loadVar t ⟨b, o + off, none⟩) (ofCells i off ds .val) := by
  unfold ofCells
  have hlen := hr.length
  cases hag : i.k.agg with
  | true =>
    simp only [cond_true]
    cases hb : Nat.ble (off + i.size) ds.length with
    | false => trivial
    | true =>
      have hle : off + i.size ≤ ds.length := Nat.le_of_ble_eq_true hb
      refine sndV_forceL ?_
      have hcs : ((cs.drop off).take i.size).length = i.size := by simp; omega
      refine ⟨.agg ((cs.drop off).take i.size).toArray, ?_, .agg ((hr.drop off).take i.size)⟩
      have hl := run_loadCells_list (P := P) w ⟨b, o + off, none⟩ ((cs.drop off).take i.size) (by
        intro j v hv
        rw [List.getElem?_take] at hv
        split at hv
        · rw [List.getElem?_drop] at hv
          have := hc _ _ hv
          have e : (⟨b, o + off, none⟩ : Addr).add j = ⟨b, o + (off + j), none⟩ := by simp only [Addr.add]; split <;> simp_all; omega
          rw [e]; exact this
        · cases hv)
      rw [hcs] at hl
      simp [loadVar, run_isAgg hi, hag, run_sizeOf hi, hl]
  | false =>
    simp only [cond_false]
    cases hd : ds.drop off with
    | nil => trivial
    | cons d r =>
      refine sndV_force ?_
      have hd0 : ds[off]? = some d := by
        have := congrArg (fun l => l[0]?) hd
        simpa using this
      obtain ⟨y, hy, hrep⟩ := hr.get hd0
      refine ⟨y, ?_, hrep⟩
      simp [loadVar, run_isAgg hi, hag, hc _ _ hy]

theorem hobj {dep nm : Nat} {k : Ob → Ask} {s : St} (hS : s.S = S) (h : ∀ ob, objAt S dep nm = some ob → SndV P dst K ρ S w m (k ob)) : SndV P dst K ρ S w m (objOf s dep nm k) := by
  unfold objOf
  cases dep with
  | zero =>
    simp only [hS]
    cases ho : objAt S 0 nm with
    | none => trivial
    | some ob => exact h ob ho
  | succ d => exact h

mutual
theorem RepD.shift {sh : Nat → Nat → Option Sh} (k : Nat) : ∀ {v : Value} {d : D}, RepD K (fun d n => ρ (k + d) n) (fun d n => sh (k + d) n) v d → RepD K ρ sh v (d.shift k)
  | _, _, .dead x => .dead x
  | _, _, .i r => .i r
  | _, _, .agg r => .agg (RepDL.shift k r)
  | _, _, .tup r => .tup (RepDL.shift k r)
  | _, _, .box (dep := dep) e => by
    rw [D.shift, Nat.add_comm dep k]; exact RepD.box e
  | _, _, .arr (dep := dep) e l => by
    rw [D.shift, Nat.add_comm dep k]; exact RepD.arr e l
  | _, _, .osl (dep := dep) e => by
    rw [D.shift, Nat.add_comm dep k]; exact RepD.osl e
  | _, _, .omp (dep := dep) e => by
    rw [D.shift, Nat.add_comm dep k]; exact RepD.omp e
  | _, _, .xsl r e h l => .xsl r e h l
  | _, _, .xnil => .xnil
  | _, _, .bt => .bt
  | _, _, .bf => .bf
  | _, _, .fn r s => .fn (RepDL.shift k r) (RepDL.shift k s)
theorem RepDL.shift {sh : Nat → Nat → Option Sh} (k : Nat) : ∀ {v : List Value} {d : List D}, RepDL K (fun d n => ρ (k + d) n) (fun d n => sh (k + d) n) v d → RepDL K ρ sh v (D.shifts k d)
  | _, _, .nil => .nil
  | _, _, .cons r rs => .cons (RepD.shift k r) (RepDL.shift k rs)
end
end
end Go.AI

/- Each operation does what the abstract one says (2): loads, addresses, arithmetic. -/
namespace Go.AI
theorem flat_elem : ∀ {es : Nat} (xs : List (List I)) (i : Nat) {d : List I}, (∀ d ∈ xs, d.length = es) → xs[i]? = some d → (xs.flatten.drop (i * es)).take es = d
  | es, [], i, d, _, h => by simp at h
  | es, x :: xs, 0, d, hl, h => by
    have hx : x.length = es := hl x (by simp)
    simp at h
    subst h
    simp [← hx]
  | es, x :: xs, i + 1, d, hl, h => by
    have hx : x.length = es := hl x (by simp)
    simp at h
    have := flat_elem xs i (fun d hd => hl d (by simp [hd])) h
    rw [List.flatten_cons, show (i + 1) * es = x.length + i * es by rw [Nat.add_mul, hx]; omega, List.drop_length_add_append]
    exact this
theorem flat_len : ∀ {es : Nat} (xs : List (List I)), (∀ d ∈ xs, d.length = es) → xs.flatten.length = xs.length * es
  | es, [], _ => by simp
  | es, x :: xs, h => by
    have hx : x.length = es := h x (by simp)
    rw [List.flatten_cons, List.length_append, flat_len xs (fun d hd => h d (by simp [hd])), hx, List.length_cons, Nat.add_mul]
    omega

section
variable {P : Program} {T : TT} {E : Env} {K : Kn} {ρ : Nat → Nat → Loc} {s : St} {w : World} {dst : Nat}

theorem own_at (hw : HInv E K ρ s.S w) {dep nm : Nat} {ob : Ob} (h : objAt s.S dep nm = some ob) :
    OwnAt K (fun d n => ρ (dep + d) n) (fun d n => shape s.S (dep + d) n) w (ρ dep nm) ob := by
  have := hw.own _ _ _ h
  have e : shape (s.S.drop dep) = fun d n => shape s.S (dep + d) n := by funext d n; exact shape_drop _ _ _ _
  rwa [e] at this
theorem shape_of (dep nm : Nat) {ob : Ob} (h : objAt s.S dep nm = some ob) : shape s.S dep nm = some ob.sh := by simp [shape, h]

theorem cell_of_heap {w : World} {b : Nat} {c : Array Value} {T : TypeId} {f : Nat × Nat} (h : w.heap[b]? = some (.cells c T f)) (o : Nat) : w.cell? ⟨b, o, none⟩ = c[o]? := by
  simp [World.cell?, h]

/-- The elements that an object's block shows. -/
theorem arr_cells {l : Loc} {ty es n : Nat} {xs : List (List I)} {wr : Bool} {sh : Nat → Nat → Option Sh} {ρ : Nat → Nat → Loc} (h : OwnAt K ρ sh w l (.arr ty es n xs wr)) {i : Nat} {d : List I} (hd : xs[i]? = some d) :
    ∃ c, RepL K c d ∧ c.length = es ∧ ∀ j x, c[j]? = some x → w.cell? ⟨l.block, i * es + j, none⟩ = some x := by
  obtain ⟨h1, h2, h2', _, h3⟩ := h
  have hin : i < n := by rw [← h2]; exact (List.getElem?_eq_some_iff.1 hd).1
  rcases h3 with ⟨h3, _⟩ | ⟨_, c, hc, hsz, hr, _⟩
  · omega
  · refine ⟨((c.toList.take (n * es)).drop (i * es)).take es, ?_, ?_, ?_⟩
    · have := (hr.drop (i * es)).take es
      rwa [flat_elem xs i h1 hd] at this
    · have := ((hr.drop (i * es)).take es).length
      rw [this, flat_elem xs i h1 hd, h1 d (List.mem_of_getElem? hd)]
    · intro j x hx
      rw [List.getElem?_take] at hx
      split at hx
      · rw [List.getElem?_drop, List.getElem?_take] at hx
        split at hx
        · rw [cell_of_heap hc]
          simpa using hx
        · cases hx
      · cases hx

theorem snd_load (hT : TOk P T) (hw : HInv E K ρ s.S w) {t : Nat} {vp : Value} {p : D} (hp : RepD K ρ (shape s.S) vp p) :
    SndV P dst K ρ s.S w (Instr.loadAt t vp) (exLoad T s t p) := by
  unfold exLoad
  cases hi : look T t with
  | none => trivial
  | some i =>
    have hok := hT _ _ hi
    cases hp with
    | box e =>
      rename_i dep nm off
      refine hobj rfl fun ob ho => ?_
      have hown := own_at hw ho
      cases ob with
      | mp kk m => simp [shape, ho, Ob.sh] at e
      | box cs =>
        obtain ⟨c, T', hc, hr, _⟩ := hown
        have := snd_ofCells (dst := dst) (b := (ρ dep nm).block) (o := 0) (off := off) hok hw (RepDL.shift (ρ := ρ) (sh := shape s.S) dep hr) (by
          intro j x hx
          rw [Nat.zero_add, cell_of_heap hc]
          simpa using hx)
        simpa [Instr.loadAt, Instr.sureAddr] using this
      | arr ty es n xs wr => simp [shape, ho, Ob.sh] at e
    | arr e l =>
      rename_i dep nm x off es len
      refine hobj rfl fun ob ho => ?_
      have hown := own_at hw ho
      cases ob with
      | mp kk m => simp [shape, ho, Ob.sh] at e
      | box cs => simp [shape, ho, Ob.sh] at e
      | arr ty es' n xs wr =>
        simp only [shape, ho, Ob.sh, Option.map_some, Option.some.injEq, Sh.arr.injEq] at e
        obtain ⟨rfl, rfl⟩ := e
        intro d hd
        obtain ⟨c, hr, hl, hk⟩ := arr_cells hown hd
        have := snd_ofCells (dst := dst) (b := (ρ dep nm).block) (o := x * es') (off := off) hok hw (RepDL.ofL (ρ := ρ) (sh := shape s.S) hr) hk
        simpa [Instr.loadAt, Instr.sureAddr] using this
    | i r =>
      cases r with
      | ptr r e k =>
        rename_i b o es x off cs xs
        intro d hd
        obtain ⟨c, hr, hl, hk'⟩ := mem_elem r e k hd
        have := snd_ofCells (dst := dst) (b := b) (o := o + x * es) (off := off) hok hw (RepDL.ofL (ρ := ρ) (sh := shape s.S) hr) (fun j y hy => hw.holds _ _ _ (hk' j y hy))
        simpa [Instr.loadAt, Instr.sureAddr] using this
      | _ => trivial
    | _ => trivial

theorem run_fieldPlace {b o t : Nat} {fl : Field} {inf : TypeInfo} (h : P.info? fl.type = some inf) (h0 : inf.size ≠ 0) : (fieldPlace ⟨b, o, none⟩ fl).run P w = .ok ⟨b, o + fl.offset, none⟩ w := by
  simp [fieldPlace, Go.sizeOf, typeInfo, h, h0, Addr.add_lit]

theorem snd_fieldAddr (hT : TOk P T) {S : List Heap} {t : Nat} {vp : Value} {p : D} (hp : RepD K ρ (shape S) vp p) (f : Nat) :
    SndV P dst K ρ S w (Instr.fieldAt t vp f) (exFieldAddr T t p f) := by
  unfold exFieldAddr
  split
  · rename_i sz by_ fs z hi
    have hok := (hT _ _ hi).kind
    obtain ⟨fields, hu, hs, hf⟩ := hok
    split
    · rename_i o z' ag hfo
      obtain ⟨fl, inf, h1, h2, h3, h4, h5, h6⟩ := hf _ _ hfo
      simp only at h2 h4 h5
      have h0 : inf.size ≠ 0 := by rw [h4]; exact h5
      have hrun : ∀ b o', (Instr.fieldAt t (.pointer (some ⟨b, o', none⟩)) f).run P w = .ok (.pointer (some ⟨b, o' + fl.offset, none⟩)) w := by
        intro b o'
        simp [Instr.fieldAt, run_underlying hu, h1, Instr.sureAddr, run_fieldPlace (t := t) (w := w) h3 h0]
      cases hp with
      | box e => exact ⟨_, hrun _ _, by rw [h2]; exact .box e⟩
      | arr e l => exact ⟨_, hrun _ _, by rw [h2, Nat.add_assoc]; exact .arr e l⟩
      | i r =>
        cases r with
        | ptr r e k => exact ⟨_, hrun _ _, by rw [h2, Nat.add_assoc]; exact .i (.ptr r e k)⟩
        | _ => trivial
      | _ => trivial
    · trivial
  · trivial

theorem run_indexAt_sl {t e : Nat} {i : TI} (hu : P.underlying t = some (.slice e)) (hi : TIok P e i) {b o n cap : Nat} {k : IntKind} {x : Int} (h : 0 ≤ x ∧ x < n) :
    (Instr.indexAt t (.slice (some ⟨b, o, none⟩) n cap) (.int k x)).run P w = .ok (.pointer (some ⟨b, o + x.toNat * i.size, none⟩)) w := by
  simp [Instr.indexAt, asIntOf, run_underlying hu, h.1, h.2, run_sizeOf hi, Addr.add_lit]

theorem snd_indexAddr (hT : TOk P T) (hw : HInv E K ρ s.S w) {t : Nat} {vx vi : Value} {x ix : D} (hx : RepD K ρ (shape s.S) vx x) (hix : RepD K ρ (shape s.S) vi ix) :
    SndV P dst K ρ s.S w (Instr.indexAt t vx vi) (exIndexAddr T s t x ix) := by
  unfold exIndexAddr
  split
  · rename_i kk k
    obtain rfl := inv_v hix
    split
    · rename_i sz by_ e z hi
      have hu : P.underlying t = some (.slice e) := (hT _ _ hi).kind
      unfold sizeT
      cases he : look T e with
      | none => trivial
      | some ie =>
        have hie := hT _ _ he
        simp only
        split
        · rename_i es n xs
          cases hb : Nat.beq es ie.size with
          | false => trivial
          | true =>
            obtain rfl := Nat.eq_of_beq_eq_true hb
            intro hk
            cases hx with
            | i r =>
              cases r with
              | nil => simp only [Int.natCast_zero] at hk; omega
              | sl r e' k' c l => exact ⟨_, run_indexAt_sl hu hie hk, .i (by simpa using Rep.ptr (off := 0) (i := k.toNat) r e' k')⟩
        · rename_i es n xs
          cases hb : Nat.beq es ie.size with
          | false => trivial
          | true =>
            obtain rfl := Nat.eq_of_beq_eq_true hb
            intro hk
            cases hx with
            | xnil => simp only [Int.natCast_zero] at hk; omega
            | xsl r e' k' l => exact ⟨_, run_indexAt_sl hu hie hk, .i (by simpa using Rep.ptr (off := 0) (i := k.toNat) r e' k')⟩
        · rename_i dep nm
          refine hobj rfl fun ob ho => ?_
          cases ob with
          | mp kk m => trivial
          | box cs => trivial
          | arr ty es n xs wr =>
            simp only
            cases hb : Nat.beq es ie.size with
            | false => trivial
            | true =>
              obtain rfl := Nat.eq_of_beq_eq_true hb
              intro hk
              cases hx with
              | omp e' => simp [shape, ho, Ob.sh] at e'
              | osl e' =>
                have hsh : shape s.S dep nm = some (.arr ie.size n) := by simp [shape, ho, Ob.sh]
                rw [hsh] at e'
                simp only [Option.some.injEq, Sh.arr.injEq] at e'
                obtain ⟨rfl, rfl⟩ := e'
                obtain ⟨_, _, h2', _, h3⟩ := own_at hw ho
                rcases h3 with ⟨h3, _⟩ | ⟨h4, _⟩
                · omega
                · rw [h4]
                  have := run_indexAt_sl (w := w) (b := (ρ dep nm).block) (o := 0) (cap := (ρ dep nm).cap) (k := kk) hu hie hk
                  exact ⟨_, this, by simpa using RepD.arr (K := K) (ρ := ρ) (off := 0) hsh (by omega : k.toNat < n)⟩
        · trivial
    · rename_i sz by_ n e z hi
      have hu : P.underlying t = some (.array n e) := (hT _ _ hi).kind
      unfold sizeT
      cases he : look T e with
      | none => trivial
      | some ie =>
        have hie := hT _ _ he
        have hrun : ∀ b o', (0 ≤ k ∧ k < n) → (Instr.indexAt t (.pointer (some ⟨b, o', none⟩)) (.int kk k)).run P w = .ok (.pointer (some ⟨b, o' + k.toNat * ie.size, none⟩)) w := by
          intro b o' hk
          simp [Instr.indexAt, asIntOf, run_underlying hu, Instr.sureAddr, hk.1, hk.2, run_sizeOf hie, Addr.add_lit]
        simp only
        split
        · intro hk
          cases hx with
          | box e => exact ⟨_, hrun _ _ hk, .box e⟩
          | arr e l => exact ⟨_, hrun _ _ hk, by rw [Nat.add_assoc]; exact .arr e l⟩
        · intro hk
          cases hx with
          | i r =>
            cases r with
            | ptr r e k => exact ⟨_, hrun _ _ hk, by rw [Nat.add_assoc]; exact .i (.ptr r e k)⟩
        · trivial
    · trivial
  · trivial

theorem shift_shr' (k yk : IntKind) (x y : Int) (h : 0 ≤ y ∧ y ≤ k.bits) : Op.shift .shr k x yk y = pure (.int k (x / 2 ^ y.toNat)) := shift_shr k yk x y h.1 h.2
theorem shift_shl' (k yk : IntKind) (x y : Int) (h : 0 ≤ y ∧ y ≤ k.bits) : Op.shift .shl k x yk y = pure (.int k (k.wrap (x * 2 ^ y.toNat))) := shift_shl k yk x y h.1 h.2

theorem eqIn_bool (d : Nat) (t : TypeId) (a b : Bool) (h : P.underlying t = some .bool) : (Op.equalIn (d + 1) t (.bool a) (.bool b)).run P w = .ok (a == b) w := by simp [Op.equalIn, run_underlying h]
theorem equal_bool (t : TypeId) (a b : Bool) (h : P.underlying t = some .bool) : (Op.equal t (.bool a) (.bool b)).run P w = .ok (a == b) w := eqIn_bool 9999 t a b h
theorem req_bool (t : TypeId) (a b : Bool) (h : P.underlying t = some .bool) : (binOp .eql t (.bool a) (.bool b)).run P w = .ok (.bool (a == b)) w := by
  simp only [binOp]
  simp [equal_bool t a b h]
theorem rne_bool (t : TypeId) (a b : Bool) (h : P.underlying t = some .bool) : (binOp .neq t (.bool a) (.bool b)).run P w = .ok (.bool (!(a == b))) w := by
  simp only [binOp]
  simp [equal_bool t a b h]
theorem eqIn_ptr (d : Nat) {t e : TypeId} (p : Option Addr) (h : P.underlying t = some (.pointer e)) : (Op.equalIn (d + 1) t (.pointer p) (.pointer none)).run P w = .ok p.isNone w := by cases p <;> simp [Op.equalIn, run_underlying h]
theorem equal_ptr {t e : TypeId} (p : Option Addr) (h : P.underlying t = some (.pointer e)) : (Op.equal t (.pointer p) (.pointer none)).run P w = .ok p.isNone w := eqIn_ptr 9999 p h
theorem req_ptr {t e : TypeId} (p : Option Addr) (h : P.underlying t = some (.pointer e)) : (binOp .eql t (.pointer p) (.pointer none)).run P w = .ok (.bool p.isNone) w := by
  simp only [binOp]
  simp [equal_ptr p h]
theorem rne_ptr {t e : TypeId} (p : Option Addr) (h : P.underlying t = some (.pointer e)) : (binOp .neq t (.pointer p) (.pointer none)).run P w = .ok (.bool (!p.isNone)) w := by
  simp only [binOp]
  simp [equal_ptr p h]
theorem eqIn_slice (d : Nat) {t e : TypeId} (a : Option Addr) (n c n' c' : Nat) (h : P.underlying t = some (.slice e)) : (Op.equalIn (d + 1) t (.slice a n c) (.slice none n' c')).run P w = .ok a.isNone w := by cases a <;> simp [Op.equalIn, run_underlying h]
theorem equal_slice {t e : TypeId} (a : Option Addr) (n c n' c' : Nat) (h : P.underlying t = some (.slice e)) : (Op.equal t (.slice a n c) (.slice none n' c')).run P w = .ok a.isNone w := eqIn_slice 9999 a n c n' c' h
theorem req_slice {t e : TypeId} (a : Option Addr) (n c n' c' : Nat) (h : P.underlying t = some (.slice e)) : (binOp .eql t (.slice a n c) (.slice none n' c')).run P w = .ok (.bool a.isNone) w := by
  simp only [binOp]
  simp [equal_slice a n c n' c' h]

theorem snd_bin (hT : TOk P T) {S : List Heap} {op : BinOp} {t : Nat} {ox oy : Operand} {vx vy : Value} {x y : D} (hx : RepD K ρ (shape S) vx x) (hy : RepD K ρ (shape S) vy y) :
    SndV P dst K ρ S w (do eqGuard op t ox oy vx vy; binOp op t vx vy) (exBin T op t x y) := by
  unfold exBin
  split
  · rename_i k a k' b
    obtain rfl := inv_v hx
    obtain rfl := inv_v hy
    have hcase : ∀ (ask : Ask), (k = k' → SndV P dst K ρ S w (do eqGuard op t ox oy (.int k a) (.int k' b); binOp op t (.int k a) (.int k' b)) ask) → SndV P dst K ρ S w (do eqGuard op t ox oy (.int k a) (.int k' b); binOp op t (.int k a) (.int k' b)) (bif decide (k = k') then ask else .bad) := by
      intro ask h
      by_cases hk : k = k'
      · rw [decide_eq_true hk]; exact h hk
      · rw [decide_eq_false hk]; trivial
    cases op
    case shl => exact fun h => ⟨_, by simp [go_sem, shift_shl' k k' a b h], rep_v rfl⟩
    case shr => exact fun h => ⟨_, by simp [go_sem, shift_shr' k k' a b h], rep_v rfl⟩
    case quo => exact hcase _ fun hk h => by subst hk; exact ⟨_, by simp [go_sem, Op.intDiv, h], rep_v rfl⟩
    case rem => exact hcase _ fun hk h => by subst hk; exact ⟨_, by simp [go_sem, Op.intDiv, h], rep_v rfl⟩
    all_goals exact hcase _ fun hk => by subst hk; exact ⟨_, by simp [go_sem, Op.intArith]; done, rep_v rfl⟩
  · rename_i a b
    obtain rfl := inv_v hx
    obtain rfl := inv_v hy
    cases op
    case add => exact fun h => ⟨_, by simp [go_sem, binOp, Op.stringOp, show ¬ ((9223372036854775807 : Int) < (a.size : Int) + b.size) by omega], rep_v rfl⟩
    case eql => exact ⟨.bool (a.toList == b.toList), by simp [go_sem, binOp, Op.stringOp], rep_v rfl⟩
    case neq => exact ⟨.bool (!(a.toList == b.toList)), by simp [go_sem, binOp, Op.stringOp], rep_v rfl⟩
    all_goals trivial
  · rename_i a b
    obtain rfl := inv_v hx
    obtain rfl := inv_v hy
    split
    · rename_i sz by_ z hi
      have hu : P.underlying t = some .bool := (hT _ _ hi).kind
      cases op
      case eql => exact ⟨.bool (a == b), by simp [go_sem, req_bool t a b hu], rep_v rfl⟩
      case neq => exact ⟨.bool (!(a == b)), by simp [go_sem, rne_bool t a b hu], rep_v rfl⟩
      all_goals trivial
    · trivial
  · split
    · rename_i sz by_ e z hi
      have hu : P.underlying t = some (.pointer e) := (hT _ _ hi).kind
      split
      · obtain rfl := inv_v hy
        split
        · obtain rfl := inv_v hx
          exact ⟨_, by simp [go_sem, req_ptr _ hu, rne_ptr _ hu], rep_v rfl⟩
        · obtain rfl := inv_v hx
          exact ⟨_, by simp [go_sem, req_ptr _ hu, rne_ptr _ hu], rep_v rfl⟩
        · cases hx with
          | i r => cases r with
            | ptr => exact ⟨_, by simp [go_sem, req_ptr _ hu, rne_ptr _ hu], rep_v rfl⟩
        · cases hx with
          | i r => cases r with
            | ptr => exact ⟨_, by simp [go_sem, req_ptr _ hu, rne_ptr _ hu], rep_v rfl⟩
        · cases hx with
          | box => exact ⟨_, by simp [go_sem, req_ptr _ hu, rne_ptr _ hu], rep_v rfl⟩
          | arr => exact ⟨_, by simp [go_sem, req_ptr _ hu, rne_ptr _ hu], rep_v rfl⟩
        · cases hx with
          | box => exact ⟨_, by simp [go_sem, req_ptr _ hu, rne_ptr _ hu], rep_v rfl⟩
          | arr => exact ⟨_, by simp [go_sem, req_ptr _ hu, rne_ptr _ hu], rep_v rfl⟩
        · trivial
      · trivial
    · rename_i sz by_ e z hi
      have hu : P.underlying t = some (.slice e) := (hT _ _ hi).kind
      split
      · obtain rfl := inv_v hy
        split
        · cases hx with
          | i r =>
            cases r with
            | @nil _ ao =>
              cases ao with
              | none => exact ⟨true, by simp [go_sem, req_slice _ _ _ _ _ hu], fun _ => rfl⟩
              | some ao => exact ⟨false, by simp [go_sem, req_slice _ _ _ _ _ hu], fun h => by cases h⟩
            | sl => exact ⟨false, by simp [go_sem, req_slice _ _ _ _ _ hu], fun h => by cases h⟩
        · trivial
      · trivial
    · trivial

theorem snd_un {S : List Heap} {op : UnOp} {vx : Value} {x : D} (hx : RepD K ρ (shape S) vx x) : SndV P dst K ρ S w (Op.unary op vx) (exUn op x) := by
  unfold exUn
  split
  · obtain rfl := inv_v hx; exact ⟨_, by simp [Op.unary], rep_v rfl⟩
  · cases hx; exact ⟨_, by simp [Op.unary], .bf⟩
  · cases hx; exact ⟨_, by simp [Op.unary], .bt⟩
  · obtain rfl := inv_v hx; exact ⟨.int _ _, by simp only [Op.unary, Op.intArith, Sem.run_pure], rep_v rfl⟩
  · trivial

theorem u8s_rep : ∀ {xs : List (List I)} {l : List Int} {cs : List Value}, u8s xs = some l → RepL K cs xs.flatten → cs = l.map (Value.int .u8)
  | [], l, cs, h, hr => by
    simp only [u8s, Option.some.injEq] at h
    subst h
    cases hr
    rfl
  | [] :: r, l, cs, h, hr => by simp [u8s] at h
  | [x] :: r, l, cs, h, hr => by
    unfold u8s at h
    split at h
    · rename_i hx; cases hx
    · rename_i n r' hx
      simp only [List.cons.injEq, and_true] at hx
      obtain ⟨rfl, rfl⟩ := hx
      split at h
      · rename_i l' hl
        simp only [Option.some.injEq] at h
        subst h
        simp only [List.flatten_cons, List.singleton_append] at hr
        cases hr with
        | cons h1 h2 =>
          cases h1
          rw [u8s_rep hl h2]
          rfl
      · cases h
    · cases h
  | (x :: y :: z) :: r, l, cs, h, hr => by simp [u8s] at h
theorem snd_conv (hT : TOk P T) {S : List Heap} (hw : HInv E K ρ S w) {src tgt : Nat} {vx : Value} {x : D} (hx : RepD K ρ (shape S) vx x) : SndV P dst K ρ S w (convert src tgt vx) (exConv T src tgt x) := by
  unfold exConv
  split
  · rename_i k n si di k' hs h1 h2
    obtain rfl := inv_v hx
    have hd : P.underlying tgt = some (.int k') := (hT _ _ h2).kind
    have hs' : ∃ d, P.underlying src = some d := by
      have := (hT _ _ h1).kind
      unfold TKok at this
      split at this <;> first | exact ⟨_, this⟩ | (obtain ⟨d, hd, _⟩ := this; exact ⟨_, hd⟩)
    obtain ⟨ds, hs'⟩ := hs'
    refine ⟨_, ?_, rep_v rfl⟩
    simp [convert, run_underlying hd, run_underlying hs', Conv.intToInt]
  · rename_i es n xs s1 s2 s3 e d1 d2 d3 h1 h2
    split
    · rename_i s4 s5 s6 h3
      cases hes : Nat.beq es 1 with
      | false => trivial
      | true =>
        have hes := Nat.eq_of_beq_eq_true hes
        subst hes
        rw [cond_true]
        split
        · rename_i l hl
          have hs := (hT _ _ h1).kind
          have hd : P.underlying tgt = some .string := (hT _ _ h2).kind
          have he := (hT _ _ h3).kind
          cases hx with
          | i r =>
            cases r with
            | @nil _ ao =>
              simp only [u8s, Option.some.injEq] at hl
              subst hl
              refine ⟨.string ByteArray.empty, ?_, rep_v rfl⟩
              rw [run_convert_bytes_string w src tgt _ ao 0 0 hs he hd]
              cases ao with
              | none => simp [Conv.bytesToString]
              | some ao =>
                refine run_bytesToString w ao 0 0 [] ?_
                simp [loadCells, loadCellsFrom]
            | @sl b o cap _ _ cs _ hr hlen hk hle hn =>
              have hcs := u8s_rep hl hr
              subst hcs
              have hnl : n = (l.map (Value.int .u8)).length := by
                rw [hr.length, flat_len xs hlen, hn, Nat.mul_one]
              refine ⟨.string (bytesOf l), ?_, rep_v rfl⟩
              rw [run_convert_bytes_string w src tgt _ _ n cap hs he hd]
              refine run_bytesToString w _ n cap l ?_
              have := run_loadCells_list (P := P) (w := w) ⟨b, o, none⟩ (l.map (Value.int .u8)) fun j v hv => by
                have := hw.holds _ _ _ (hk _ _ hv)
                have e : (⟨b, o, none⟩ : Addr).add j = ⟨b, o + j, none⟩ := by simp only [Addr.add]; split <;> simp_all
                rw [e]; exact this
              rw [← hnl] at this
              exact this
        · trivial
    · trivial
  · trivial

theorem inv_toB {sh : Nat → Nat → Option Sh} {v : Value} {d : D} {b : Bool} (h : RepD K ρ sh v d) (hb : d.toB = some b) : v = .bool b := by
  unfold D.toB at hb
  split at hb
  · cases h; simp at hb; rw [hb]
  · cases h; simp at hb; rw [hb]
  · simp at hb; subst hb; exact inv_v h
  · cases hb

theorem snd_pick {S : List Heap} {vc va vb : Value} {c a b : D} (hc : RepD K ρ (shape S) vc c) (ha : RepD K ρ (shape S) va a) (hb : RepD K ρ (shape S) vb b) :
    SndV P dst K ρ S w (do pure (if ← asBool vc then va else vb)) (exPick c a b) := by
  unfold exPick
  split
  · cases hc; exact sndV_force ⟨va, by simp [asBool], ha⟩
  · cases hc; exact sndV_force ⟨vb, by simp [asBool], hb⟩
  · rename_i c
    obtain rfl := inv_v hc
    split
    · rename_i x y hx hy
      obtain rfl := inv_toB ha hx
      obtain rfl := inv_toB hb hy
      exact ⟨.bool (bif c then x else y), by cases c <;> simp [asBool], rep_v rfl⟩
    · trivial
  · trivial
end
end Go.AI
