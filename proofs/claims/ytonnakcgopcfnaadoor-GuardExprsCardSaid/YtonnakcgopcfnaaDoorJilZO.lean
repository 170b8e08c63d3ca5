/- The layer of abstract runs, part 41. -/
import Derived.Test.YtonnakcgopcfnaaDoorJilZN
import Derived.Shelf.Strings.Builder1
import Derived.Deep.Heap
import Derived.Shelf.RegionOpenPlain
import Derived.WalkKit
import Derived.Deep.RegionLaw
import Derived.Lib.Walk
import Derived.Lib.SliceRun
import Derived.KernelRfl
set_option linter.unusedSimpArgs false
set_option linter.unusedVariables false
set_option linter.all false

/- strings.Builder, told whole: what a write changes, and that nothing else changes. -/
namespace Go.Proofs
open Go.Shelf Go.RowKit
variable {P : Program} {ρ : Ren}
theorem heap_set0 {w : World} {b : Nat} {p q v : Value} {T : TypeId} (h : w.heap[b]? = some (.cells #[p, v] T (0, 0))) : (w.setCell ⟨b, 0, none⟩ q).heap[b]? = some (.cells #[q, v] T (0, 0)) := by
  show (Array.modify _ _ _)[b]? = _
  rw [Array.getElem?_modify, if_pos rfl, h]
  rfl
theorem heap_set1 {w : World} {b : Nat} {p q v : Value} {T : TypeId} (h : w.heap[b]? = some (.cells #[p, v] T (0, 0))) : (w.setCell ⟨b, 1, none⟩ q).heap[b]? = some (.cells #[p, q] T (0, 0)) := by
  show (Array.modify _ _ _)[b]? = _
  rw [Array.getElem?_modify, if_pos rfl, h]
  rfl
theorem ownsRow_at {w w' : World} {e : TypeId} {v : Value} {n : Nat} {xs : List Value} (h : w.ownsRow 0 e 1 v n xs) (hb : ∀ k, v.ownBlock = some k → w'.heap[k]? = w.heap[k]?) : w'.ownsRow 0 e 1 v n xs := by
  refine ⟨h.1, ?_⟩
  rcases h.2 with h1 | ⟨g, cap, cur, rfl, h2, h3, h4⟩
  · exact .inl h1
  · exact .inr ⟨g, cap, cur, rfl, h2, by rw [hb g rfl]; exact h3, h4⟩
section
variable (w : World)
/-- Where the row of an append lies: where it lay, or in a new block. -/
def RowAt (w : World) (v v' : Value) : Prop := v'.ownBlock = v.ownBlock ∨ ∀ k, v'.ownBlock = some k → w.heap.size ≤ k
theorem append_str_law (t u ty e : TypeId) (i : TypeInfo) (ht : P.underlying t = some (.slice e)) (hu : P.underlying u = some .string) (hi : P.info? e = some i) (hz : i.zero = some (.int .u8 0))
    (hsize : i.size = 1) (hby : i.bytes = 1) (v : Value) (n : Nat) (xs : List Value) (hown : w.ownsRow 0 e 1 v n xs) (s : ByteArray) (h63 : n + s.size ≤ maxLen) (hbytes : n + s.size ≤ 140737488355328) :
    ∃ v' w', (Builtin.append_ #[t, u] ty #[v, .string s]).run P w = .ok v' w' ∧ w'.ownsRow 0 e 1 v' (n + s.size) (xs ++ Lib.strCells s) ∧ w.grownBy w' v.ownBlock ∧ RowAt w v v' := by
  obtain ⟨v', w', hr, h2, h3, -⟩ := Lib.run_append_own_string (P := P) w 0 t u ty e i ht hu hi hz hsize hby v n xs hown s h63 hbytes (Nat.zero_le _)
  refine ⟨v', w', hr, h2, h3, ?_⟩
  have hxl : xs.length = n := by simpa using hown.1
  rcases hown.2 with ⟨rfl, rfl⟩ | ⟨g, cap, cur, rfl, hbg, hg, hnc, hcm, hcs, htake⟩
  · obtain rfl : xs = [] := List.eq_nil_of_length_eq_zero hxl
    obtain ⟨v2, w2, hr2, h5, -⟩ := Lib.run_append_own_string (P := P) w w.heap.size t u ty e i ht hu hi hz hsize hby (.slice none 0 0) 0 [] (World.ownsRow_nil w _ e 1) s h63 hbytes (Nat.le_refl _)
    have e1 : v' = v2 := by have := hr.symm.trans hr2; injection this
    subst e1
    exact .inr fun k hk => (h5.lt k hk).1
  · by_cases hroom : n + s.size ≤ cap
    · have hr2 := Lib.run_append_room_string (P := P) w t u ty e i ht hu hi hsize g n cap cur hg s hroom (by omega)
      have e1 : v' = .slice (some ⟨g, 0, none⟩) (n + s.size) cap := by have := hr.symm.trans hr2; injection this
      subst e1
      exact .inl rfl
    · have holds : ∀ j u, xs[j]? = some u → w.cell? ((⟨g, 0, none⟩ : Addr).add j) = some u := hown.cells (g := g) rfl
      have hr2 := Lib.run_append_grow_string (P := P) w t u ty e i (.int .u8 0) ht hu hi hz ⟨g, 0, none⟩ n cap xs (by rw [hsize]; simpa using hxl) holds s (by omega) (by simp only [maxLen] at h63; omega) (by rw [hby]; exact growslice_fits (by omega) (by omega))
      have e1 : v' = .slice (some ⟨w.heap.size, 0, none⟩) (n + s.size) (grownCap w (n + s.size) cap e) := by have := hr.symm.trans hr2; injection this
      subst e1
      exact .inr fun k hk => by simp [Value.ownBlock] at hk; omega
theorem wpList_app_str {ops : Array Oper} {rest : List Oper} {o : Oper} {a : Act} {Q : Exit → Act → World → Prop} (hgd : o.guard = none) (sl x : Operand) (t u : TypeId)
    (ho : o.op = .call { callee := .builtin .append, args := #[sl, x], argTypes := #[t, u] })
    (e : TypeId) (i : TypeInfo) (ht : P.underlying t = some (.slice e)) (hu : P.underlying u = some .string) (hi : P.info? e = some i) (hz : i.zero = some (.int .u8 0)) (hsize : i.size = 1) (hby : i.bytes = 1)
    (v : Value) (n : Nat) (xs : List Value) (hs : a.eval sl = v) (hown : w.ownsRow 0 e 1 v n xs) (s : ByteArray) (hx : a.eval x = .string s) (h63 : n + s.size ≤ maxLen) (hbytes : n + s.size ≤ 140737488355328)
    (h : ∀ v' w', w'.ownsRow 0 e 1 v' (n + s.size) (xs ++ Lib.strCells s) → w.grownBy w' v.ownBlock → RowAt w v v' → wpList P ops Q rest (a.put o.dst v') w') : wpList P ops Q (o :: rest) a w := by
  refine wpList_plain hgd fun K hK => ?_
  obtain ⟨v', w', hr, h2, h3, h4⟩ := append_str_law (P := P) w t u o.type e i ht hu hi hz hsize hby v n xs hown s h63 hbytes
  unfold Oper.wp execOp
  simp only [ho, resolve, invoke, builtin, Sem.run_bind, Sem.run_pure, Result.andThen_ok, List.map_toArray, List.map_cons, List.map_nil, hs, hx, hr]
  exact hK _ _ (h v' w' h2 h3 h4)
end
/-- What a write does: its own address is stored where there was none; perhaps a new block; an append to the row; the row is stored. -/
def Wrote (T e : TypeId) (b : Nat) (p v0 : Value) (bs news : List Value) (w w' : World) : Prop :=
  ∃ w1 w2 w3 v', ((w1 = w ∧ p = .pointer (some ⟨b, 0, none⟩)) ∨ (w1 = w.setCell ⟨b, 0, none⟩ (.pointer (some ⟨b, 0, none⟩)) ∧ p = .pointer none)) ∧ (w2 = w1 ∨ ∃ o, w2 = w1.alloc o) ∧
    w3.ownsRow 0 e 1 v' (bs.length + news.length) (bs ++ news) ∧ w2.grownBy w3 v0.ownBlock ∧ RowAt w2 v0 v' ∧ w' = w3.setCell ⟨b, 1, none⟩ v'
set_option maxHeartbeats 1000000 in
set_option maxRecDepth 100000 in
/-- String, of a builder that holds a byte. -/
theorem bld_string (L : Lays.n169 P ρ) (X : Builder.Extra P ρ) (b : Nat) (p v : Value) (l : List UInt8) (w : World) (hbk : w.heap[b]? = some (.cells #[p, v] (ρ.t 72) (0, 0))) (hown : w.ownsRow 0 (ρ.t 5) 1 v l.length (Lib.byteCells l)) (h0 : l ≠ []) :
    Calls P (ρ.f 169) #[.pointer (some ⟨b, 0, none⟩)] w fun e w' => e = .returned (.string ⟨l.toArray⟩) ∧ ∃ g, v.ownBlock = some g ∧ w' = w.drew.freeze ⟨g, 0, none⟩ l.length := by
  have hl0 : l.length ≠ 0 := by simpa using h0
  obtain ⟨g, cap, cur, rfl, hbg, hg, hnc, hcm, hcs, htake⟩ : ∃ g cap cur, v = .slice (some ⟨g, 0, none⟩) l.length cap ∧ 0 ≤ g ∧ w.heap[g]? = some (.cells cur (ρ.t 5) (0, 0)) ∧ l.length ≤ cap ∧ cap ≤ maxLen ∧ cur.size = cap * 1 ∧ cur.toList.take (l.length * 1) = Lib.byteCells l := by
    rcases hown.2 with ⟨_, hz⟩ | ⟨g, cap, cur, hv, r⟩
    · exact absurd hz hl0
    · exact ⟨g, cap, cur, hv, r⟩
  have c1 : w.drew.cell? ⟨b, 1, none⟩ = some (.slice (some ⟨g, 0, none⟩) l.length cap) := by
    have : w.drew.heap[b]? = some (.cells #[p, .slice (some ⟨g, 0, none⟩) l.length cap] (ρ.t 72) (0, 0)) := hbk
    rw [Lib.cell_of_heap this]; rfl
  have hSD : (Builtin.unsafeSliceData_ #[(ρ.t 37)] (ρ.t 127) #[.slice (some ⟨g, 0, none⟩) l.length cap]).run P w.drew = .ok (.pointer (some ⟨g, 0, none⟩)) w.drew :=
    Lib.run_unsafeSliceData_row _ _ _ _ _ _ (by omega)
  have hUS : (Builtin.unsafeString_ #[(ρ.t 127), (ρ.t 3)] (ρ.t 9) #[.pointer (some ⟨g, 0, none⟩), .int .i64 l.length]).run P w.drew = .ok (.string ⟨l.toArray⟩) (w.drew.freeze ⟨g, 0, none⟩ l.length) := by
    refine Lib.run_unsafeString_row w.drew (ρ.t 127) (ρ.t 3) (ρ.t 9) (ρ.t 5) L.t127 X.cellsByte g cur.size (by have hg' : w.drew.heap[g]? = some (.cells cur (ρ.t 5) (0, 0)) := hg; simp [World.shape?, hg']) l h0 (by omega) (by unfold maxLen at hcm; omega) ?_
    intro j x hx
    have := hown.cells (g := g) rfl j (.int .u8 x.toNat) (by simp [Lib.byteCells, hx])
    exact this
  have mixed := L.mixed
  have t72 := L.t72; have a72 := L.a72; have z72 := L.z72; have v72 := L.v72; have u72 := run_underlying L.t72
  have t70 := L.t70; have a70 := L.a70; have z70 := L.z70; have v70 := L.v70; have u70 := run_underlying L.t70
  have t37 := L.t37; have a37 := L.a37; have z37 := L.z37; have v37 := L.v37; have u37 := run_underlying L.t37
  have t127 := L.t127; have a127 := L.a127; have z127 := L.z127; have v127 := L.v127; have u127 := run_underlying L.t127
  have t3 := L.t3; have a3 := L.a3; have z3 := L.z3; have v3 := L.v3; have u3 := run_underlying L.t3
  have t9 := L.t9; have a9 := L.a9; have z9 := L.z9; have v9 := L.v9; have u9 := run_underlying L.t9
  have t5 := X.t5; have a5 := X.a5; have z5 := X.z5; have v5 := X.v5; have u5 := run_underlying X.t5
  go_enter L.f169, Body.n169_ntmps ρ
  go_wp2
  go_region_o
  all_goals (go_wp2; go_ret; exact ⟨rfl, g, rfl, rfl⟩)
end Go.Proofs


/- A builder of the own frame: what a write does to the state. -/
namespace Go.AI
open Go.Proofs
set_option maxRecDepth 20000
section
variable {E : Env} {K : Kn} {ρ : Nat → Nat → Loc} {w w' : World}
/-- The row behind an append, as an object. -/
theorem app_of_row {sh : Nat → Nat → Option Sh} {w3 : World} {l : Loc} {ty n m : Nat} {xs ys : List (List I)} {olds news : List Value} {v' : Value} (h : OwnAt K ρ sh w l (.arr ty 1 n xs true)) (ho : RepL K olds xs.flatten) (hn : RepL K news ys.flatten)
    (hy : ∀ d ∈ ys, d.length = 1) (hm : ys.length = m) (hrow : w3.ownsRow 0 ty 1 v' (n + m) (olds ++ news)) (hg : w.grownBy w3 (Value.slice l.base n l.cap).ownBlock) (hat : RowAt w (.slice l.base n l.cap) v')
    (hfresh : ∀ b o, w.heap.size ≤ b → K b o = none) :
    ∃ l' : Loc, v' = .slice l'.base (n + m) l'.cap ∧ (∀ (ρ' : Nat → Nat → Loc) (sh' : Nat → Nat → Option Sh), OwnAt K ρ' sh' w3 l' (.arr ty 1 (n + m) (xs ++ ys) true)) ∧ Apnd K w w3 l l' := by
  have hel : ∀ d ∈ xs ++ ys, d.length = 1 := fun d hd => by
    rcases List.mem_append.1 hd with h1 | h1
    · exact h.1 d h1
    · exact hy d h1
  have hlen : (xs ++ ys).length = n + m := by simp [h.2.1, hm]
  have hbase : l.base = none ∨ l.base = some ⟨l.block, 0, none⟩ := by
    rcases h.2.2.2.2 with ⟨_, h1⟩ | ⟨h1, _⟩
    · exact .inl h1
    · exact .inr h1
  have hold : ∀ b, b < w.heap.size → (l.base ≠ none → b ≠ l.block) → w3.heap[b]? = w.heap[b]? := fun b hb hne => hg.block b hb fun e => by
    rcases hbase with h1 | h1
    · rw [h1] at e; simp [Value.ownBlock] at e
    · rw [h1] at e
      simp only [Value.ownBlock, Option.some.injEq] at e
      exact hne (by rw [h1]; simp) e
  rcases hrow.2 with ⟨rfl, h0⟩ | ⟨g, cap, cur, rfl, _, hg3, hnc, hcm, hcs, htake⟩
  · refine ⟨⟨0, 0, none⟩, by rw [h0], fun ρ' sh' => ⟨hel, hlen, by simp only; omega, Nat.zero_le _, .inl ⟨rfl, rfl⟩⟩, ⟨hg.size, hold, ⟨hg.tape, hg.os, hg.output⟩, fun e => absurd rfl e⟩⟩
  · have hKg : ∀ o, K g o = none := by
      rcases hat with h1 | h1
      · rcases hbase with h2 | h2
        · rw [h2] at h1; simp [Value.ownBlock] at h1
        · rw [h2] at h1
          simp only [Value.ownBlock, Option.some.injEq] at h1
          subst h1
          rcases h.2.2.2.2 with ⟨_, h3⟩ | ⟨_, c, _, _, _, h4, _⟩
          · rw [h2] at h3; cases h3
          · exact h4 rfl
      · exact fun o => hfresh g o (h1 g rfl)
    have htk : cur.toList.take ((n + m) * 1) = olds ++ news := htake
    refine ⟨⟨g, cap, some ⟨g, 0, none⟩⟩, rfl, fun ρ' sh' => ⟨hel, hlen, hnc, hcm, .inr ⟨rfl, cur, hg3, hcs, ?_, fun _ o => hKg o, fun o _ => hKg o, fun e => by cases e⟩⟩, ⟨hg.size, hold, ⟨hg.tape, hg.os, hg.output⟩, fun _ => ?_⟩⟩
    · rw [htk, List.flatten_append]
      exact ho.append hn
    · rcases hat with h1 | h1
      · rcases hbase with h2 | h2
        · rw [h2] at h1; simp [Value.ownBlock] at h1
        · rw [h2] at h1
          simp only [Value.ownBlock, Option.some.injEq] at h1
          exact .inr ⟨by rw [h2]; simp, h1⟩
      · exact .inl (h1 g rfl)
/-- What a write of a builder is to do. -/
def WSpec (P : Program) (f : FuncId) (T ty : TypeId) (res x : Value) (news : List Value) : Prop := ∀ (b : Nat) (p v0 : Value) (bs : List Value) (w : World), (p = .pointer none ∨ p = .pointer (some ⟨b, 0, none⟩)) →
  w.heap[b]? = some (.cells #[p, v0] T (0, 0)) → w.ownsRow 0 ty 1 v0 bs.length bs → v0.ownBlock ≠ some b → bs.length + news.length ≤ 140737488355328 →
  Calls P f #[.pointer (some ⟨b, 0, none⟩), x] w fun e w' => e = .returned res ∧ Wrote T ty b p v0 bs news w w'
/-- A call, by what it does to the state. -/
def Wp (c : Cx) (o : Oper) (s : St) (f : FuncId) (args : List D) (s' : St) : Prop := ∀ K ρ a w, Inv c.E K ρ s a w → (∃ vs, (execOp a.eval o).run c.P w = (callFunc f vs.toArray).run c.P w ∧ RepDL K ρ (shape s.S) vs args) →
  ∀ (next : Act → World → Prop) (Qe : Exit → Act → World → Prop), (∀ v w' K' ρ', Inv c.E K' ρ' s' (a.put o.dst v) w' → next (a.put o.dst v) w') → o.wp c.P a w next Qe
theorem does_write {c : Cx} {s : St} {o : Oper} {f : FuncId} {t nm nm2 n m T ty : Nat} {dp dx rd : D} {x res : Value} {news : List Value} {xs ys : List (List I)} {H : Heap} {O : List Heap}
    (hspec : WSpec c.P f T ty res x news) (hent : ∀ args w, (callFunc f args).run c.P w = .ok (.enter f args) w) (hx : ∀ K ρ sh v, RepD K ρ sh v dx → v = x) (hr : ∀ K ρ sh, RepD K ρ sh res rd)
    (hdp : dp = .i (.v (.pointer none)) ∨ dp = .own 0 nm 0 0) (ht : o.dst = some t) (hn : t < s.n) (hS : s.S = H :: O) (hb : look H nm = some (.tb T [dp, .osl 0 nm2])) (ha : look H nm2 = some (.arr ty 1 n xs true))
    (hne : nm ≠ nm2) (hnews : ∀ K, RepL K news ys.flatten) (hy : ∀ d ∈ ys, d.length = 1) (hm : ys.length = m) (hlim : n + m ≤ 140737488355328) :
    Wp c o s f [.own 0 nm 0 0, dx] { σ := (t, rd) :: killσ nm2 s.σ, S := ((nm, .tb T [.own 0 nm 0 0, .osl 0 nm2]) :: (nm2, .arr ty 1 (n + m) (xs ++ ys) true) :: killH nm2 ((nm, .tb T [.own 0 nm 0 0, .osl 0 nm2]) :: H)) :: O, n := s.n } := by
  intro K ρ a w hi ⟨vs, hrun, hrep⟩ next Qe hnext
  have hh := hi.h
  rw [hS] at hh hrep
  have hob : objAt (H :: O) 0 nm = some (.tb T [dp, .osl 0 nm2]) := by simpa [objAt] using hb
  have hoa : objAt (H :: O) 0 nm2 = some (.arr ty 1 n xs true) := by simpa [objAt] using ha
  have e0 : (fun d n => ρ (0 + d) n) = ρ := by funext d n; rw [Nat.zero_add]
  have s0 : ∀ S : List Heap, shape (S.drop 0) = shape S := fun S => by rw [List.drop_zero]
  have hwb := hh.own _ _ _ hob
  rw [e0, s0] at hwb
  obtain ⟨cur, hc, hrc, hKb⟩ := hwb
  have hwa := hh.own _ _ _ hoa
  rw [e0, s0] at hwa
  obtain ⟨olds, hro, hrow⟩ := own_row hwa
  have hol : olds.length = n := by simpa using hrow.1
  have hshb : shape (H :: O) 0 nm = some .box := by simp [shape, hob, Ob.sh]
  have hsha : shape (H :: O) 0 nm2 = some (.arr 1 n) := by simp [shape, hoa, Ob.sh]
  obtain ⟨p, v0, hcur, hp, hv0⟩ : ∃ p v0, cur = #[p, v0] ∧ RepD K ρ (shape (H :: O)) p dp ∧ RepD K ρ (shape (H :: O)) v0 (.osl 0 nm2) := by
    generalize hL : cur.toList = L at hrc
    cases hrc with
    | cons h1 h2 => cases h2 with
      | cons h3 h4 => cases h4; exact ⟨_, _, Array.ext' (by rw [hL]), h1, h3⟩
  subst hcur
  have hv0 := inv_osl hv0 hsha
  subst hv0
  have hpp : p = .pointer none ∨ p = .pointer (some ⟨(ρ 0 nm).block, 0, none⟩) := by
    rcases hdp with rfl | rfl
    · exact .inl (inv_v hp)
    · exact .inr (inv_box hp hshb)
  have hnb : (Value.slice (ρ 0 nm2).base n (ρ 0 nm2).cap).ownBlock ≠ some (ρ 0 nm).block := by
    intro e
    rcases hwa.2.2.2.2 with ⟨_, h1⟩ | ⟨h1, _⟩
    · rw [h1] at e; simp [Value.ownBlock] at e
    · rw [h1] at e
      simp only [Value.ownBlock, Option.some.injEq] at e
      exact hne (hh.inj 0 nm _ 0 nm2 _ hob hoa trivial (by show _ ≠ none; rw [h1]; simp) e.symm).2
  obtain ⟨rfl⟩ : vs = [.pointer (some ⟨(ρ 0 nm).block, 0, none⟩), x] := by
    cases hrep with
    | cons h1 h2 => cases h2 with
      | cons h3 h4 => cases h4; rw [inv_box h1 hshb, hx _ _ _ _ h3]
  rw [hent] at hrun
  simp only [Oper.wp, hrun, Oper.upon]
  have hml : news.length = m := by
    have := (hnews K).length
    rw [this, flat_len ys hy, hm]; omega
  refine (hspec _ p _ olds w hpp hc (by rw [hol]; exact hrow) hnb (by rw [hol, hml]; exact hlim)).mono ?_
  rintro e w' ⟨rfl, w1, w2, w3, v', h1, h2, hrow3, hgb, hat, rfl⟩
  rw [hol, hml] at hrow3
  have e1 : (fun d n => shape (H :: O) (0 + d) n) = shape (H :: O) := by funext d n; rw [Nat.zero_add]
  have hcells : RepDL K (fun d n => ρ (0 + d) n) (fun d n => shape (H :: O) (0 + d) n) [.pointer (some ⟨(ρ 0 nm).block, 0, none⟩), .slice (ρ 0 nm2).base n (ρ 0 nm2).cap] [.own 0 nm 0 0, .osl 0 nm2] := by
    rw [e0, e1]
    exact .cons (.box hshb) (.cons (.osl hsha) .nil)
  have hI1 : HInv c.E K ρ (setAt (H :: O) 0 nm (.tb T [.own 0 nm 0 0, .osl 0 nm2])) w1 ∧ w1.heap[(ρ 0 nm).block]? = some (.cells #[.pointer (some ⟨(ρ 0 nm).block, 0, none⟩), .slice (ρ 0 nm2).base n (ρ 0 nm2).cap] T (0, 0)) := by
    rcases h1 with ⟨rfl, rfl⟩ | ⟨rfl, rfl⟩
    · exact ⟨hh.put hob rfl trivial trivial rfl (fun _ _ => rfl) ⟨rfl, rfl, rfl⟩ (fun o' x' hx' => by rw [hKb] at hx'; cases hx') ⟨_, hc, hcells, hKb⟩, hc⟩
    · exact ⟨hh.put hob rfl trivial trivial (by simp [World.setCell]) (fun b hb => Go.Deep.blk_setCell_other w _ _ b hb) ⟨rfl, rfl, rfl⟩ (fun o' x' hx' => by rw [hKb] at hx'; cases hx') ⟨_, heap_set0 hc, hcells, hKb⟩, heap_set0 hc⟩
  obtain ⟨hI1, hc1⟩ := hI1
  have hI1 : HInv c.E K ρ (((nm, .tb T [.own 0 nm 0 0, .osl 0 nm2]) :: H) :: O) w1 := hI1
  have hlt1 : (ρ 0 nm).block < w1.heap.size := by
    rcases Nat.lt_or_ge (ρ 0 nm).block w1.heap.size with h' | h'
    · exact h'
    · simp [Array.getElem?_eq_none h'] at hc1
  have hI2 : HInv c.E K ρ (((nm, .tb T [.own 0 nm 0 0, .osl 0 nm2]) :: H) :: O) w2 ∧ w2.heap[(ρ 0 nm).block]? = some (.cells #[.pointer (some ⟨(ρ 0 nm).block, 0, none⟩), .slice (ρ 0 nm2).base n (ρ 0 nm2).cap] T (0, 0)) ∧ w1.heap.size ≤ w2.heap.size := by
    rcases h2 with rfl | ⟨o', rfl⟩
    · exact ⟨hI1, hc1, Nat.le_refl _⟩
    · exact ⟨(HInv.grow (S := ((nm, .tb T [.own 0 nm 0 0, .osl 0 nm2]) :: H) :: O) rfl hI1 (fun _ _ _ e => e) (fun _ h => by simp [look] at h) (grow_none hI1 (.inl rfl) o')).1, by rw [heap_alloc_old w1 o' hlt1]; exact hc1, by simp [World.size_alloc]⟩
  obtain ⟨hI2, hc2, hsz2⟩ := hI2
  have hc3 : w3.heap[(ρ 0 nm).block]? = some (.cells #[.pointer (some ⟨(ρ 0 nm).block, 0, none⟩), .slice (ρ 0 nm2).base n (ρ 0 nm2).cap] T (0, 0)) := by
    rw [hgb.block _ (by omega) (fun e => hnb e.symm)]
    exact hc2
  have hlk : look ((nm, Ob.tb T [.own 0 nm 0 0, .osl 0 nm2]) :: H) nm2 = some (.arr ty 1 n xs true) := by
    rw [look_cons, if_neg hne]; exact ha
  have hoa2 : objAt (((nm, Ob.tb T [.own 0 nm 0 0, .osl 0 nm2]) :: H) :: O) 0 nm2 = some (.arr ty 1 n xs true) := by simpa [objAt] using hlk
  have hob2 : objAt (((nm, Ob.tb T [.own 0 nm 0 0, .osl 0 nm2]) :: H) :: O) 0 nm = some (.tb T [.own 0 nm 0 0, .osl 0 nm2]) := by simp [objAt, look_cons]
  have hwa2 := hI2.own _ _ _ hoa2
  rw [e0, s0] at hwa2
  obtain ⟨l', rfl, hown', hap⟩ := app_of_row hwa2 hro (hnews K) hy hm hrow3 hgb hat (fun b o hb => hI2.K_fresh hb)
  have hKo : backed (ρ 0 nm2) (.arr ty 1 n xs true) → ∀ o, K (ρ 0 nm2).block o = none := by
    intro hbk
    obtain ⟨_, _, _, _, h5⟩ := hwa
    rcases h5 with ⟨_, h6⟩ | ⟨_, c, _, _, _, h9, _⟩
    · exact absurd h6 hbk
    · exact h9 rfl
  obtain ⟨hI3, hbut⟩ := hI2.renew (nm := nm2) (dst := nm2) hlk (by rw [look_killH]; simp) hap Iff.rfl (ob' := .arr ty 1 (n + m) (xs ++ ys) true) Iff.rfl hKo hown'
  generalize hS3 : (((nm2, Ob.arr ty 1 (n + m) (xs ++ ys) true) :: killH nm2 ((nm, Ob.tb T [.own 0 nm 0 0, .osl 0 nm2]) :: H)) :: O) = S3 at hI3 hbut
  have hob3 : objAt S3 0 nm = some (Ob.kill nm2 (.tb T [.own 0 nm 0 0, .osl 0 nm2])) := by
    rw [← hS3]
    simp only [objAt, List.getElem?_cons_zero, look_cons, if_neg (Ne.symm hne), look_killH, if_neg hne, if_true, Option.map_some]
  obtain ⟨hb1, hb2⟩ := hbut 0 nm .box (.inr hne) (by simp [shape, hob2, Ob.sh])
  have hsh3 : shape S3 0 nm2 = some (.arr 1 (n + m)) := by
    rw [← hS3]
    simp [shape, objAt, look_cons, Ob.sh]
  have f0 : (fun d n => upd ρ nm2 l' (0 + d) n) = upd ρ nm2 l' := by funext d n; rw [Nat.zero_add]
  have f1 : (fun d n => shape S3 (0 + d) n) = shape S3 := by funext d n; rw [Nat.zero_add]
  have hcells3 : RepDL K (fun d n => upd ρ nm2 l' (0 + d) n) (fun d n => shape S3 (0 + d) n) [.pointer (some ⟨(ρ 0 nm).block, 0, none⟩), .slice l'.base (n + m) l'.cap] [.own 0 nm 0 0, .osl 0 nm2] := by
    rw [f0, f1]
    have g1 := RepD.box (K := K) (ρ := upd ρ nm2 l') (off := 0) hb1
    rw [hb2] at g1
    have g2 := RepD.osl (K := K) (ρ := upd ρ nm2 l') hsh3
    rw [upd_same] at g2
    exact .cons g1 (.cons g2 .nil)
  have hI4 : HInv c.E K (upd ρ nm2 l') (setAt S3 0 nm (.tb T [.own 0 nm 0 0, .osl 0 nm2])) (w3.setCell ⟨(ρ 0 nm).block, 1, none⟩ (.slice l'.base (n + m) l'.cap)) := by
    refine hI3.put hob3 rfl trivial trivial (by simp [World.setCell]) (fun b hb => Go.Deep.blk_setCell_other w3 _ _ b (by rw [hb2] at hb; exact hb)) ⟨rfl, rfl, rfl⟩ (fun o' x' hx' => by rw [hb2, hKb] at hx'; cases hx') ⟨_, by rw [hb2]; exact heap_set1 hc3, hcells3, fun o => by rw [hb2]; exact hKb o⟩
  have hS4 : setAt S3 0 nm (.tb T [.own 0 nm 0 0, .osl 0 nm2]) = ((nm, .tb T [.own 0 nm 0 0, .osl 0 nm2]) :: (nm2, .arr ty 1 (n + m) (xs ++ ys) true) :: killH nm2 ((nm, .tb T [.own 0 nm 0 0, .osl 0 nm2]) :: H)) :: O := by rw [← hS3]; rfl
  have hsh4 : shape (setAt S3 0 nm (.tb T [.own 0 nm 0 0, .osl 0 nm2])) = shape S3 := shape_setAt hob3 rfl
  have hsh2 : shape (((nm, Ob.tb T [.own 0 nm 0 0, .osl 0 nm2]) :: H) :: O) = shape (H :: O) := shape_setAt (S := H :: O) hob rfl
  rw [hS4] at hI4 hsh4
  rw [hsh2] at hbut
  refine hnext _ _ K (upd ρ nm2 l') ?_
  · rw [ht]
    refine ⟨hI4, hi.defers, by simp [Act.put]; exact hi.size, fun t' d' e' => ?_⟩
    rw [tmps_put (by rw [hi.size]; exact hn)]
    simp only [look_cons] at e'
    split at e'
    · rename_i e2
      simp only [Option.some.injEq] at e'
      subst e'
      rw [if_pos e2]
      exact hr _ _ _
    · rename_i e2
      rw [if_neg e2]
      rw [look_killσ] at e'
      cases hls : look s.σ t' with
      | none => simp [hls] at e'
      | some d0 =>
        simp only [hls, Option.map_some, Option.some.injEq] at e'
        subst e'
        have hr := hi.slots _ _ hls
        rw [hS] at hr
        show RepD _ _ (shape _) _ _
        rw [hsh4]
        exact hr.kill hbut
end
section
variable {c : Cx} {s : St} {k : List Item} {ops : Array Oper} {rest : List Nat} {o : Oper}
/-- At a pause before a call: what it does. -/
theorem g_callP (hT : TOk c.P c.T) (hfn : c.P.funcs[c.f]? = some c.fn) {i t : Nat} {f : FuncId} {args : List D} {s' : St} (ho : ops[i]? = some o) (hg : o.guard = none) (hd : o.dst = some t) (hex : exec c.T s o = .call f args) (hw : Wp c o s f args s')
    (h : GM c (run c.T c.stop 1000 (.inRegion ops rest :: k) s')) : GM c (.pause ops i rest o s k) := by
  have hk : RG c ops rest s' (Rch c k) := run_sound hT hfn 1000 (.inRegion ops rest :: k) _ h.h
  refine ⟨?_⟩
  intro K ρ a w hi
  simp only [wpOps, ho, wanted_of hi (show wantedD ops s o = some true by unfold wantedD; rw [hg]), if_true]
  refine .inl (hw K ρ a w hi ?_ _ _ fun v w' K' ρ' hi' => hk K' ρ' _ w' hi')
  have := exec_snd hT hi.h (.inl hd) fun x _ => hi.ev x
  rw [hex] at this
  exact this
end
section
/-- Bytes, as the elements of a row. -/
def u8l (l : List UInt8) : List (List I) := l.map fun b => [.v (.int .u8 b.toNat)]
theorem u8l_flat : ∀ l : List UInt8, (u8l l).flatten = l.map fun b => I.v (.int .u8 b.toNat)
  | [] => rfl
  | b :: r => by
    have := u8l_flat r
    unfold u8l at this ⊢
    rw [List.map_cons, List.flatten_cons, this]
    rfl
theorem u8l_el (l : List UInt8) : ∀ d ∈ u8l l, d.length = 1 := fun d hd => by
  unfold u8l at hd
  obtain ⟨b, _, rfl⟩ := List.mem_map.1 hd
  rfl
theorem u8l_rep (K : Kn) : ∀ l : List UInt8, RepL K (l.map fun b => Value.int .u8 b.toNat) (u8l l).flatten
  | [] => .nil
  | b :: r => by
    have := u8l_rep K r
    rw [u8l_flat] at this ⊢
    exact .cons (.v rfl) this
theorem repL_vals {K : Kn} : ∀ {vs : List Value} {l : List Value}, RepL K vs (l.map I.v) → vs = l
  | _, [], h => by cases h; rfl
  | _, x :: r, h => by
    cases h with
    | cons h1 h2 =>
      rw [repL_vals h2]
      cases h1
      rfl
theorem u8l_app (a b : List UInt8) : u8l a ++ u8l b = u8l (a ++ b) := by simp [u8l]
/-- What String of a builder is to do. -/
def SSpec (P : Program) (f : FuncId) (T ty : TypeId) : Prop := ∀ (b : Nat) (p v : Value) (l : List UInt8) (w : World), w.heap[b]? = some (.cells #[p, v] T (0, 0)) → w.ownsRow 0 ty 1 v l.length (Lib.byteCells l) → l ≠ [] →
  Calls P f #[.pointer (some ⟨b, 0, none⟩)] w fun e w' => e = .returned (.string ⟨l.toArray⟩) ∧ ∃ g, v.ownBlock = some g ∧ w' = w.drew.freeze ⟨g, 0, none⟩ l.length
theorem freeze_other (w : World) (g n k : Nat) (h : k ≠ g) : (w.freeze ⟨g, 0, none⟩ n).heap[k]? = w.heap[k]? := by
  unfold World.freeze
  split <;> simp [Array.getElem?_modify, Array.getElem?_setIfInBounds, Ne.symm h]
theorem freeze_rest (w : World) (g n : Nat) : (w.freeze ⟨g, 0, none⟩ n).tape = w.tape ∧ (w.freeze ⟨g, 0, none⟩ n).os = w.os ∧ (w.freeze ⟨g, 0, none⟩ n).output = w.output ∧ (w.freeze ⟨g, 0, none⟩ n).heap.size = w.heap.size := by
  unfold World.freeze
  split <;> simp
theorem does_bstr {c : Cx} {s : St} {o : Oper} {f : FuncId} {t nm nm2 T ty : Nat} {dp : D} {l : List UInt8} {H : Heap} {O : List Heap}
    (hspec : SSpec c.P f T ty) (hent : ∀ args w, (callFunc f args).run c.P w = .ok (.enter f args) w) (h0 : l ≠ [])
    (ht : o.dst = some t) (hn : t < s.n) (hS : s.S = H :: O) (hb : look H nm = some (.tb T [dp, .osl 0 nm2])) (ha : look H nm2 = some (.arr ty 1 l.length (u8l l) true)) :
    Wp c o s f [.own 0 nm 0 0] { σ := (t, .i (.v (.string ⟨l.toArray⟩))) :: killσ nm2 s.σ, S := ((nm2, .arr ty 1 0 [] true) :: killH nm2 H) :: O, n := s.n } := by
  intro K ρ a w hi ⟨vs, hrun, hrep⟩ next Qe hnext
  have hh := hi.h
  rw [hS] at hh hrep
  have hob : objAt (H :: O) 0 nm = some (.tb T [dp, .osl 0 nm2]) := by simpa [objAt] using hb
  have hoa : objAt (H :: O) 0 nm2 = some (.arr ty 1 l.length (u8l l) true) := by simpa [objAt] using ha
  have e0 : (fun d n => ρ (0 + d) n) = ρ := by funext d n; rw [Nat.zero_add]
  have s0 : ∀ S : List Heap, shape (S.drop 0) = shape S := fun S => by rw [List.drop_zero]
  have hwb := hh.own _ _ _ hob
  rw [e0, s0] at hwb
  obtain ⟨cur, hc, hrc, hKb⟩ := hwb
  have hwa := hh.own _ _ _ hoa
  rw [e0, s0] at hwa
  obtain ⟨olds, hro, hrow⟩ := own_row hwa
  have hold : olds = Lib.byteCells l := by
    rw [u8l_flat] at hro
    have : (l.map fun b => I.v (.int .u8 b.toNat)) = (l.map fun b => Value.int .u8 b.toNat).map I.v := by rw [List.map_map]; rfl
    rw [this] at hro
    exact repL_vals hro
  subst hold
  have hshb : shape (H :: O) 0 nm = some .box := by simp [shape, hob, Ob.sh]
  have hsha : shape (H :: O) 0 nm2 = some (.arr 1 l.length) := by simp [shape, hoa, Ob.sh]
  obtain ⟨p, v0, hcur, hv0⟩ : ∃ p v0, cur = #[p, v0] ∧ RepD K ρ (shape (H :: O)) v0 (.osl 0 nm2) := by
    generalize hL : cur.toList = L at hrc
    cases hrc with
    | cons h1 h2 => cases h2 with
      | cons h3 h4 => cases h4; exact ⟨_, _, Array.ext' (by rw [hL]), h3⟩
  subst hcur
  have hv0 := inv_osl hv0 hsha
  subst hv0
  obtain ⟨rfl⟩ : vs = [.pointer (some ⟨(ρ 0 nm).block, 0, none⟩)] := by
    cases hrep with
    | cons h1 h2 => cases h2; rw [inv_box h1 hshb]
  rw [hent] at hrun
  simp only [Oper.wp, hrun, Oper.upon]
  refine (hspec _ p _ l w hc hrow h0).mono ?_
  rintro e w' ⟨rfl, g, hgb, rfl⟩
  obtain ⟨r1, r2, r3, r4⟩ := freeze_rest w.drew g l.length
  have hbase : (ρ 0 nm2).base = some ⟨(ρ 0 nm2).block, 0, none⟩ := by
    rcases hwa.2.2.2.2 with ⟨_, h1⟩ | ⟨h1, _⟩
    · rw [h1] at hgb; simp [Value.ownBlock] at hgb
    · exact h1
  have hgb : (ρ 0 nm2).block = g := by rw [hbase] at hgb; simpa [Value.ownBlock] using hgb
  subst hgb
  have hKo : backed (ρ 0 nm2) (.arr ty 1 l.length (u8l l) true) → ∀ o, K (ρ 0 nm2).block o = none := by
    intro hbk
    obtain ⟨_, _, _, _, h5⟩ := hwa
    rcases h5 with ⟨_, h6⟩ | ⟨_, c, _, _, _, h9, _⟩
    · exact absurd h6 hbk
    · exact h9 rfl
  let l0 : Loc := ⟨0, 0, none⟩
  have hap : Apnd K w (w.drew.freeze ⟨(ρ 0 nm2).block, 0, none⟩ l.length) (ρ 0 nm2) l0 := by
    refine ⟨Nat.le_of_eq r4.symm, fun b _ hne => ?_, ⟨r1, r2, r3⟩, fun e => absurd rfl e⟩
    exact freeze_other w.drew _ _ _ (hne (by rw [hbase]; simp))
  obtain ⟨hI3, hbut⟩ := hh.renew (nm := nm2) (dst := nm2) ha (by rw [look_killH]; simp) hap Iff.rfl (ob' := .arr ty 1 0 [] true) Iff.rfl hKo (fun ρ' sh' => ⟨by simp, rfl, Nat.le_refl _, by simp [l0], .inl ⟨rfl, rfl⟩⟩)
  refine hnext _ _ K (upd ρ nm2 l0) ?_
  · rw [ht]
    refine ⟨hI3, hi.defers, by simp [Act.put]; exact hi.size, fun t' d' e' => ?_⟩
    rw [tmps_put (by rw [hi.size]; exact hn)]
    simp only [look_cons] at e'
    split at e'
    · rename_i e2
      simp only [Option.some.injEq] at e'
      subst e'
      rw [if_pos e2]
      exact .i (.v rfl)
    · rename_i e2
      rw [if_neg e2]
      rw [look_killσ] at e'
      cases hls : look s.σ t' with
      | none => simp [hls] at e'
      | some d0 =>
        simp only [hls, Option.map_some, Option.some.injEq] at e'
        subst e'
        have hr := hi.slots _ _ hls
        rw [hS] at hr
        exact hr.kill hbut
end
end Go.AI


/- slices.Delete of a list of boxes: one element goes, in place. -/
namespace Go.AI
open Go.Proofs
open Go.Shelf Go.RowKit Go.Lib Go.Sort
theorem run_clear_one {P : Program} (w : World) (t e ty : TypeId) (z : Value) (ht : P.underlying t = some (.slice e)) (hv : ∀ w, (zeroValue e).run P w = .ok z w) (h1 : ∀ u ∈ z.cells.toList, u.oneCell' = true) (hz0 : 0 < z.cells.size) (b o c : Nat)
    (hc : ∀ j, j < z.cells.size → (w.cell? ⟨b, o + j, none⟩).isSome = true) (hf : ∀ j, j < z.cells.size → w.frozen? ⟨b, o + j, none⟩ = false) :
    (Builtin.clear_ #[t] ty #[.slice (some ⟨b, o, none⟩) 1 c]).run P w = .ok (.tuple #[]) (w.setCells b o z.cells.toList) := by
  have hzc : (Builtin.zeroCells z.cells 1).toList = z.cells.toList := by
    simp [Builtin.zeroCells]
    apply List.ext_getElem
    · simp
    · intro i h1 h2
      simp only [Array.length_toList] at h2
      simp [Nat.mod_eq_of_lt h2, h2]
  have hst := run_storeCells_cells (P := P) b o z.cells.toList 0 w (by simpa using hc) (by simpa using hf) h1
  simp only [Nat.add_zero] at hst
  simp [Builtin.clear_, run_underlying ht, hv, hzc, hst]
set_option maxRecDepth 100000 in
theorem info55 : ∃ i0 : TypeInfo, Tryd.prog.info? 55 = some i0 ∧ i0.size = 2 := ⟨_, Tryd.type55, rfl⟩
set_option maxHeartbeats 4000000 in
set_option maxRecDepth 1000000 in
theorem del168 (g cap n i : Nat) (cur : Array Value) (w : World) (hg : w.heap[g]? = some (.cells cur 55 (0, 0))) (hsz : cur.size = cap * 2) (h1c : ∀ u ∈ cur.toList.take (n * 2), u.oneCell' = true) (hn : n ≤ cap) (hm : cap ≤ 9223372036854775807) (hi : i < n) :
    Calls Tryd.prog 168 #[.slice (some ⟨g, 0, none⟩) n cap, .int .i64 i, .int .i64 ((i + 1 : Nat) : Int)] w fun e w' => e = .returned (.slice (some ⟨g, 0, none⟩) (n - 1) cap) ∧
      ∃ q, w' = ((w.drewN q).setCells g (i * 2) ((cur.toList.take (n * 2)).drop ((i + 1) * 2))).setCells g ((n - 1) * 2) [.slice none 0 0, .slice none 0 0] := by
  obtain ⟨i0, hi0, hz1⟩ := info55
  have mixed : Tryd.prog.follows Departure.mixedOrders = true := mixedT
  have u31 := run_underlying Tryd.underlying31
  have u3 := run_underlying Tryd.underlying3
  have u4 := run_underlying Tryd.underlying4
  obtain ⟨news, hnews⟩ : ∃ news, news = (cur.toList.take (n * 2)).drop ((i + 1) * 2) := ⟨_, rfl⟩
  have hlen : news.length = (n - (i + 1)) * 2 := by rw [hnews]; simp; omega
  have hcell : ∀ k, k < cap * 2 → ∃ u, cur[k]? = some u := fun k hk => ⟨cur[k]'(by omega), Array.getElem?_eq_getElem (by omega)⟩
  have hwc : ∀ k, w.cell? ⟨g, k, none⟩ = cur[k]? := fun k => by rw [cell_of_heap hg]
  have hwf : ∀ k, w.frozen? ⟨g, k, none⟩ = false := fun k => by simp [World.frozen?, hg]
  obtain ⟨A, hA, hsrc⟩ : ∃ A : Addr, (if cap = i + 1 then some (⟨g, 0, none⟩ : Addr) else some ⟨g, (i + 1) * 2, none⟩) = some A ∧ Hid (∀ t u, news[t]? = some u → w.drew.cell? (A.add t) = some u) := by
    by_cases h : cap = i + 1
    · refine ⟨⟨g, 0, none⟩, by simp [h], fun t u hu => ?_⟩
      have h0 : news.length = 0 := by rw [hlen]; omega
      rw [List.length_eq_zero_iff.1 h0] at hu
      simp at hu
    · refine ⟨⟨g, (i + 1) * 2, none⟩, by simp [h], fun t u hu => ?_⟩
      have ht : t < (n - (i + 1)) * 2 := by
        have := (List.getElem?_eq_some_iff.1 hu).1
        rwa [hlen] at this
      rw [hnews, List.getElem?_drop, List.getElem?_take, if_pos (by omega), Array.getElem?_toList] at hu
      rw [Addr.add_lit]
      show w.cell? _ = _
      rw [hwc]
      exact hu
  have s1 : Hid (news.length = (n - (i + 1)) * 2) := hlen
  have s2 : Hid (∀ u ∈ news, u.oneCell' = true) := fun u hu => h1c u (by rw [hnews] at hu; exact List.mem_of_mem_drop hu)
  have s3 : Hid (∀ t, t < news.length → (w.drew.cell? ⟨g, 0 + i * 2 + t, none⟩).isSome = true ∧ w.drew.frozen? ⟨g, 0 + i * 2 + t, none⟩ = false) := by
    intro t ht
    rw [hlen] at ht
    refine ⟨?_, hwf _⟩
    show (w.cell? _).isSome = true
    rw [hwc]
    obtain ⟨u, hu⟩ := hcell (0 + i * 2 + t) (by omega)
    rw [hu]; rfl
  obtain ⟨W1, hW1⟩ : ∃ W1, W1 = w.drew.setCells g (0 + i * 2) news := ⟨_, rfl⟩
  have hgd : w.drew.heap[g]? = some (.cells cur 55 (0, 0)) := hg
  have hW1' : W1.heap[g]? = some (.cells (over cur (0 + i * 2) news) 55 (0, 0)) := by rw [hW1]; exact (setCells_heap news (0 + i * 2) w.drew cur 55 (0, 0) hgd).1
  have hcl : ∀ ty, (Builtin.clear_ #[31] ty #[.slice (some ⟨g, (i + (n - (i + 1))) * 2, none⟩) (n - (i + (n - (i + 1)))) (cap - (i + (n - (i + 1))))]).run Tryd.prog W1 = .ok (.tuple #[]) (W1.setCells g ((n - 1) * 2) [.slice none 0 0, .slice none 0 0]) := fun ty => by
    rw [show n - (i + (n - (i + 1))) = 1 by omega, show (i + (n - (i + 1))) * 2 = (n - 1) * 2 by omega]
    refine run_clear_one W1 31 55 ty (.agg #[.slice none 0 0, .slice none 0 0]) Tryd.underlying31 Tryd.zeroValue55 (by simp [Value.cells, Value.oneCell']) (by simp [Value.cells]) g ((n - 1) * 2) _ (fun j hj => ?_) (fun j hj => by simp [World.frozen?, hW1'])
    have hj : j < 2 := by simpa [Value.cells] using hj
    rw [cell_of_heap hW1', Array.getElem?_eq_getElem (by rw [over_size]; omega)]
    rfl
  have hW : Hid (W1 = w.drew.setCells g (0 + i * 2) news) := hW1
  have hic : i ≤ cap := by omega
  have hb0 : 0 ≤ (i : Int) + 1 ∧ (i : Int) + 1 ≤ (n : Int) := by omega
  have hb1 : (0 : Int) ≤ (i : Int) + 1 := hb0.1
  have hb2 : (i : Int) + 1 ≤ (n : Int) := hb0.2
  have hjc : i + 1 ≤ cap := by omega
  have hX : Hid (((w.drewN 1).setCells g (i * 2) ((cur.toList.take (n * 2)).drop ((i + 1) * 2))) = W1) := by
    rw [hW1, Nat.zero_add, hnews]; rfl
  clear hW1 hW1' hnews hlen hcell hwc hwf hgd hg h1c hsz
  go_enter Tryd.func168, Tryd.ntmps168
  go_wp2_with fail
  go_region_law_o (refine step_append_room rfl (.tmp 22) (.tmp 25) 31 rfl 55 i0 2 Tryd.underlying31 hi0 hz1 g 0 i cap (by simp [Act.eval, Act.put]) A (n - (i + 1)) (cap - (i + 1)) news (by simp [Act.eval, Act.put]) s1.out hsrc.out s2.out (by omega) s3.out ?_; rw [← hW.out])
  go_wp2
  go_ret
  refine ⟨by rw [show n - 1 = i + (n - (i + 1)) by omega]; rfl, 1, ?_⟩
  rw [hX.out]

theorem rep_ii {K : Kn} {ρ : Nat → Nat → Loc} {sh : Nat → Nat → Option Sh} {v : Value} {n : Int} (h : RepD K ρ sh v (ii n)) : v = .int .i64 n := inv_v h
set_option maxHeartbeats 1000000 in
theorem does_delete {c : Cx} (hP : c.P = Tryd.prog) {s : St} {o : Oper} {t nm n i : Nat} {xs : List (List I)} {H : Heap} {O : List Heap} (hi : i < n) (ht : o.dst = some t) (hn : t < s.n) (hS : s.S = H :: O) (ha : look H nm = some (.arr 55 2 n xs true)) :
    Wp c o s 168 [.osl 0 nm, ii i, ii ((i + 1 : Nat) : Int)] { σ := (t, .osl 0 nm) :: killσ nm s.σ, S := ((nm, .arr 55 2 (n - 1) (xs.eraseIdx i) true) :: killH nm H) :: O, n := s.n } := by
  intro K ρ a w hinv ⟨vs, hrun, hrep⟩ next Qe hnext
  have hh := hinv.h
  rw [hS] at hh hrep
  have hoa : objAt (H :: O) 0 nm = some (.arr 55 2 n xs true) := by simpa [objAt] using ha
  have e0 : (fun d n => ρ (0 + d) n) = ρ := by funext d n; rw [Nat.zero_add]
  have s0 : ∀ S : List Heap, shape (S.drop 0) = shape S := fun S => by rw [List.drop_zero]
  have hwa := hh.own _ _ _ hoa
  rw [e0, s0] at hwa
  have hsha : shape (H :: O) 0 nm = some (.arr 2 n) := by simp [shape, hoa, Ob.sh]
  obtain ⟨rfl⟩ : vs = [.slice (ρ 0 nm).base n (ρ 0 nm).cap, .int .i64 i, .int .i64 ((i + 1 : Nat) : Int)] := by
    cases hrep with
    | cons h1 h2 => cases h2 with
      | cons h3 h4 => cases h4 with
        | cons h5 h6 => cases h6; rw [inv_osl h1 hsha, rep_ii h3, rep_ii h5]
  obtain ⟨h1, h2, h3, h4, h5⟩ := hwa
  rcases h5 with ⟨h5, _⟩ | ⟨h5, cur, h6, h7, h8, h9, h10, h11⟩
  · omega
  rw [h5, hP] at hrun
  have hent : (callFunc 168 #[.slice (some ⟨(ρ 0 nm).block, 0, none⟩) n (ρ 0 nm).cap, .int .i64 i, .int .i64 ((i + 1 : Nat) : Int)]).run Tryd.prog w = .ok (.enter 168 #[.slice (some ⟨(ρ 0 nm).block, 0, none⟩) n (ρ 0 nm).cap, .int .i64 i, .int .i64 ((i + 1 : Nat) : Int)]) w := Tryd.call168 _ _
  simp only [Oper.wp, hP, hrun, hent, Oper.upon]
  have h4' : (ρ 0 nm).cap ≤ 9223372036854775807 := h4
  refine (del168 (ρ 0 nm).block (ρ 0 nm).cap n i cur w h6 h7 (fun u hu => h8.one u hu) h3 h4' hi).mono ?_
  rintro e w' ⟨rfl, q, rfl⟩
  generalize hnews : (cur.toList.take (n * 2)).drop ((i + 1) * 2) = news
  have hnl : news.length = (n - (i + 1)) * 2 := by rw [← hnews]; simp; omega
  have hgd : (w.drewN q).heap[(ρ 0 nm).block]? = some (.cells cur 55 (0, 0)) := h6
  obtain ⟨a1, a2, a3, a4, a5, a6⟩ := setCells_heap news (i * 2) (w.drewN q) cur 55 (0, 0) hgd
  obtain ⟨b1, b2, b3, b4, b5, b6⟩ := setCells_heap [.slice none 0 0, .slice none 0 0] ((n - 1) * 2) ((w.drewN q).setCells (ρ 0 nm).block (i * 2) news) _ 55 (0, 0) a1
  have hap : Apnd K w (((w.drewN q).setCells (ρ 0 nm).block (i * 2) news).setCells (ρ 0 nm).block ((n - 1) * 2) [.slice none 0 0, .slice none 0 0]) (ρ 0 nm) (ρ 0 nm) := by
    refine ⟨Nat.le_of_eq (b3.trans a3).symm, fun b _ hne => ?_, ⟨b4.trans a4, b5.trans a5, b6.trans a6⟩, fun e => .inr ⟨e, rfl⟩⟩
    have hb : b ≠ (ρ 0 nm).block := hne (by rw [h5]; simp)
    exact (b2 b hb).trans (a2 b hb)
  have hlen : (xs.eraseIdx i).length = n - 1 := by rw [List.length_eraseIdx, if_pos (by omega), h2]
  have hrow : RepL K ((over (over cur (i * 2) news) ((n - 1) * 2) [Value.slice none 0 0, .slice none 0 0]).toList.take ((n - 1) * 2)) (xs.eraseIdx i).flatten := by
    have e1 : (over (over cur (i * 2) news) ((n - 1) * 2) [Value.slice none 0 0, .slice none 0 0]).toList.take ((n - 1) * 2) = (cur.toList.take (n * 2)).take (i * 2) ++ news := by
      apply List.ext_getElem?
      intro j
      have hsz1 : (over cur (i * 2) news).size = cur.size := over_size _ _ _
      rw [List.getElem?_take, List.getElem?_append, List.length_take, List.length_take, Array.length_toList, show min (i * 2) (min (n * 2) cur.size) = i * 2 by omega]
      by_cases hj : j < (n - 1) * 2
      · rw [if_pos hj, Array.getElem?_toList, over_get _ _ _ _ (by rw [hsz1]; simp; omega), if_neg (by simp; omega), over_get _ _ _ _ (by rw [hnl]; omega)]
        by_cases hj2 : j < i * 2
        · rw [if_neg (by omega), if_pos hj2, List.getElem?_take, if_pos hj2, List.getElem?_take, if_pos (by omega), Array.getElem?_toList]
        · rw [if_pos (by omega), if_neg hj2]
      · rw [if_neg hj, if_neg (by omega), List.getElem?_eq_none (by omega)]
    rw [e1, List.eraseIdx_eq_take_drop_succ, List.flatten_append]
    refine RepL.append ?_ ?_
    · rw [← flat_take i h1 (by omega)]
      exact h8.take _
    · rw [← flat_drop (i + 1) h1 (by omega), ← hnews]
      exact h8.drop _
  have hown : ∀ (ρ' : Nat → Nat → Loc) (sh' : Nat → Nat → Option Sh), OwnAt K ρ' sh' (((w.drewN q).setCells (ρ 0 nm).block (i * 2) news).setCells (ρ 0 nm).block ((n - 1) * 2) [.slice none 0 0, .slice none 0 0]) (ρ 0 nm) (.arr 55 2 (n - 1) (xs.eraseIdx i) true) := fun ρ' sh' =>
    ⟨fun d hd => h1 d (List.mem_of_mem_eraseIdx hd), hlen, by omega, h4, .inr ⟨h5, _, b1, by rw [over_size, over_size, h7], hrow, fun _ => h9 rfl, fun o ho => h9 rfl o, fun e => by cases e⟩⟩
  obtain ⟨hI3, hbut⟩ := hh.renew (nm := nm) (dst := nm) ha (by rw [look_killH]; simp) hap Iff.rfl (ob' := .arr 55 2 (n - 1) (xs.eraseIdx i) true) Iff.rfl (fun _ => h9 rfl) hown
  have hsh3 : shape (((nm, Ob.arr 55 2 (n - 1) (xs.eraseIdx i) true) :: killH nm H) :: O) 0 nm = some (.arr 2 (n - 1)) := by simp [shape, objAt, look_cons, Ob.sh]
  refine hnext _ _ K (upd ρ nm (ρ 0 nm)) ?_
  rw [ht]
  refine ⟨hI3, hinv.defers, by simp [Act.put]; exact hinv.size, fun t' d' e' => ?_⟩
  rw [tmps_put (by rw [hinv.size]; exact hn)]
  simp only [look_cons] at e'
  split at e'
  · rename_i e2
    simp only [Option.some.injEq] at e'
    subst e'
    rw [if_pos e2]
    have g2 := RepD.osl (K := K) (ρ := upd ρ nm (ρ 0 nm)) hsh3
    rw [upd_same, h5] at g2
    exact g2
  · rename_i e2
    rw [if_neg e2]
    rw [look_killσ] at e'
    cases hls : look s.σ t' with
    | none => simp [hls] at e'
    | some d0 =>
      simp only [hls, Option.map_some, Option.some.injEq] at e'
      subst e'
      have hr := hinv.slots _ _ hls
      rw [hS] at hr
      exact hr.kill hbut
end Go.AI


/- A region whose order is drawn, with a late operation: behind a prefix an old operation, one that may come ahead of it, and a last one. -/
namespace Go.AI
def noPl : Pl := ⟨[], [], none⟩
def okL (ops : Array Oper) (ps : List Pl) (p6 : Pl) (x0 x : SH) : Bool :=
  let pre := presGo ops.toList []
  let ps' := ps ++ [noPl, p6]
  preOk ops pre && okGo ops pre ps' x0 ops.toList ps 0 x0 && Nat.beq ops.size (ps.length + 3) && (match ops[ps.length + 1]? with
    | some o => okI ops pre ps' x0 (ps.length + 1) o x p6
    | none => false) && allN ps.length (fun k => memN (getL pre ps.length) k) && allN (ps.length + 2) (fun k => memN (getL pre (ps.length + 2)) k)
theorem rch_late {c : Cx} (hm : c.P.follows .mixedOrders = true) {id : Nat} {ops : Array Oper} {O : List Heap} {n : Nat} {x0 : SH} {ps : List Pl} {p6 : Pl} {o6 : Oper} {k : List Item} (hok : okL ops ps p6 x0 (foldP ps x0) = true) (hch : ChainS c ops O n ops.toList ps x0)
    (ho6 : ops[ps.length + 1]? = some o6) (hs6 : StepOK c ops O n o6 (viewOf ops o6 (foldP ps x0)) p6)
    (hA : RG c ops [ps.length, ps.length + 1, ps.length + 2] (St.of O n (foldP ps x0)) (Rch c k)) (hB : RG c ops [ps.length, ps.length + 2] (St.of O n (p6.ap (foldP ps x0))) (Rch c k)) : Rch c (.code (.region id ops true) :: k) (St.of O n x0) := by
  simp only [okL, ho6, Bool.and_eq_true] at hok
  obtain ⟨⟨⟨⟨⟨hpre, hgo⟩, hsize⟩, hok6⟩, hdm⟩, hde⟩ := hok
  have hsize := Nat.eq_of_beq_eq_true hsize
  obtain ⟨hlen, hget⟩ := okGo_get hgo
  generalize hps' : ps ++ [noPl, p6] = ps' at *
  have hpl' : ps'.length = ps.length + 2 := by rw [← hps']; simp
  have hplt : ∀ i (h : i < ps.length), pl ps' i = ps[i] := fun i h => by
    unfold pl
    rw [← hps', List.getElem?_append_left h, List.getElem?_eq_getElem h]
  have hple : pl ps' (ps.length + 1) = p6 := by
    unfold pl
    rw [← hps', List.getElem?_append_right (by omega), show ps.length + 1 - ps.length = 1 by omega]
    rfl
  have hfold : ∀ i, i ≤ ps.length → fold ps' (List.range i) x0 = foldP (ps.take i) x0 := fun i h => by
    rw [fold_range i (by omega), ← hps', List.take_append_of_le_length h]
  have hfm : fold ps' (List.range ps.length) x0 = foldP ps x0 := by rw [hfold _ (Nat.le_refl _), List.take_of_length_le (Nat.le_refl _)]
  have hfe : fold ps' (List.range (ps.length + 1)) x0 = foldP ps x0 := by
    rw [List.range_succ, fold_append, hfm]
    have : pl ps' ps.length = noPl := by
      unfold pl
      rw [← hps', List.getElem?_append_right (by omega), Nat.sub_self]
      rfl
    simp only [fold, List.foldl_cons, List.foldl_nil, this]
    rfl
  intro K ρ a w b cs hi hb hk
  let Q : Exit → Act → World → Prop := fun e a' w' => e = .normal ∧ ∃ s' K ρ, Inv c.E K ρ s' a' w' ∧ Rch c k s'
  have hgetD : ∀ (listed : Array Bool) (i : Nat), listed.size = ops.size → i < ops.size → ∀ k, (listed.setIfInBounds i true).getD k false = (listed.getD k false || Nat.beq k i) := by
    intro listed i hsz hlt k
    by_cases hki : k = i
    · subst hki
      simp [hsz, hlt]
    · have : Nat.beq k i = false := by
        cases hb : Nat.beq k i with
        | false => rfl
        | true => exact absurd (Nat.eq_of_beq_eq_true hb) hki
      rw [this, Bool.or_false, getD_set_ne false (Ne.symm hki)]
  have hcntlt : ∀ (listed : Array Bool) (i : Nat), listed.size = ops.size → i < ops.size → listed.getD i false = false → (List.range ops.size).countP (fun k => !(listed.setIfInBounds i true).getD k false) < (List.range ops.size).countP (fun k => !listed.getD k false) := by
    intro listed i hsz hlt hLi
    have e1 : (fun k => !(listed.setIfInBounds i true).getD k false) = fun k => !listed.getD k false && !Nat.beq k i := by
      funext k; rw [hgetD listed i hsz hlt]; simp
    rw [e1]
    obtain ⟨l1, l2, hl⟩ := List.append_of_mem (List.mem_range.2 hlt)
    rw [hl]
    simp only [List.countP_append, List.countP_cons]
    have m1 : l1.countP (fun k => !listed.getD k false && !Nat.beq k i) ≤ l1.countP (fun k => !listed.getD k false) := List.countP_mono_left fun x _ hx => by simp only [Bool.and_eq_true] at hx; exact hx.1
    have m2 : l2.countP (fun k => !listed.getD k false && !Nat.beq k i) ≤ l2.countP (fun k => !listed.getD k false) := List.countP_mono_left fun x _ hx => by simp only [Bool.and_eq_true] at hx; exact hx.1
    have e2 : (!listed.getD i false) = true := by rw [hLi]; rfl
    have e3 : Nat.beq i i = true := Nat.beq_refl i
    rw [if_pos e2, if_neg (by rw [e3]; simp)]
    omega
  have hready : ∀ (listed : Array Bool), listed.size = ops.size → ∀ i, i < ops.size → listed.getD i false = false → (∀ o, ops[i]? = some o → ∀ j ∈ befores o, listed.getD j false = true) → i ∈ Region.ready .any ops listed := by
    intro listed hsz i hlt hLi hbe
    rw [mem_ready]
    obtain ⟨o, ho⟩ : ∃ o, ops[i]? = some o := ⟨ops[i], by rw [Array.getElem?_eq_getElem]⟩
    refine ⟨?_, o, ho, fun e he hb1 => hbe o ho e.on (mem_befores.2 ⟨e, he, hb1, rfl⟩)⟩
    simp only [Array.getD_eq_getD_getElem?] at hLi ⊢
    rw [Array.getElem?_eq_getElem (by omega)] at hLi ⊢
    simpa using hLi
  have hfromReady : ∀ (listed : Array Bool), listed.size = ops.size → ∀ i ∈ Region.ready .any ops listed, ∃ o, ops[i]? = some o ∧ i < ops.size ∧ listed.getD i false = false ∧ ∀ j ∈ befores o, listed.getD j false = true := by
    intro listed hsz i hi
    obtain ⟨h1, o, ho, hbe⟩ := mem_ready.1 hi
    have hlt : i < ops.size := (Array.getElem?_eq_some_iff.1 ho).1
    refine ⟨o, ho, hlt, ?_, fun j hj => ?_⟩
    · simp only [Array.getD_eq_getD_getElem?] at h1 ⊢
      rw [Array.getElem?_eq_getElem (by omega)] at h1 ⊢
      simpa using h1
    · obtain ⟨e, he, hb1, rfl⟩ := mem_befores.1 hj
      exact hbe e he hb1
  have hclose : ∀ (listed : Array Bool) (i : Nat) (o : Oper), listed.size = ops.size → ops[i]? = some o → i < ops.size → (∀ j ∈ befores o, listed.getD j false = true) → Closed ops (fun k => listed.getD k false) → Closed ops (fun k => (listed.setIfInBounds i true).getD k false) := by
    intro listed i o hsz ho hlt hbef hc k ok hok2 hk2 j hj
    have hk2 : (listed.setIfInBounds i true).getD k false = true := hk2
    show (listed.setIfInBounds i true).getD j false = true
    rw [hgetD listed i hsz hlt] at hk2 ⊢
    simp only [Bool.or_eq_true] at hk2
    rcases hk2 with hk2 | hk2
    · have hcj : listed.getD j false = true := hc k ok hok2 hk2 j hj
      rw [hcj]; rfl
    · have := Nat.eq_of_beq_eq_true hk2
      subst this
      rw [ho] at hok2
      simp only [Option.some.injEq] at hok2
      subst hok2
      rw [hbef j hj]; rfl
  have hdepM : ∀ (listed : Array Bool) (o : Oper), ops[ps.length]? = some o → Closed ops (fun k => listed.getD k false) → (∀ j ∈ befores o, listed.getD j false = true) → ∀ j, j < ps.length → listed.getD j false = true := by
    intro listed o ho hc hbef j hj
    exact (pre_down hpre hc (ps.length + 1) ps.length o (by omega) ho hbef j (memN_iff.1 (allN_iff hdm j hj))).1
  have hdepE : ∀ (listed : Array Bool) (i : Nat) (o : Oper), ops[i]? = some o → ps.length + 2 ≤ i → Closed ops (fun k => listed.getD k false) → (∀ j ∈ befores o, listed.getD j false = true) → ∀ j, j < i → listed.getD j false = true := by
    intro listed i o ho hge hc hbef j hj
    have hlt : i < ops.size := (Array.getElem?_eq_some_iff.1 ho).1
    have : i = ps.length + 2 := by omega
    subst this
    exact (pre_down hpre hc (ps.length + 2 + 1) (ps.length + 2) o (by omega) ho hbef j (memN_iff.1 (allN_iff hde j hj))).1
  -- the tail
  have tail : ∀ (fuel m : Nat) (listed : Array Bool) (a : Act) (w : World), listed.size = ops.size → ps.length + 1 ≤ m → m ≤ ops.size → ops.size - m ≤ fuel → (∀ j, j < ops.size → listed.getD j false = Nat.ble (j + 1) m) → Closed ops (fun k => listed.getD k false) →
      wpOps c.P ops Q (List.range' m (ops.size - m)) a w → wpAny c.P .any ops Q fuel listed a w := by
    intro fuel
    induction fuel with
    | zero =>
      intro m listed a w hsz hm1 hm2 hf hl hc hw
      have : ops.size - m = 0 := by omega
      rw [this] at hw
      refine ⟨?_, hw⟩
      cases hr : Region.ready .any ops listed with
      | nil => rfl
      | cons i r =>
        obtain ⟨o, ho, hlt, hLi, _⟩ := hfromReady listed hsz i (by rw [hr]; simp)
        rw [hl i hlt, Nat.ble_eq_true_of_le (by omega)] at hLi
        cases hLi
    | succ fuel ih =>
      intro m listed a w hsz hm1 hm2 hf hl hc hw
      refine ⟨fun hr => ?_, fun i hi => ?_⟩
      · by_cases hms : m = ops.size
        · have : ops.size - m = 0 := by omega
          rw [this] at hw
          exact hw
        · exfalso
          have hmlt : m < ops.size := by omega
          have : m ∈ Region.ready .any ops listed := by
            refine hready listed hsz m hmlt ?_ fun o ho j hj => ?_
            · rw [hl m hmlt]
              cases hb : Nat.ble (m + 1) m with
              | false => rfl
              | true => have := Nat.le_of_ble_eq_true hb; omega
            · have hjm := (pre_lt hpre m o ho).1 j hj
              rw [hl j (by omega)]
              exact Nat.ble_eq_true_of_le hjm
          rw [hr] at this; cases this
      · obtain ⟨o, ho, hlt, hLi, hbef⟩ := hfromReady listed hsz i hi
        have him : m ≤ i := by
          rw [hl i hlt] at hLi
          apply Nat.le_of_not_lt
          intro h
          rw [Nat.ble_eq_true_of_le h] at hLi; cases hLi
        have : i = m := by
          apply Classical.byContradiction
          intro hne
          have := hdepE listed i o ho (by omega) hc hbef m (by omega)
          rw [hl m (by omega)] at this
          have := Nat.le_of_ble_eq_true this
          omega
        subst this
        rw [show ops.size - i = (ops.size - (i + 1)) + 1 by omega, List.range'_succ, wpOps_cons] at hw
        refine wpOp_mono (fun a w h => ?_) hw
        refine ih (i + 1) _ a w (by simpa using hsz) (by omega) (by omega) (by omega) (fun j hj => ?_) (hclose listed i o hsz ho hlt hbef hc) h
        rw [hgetD listed i hsz hlt, hl j hj]
        by_cases hji : j = i
        · subst hji
          rw [Nat.beq_refl, Bool.or_true]
          exact (Nat.ble_eq_true_of_le (Nat.le_refl _)).symm
        · have hbn : Nat.beq j i = false := by
            cases hb : Nat.beq j i with
            | false => rfl
            | true => exact absurd (Nat.eq_of_beq_eq_true hb) hji
          rw [hbn, Bool.or_false]
          by_cases hji2 : j + 1 ≤ i
          · rw [Nat.ble_eq_true_of_le hji2, Nat.ble_eq_true_of_le (by omega)]
          · have e1 : Nat.ble (j + 1) i = false := by
              cases hb : Nat.ble (j + 1) i with
              | false => rfl
              | true => exact absurd (Nat.le_of_ble_eq_true hb) hji2
            have e2 : Nat.ble (j + 1) (i + 1) = false := by
              cases hb : Nat.ble (j + 1) (i + 1) with
              | false => rfl
              | true => have := Nat.le_of_ble_eq_true hb; omega
            rw [e1, e2]
  have key : ∀ (fuel : Nat) (listed : Array Bool) (a : Act) (w : World), listed.size = ops.size → (List.range ops.size).countP (fun k => !listed.getD k false) ≤ fuel → Closed ops (fun k => listed.getD k false) →
      listed.getD ps.length false = false → listed.getD (ps.length + 2) false = false → (∃ K ρ, Inv c.E K ρ (St.of O n (fold ps' (ord ops.size fun k => listed.getD k false) x0)) a w) → wpAny c.P .any ops Q fuel listed a w := by
    intro fuel
    induction fuel with
    | zero =>
      intro listed a w hsz hcnt hc hno hno2 hinv
      have h0 := List.countP_eq_zero.1 (Nat.le_zero.1 hcnt)
      have := h0 ps.length (List.mem_range.2 (by omega))
      rw [hno] at this
      exact absurd rfl this
    | succ fuel ih =>
      intro listed a w hsz hcnt hc hno hno2 hinv
      obtain ⟨K, ρ, hinv⟩ := hinv
      refine ⟨fun hr => ?_, fun i hi => ?_⟩
      · exfalso
        have : ∀ m i, i < m → i < ops.size → listed.getD i false = true := by
          intro m
          induction m with
          | zero => intro i h; omega
          | succ m ih =>
            intro i hi1 hi2
            cases hcc : listed.getD i false with
            | true => rfl
            | false =>
              exfalso
              have : i ∈ Region.ready .any ops listed := hready listed hsz i hi2 hcc fun o ho k hk => by
                have := (pre_lt hpre i o ho).1 k hk
                exact ih k (by omega) (by omega)
              rw [hr] at this; cases this
        rw [this (ps.length + 1) ps.length (by omega) (by omega)] at hno
        cases hno
      · obtain ⟨o, ho, hlt, hLi, hbef⟩ := hfromReady listed hsz i hi
        have hset : ∀ j, j < ops.size → (listed.setIfInBounds i true).getD j false = (listed.getD j false || Nat.beq j i) := fun j _ => hgetD listed i hsz hlt j
        have hbne : ∀ a b : Nat, a ≠ b → Nat.beq a b = false := fun a b h => by
          cases hb : Nat.beq a b with
          | false => rfl
          | true => exact absurd (Nat.eq_of_beq_eq_true hb) h
        have hbf : ∀ a b : Nat, ¬ a ≤ b → Nat.ble a b = false := fun a b h => by
          cases hb : Nat.ble a b with
          | false => rfl
          | true => exact absurd (Nat.le_of_ble_eq_true hb) h
        by_cases him : i = ps.length
        · subst him
          have hall := hdepM listed o ho hc hbef
          cases he : listed.getD (ps.length + 1) false with
          | false =>
            have e : ord ops.size (fun k => listed.getD k false) = List.range ps.length := by
              rw [← ord_range (n := ops.size) (by omega)]
              refine ord_congr fun k hk => ?_
              by_cases h1 : k < ps.length
              · rw [hall k h1, Nat.ble_eq_true_of_le h1]
              · rw [hbf _ _ (by omega)]
                have : k = ps.length ∨ k = ps.length + 1 ∨ k = ps.length + 2 := by omega
                rcases this with rfl | rfl | rfl <;> assumption
            rw [e, hfm] at hinv
            have hw := hA K ρ a w hinv
            rw [wpOps_cons] at hw
            refine wpOp_mono (fun a w h => ?_) hw
            refine tail fuel (ps.length + 1) _ a w (by simpa using hsz) (Nat.le_refl _) (by omega) ?_ (fun j hj => ?_) (hclose listed ps.length o hsz ho hlt hbef hc) ?_
            · have h1 := hcntlt listed ps.length hsz hlt hno
              have h2 : ops.size - (ps.length + 1) = 2 := by omega
              have h3 : 3 ≤ (List.range ops.size).countP (fun k => !listed.getD k false) := by
                rw [hsize, show ps.length + 3 = ps.length + 2 + 1 by omega, List.range_succ, List.range_succ, List.range_succ]
                simp only [List.countP_append, List.countP_cons, List.countP_nil, hno, hno2, he]
                simp
              omega
            · rw [hset j hj]
              by_cases h1 : j < ps.length
              · rw [hall j h1, Nat.ble_eq_true_of_le (by omega)]; rfl
              · by_cases h2 : j = ps.length
                · subst h2
                  rw [Nat.beq_refl, Bool.or_true, Nat.ble_eq_true_of_le (Nat.le_refl _)]
                · rw [hbne _ _ h2, Bool.or_false, hbf _ _ (by omega)]
                  have : j = ps.length + 1 ∨ j = ps.length + 2 := by omega
                  rcases this with rfl | rfl <;> assumption
            · rw [show ops.size - (ps.length + 1) = 2 by omega]
              exact h
          | true =>
            have e : ord ops.size (fun k => listed.getD k false) = List.range ps.length ++ [ps.length + 1] := by
              unfold ord
              rw [hsize, show ps.length + 3 = ps.length + 2 + 1 by omega, List.range_succ, List.range_succ, List.range_succ, List.filter_append, List.filter_append, List.filter_append]
              have h1 : (List.range ps.length).filter (fun k => listed.getD k false) = List.range ps.length := by
                rw [List.filter_eq_self]
                intro k hk
                exact hall k (List.mem_range.1 hk)
              rw [h1]
              simp only [List.filter_cons, List.filter_nil, hno, hno2, he]
              simp
            have e2 : fold ps' (List.range ps.length ++ [ps.length + 1]) x0 = p6.ap (foldP ps x0) := by
              rw [fold_append, hfm]
              simp only [fold, List.foldl_cons, List.foldl_nil, hple]
            rw [e, e2] at hinv
            have hw := hB K ρ a w hinv
            rw [wpOps_cons] at hw
            refine wpOp_mono (fun a w h => ?_) hw
            refine tail fuel (ps.length + 2) _ a w (by simpa using hsz) (by omega) (by omega) ?_ (fun j hj => ?_) (hclose listed ps.length o hsz ho hlt hbef hc) ?_
            · have h3 : 2 ≤ (List.range ops.size).countP (fun k => !listed.getD k false) := by
                rw [hsize, show ps.length + 3 = ps.length + 2 + 1 by omega, List.range_succ, List.range_succ, List.range_succ]
                simp only [List.countP_append, List.countP_cons, List.countP_nil, hno, hno2, he]
                simp
              omega
            · rw [hset j hj]
              by_cases h1 : j < ps.length
              · rw [hall j h1, Nat.ble_eq_true_of_le (by omega)]; rfl
              · by_cases h2 : j = ps.length
                · subst h2
                  rw [Nat.beq_refl, Bool.or_true, Nat.ble_eq_true_of_le (by omega)]
                · rw [hbne _ _ h2, Bool.or_false]
                  have : j = ps.length + 1 ∨ j = ps.length + 2 := by omega
                  rcases this with rfl | rfl
                  · rw [he, Nat.ble_eq_true_of_le (Nat.le_refl _)]
                  · rw [hno2, hbf _ _ (by omega)]
            · rw [show ops.size - (ps.length + 2) = 1 by omega]
              exact h
        · by_cases hie : i = ps.length + 2
          · subst hie
            have := hdepE listed _ o ho (Nat.le_refl _) hc hbef ps.length (by omega)
            rw [hno] at this; cases this
          · have hp : ∃ p, pl ps' i = p ∧ okI ops (presGo ops.toList []) ps' x0 i o (fold ps' (List.range i) x0) p = true ∧ StepOK c ops O n o (viewOf ops o (fold ps' (List.range i) x0)) p := by
              by_cases hil : i < ps.length
              · have hp : ps[i]? = some ps[i] := List.getElem?_eq_getElem hil
                have hok1 := hget i o _ (by simpa using ho) hp
                have hst := chain_get hch i o _ (by simpa using ho) hp
                rw [Nat.zero_add] at hok1
                rw [← hfold i (by omega)] at hok1 hst
                exact ⟨_, hplt i hil, hok1, hst⟩
              · have hi6 : i = ps.length + 1 := by omega
                subst hi6
                rw [ho6] at ho
                simp only [Option.some.injEq] at ho
                subst ho
                rw [hfe]
                exact ⟨_, hple, hok6, hs6⟩
            obtain ⟨p, hpl, hok1, hst⟩ := hp
            rw [← ord_range (n := ops.size) (by omega)] at hok1 hst
            rw [← hpl] at hok1 hst
            obtain ⟨hf, hy1, hy2⟩ := fits hpre ho hok1 rfl hc hLi hbef
            refine step_frame ho hst hf hy1 hy2 hinv fun a' w' K' ρ' hinv' => ?_
            refine ih _ _ _ (by simpa using hsz) ?_ (hclose listed i o hsz ho hlt hbef hc) ?_ ?_ ⟨K', ρ', ?_⟩
            · have := hcntlt listed i hsz hlt hLi
              omega
            · rw [hgetD listed i hsz hlt, hno, hbne _ _ (fun e => him e.symm)]; rfl
            · rw [hgetD listed i hsz hlt, hno2, hbne _ _ (fun e => hie e.symm)]; rfl
            · rw [ord_congr fun k _ => hgetD listed i hsz hlt k]
              exact hinv'
  have hrep : ∀ k, (Array.replicate ops.size false).getD k false = false := by
    intro k
    simp only [Array.getD_eq_getD_getElem?, Array.getElem?_replicate]
    split <;> rfl
  have h0 : ord ops.size (fun k => (Array.replicate ops.size false).getD k false) = [] := by
    unfold ord
    rw [List.filter_eq_nil_iff]
    intro k _
    rw [hrep]; simp
  obtain ⟨e, a', w', ⟨rfl, s', K', ρ', hi', hq⟩, harr⟩ := wp_region_any (id := id) hm (key ops.size _ a { w with drawn := w.drawn + 1 } (by simp) (by
    refine Nat.le_trans (List.countP_le_length ..) ?_
    simp) (fun i o _ h => by
      have h : (Array.replicate ops.size false).getD i false = true := h
      rw [hrep] at h
      cases h) (hrep _) (hrep _) ⟨K, ρ, by rw [h0]; exact inv_draw hi _⟩) b k cs
  obtain ⟨v, w'', fr, hp, hst, h3⟩ := hq K' ρ' a' w' b cs hi' hb hk
  exact ⟨v, w'', fr, hp, Steps.trans harr hst, h3⟩

def FDL (c : Cx) (ops : Array Oper) (O : List Heap) (n : Nat) (x0 : SH) (k : List Item) (x : SH) (ps : List Pl) : Prop :=
  ∃ p6 o6, ops[ps.length + 1]? = some o6 ∧ StepOK c ops O n o6 (viewOf ops o6 x) p6 ∧ okL ops ps p6 x0 x = true ∧ RG c ops [ps.length, ps.length + 1, ps.length + 2] (St.of O n x) (Rch c k) ∧ RG c ops [ps.length, ps.length + 2] (St.of O n (p6.ap x)) (Rch c k)
section
variable {c : Cx} {s : St} {k : List Item} {ops : Array Oper} {rest : List Nat} {o : Oper}
theorem chain_take {c : Cx} {ops : Array Oper} {O : List Heap} {n : Nat} : ∀ {m : Nat} {l : List Oper} {qs : List Pl} {x : SH}, ChainS c ops O n (l.take m) qs x → ChainS c ops O n l qs x
  | 0, l, [], x, _ => by cases l <;> trivial
  | 0, l, _ :: _, x, h => by
    rw [List.take_zero] at h
    exact h.elim
  | m + 1, [], qs, x, h => by simpa using h
  | m + 1, o :: r, [], x, _ => trivial
  | m + 1, o :: r, p :: qs, x, h => by
    rw [List.take_succ_cons] at h
    exact ⟨h.1, chain_take h.2⟩
theorem g_drawnL (hT : TOk c.P c.T) (hfn : c.P.funcs[c.f]? = some c.fn) (m : Nat) {id : Nat} {O : List Heap} (hm : c.P.follows .mixedOrders = true) {H : Heap} (hS : s.S = H :: O) (h : GE c ops O s.n (FDL c ops O s.n (s.σ, H) k) (runS c.T ops O s.n 0 (ops.toList.take m) (s.σ, H) [])) :
    GM c (.drawn id ops s k) := by
  obtain ⟨qs, h1, h2⟩ := runS_sound hT _ _ _ _ h.h
  rw [List.nil_append] at h2
  have hs : s = St.of O s.n (s.σ, H) := by
    cases s
    simp only at hS
    subst hS
    rfl
  refine ⟨?_⟩
  show Rch c (.code (.region id ops true) :: k) s
  rw [hs]
  obtain ⟨p6, o6, e1, e2, e3, e4, e5⟩ := h2
  exact rch_late hm e3 (chain_take h1) e1 e2 e4 e5
theorem e_late (hT : TOk c.P c.T) (hfn : c.P.funcs[c.f]? = some c.fn) {o6 : Oper} {O : List Heap} {n : Nat} {x : SH} {acc : List Pl} {x0 : SH} (p6 : Pl) (lA lB : List Nat) (h6 : ops[acc.length + 1]? = some o6)
    (hr : runS c.T ops O n (acc.length + 1) [o6] x acc = .done (p6.ap x) (acc ++ [p6])) (hok : okL ops acc p6 x0 x = true) (hlA : [acc.length, acc.length + 1, acc.length + 2] = lA) (hlB : [acc.length, acc.length + 2] = lB)
    (hA : GM c (forceX x fun x => run c.T c.stop 1000 (.inRegion ops lA :: k) (St.of O n x))) (hB : GM c (forceX (p6.ap x) fun x => run c.T c.stop 1000 (.inRegion ops lB :: k) (St.of O n x))) :
    GE c ops O n (FDL c ops O n x0 k) (.done x acc) := by
  subst hlA hlB
  refine ⟨?_⟩
  have hs : MEx c ops O n (fun _ ps' => ps' = acc ++ [p6]) (runS c.T ops O n (acc.length + 1) [o6] x acc) := by rw [hr]; rfl
  obtain ⟨qs, h1, h2⟩ := runS_sound hT _ _ _ _ hs
  have hq : qs = [p6] := by simpa using h2
  subst hq
  have hA := hA.h
  have hB := hB.h
  rw [forceX_eq] at hA hB
  exact ⟨p6, o6, h6, h1.1, hok, run_sound hT hfn 1000 _ _ hA, run_sound hT hfn 1000 _ _ hB⟩
end
end Go.AI


/- Searches in lists of one's own, clones, the closure of boxes. -/
namespace Go.AI
open Go.Proofs
set_option maxRecDepth 20000
theorem indexFunc176o (O : List Heap) (l : List Bx) (f : Nat) (e m d nm : Nat) (ho : objAt O e m = some (obxs l)) (p : Bx → Bool) (hl : l.length ≤ max63) (hp : ∀ x ∈ l, ASpec Tryd.prog f [bxD x, .own (d + 1) nm 0 0] ([] :: O) (bb (p x)) [] ([] :: O)) :
    ASpec Tryd.prog 176 [.osl e m, .fn (.func f) [] [.own d nm 0 0]] O (ii (findIx p l 0)) [] O := by
  have hO : ∀ H, objAt (H :: O) (e + 1) m = some (obxs l) := fun H => up_obj ho
  refine aspec_intro Tk Tryd.func176 rfl Tryd.call176 Tryd.ntmps176 (Nat.le_of_ble_eq_true rfl) fun E => ?_
  refine g_run Tk Tryd.func176 ?_
  first | refine g_obj Tk Tryd.func176 (hO _) ?_ | refine s_obj Tk (hO _) ?_
  refine g_loop ?_
  refine rch_loop2 (fun i : Nat => [(0, .osl (e + 1) m), (1, .fn (.func f) [] [.own (d + 1) nm 0 0]), (6, .osl (e + 1) m), (7, ii l.length), (8, ii i)]) (fun _ => []) (fun _ => O) 19 (fun i => i ≤ l.length ∧ findIx p l 0 = findIx p (l.drop i) i) (fun i => l.length - i) 0 ⟨Nat.zero_le _, rfl⟩ ⟨rfl, rfl, rfl, rfl, rfl, trivial⟩ rfl trivial rfl rfl ?_
  intro i ⟨hi, hno⟩ ih
  rw [hno]
  rw [hno] at ih
  refine g_run Tk Tryd.func176 ?_
  first | refine g_cnd Tk Tryd.func176 rfl (fun h1 => ?_) (fun h1 => ?_) | refine g_know Tk Tryd.func176 rfl (fun h1 => ?_) (fun h1 => ?_) | refine s_know Tk (fun h1 => ?_) (fun h1 => ?_)
  · have h1 : i < l.length := by simpa using h1
    have hd : l.drop i = l[i] :: l.drop (i + 1) := (List.drop_eq_getElem_cons h1)
    first | refine g_obj Tk Tryd.func176 (hO _) ?_ | refine s_obj Tk (hO _) ?_
    first | refine g_need Tk Tryd.func176 (by exact ⟨by omega, by show (i : Int) < (l.length : Int); omega⟩) ?_ | refine s_need Tk (by exact ⟨by omega, by show (i : Int) < (l.length : Int); omega⟩) ?_
    first | refine g_obj Tk Tryd.func176 (hO _) ?_ | refine s_obj Tk (hO _) ?_
    first | refine g_elem Tk Tryd.func176 (get_mapZ (f := bxI) h1) ?_ | refine s_elem Tk (get_mapZ (f := bxI) h1) ?_
    first | refine g_call Tk Tryd.func176 (hp l[i] (List.getElem_mem h1)) rfl rfl rfl rfl rfl ?_ | refine s_callq Tk (fun _ => hp l[i] (List.getElem_mem h1)) rfl rfl rfl ?_
    first | refine g_cnd Tk Tryd.func176 rfl (fun h2 => ?_) (fun h2 => ?_) | refine g_know Tk Tryd.func176 rfl (fun h2 => ?_) (fun h2 => ?_) | refine s_know Tk (fun h2 => ?_) (fun h2 => ?_)
    · refine g_ret Tk (r := ii _) rfl rfl rfl trivial rfl rfl ?_
      rw [hd]
      simp only [findIx]
      rw [if_pos h2]
    · refine g_loop ?_
      refine ih (i + 1) _ _ ⟨h1, ?_⟩ (by omega) ⟨rfl, rfl, rfl, rfl, congrArg ii (wsucc h1 hl), trivial⟩ rfl trivial rfl rfl
      rw [hd]
      simp only [findIx]
      rw [if_neg (by rw [h2]; simp)]
  · have h1 : l.length ≤ i := by simpa using h1
    refine g_ret Tk (r := ii _) rfl rfl rfl trivial rfl rfl ?_
    rw [List.drop_eq_nil_of_le h1]
    rfl
theorem containsFunc150o (O : List Heap) (l : List Bx) (f : Nat) (e m d nm : Nat) (ho : objAt O e m = some (obxs l)) (p : Bx → Bool) (hl : l.length ≤ max63) (hp : ∀ x ∈ l, ASpec Tryd.prog f [bxD x, .own (d + 2) nm 0 0] ([] :: [] :: O) (bb (p x)) [] ([] :: [] :: O)) :
    ASpec Tryd.prog 150 [.osl e m, .fn (.func f) [] [.own d nm 0 0]] O (bb (l.any p)) [] O := by
  refine aspec_intro Tk Tryd.func150 rfl Tryd.call150 Tryd.ntmps150 (Nat.le_of_ble_eq_true rfl) fun E => ?_
  refine g_run Tk Tryd.func150 ?_
  first | refine g_call Tk Tryd.func150 (indexFunc176o _ l f (e + 1) m (d + 1) nm (up_obj ho) p hl hp) rfl rfl rfl rfl rfl ?_ | refine s_callq Tk (fun _ => indexFunc176o _ l f (e + 1) m (d + 1) nm (up_obj ho) p hl hp) rfl rfl rfl ?_
  refine g_ret Tk (r := bb _) rfl rfl rfl trivial rfl rfl ?_
  exact congrArg bb (findIx_any p l 0)
theorem in94o (O : List Heap) (l : List Bx) (v : List Int) (e m : Nat) (ho : objAt O e m = some (obxs l)) (hll : l.length ≤ max63) (hb : ∀ b ∈ l, v.length ≤ b.low.length ∧ v.length ≤ b.high.length) (hl : v.length ≤ max63) : ASpec Tryd.prog 94 [.osl e m, ints v] O (bb (inBs l v)) [] O := by
  refine aspec_intro Tk Tryd.func94 rfl Tryd.call94 Tryd.ntmps94 (Nat.le_of_ble_eq_true rfl) fun E => ?_
  refine g_run Tk Tryd.func94 ?_
  first | refine g_call Tk Tryd.func94 (containsFunc150o _ l 151 (e + 1) m 0 3 (up_obj ho) (fun b => b.has v) hll (fun b hm => in151 _ b v 2 3 rfl (hb b hm).1 (hb b hm).2 hl)) rfl rfl rfl rfl rfl ?_ | refine s_callq Tk (fun _ => containsFunc150o _ l 151 (e + 1) m 0 3 (up_obj ho) (fun b => b.has v) hll (fun b hm => in151 _ b v 2 3 rfl (hb b hm).1 (hb b hm).2 hl)) rfl rfl rfl ?_
  refine g_ret Tk (r := bb _) rfl rfl rfl trivial rfl rfl ?_
  rfl
theorem clone169 (nm : Nat) (O : List Heap) (l : List Bx) (hl : l.length * 48 ≤ big) : ASpec Tryd.prog 169 [bxs l] O (.osl 0 nm) [(nm, obxs l)] O := by
  refine aspec_intro Tk Tryd.func169 rfl Tryd.call169 Tryd.ntmps169 (Nat.le_of_ble_eq_true rfl) fun E => ?_
  refine rch_run Tk Tryd.func169 ?_
  refine m_anyb Tk Tryd.func169 rfl rfl fun b hb => ?_
  refine m_cnd Tk Tryd.func169 rfl (fun h1 => ?_) (fun h1 => ?_)
  · have hl0 : l = [] := List.eq_nil_of_length_eq_zero (hb h1)
    subst hl0
    refine ret_wk (wk_nil 2 nm 55 2 rfl rfl rfl) ?_
    exact m_ret' (hT := Tk) (r := .osl 0 nm) rfl rfl rfl (takes_one _ _ _ _ rfl) (ret_osl _ _ _) rfl rfl
  · refine m_need Tk Tryd.func169 ⟨?_, ?_⟩ ?_
    · show (0 + l.length) * 48 ≤ 140737488355328
      simp only [big] at hl; omega
    · simp only [big] at hl; omega
    refine ret_wk (wk_cut (l := [(2, .osl 0 7)]) (Hv := [(7, .arr 55 2 (0 + l.length) ([] ++ l.map bxI) true)]) ⟨rfl, trivial⟩ rfl ⟨rfl, trivial⟩ rfl rfl) ?_
    refine ret_wk (wk_rename 7 nm rfl rfl) ?_
    refine m_ret' (hT := Tk) (r := .osl 0 nm) rfl rfl rfl (takes_one _ _ _ _ ?_) (ret_osl _ _ _) rfl rfl
    rw [Nat.zero_add]
    rfl
theorem clos171 (O : List Heap) (L others : List Bx) (i : Nat) (b : Bx) (v : List Int) (d n1 n2 n3 : Nat) (ho1 : objAt O d n1 = some (.box [bxs L])) (ho2 : objAt O d n2 = some (.box [ii i])) (ho3 : objAt O d n3 = some (.box [bxs others])) (hi : L[i]? = some b) (hb : v.length ≤ b.low.length ∧ v.length ≤ b.high.length)
    (hos : ∀ b ∈ others, v.length ≤ b.low.length ∧ v.length ≤ b.high.length) (hol : others.length ≤ max63) (hl : v.length ≤ max63) : ASpec Tryd.prog 171 [ints v, .own d n1 0 0, .own d n2 0 0, .own d n3 0 0] O (bb (b.has v && !inBs others v)) [] O := by
  have hO1 : ∀ H, objAt (H :: O) (d + 1) n1 = some (.box [bxs L]) := fun H => up_obj ho1
  have hO2 : ∀ H, objAt (H :: O) (d + 1) n2 = some (.box [ii i]) := fun H => up_obj ho2
  have hO3 : ∀ H, objAt (H :: O) (d + 1) n3 = some (.box [bxs others]) := fun H => up_obj ho3
  have hlt := (List.getElem?_eq_some_iff.1 hi).1
  have hg : (L.map bxI)[(i : Int).toNat]? = some (bxI b) := by simp [hi]
  have hc := fun O => contains152 O b v hb.1 hb.2 hl
  have hin := fun O => in94 O others v hol hos hl
  generalize b.has v = q at *
  refine aspec_intro Tk Tryd.func171 rfl Tryd.call171 Tryd.ntmps171 (Nat.le_of_ble_eq_true rfl) fun E => ?_
  refine g_run Tk Tryd.func171 ?_
  first | refine g_obj Tk Tryd.func171 (hO1 _) ?_ | refine s_obj Tk (hO1 _) ?_
  first | refine g_obj Tk Tryd.func171 (hO2 _) ?_ | refine s_obj Tk (hO2 _) ?_
  first | refine g_need Tk Tryd.func171 (by exact ⟨by omega, by show (i : Int) < (L.length : Int); omega⟩) ?_ | refine s_need Tk (by exact ⟨by omega, by show (i : Int) < (L.length : Int); omega⟩) ?_
  first | refine g_elem Tk Tryd.func171 (hg) ?_ | refine s_elem Tk (hg) ?_
  first | refine g_call Tk Tryd.func171 (hc _) rfl rfl rfl rfl rfl ?_ | refine s_callq Tk (fun _ => hc _) rfl rfl rfl ?_
  cases q with
  | false =>
    repeat (first | refine g_cnd Tk Tryd.func171 rfl (fun _ => ?_) (fun h => absurd h (by decide)) | refine g_know Tk Tryd.func171 rfl (fun _ => ?_) (fun h => absurd h (by decide)) | refine s_know Tk (fun _ => ?_) (fun h => absurd h (by decide)) | refine g_cnd Tk Tryd.func171 rfl (fun h => absurd h (by decide)) (fun _ => ?_) | refine g_know Tk Tryd.func171 rfl (fun h => absurd h (by decide)) (fun _ => ?_) | refine s_know Tk (fun h => absurd h (by decide)) (fun _ => ?_) | refine g_cnd Tk Tryd.func171 rfl (fun _ => ?_) (fun h => absurd (show true = false from h) (by decide)) | refine g_know Tk Tryd.func171 rfl (fun _ => ?_) (fun h => absurd (show true = false from h) (by decide)) | refine s_know Tk (fun _ => ?_) (fun h => absurd (show true = false from h) (by decide)) | refine g_cnd Tk Tryd.func171 rfl (fun h => absurd (show false = true from h) (by decide)) (fun _ => ?_) | refine g_know Tk Tryd.func171 rfl (fun h => absurd (show false = true from h) (by decide)) (fun _ => ?_) | refine s_know Tk (fun h => absurd (show false = true from h) (by decide)) (fun _ => ?_))
    refine g_ret Tk (r := bb false) rfl rfl rfl trivial rfl rfl ?_
    rfl
  | true =>
    repeat (first | refine g_cnd Tk Tryd.func171 rfl (fun _ => ?_) (fun h => absurd h (by decide)) | refine g_know Tk Tryd.func171 rfl (fun _ => ?_) (fun h => absurd h (by decide)) | refine s_know Tk (fun _ => ?_) (fun h => absurd h (by decide)) | refine g_cnd Tk Tryd.func171 rfl (fun h => absurd h (by decide)) (fun _ => ?_) | refine g_know Tk Tryd.func171 rfl (fun h => absurd h (by decide)) (fun _ => ?_) | refine s_know Tk (fun h => absurd h (by decide)) (fun _ => ?_) | refine g_cnd Tk Tryd.func171 rfl (fun _ => ?_) (fun h => absurd (show true = false from h) (by decide)) | refine g_know Tk Tryd.func171 rfl (fun _ => ?_) (fun h => absurd (show true = false from h) (by decide)) | refine s_know Tk (fun _ => ?_) (fun h => absurd (show true = false from h) (by decide)) | refine g_cnd Tk Tryd.func171 rfl (fun h => absurd (show false = true from h) (by decide)) (fun _ => ?_) | refine g_know Tk Tryd.func171 rfl (fun h => absurd (show false = true from h) (by decide)) (fun _ => ?_) | refine s_know Tk (fun h => absurd (show false = true from h) (by decide)) (fun _ => ?_))
    first | refine g_obj Tk Tryd.func171 (hO3 _) ?_ | refine s_obj Tk (hO3 _) ?_
    first | refine g_call Tk Tryd.func171 (hin _) rfl rfl rfl rfl rfl ?_ | refine s_callq Tk (fun _ => hin _) rfl rfl rfl ?_
    refine g_ret Tk (r := bb _) rfl rfl rfl trivial rfl rfl ?_
    simp
theorem does_delete' {c : Cx} (hP : c.P = Tryd.prog) {s : St} {o : Oper} {t nm n i : Nat} {j : Int} {xs : List (List I)} {H : Heap} {O : List Heap} (hj : j = ((i + 1 : Nat) : Int)) (hi : i < n) (ht : o.dst = some t) (hn : t < s.n) (hS : s.S = H :: O) (ha : look H nm = some (.arr 55 2 n xs true)) :
    Wp c o s 168 [.osl 0 nm, ii i, ii j] { σ := (t, .osl 0 nm) :: killσ nm s.σ, S := ((nm, .arr 55 2 (n - 1) (xs.eraseIdx i) true) :: killH nm H) :: O, n := s.n } := by
  subst hj
  exact does_delete hP hi ht hn hS ha
end Go.AI


/- The program's cover. -/
namespace Go.AI
open Go.Proofs
set_option maxRecDepth 20000
theorem thin_len (N : List (List Int)) : ∀ (rest kept : List Bx), (thin N kept rest).length ≤ kept.length + rest.length
  | [], kept => by simp [thin]
  | b :: r, kept => by
    simp only [thin]
    split
    · have := thin_len N r (kept ++ [b]); simp only [List.length_append, List.length_cons, List.length_nil] at this ⊢; omega
    · have := thin_len N r kept; simp only [List.length_cons]; omega
set_option maxHeartbeats 4000000 in
theorem boxes135 (O : List Heap) (l : List Vr) (dom needed refused : List (List Int)) (hl : l.length ≤ 16) (hb : ∀ a ∈ l, -65536 ≤ a.low ∧ a.high ≤ 65536) (hnl : needed.length ≤ 4096) (hr : refused.length ≤ max63)
    (hn1 : ∀ v ∈ needed, v.length = l.length) (hn2 : ∀ v ∈ needed, ∀ j, -65536 ≤ v.getD j 0 ∧ v.getD j 0 ≤ 65536) (hrl : ∀ w ∈ refused, w.length = l.length) :
    ASpec Tryd.prog 135 [.agg [vrs l, intss dom, intss needed, intss refused]] O (bxs (coversR l needed refused)) [] O := by
  have hgr := fun O v hv => grow167 O l dom needed refused v hl hb (hn1 v hv) (hn2 v hv) hr hrl
  have hgs : ∀ (v : List Int), v.length = l.length → (growVs (freeR refused) l 0 ⟨v, v⟩).low.length = l.length ∧ (growVs (freeR refused) l 0 ⟨v, v⟩).high.length = l.length := fun v h => by
    have := growVs_sub (freeR refused) l 0 ⟨v, v⟩
    exact ⟨this.1.symm.trans h, this.2.1.symm.trans h⟩
  have hmax : ∀ v ∈ needed, v.length ≤ max63 := fun v h => by rw [hn1 v h]; simp only [max63]; omega
  generalize hR : coversR l needed refused = R
  unfold coversR at hR
  have hC0 : coverL (freeR refused) l (needed.drop 0) [] = coverL (freeR refused) l needed [] := rfl
  generalize coverL (freeR refused) l needed [] = C at *
  refine aspec_stop [11, 16, 200036] Tk Tryd.func135 rfl Tryd.call135 Tryd.ntmps135 (Nat.le_of_ble_eq_true rfl) fun E => ?_
  refine g_run Tk Tryd.func135 ?_
  refine g_loop ?_
  refine rch_wk (wk_nilbox 3 25 55 2 rfl rfl rfl) ?_
  refine rch_loop2 (fun x : Nat × List Bx => [(1, .own 0 1 0 0), (3, .own 0 3 0 0), (10, intss needed), (11, ii needed.length), (12, ii x.1)]) (fun x => [(1, .box [vrs l, intss dom, intss needed, intss refused]), (3, .box [.osl 0 25]), (25, obxs x.2)]) (fun _ => O) 48
    (fun x => x.1 ≤ needed.length ∧ x.2.length ≤ x.1 ∧ (∀ b ∈ x.2, b.low.length = l.length ∧ b.high.length = l.length) ∧ coverL (freeR refused) l (needed.drop x.1) x.2 = C) (fun x => needed.length - x.1) (0, [])
    ⟨Nat.zero_le _, by simp, by simp, hC0⟩ ⟨rfl, rfl, rfl, rfl, rfl, trivial⟩ rfl ⟨rfl, rfl, rfl, trivial⟩ rfl rfl ?_
  clear hC0
  rintro ⟨i, B⟩ ⟨hi, hBl, hBs, hno⟩ ih
  simp only at hi hBl hBs hno
  refine g_run Tk Tryd.func135 ?_
  first | refine g_cnd Tk Tryd.func135 rfl (fun g1 => ?_) (fun g1 => ?_) | refine g_know Tk Tryd.func135 rfl (fun g1 => ?_) (fun g1 => ?_) | refine s_know Tk (fun g1 => ?_) (fun g1 => ?_)
  · have h1 : i < needed.length := by simpa using g1
    clear g1
    have gv : (needed.map fun x => [intsI x])[(i : Int).toNat]? = some [intsI needed[i]] := get_mapZ (f := fun x => [intsI x]) h1
    have dv : needed.drop i = needed[i] :: needed.drop (i + 1) := List.drop_eq_getElem_cons h1
    have hx1 := hn1 _ (List.getElem_mem h1)
    have hx2 := hmax _ (List.getElem_mem h1)
    have hgr := fun O => hgr O _ (List.getElem_mem h1)
    rw [dv] at hno
    simp only [coverL] at hno
    clear dv
    generalize needed[i] = v at *
    have hgs := hgs v hx1
    generalize growVs (freeR refused) l 0 ⟨v, v⟩ = nb at *
    have hi1 : ii (IntKind.i64.wrap ((i : Int) + 1)) = ii ((i + 1 : Nat) : Int) := congrArg ii (wsucc (n := 4096) (by omega) (by decide))
    have hin := fun O e m ho => in94o O B v e m ho (by simp only [max63]; omega) (fun b hb => by have := hBs b hb; omega) hx2
    first | refine g_need Tk Tryd.func135 (by exact ⟨by omega, by show (i : Int) < (needed.length : Int); omega⟩) ?_ | refine s_need Tk (by exact ⟨by omega, by show (i : Int) < (needed.length : Int); omega⟩) ?_
    first | refine g_elem Tk Tryd.func135 (gv) ?_ | refine s_elem Tk (gv) ?_
    first | refine g_call Tk Tryd.func135 (hin _ 0 25 rfl) rfl rfl rfl rfl rfl ?_ | refine s_callq Tk (fun _ => hin _ 0 25 rfl) rfl rfl rfl ?_
    first | refine g_cnd Tk Tryd.func135 rfl (fun h4 => ?_) (fun h4 => ?_) | refine g_know Tk Tryd.func135 rfl (fun h4 => ?_) (fun h4 => ?_) | refine s_know Tk (fun h4 => ?_) (fun h4 => ?_)
    rotate_left
    · have h4 : inBs B v = true := notF h4
      rw [if_pos h4] at hno
      refine g_loop ?_
      exact ih (i + 1, B) _ _ ⟨h1, by simp only; omega, hBs, hno⟩ (by simp only; omega) ⟨rfl, rfl, rfl, rfl, hi1, trivial⟩ rfl ⟨rfl, rfl, rfl, trivial⟩ rfl rfl
    have h4 : inBs B v = false := notT h4
    rw [if_neg (by rw [h4]; simp)] at hno
    refine g_drawn Tk Tryd.func135 mixedT rfl ?_
    first | refine g_call Tk Tryd.func135 (hgr _) rfl rfl rfl rfl rfl ?_ | refine s_callq Tk (fun _ => hgr _) rfl rfl rfl ?_
    refine e_tail Tk Tryd.func135 ([5, 6]) (by kernel_rfl) (by kernel_rfl) ?_
    first | refine g_need Tk Tryd.func135 (by exact ⟨by show (B.length + 1) * 48 ≤ 140737488355328; omega, by show B.length + 1 ≤ 9223372036854775807; omega⟩) ?_ | refine s_need Tk (by exact ⟨by show (B.length + 1) * 48 ≤ 140737488355328; omega, by show B.length + 1 ≤ 9223372036854775807; omega⟩) ?_
    refine g_loop ?_
    refine ih (i + 1, B ++ [nb]) _ _ ⟨h1, by simp only [List.length_append, List.length_cons, List.length_nil]; omega, fun b hb => ?_, hno⟩ (by simp only; omega) ⟨rfl, rfl, rfl, rfl, hi1, trivial⟩ rfl ⟨rfl, rfl, congrArg some (obxs_app B nb), trivial⟩ rfl rfl
    rcases List.mem_append.1 hb with hb | hb
    · exact hBs b hb
    · rw [List.mem_singleton.1 hb]; exact hgs
  · have h1 : needed.length ≤ i := by simpa using g1
    rw [List.drop_eq_nil_of_le h1] at hno
    simp only [coverL] at hno
    subst hno
    have hBl : B.length ≤ 4096 := by omega
    clear ih hgr hgs g1 h1 hi
    refine g_loop ?_
    refine rch_wk (wk_freeze 25 rfl rfl) ?_
    refine rch_wk (wk_imm rfl) ?_
    refine rch_loop2 (fun x : List Bx × List Bx => [(1, .own 0 1 0 0), (3, .own 0 3 0 0), (6, .own 0 6 0 0)]) (fun x => [(1, .box [vrs l, intss dom, intss needed, intss refused]), (3, .box [bxs (x.1 ++ x.2)]), (6, .box [ii x.1.length])]) (fun _ => O) 48
      (fun x => x.1.length + x.2.length ≤ 4096 ∧ (∀ b ∈ x.1 ++ x.2, b.low.length = l.length ∧ b.high.length = l.length) ∧ thin needed x.1 x.2 = R) (fun x => x.2.length) ([], B)
      ⟨by simpa using hBl, by simpa using hBs, hR⟩ ⟨rfl, rfl, rfl, trivial⟩ rfl ⟨rfl, rfl, rfl, trivial⟩ rfl rfl ?_
    clear hR hBs hBl
    rintro ⟨kept, rest⟩ ⟨hkl, hks, hno⟩ ih
    simp only at hkl hks hno
    refine g_run Tk Tryd.func135 ?_
    cases rest with
    | nil =>
      simp only [thin] at hno
      subst hno
      first | refine g_cnd Tk Tryd.func135 rfl (fun g1 => ?_) (fun g1 => ?_) | refine g_know Tk Tryd.func135 rfl (fun g1 => ?_) (fun g1 => ?_) | refine s_know Tk (fun g1 => ?_) (fun g1 => ?_)
      · have := of_decide_eq_true g1
        simp at this
      refine g_ret Tk (r := bxs (kept ++ [])) rfl rfl rfl trivial rfl rfl ?_
      simp
    | cons b r =>
      first | refine g_cnd Tk Tryd.func135 rfl (fun g1 => ?_) (fun g1 => ?_) | refine g_know Tk Tryd.func135 rfl (fun g1 => ?_) (fun g1 => ?_) | refine s_know Tk (fun g1 => ?_) (fun g1 => ?_)
      rotate_left
      · have := of_decide_eq_false g1
        simp at this
        omega
      clear g1
      simp only [thin] at hno
      simp only [List.length_cons] at hkl
      have hLb : (kept ++ b :: r)[kept.length]? = some b := by simp
      have her : (kept ++ b :: r).eraseIdx kept.length = kept ++ r := by rw [List.eraseIdx_append_of_length_le (Nat.le_refl _)]; simp
      have hbs := hks b (by simp)
      have hos : ∀ c ∈ kept ++ r, c.low.length = l.length ∧ c.high.length = l.length := fun c hc => hks c (by rcases List.mem_append.1 hc with h | h <;> simp [h])
      have hll : (kept ++ b :: r).length = kept.length + r.length + 1 := by simp; omega
      have hks1 : kept ++ [b] ++ r = kept ++ b :: r := by simp
      have hkb : (kept ++ [b]).length = kept.length + 1 := by simp
      have hcl := fun O v (hv : v ∈ needed) d n1 n2 n3 ho1 ho2 ho3 => clos171 O (kept ++ b :: r) (kept ++ r) kept.length b v d n1 n2 n3 ho1 ho2 ho3 hLb (by have := hn1 v hv; omega) (fun c hc => by have := hn1 v hv; have := hos c hc; omega) (by simp only [max63, List.length_append]; omega) (hmax v hv)
      generalize hL : kept ++ b :: r = L at *
      have hw1 : IntKind.i64.wrap ((kept.length : Int) + 1) = ((kept.length + 1 : Nat) : Int) := wsucc (n := 4096) (by omega) (by decide)
      have hj : IntKind.i64.wrap ((kept.length : Int) + 1) = ((kept.length + 1 : Nat) : Int) := hw1
      have hoth : Ob.box [.i (.sl 2 (L.length - 1) ((L.map bxI).eraseIdx kept.length))] = Ob.box [bxs (kept ++ r)] := by
        rw [← her]
        have e1 : (L.map bxI).eraseIdx kept.length = (L.eraseIdx kept.length).map bxI := by simp [List.eraseIdx_eq_take_drop_succ, List.map_take, List.map_drop]
        have e2 : (L.eraseIdx kept.length).length = L.length - 1 := by rw [List.length_eraseIdx, if_pos (by omega)]
        rw [e1, ← e2]
      have hlt : kept.length < L.length := by omega
      apply join_p (P := True) (s6 := { σ := [(1, .own 0 1 0 0), (3, .own 0 3 0 0), (6, .own 0 6 0 0), (7, .own 0 7 0 0)], S := [(1, .box [vrs l, intss dom, intss needed, intss refused]), (3, .box [bxs L]), (6, .box [ii kept.length]), (7, .box [bxs (kept ++ r)])] :: O, n := 48 })
      · intro J
        refine g_drawnL Tk Tryd.func135 5 mixedT rfl ?_
        first | refine g_call Tk Tryd.func135 (clone169 32 _ L (by simp only [big]; omega)) rfl rfl rfl rfl rfl ?_ | refine s_callq Tk (fun _ => clone169 32 _ L (by simp only [big]; omega)) rfl rfl rfl ?_
        refine e_late Tk Tryd.func135 ⟨[(7, .own 0 7 0 0)], [(7, .box [.i (.v (.slice none 0 0))])], none⟩ [5, 6, 7] [5, 7] rfl rfl (by kernel_rfl) rfl rfl ?_ ?_
        · refine g_callP Tk Tryd.func135 rfl rfl rfl rfl (does_delete' rfl hj hlt rfl (show 36 < 48 by decide) rfl rfl) ?_
          refine g_stop ?_
          refine rch_wk (wk_freeze 32 rfl rfl) ?_
          refine rch_wk (wk_imm rfl) ?_
          refine rch_meet (J trivial) ⟨rfl, rfl, rfl, rfl, trivial⟩ rfl ⟨rfl, rfl, rfl, ?_, trivial⟩ rfl rfl
          exact congrArg some hoth
        · refine g_callP Tk Tryd.func135 rfl rfl rfl rfl (does_delete' rfl hj hlt rfl (show 36 < 48 by decide) rfl rfl) ?_
          refine g_stop ?_
          refine rch_wk (wk_freeze 32 rfl rfl) ?_
          refine rch_wk (wk_imm rfl) ?_
          refine rch_meet (J trivial) ⟨rfl, rfl, rfl, rfl, trivial⟩ rfl ⟨rfl, rfl, rfl, ?_, trivial⟩ rfl rfl
          exact congrArg some hoth
      · intro _
        refine g_run Tk Tryd.func135 ?_
        refine g_go Tk Tryd.func135 ?_
        first | refine g_call Tk Tryd.func135 (containsFunc170c _ needed 171 0 3 6 7 (fun v => b.has v && !inBs (kept ++ r) v) (by simp only [max63]; omega) (fun v hv => hcl _ v hv _ _ _ _ rfl rfl rfl)) rfl rfl rfl rfl rfl ?_ | refine s_callq Tk (fun _ => containsFunc170c _ needed 171 0 3 6 7 (fun v => b.has v && !inBs (kept ++ r) v) (by simp only [max63]; omega) (fun v hv => hcl _ v hv _ _ _ _ rfl rfl rfl)) rfl rfl rfl ?_
        first | refine g_cnd Tk Tryd.func135 rfl (fun g2 => ?_) (fun g2 => ?_) | refine g_know Tk Tryd.func135 rfl (fun g2 => ?_) (fun g2 => ?_) | refine s_know Tk (fun g2 => ?_) (fun g2 => ?_)
        · have g2 : (needed.any fun v => b.has v && !inBs (kept ++ r) v) = false := notT g2
          rw [if_neg (by rw [g2]; simp)] at hno
          refine g_stop ?_
          refine rch_meet (l := [(1, .own 0 1 0 0), (3, .own 0 3 0 0), (46, ii kept.length)]) (Hv := [(1, .box [vrs l, intss dom, intss needed, intss refused]), (3, .box [bxs (kept ++ r)])]) (n := 48) ?_ ⟨rfl, rfl, rfl, trivial⟩ rfl ⟨rfl, rfl, trivial⟩ rfl rfl
          refine g_run Tk Tryd.func135 ?_
          refine g_go Tk Tryd.func135 ?_
          refine g_loop ?_
          exact ih (kept, r) _ _ ⟨by simp only; omega, hos, hno⟩ (by simp) ⟨rfl, rfl, rfl, trivial⟩ rfl ⟨rfl, rfl, rfl, trivial⟩ rfl rfl
        · have g2 : (needed.any fun v => b.has v && !inBs (kept ++ r) v) = true := notF g2
          rw [if_pos g2] at hno
          refine g_stop ?_
          refine rch_meet (l := [(1, .own 0 1 0 0), (3, .own 0 3 0 0), (46, ii (IntKind.i64.wrap ((kept.length : Int) + 1)))]) (Hv := [(1, .box [vrs l, intss dom, intss needed, intss refused]), (3, .box [bxs L])]) (n := 48) ?_ ⟨rfl, rfl, rfl, trivial⟩ rfl ⟨rfl, rfl, trivial⟩ rfl rfl
          refine g_run Tk Tryd.func135 ?_
          refine g_go Tk Tryd.func135 ?_
          refine g_loop ?_
          refine ih (kept ++ [b], r) _ _ ⟨by simp only [hkb]; omega, by rw [hks1]; exact hks, hno⟩ (by simp) ⟨rfl, rfl, rfl, trivial⟩ rfl ⟨rfl, by simp only [hks1]; rfl, by simp only [hkb]; exact congrArg (fun n => some (Ob.box [ii n])) hw1, trivial⟩ rfl rfl
end Go.AI


/- covered, Boxes, equal lists of boxes. -/
namespace Go.AI
open Go.Proofs
set_option maxRecDepth 20000
/-- What a domain's values are. -/
structure valsB (l : List Vr) (dom : List (List Int)) : Prop where
  vb : ∀ a ∈ l, -65536 ≤ a.low ∧ a.high ≤ 65536
  ll : l.length ≤ 16
  len : dom.length ≤ 4096
  vl : ∀ v ∈ dom, v.length = l.length
  b : ∀ v ∈ dom, ∀ j, -65536 ≤ v.getD j 0 ∧ v.getD j 0 ≤ 65536
theorem neededR_sub : ∀ {all : List (List Int)} {t c : List Bool} {v : List Int}, v ∈ neededR all t c → v ∈ all := fun h => by obtain ⟨i, h1, _⟩ := neededR_mem h; exact List.mem_of_getElem? h1
theorem refusedR_sub : ∀ {all : List (List Int)} {t c : List Bool} {v : List Int}, v ∈ refusedR all t c → v ∈ all := fun h => by obtain ⟨i, h1, _⟩ := refusedR_mem h; exact List.mem_of_getElem? h1
theorem refusedR_len : ∀ (all : List (List Int)) (t c : List Bool), (refusedR all t c).length ≤ all.length
  | [], _, _ => by simp [refusedR]
  | _ :: _, [], _ => by simp [refusedR]
  | _ :: _, _ :: _, [] => by simp [refusedR]
  | d :: ds, t :: ts, c :: cs => by
    have := refusedR_len ds ts cs
    simp only [refusedR, List.length_cons]
    split
    · simp only [List.length_cons]; omega
    · omega
theorem covered71 (O : List Heap) (l : List Vr) (dom : List (List Int)) (t care : List Bool) (hv : valsB l dom) (ht : t.length = dom.length) (hc : care.length = dom.length) : ASpec Tryd.prog 71 [vrs l, intss dom, bools t, bools care] O (bxs (coverR l dom t care)) [] O := by
  have hnl := neededR_len dom t care
  have hrl := refusedR_len dom t care
  have hdl := hv.len
  have hbx := fun O => boxes135 O l dom (neededR dom t care) (refusedR dom t care) hv.ll hv.vb (by omega) (by simp only [max63]; omega) (fun v h => hv.vl v (neededR_sub h)) (fun v h => hv.b v (neededR_sub h)) (fun v h => hv.vl v (refusedR_sub h))
  unfold coverR
  have hN0 : neededR dom t care = [] ++ neededR (dom.drop 0) (t.drop 0) (care.drop 0) := rfl
  have hR0 : refusedR dom t care = [] ++ refusedR (dom.drop 0) (t.drop 0) (care.drop 0) := rfl
  generalize neededR dom t care = N at *
  generalize refusedR dom t care = F at *
  refine aspec_stop [10] Tk Tryd.func71 rfl Tryd.call71 Tryd.ntmps71 (Nat.le_of_ble_eq_true rfl) fun E => ?_
  refine g_run Tk Tryd.func71 ?_
  refine g_loop ?_
  refine rch_wk (wk_nilbox2 9 43 53 1 (pre := [vrs l, intss dom]) (post := [.i (.v (.slice none 0 0))]) rfl rfl rfl) ?_
  refine rch_wk (wk_nilbox2 9 26 53 1 (pre := [vrs l, intss dom, .osl 0 43]) (post := []) rfl rfl rfl) ?_
  refine rch_loop2 (fun x : Nat × List (List Int) × List (List Int) => [(2, bools t), (3, bools care), (9, .own 0 9 0 0), (15, intss dom), (16, ii dom.length), (17, ii x.1)]) (fun x => [(9, .box [vrs l, intss dom, .osl 0 43, .osl 0 26]), (43, ointss x.2.1), (26, ointss x.2.2)]) (fun _ => O) 48
    (fun x => x.1 ≤ dom.length ∧ x.2.1.length ≤ x.1 ∧ x.2.2.length ≤ x.1 ∧ N = x.2.1 ++ neededR (dom.drop x.1) (t.drop x.1) (care.drop x.1) ∧ F = x.2.2 ++ refusedR (dom.drop x.1) (t.drop x.1) (care.drop x.1)) (fun x => dom.length - x.1) (0, [], [])
    ⟨Nat.zero_le _, by simp, by simp, hN0, hR0⟩ ⟨rfl, rfl, rfl, rfl, rfl, rfl, trivial⟩ rfl ⟨rfl, rfl, rfl, trivial⟩ rfl rfl ?_
  clear hN0 hR0
  rintro ⟨i, A, B⟩ ⟨hi, hAl, hBl, hA, hB⟩ ih
  simp only at hi hAl hBl hA hB
  refine g_run Tk Tryd.func71 ?_
  first | refine g_cnd Tk Tryd.func71 rfl (fun g1 => ?_) (fun g1 => ?_) | refine g_know Tk Tryd.func71 rfl (fun g1 => ?_) (fun g1 => ?_) | refine s_know Tk (fun g1 => ?_) (fun g1 => ?_)
  · have h1 : i < dom.length := by simpa using g1
    clear g1
    have gv : (dom.map fun x => [intsI x])[(i : Int).toNat]? = some [intsI dom[i]] := get_mapZ (f := fun x => [intsI x]) h1
    have gl : (t.map fun x => [I.v (.bool x)])[(i : Int).toNat]? = some [I.v (.bool (t[i]'(by omega)))] := get_mapZ (f := fun x => [I.v (.bool x)]) (by omega)
    have gh : (care.map fun x => [I.v (.bool x)])[(i : Int).toNat]? = some [I.v (.bool (care[i]'(by omega)))] := get_mapZ (f := fun x => [I.v (.bool x)]) (by omega)
    have dv : dom.drop i = dom[i] :: dom.drop (i + 1) := List.drop_eq_getElem_cons h1
    have dl : t.drop i = (t[i]'(by omega)) :: t.drop (i + 1) := List.drop_eq_getElem_cons (by omega)
    have dh : care.drop i = (care[i]'(by omega)) :: care.drop (i + 1) := List.drop_eq_getElem_cons (by omega)
    rw [dv, dl, dh] at hA hB
    simp only [neededR, refusedR] at hA hB
    clear dv dl dh
    generalize dom[i] = v at *
    generalize t[i]'(by omega) = a at *
    generalize care[i]'(by omega) = c at *
    have hi1 : ii (IntKind.i64.wrap ((i : Int) + 1)) = ii ((i + 1 : Nat) : Int) := congrArg ii (wsucc (n := 4096) (by omega) (by decide))
    first | refine g_need Tk Tryd.func71 (by exact ⟨by omega, by show (i : Int) < (dom.length : Int); omega⟩) ?_ | refine s_need Tk (by exact ⟨by omega, by show (i : Int) < (dom.length : Int); omega⟩) ?_
    first | refine g_elem Tk Tryd.func71 (gv) ?_ | refine s_elem Tk (gv) ?_
    first | refine g_need Tk Tryd.func71 (by exact ⟨by omega, by show (i : Int) < (care.length : Int); omega⟩) ?_ | refine s_need Tk (by exact ⟨by omega, by show (i : Int) < (care.length : Int); omega⟩) ?_
    first | refine g_elem Tk Tryd.func71 (gh) ?_ | refine s_elem Tk (gh) ?_
    cases c with
    | false =>
      repeat (first | refine g_cnd Tk Tryd.func71 rfl (fun _ => ?_) (fun h => absurd h (by decide)) | refine g_know Tk Tryd.func71 rfl (fun _ => ?_) (fun h => absurd h (by decide)) | refine s_know Tk (fun _ => ?_) (fun h => absurd h (by decide)) | refine g_cnd Tk Tryd.func71 rfl (fun h => absurd h (by decide)) (fun _ => ?_) | refine g_know Tk Tryd.func71 rfl (fun h => absurd h (by decide)) (fun _ => ?_) | refine s_know Tk (fun h => absurd h (by decide)) (fun _ => ?_) | refine g_cnd Tk Tryd.func71 rfl (fun _ => ?_) (fun h => absurd (show true = false from h) (by decide)) | refine g_know Tk Tryd.func71 rfl (fun _ => ?_) (fun h => absurd (show true = false from h) (by decide)) | refine s_know Tk (fun _ => ?_) (fun h => absurd (show true = false from h) (by decide)) | refine g_cnd Tk Tryd.func71 rfl (fun h => absurd (show false = true from h) (by decide)) (fun _ => ?_) | refine g_know Tk Tryd.func71 rfl (fun h => absurd (show false = true from h) (by decide)) (fun _ => ?_) | refine s_know Tk (fun h => absurd (show false = true from h) (by decide)) (fun _ => ?_))
      refine g_loop ?_
      exact ih (i + 1, A, B) _ _ ⟨h1, by simp only; omega, by simp only; omega, hA, hB⟩ (by simp only; omega) ⟨rfl, rfl, rfl, rfl, rfl, hi1, trivial⟩ rfl ⟨rfl, rfl, rfl, trivial⟩ rfl rfl
    | true =>
      repeat (first | refine g_cnd Tk Tryd.func71 rfl (fun _ => ?_) (fun h => absurd h (by decide)) | refine g_know Tk Tryd.func71 rfl (fun _ => ?_) (fun h => absurd h (by decide)) | refine s_know Tk (fun _ => ?_) (fun h => absurd h (by decide)) | refine g_cnd Tk Tryd.func71 rfl (fun h => absurd h (by decide)) (fun _ => ?_) | refine g_know Tk Tryd.func71 rfl (fun h => absurd h (by decide)) (fun _ => ?_) | refine s_know Tk (fun h => absurd h (by decide)) (fun _ => ?_) | refine g_cnd Tk Tryd.func71 rfl (fun _ => ?_) (fun h => absurd (show true = false from h) (by decide)) | refine g_know Tk Tryd.func71 rfl (fun _ => ?_) (fun h => absurd (show true = false from h) (by decide)) | refine s_know Tk (fun _ => ?_) (fun h => absurd (show true = false from h) (by decide)) | refine g_cnd Tk Tryd.func71 rfl (fun h => absurd (show false = true from h) (by decide)) (fun _ => ?_) | refine g_know Tk Tryd.func71 rfl (fun h => absurd (show false = true from h) (by decide)) (fun _ => ?_) | refine s_know Tk (fun h => absurd (show false = true from h) (by decide)) (fun _ => ?_))
      first | refine g_need Tk Tryd.func71 (by exact ⟨by omega, by show (i : Int) < (t.length : Int); omega⟩) ?_ | refine s_need Tk (by exact ⟨by omega, by show (i : Int) < (t.length : Int); omega⟩) ?_
      first | refine g_elem Tk Tryd.func71 (gl) ?_ | refine s_elem Tk (gl) ?_
      cases a with
      | false =>
        repeat (first | refine g_cnd Tk Tryd.func71 rfl (fun _ => ?_) (fun h => absurd h (by decide)) | refine g_know Tk Tryd.func71 rfl (fun _ => ?_) (fun h => absurd h (by decide)) | refine s_know Tk (fun _ => ?_) (fun h => absurd h (by decide)) | refine g_cnd Tk Tryd.func71 rfl (fun h => absurd h (by decide)) (fun _ => ?_) | refine g_know Tk Tryd.func71 rfl (fun h => absurd h (by decide)) (fun _ => ?_) | refine s_know Tk (fun h => absurd h (by decide)) (fun _ => ?_) | refine g_cnd Tk Tryd.func71 rfl (fun _ => ?_) (fun h => absurd (show true = false from h) (by decide)) | refine g_know Tk Tryd.func71 rfl (fun _ => ?_) (fun h => absurd (show true = false from h) (by decide)) | refine s_know Tk (fun _ => ?_) (fun h => absurd (show true = false from h) (by decide)) | refine g_cnd Tk Tryd.func71 rfl (fun h => absurd (show false = true from h) (by decide)) (fun _ => ?_) | refine g_know Tk Tryd.func71 rfl (fun h => absurd (show false = true from h) (by decide)) (fun _ => ?_) | refine s_know Tk (fun h => absurd (show false = true from h) (by decide)) (fun _ => ?_))
        first | refine g_need Tk Tryd.func71 (by exact ⟨by show (B.length + 1) * 24 ≤ 140737488355328; omega, by show B.length + 1 ≤ 9223372036854775807; omega⟩) ?_ | refine s_need Tk (by exact ⟨by show (B.length + 1) * 24 ≤ 140737488355328; omega, by show B.length + 1 ≤ 9223372036854775807; omega⟩) ?_
        refine g_loop ?_
        exact ih (i + 1, A, B ++ [v]) _ _ ⟨h1, by simp only; omega, by simp; omega, hA, by simpa using hB⟩ (by simp only; omega) ⟨rfl, rfl, rfl, rfl, rfl, hi1, trivial⟩ rfl ⟨rfl, rfl, congrArg some (ointss_app B v), trivial⟩ rfl rfl
      | true =>
        repeat (first | refine g_cnd Tk Tryd.func71 rfl (fun _ => ?_) (fun h => absurd h (by decide)) | refine g_know Tk Tryd.func71 rfl (fun _ => ?_) (fun h => absurd h (by decide)) | refine s_know Tk (fun _ => ?_) (fun h => absurd h (by decide)) | refine g_cnd Tk Tryd.func71 rfl (fun h => absurd h (by decide)) (fun _ => ?_) | refine g_know Tk Tryd.func71 rfl (fun h => absurd h (by decide)) (fun _ => ?_) | refine s_know Tk (fun h => absurd h (by decide)) (fun _ => ?_) | refine g_cnd Tk Tryd.func71 rfl (fun _ => ?_) (fun h => absurd (show true = false from h) (by decide)) | refine g_know Tk Tryd.func71 rfl (fun _ => ?_) (fun h => absurd (show true = false from h) (by decide)) | refine s_know Tk (fun _ => ?_) (fun h => absurd (show true = false from h) (by decide)) | refine g_cnd Tk Tryd.func71 rfl (fun h => absurd (show false = true from h) (by decide)) (fun _ => ?_) | refine g_know Tk Tryd.func71 rfl (fun h => absurd (show false = true from h) (by decide)) (fun _ => ?_) | refine s_know Tk (fun h => absurd (show false = true from h) (by decide)) (fun _ => ?_))
        first | refine g_need Tk Tryd.func71 (by exact ⟨by show (A.length + 1) * 24 ≤ 140737488355328; omega, by show A.length + 1 ≤ 9223372036854775807; omega⟩) ?_ | refine s_need Tk (by exact ⟨by show (A.length + 1) * 24 ≤ 140737488355328; omega, by show A.length + 1 ≤ 9223372036854775807; omega⟩) ?_
        refine g_loop ?_
        exact ih (i + 1, A ++ [v], B) _ _ ⟨h1, by simp; omega, by simp only; omega, by simpa using hA, hB⟩ (by simp only; omega) ⟨rfl, rfl, rfl, rfl, rfl, hi1, trivial⟩ rfl ⟨rfl, congrArg some (ointss_app A v), rfl, trivial⟩ rfl rfl
  · have h1 : dom.length ≤ i := by simpa using g1
    rw [List.drop_eq_nil_of_le h1] at hA hB
    simp only [neededR, refusedR, List.append_nil] at hA hB
    subst hA hB
    refine g_stop ?_
    refine rch_wk (wk_freeze 43 rfl rfl) ?_
    refine rch_wk (wk_freeze 26 rfl rfl) ?_
    refine rch_wk (wk_imm rfl) ?_
    refine g_run Tk Tryd.func71 ?_
    refine g_go Tk Tryd.func71 ?_
    first | refine g_call Tk Tryd.func71 (hbx _) rfl rfl rfl rfl rfl ?_ | refine s_callq Tk (fun _ => hbx _) rfl rfl rfl ?_
    refine g_ret Tk (r := bxs _) rfl rfl rfl trivial rfl rfl ?_
    rfl
theorem domOk.vals {l : List Vr} (h : domOk l) : valsB l (allV l) := ⟨fun a ha => (h.b a ha).1, h.len, h.all, fun v hv => allV_mem_len hv, fun v hv => dom_bounds h hv⟩
/-- What variables are that pass All. -/
theorem allG_ok {l : List Vr} (h : (allG l).2 = 0) : domOk l ∧ allG l = (allV l, 0) := by
  unfold allG at h ⊢
  by_cases h1 : varsErr l ≠ 0
  · rw [if_pos h1] at h; exact absurd h h1
  rw [if_neg h1] at h ⊢
  have hv := vars_ok (l := l) (by simpa using h1)
  have hl := vars_len (l := l) (by simpa using h1)
  cases hc : cntR l 1 with
  | none => rw [hc] at h; cases h
  | some d =>
    refine ⟨⟨hl, fun v hm => by have := hv v hm; omega, ?_⟩, rfl⟩
    exact cntR_len (fun v h => by have := hv v h; omega) hc (by decide) (out := [[]]) rfl
def boxesG (l : List Vr) (t care : List Bool) : List Bx × Int :=
  if (allG l).2 ≠ 0 then ([], (allG l).2) else if t.length ≠ (allG l).1.length ∨ care.length ≠ (allG l).1.length then ([], 4) else (coverR l (allG l).1 t care, 0)
theorem boxes19 (O : List Heap) (l : List Vr) (t care : List Bool) (hl : l.length ≤ max63) (hn : ∀ v ∈ l, v.name.size ≤ max63) : ASpec Tryd.prog 19 [vrs l, bools t, bools care] O (.tup [bxs (boxesG l t care).1, ii (boxesG l t care).2]) [] O := by
  have ha := fun O => allG30 O l hl hn
  have hok := @allG_ok l
  generalize hR : boxesG l t care = R
  unfold boxesG at hR
  by_cases he : (allG l).2 ≠ 0
  · rw [if_pos he] at hR
    subst hR
    generalize allG l = A at *
    obtain ⟨dom, e⟩ := A
    simp only at ha he
    refine aspec_intro Tk Tryd.func19 rfl Tryd.call19 Tryd.ntmps19 (Nat.le_of_ble_eq_true rfl) fun E => ?_
    refine g_run Tk Tryd.func19 ?_
    first | refine g_call Tk Tryd.func19 (ha _) rfl rfl rfl rfl rfl ?_ | refine s_callq Tk (fun _ => ha _) rfl rfl rfl ?_
    first | refine g_cnd Tk Tryd.func19 rfl (fun h1 => ?_) (fun h1 => ?_) | refine g_know Tk Tryd.func19 rfl (fun h1 => ?_) (fun h1 => ?_) | refine s_know Tk (fun h1 => ?_) (fun h1 => ?_)
    rotate_left
    · exact absurd (bneF h1) he
    refine g_ret_co Tk (r := _) rfl rfl rfl trivial rfl rfl ?_
    repeat' (first | refine coD_tup ?_ | refine coD_agg ?_ | refine coD_i ?_ | refine CoDL.cons ?_ ?_ | exact CoDL.nil | exact coI_nil | refine coI_sl ?_ | refine CoLL.cons ?_ ?_ | exact CoLL.nil | refine CoL.cons ?_ ?_ | exact CoL.nil | exact CoI.refl _ | exact CoL.refl _ | exact CoLL.refl _ | exact CoDL.refl _ | exact CoD.refl _)
  rw [if_neg he] at hR
  obtain ⟨hd, e⟩ := hok (by simpa using he)
  have hv := hd.vals
  rw [e] at ha hR
  simp only at ha hR
  clear hok he e hd
  generalize allV l = dom at *
  have hcov := fun O h1 h2 => covered71 O l dom t care hv h1 h2
  refine aspec_intro Tk Tryd.func19 rfl Tryd.call19 Tryd.ntmps19 (Nat.le_of_ble_eq_true rfl) fun E => ?_
  refine g_run Tk Tryd.func19 ?_
  first | refine g_call Tk Tryd.func19 (ha _) rfl rfl rfl rfl rfl ?_ | refine s_callq Tk (fun _ => ha _) rfl rfl rfl ?_
  repeat (first | refine g_cnd Tk Tryd.func19 rfl (fun _ => ?_) (fun h => absurd h (by decide)) | refine g_know Tk Tryd.func19 rfl (fun _ => ?_) (fun h => absurd h (by decide)) | refine s_know Tk (fun _ => ?_) (fun h => absurd h (by decide)) | refine g_cnd Tk Tryd.func19 rfl (fun h => absurd h (by decide)) (fun _ => ?_) | refine g_know Tk Tryd.func19 rfl (fun h => absurd h (by decide)) (fun _ => ?_) | refine s_know Tk (fun h => absurd h (by decide)) (fun _ => ?_) | refine g_cnd Tk Tryd.func19 rfl (fun _ => ?_) (fun h => absurd (show true = false from h) (by decide)) | refine g_know Tk Tryd.func19 rfl (fun _ => ?_) (fun h => absurd (show true = false from h) (by decide)) | refine s_know Tk (fun _ => ?_) (fun h => absurd (show true = false from h) (by decide)) | refine g_cnd Tk Tryd.func19 rfl (fun h => absurd (show false = true from h) (by decide)) (fun _ => ?_) | refine g_know Tk Tryd.func19 rfl (fun h => absurd (show false = true from h) (by decide)) (fun _ => ?_) | refine s_know Tk (fun h => absurd (show false = true from h) (by decide)) (fun _ => ?_))
  first | refine g_cnd Tk Tryd.func19 rfl (fun h1 => ?_) (fun h1 => ?_) | refine g_know Tk Tryd.func19 rfl (fun h1 => ?_) (fun h1 => ?_) | refine s_know Tk (fun h1 => ?_) (fun h1 => ?_)
  · have h1 : (t.length : Int) ≠ dom.length := bneT h1
    rw [if_pos (.inl (by omega))] at hR
    subst hR
    repeat (first | refine g_cnd Tk Tryd.func19 rfl (fun _ => ?_) (fun h => absurd h (by decide)) | refine g_know Tk Tryd.func19 rfl (fun _ => ?_) (fun h => absurd h (by decide)) | refine s_know Tk (fun _ => ?_) (fun h => absurd h (by decide)) | refine g_cnd Tk Tryd.func19 rfl (fun h => absurd h (by decide)) (fun _ => ?_) | refine g_know Tk Tryd.func19 rfl (fun h => absurd h (by decide)) (fun _ => ?_) | refine s_know Tk (fun h => absurd h (by decide)) (fun _ => ?_) | refine g_cnd Tk Tryd.func19 rfl (fun _ => ?_) (fun h => absurd (show true = false from h) (by decide)) | refine g_know Tk Tryd.func19 rfl (fun _ => ?_) (fun h => absurd (show true = false from h) (by decide)) | refine s_know Tk (fun _ => ?_) (fun h => absurd (show true = false from h) (by decide)) | refine g_cnd Tk Tryd.func19 rfl (fun h => absurd (show false = true from h) (by decide)) (fun _ => ?_) | refine g_know Tk Tryd.func19 rfl (fun h => absurd (show false = true from h) (by decide)) (fun _ => ?_) | refine s_know Tk (fun h => absurd (show false = true from h) (by decide)) (fun _ => ?_))
    refine g_ret_co Tk (r := _) rfl rfl rfl trivial rfl rfl ?_
    repeat' (first | refine coD_tup ?_ | refine coD_agg ?_ | refine coD_i ?_ | refine CoDL.cons ?_ ?_ | exact CoDL.nil | exact coI_nil | refine coI_sl ?_ | refine CoLL.cons ?_ ?_ | exact CoLL.nil | refine CoL.cons ?_ ?_ | exact CoL.nil | exact CoI.refl _ | exact CoL.refl _ | exact CoLL.refl _ | exact CoDL.refl _ | exact CoD.refl _)
  have h1 : (t.length : Int) = dom.length := bneF h1
  first | refine g_cnd Tk Tryd.func19 rfl (fun h2 => ?_) (fun h2 => ?_) | refine g_know Tk Tryd.func19 rfl (fun h2 => ?_) (fun h2 => ?_) | refine s_know Tk (fun h2 => ?_) (fun h2 => ?_)
  · have h2 : (care.length : Int) ≠ dom.length := bneT h2
    rw [if_pos (.inr (by omega))] at hR
    subst hR
    refine g_ret_co Tk (r := _) rfl rfl rfl trivial rfl rfl ?_
    repeat' (first | refine coD_tup ?_ | refine coD_agg ?_ | refine coD_i ?_ | refine CoDL.cons ?_ ?_ | exact CoDL.nil | exact coI_nil | refine coI_sl ?_ | refine CoLL.cons ?_ ?_ | exact CoLL.nil | refine CoL.cons ?_ ?_ | exact CoL.nil | exact CoI.refl _ | exact CoL.refl _ | exact CoLL.refl _ | exact CoDL.refl _ | exact CoD.refl _)
  have h2 : (care.length : Int) = dom.length := bneF h2
  rw [if_neg (by omega)] at hR
  subst hR
  first | refine g_call Tk Tryd.func19 (hcov _ (by omega) (by omega)) rfl rfl rfl rfl rfl ?_ | refine s_callq Tk (fun _ => hcov _ (by omega) (by omega)) rfl rfl rfl ?_
  refine g_ret Tk (r := .tup [bxs _, ii 0]) rfl rfl rfl trivial rfl rfl ?_
  rfl
instance bxDec : DecidableEq Bx := fun a b => decidable_of_iff (a.low = b.low ∧ a.high = b.high) ⟨fun ⟨h1, h2⟩ => by cases a; cases b; cases h1; cases h2; rfl, fun h => by subst h; exact ⟨rfl, rfl⟩⟩
end Go.AI
