/- The layer of abstract runs, part 41. -/
import Derived.Test.YtdehnnadfbildaaGreatDoorStpZN
import Derived.Shelf.Strings.Builder1
import Derived.Deep.Heap
import Derived.Shelf.RegionOpenPlain
import Derived.WalkKit
import Derived.Deep.RegionLaw
import Derived.Lib.Walk
import Derived.Lib.SliceRun
import Derived.KernelRfl
set_option linter.unusedSimpArgs false
set_option linter.unusedVariables false
set_option linter.all false

/- The domain of variables; covers, by tables. -/
namespace Go.AI
set_option maxRecDepth 20000
theorem inV_len : ∀ {l : List Vr} {v : List Int}, inV l v → v.length = l.length
  | [], [], _ => rfl
  | _ :: r, _ :: xs, h => by simp [inV_len h.2]
  | [], _ :: _, h => h.elim
  | _ :: _, [], h => h.elim
theorem inV_app : ∀ {l : List Vr} {v : List Int} {a : Vr} {n : Int}, v.length = l.length → (inV (l ++ [a]) (v ++ [n]) ↔ inV l v ∧ a.low ≤ n ∧ n ≤ a.high)
  | [], [], a, n, _ => by simp [inV]
  | b :: r, x :: xs, a, n, e => by
    have := inV_app (l := r) (v := xs) (a := a) (n := n) (by simpa using e)
    simp only [List.cons_append, inV, this]
    constructor
    · rintro ⟨h1, h2, h3⟩; exact ⟨⟨h1, h2⟩, h3⟩
    · rintro ⟨⟨h1, h2⟩, h3⟩; exact ⟨h1, h2, h3⟩
  | [], _ :: _, _, _, e => by cases e
  | _ :: _, [], _, _, e => by cases e
theorem mem_range {lo hi n : Int} : n ∈ rangeI lo hi ↔ lo ≤ n ∧ n ≤ hi := by
  unfold rangeI
  simp only [List.mem_map, List.mem_range]
  constructor
  · rintro ⟨k, hk, rfl⟩; omega
  · intro h; exact ⟨(n - lo).toNat, by omega, by omega⟩
theorem range_nodup (lo hi : Int) : (rangeI lo hi).Nodup := by
  unfold rangeI
  refine List.Pairwise.map _ ?_ List.nodup_range
  intro a b h e
  exact h (by omega)
/-- A list of values is the domain of variables. -/
structure DomOk (l : List Vr) (out : List (List Int)) : Prop where
  mem : ∀ v, v ∈ out ↔ inV l v
  nd : out.Nodup
theorem dom_step {l : List Vr} {out : List (List Int)} {a : Vr} (h : DomOk l out) : DomOk (l ++ [a]) (allStep out a) := by
  refine ⟨fun v => ?_, ?_⟩
  · unfold allStep
    simp only [List.mem_flatMap, List.mem_map]
    constructor
    · rintro ⟨w, hw, n, hn, rfl⟩
      have := (h.mem w).1 hw
      exact (inV_app (inV_len this)).2 ⟨this, mem_range.1 hn⟩
    · intro hv
      have hl := inV_len hv
      have hne : v ≠ [] := by intro e; subst e; simp at hl
      have e := List.dropLast_concat_getLast hne
      have hl2 : v.dropLast.length = l.length := by simp at hl ⊢; omega
      rw [← e] at hv
      obtain ⟨h1, h2⟩ := (inV_app hl2).1 hv
      exact ⟨_, (h.mem _).2 h1, _, mem_range.2 h2, e⟩
  · unfold allStep
    rw [List.nodup_iff_pairwise_ne, List.pairwise_flatMap]
    refine ⟨fun v _ => ?_, ?_⟩
    · refine List.Pairwise.map _ ?_ (List.nodup_iff_pairwise_ne.1 (range_nodup a.low a.high))
      intro x y hxy e
      exact hxy (by simpa using e)
    · refine List.Pairwise.imp ?_ (List.nodup_iff_pairwise_ne.1 h.nd)
      intro x y hxy u hu w hw e
      obtain ⟨n, _, rfl⟩ := List.mem_map.1 hu
      obtain ⟨k, _, rfl⟩ := List.mem_map.1 hw
      exact hxy (List.append_inj_left' e rfl)
theorem dom_fold : ∀ (r l : List Vr) (out : List (List Int)), DomOk l out → DomOk (l ++ r) (r.foldl allStep out)
  | [], l, out, h => by simpa using h
  | a :: r, l, out, h => by
    have := dom_fold r (l ++ [a]) (allStep out a) (dom_step h)
    simpa using this
theorem allV_dom (l : List Vr) : DomOk l (allV l) := by
  have := dom_fold l [] [[]] ⟨fun v => ?_, by simp⟩
  · simpa [allV] using this
  · cases v <;> simp [inV]
/-! Tables. -/
/-- What the cover of a table over a domain is. -/
structure CovR (l : List Vr) (all : List (List Int)) (t c : List Bool) (R : List Bx) : Prop where
  low : ∀ b ∈ R, b.low.length = l.length
  high : ∀ b ∈ R, b.high.length = l.length
  say : ∀ (i : Nat) v b, all[i]? = some v → t[i]? = some b → c[i]? = some true → inBs R v = b
  own : ∀ k1 b k2, R = k1 ++ b :: k2 → ∃ (i : Nat) (v : List Int), all[i]? = some v ∧ c[i]? = some true ∧ b.has v = true ∧ inBs (k1 ++ k2) v = false
end Go.AI


/- All, of any list of variables. -/
namespace Go.AI
open Go.Proofs
set_option maxRecDepth 20000
def Vr.w (v : Vr) : Int := v.high - v.low + 1
/-- The size of a domain, unless it is too large. -/
def cntR : List Vr → Int → Option Int
  | [], c => some c
  | v :: r, c => if c * v.w > 4096 then none else cntR r (c * v.w)
/-- All values, or the error. -/
def allG (l : List Vr) : List (List Int) × Int := if varsErr l ≠ 0 then ([], varsErr l) else match cntR l 1 with
  | none => ([], 3)
  | some _ => (allV l, 0)
end Go.AI


/- Tables of guards; boxes that contain values; equal lists. -/
namespace Go.AI
open Go.Proofs
set_option maxRecDepth 20000
abbrev bools (l : List Bool) : D := .i (.sl 1 l.length (l.map fun b => [.v (.bool b)]))
abbrev obools (l : List Bool) : Ob := .arr 4 1 l.length (l.map fun b => [.v (.bool b)]) true
end Go.AI


/- Equal lists, boxes that contain values, searches in lists of boxes and of values. -/
namespace Go.AI
open Go.Proofs
set_option maxRecDepth 20000
theorem sameInts36 (O : List Heap) (a b : List Int) (ha : a.length ≤ max63) : ASpec Tryz.prog 21 [ints a, ints b] O (bb (decide (a = b))) [] O := by
  refine aspec_intro Tk Tryz.func21 rfl Tryz.call21 Tryz.ntmps21 (Nat.le_of_ble_eq_true rfl) fun E => ?_
  refine g_run Tk Tryz.func21 ?_
  first | refine g_cnd Tk Tryz.func21 rfl (fun h1 => ?_) (fun h1 => ?_) | refine g_know Tk Tryz.func21 rfl (fun h1 => ?_) (fun h1 => ?_) | refine s_know Tk (fun h1 => ?_) (fun h1 => ?_)
  · have h1 := bneT h1
    rw [decide_eq_false fun e => h1 (by rw [e])]
    refine g_ret Tk (r := bb false) rfl rfl rfl trivial rfl rfl ?_
    rfl
  have h1 := bneF h1
  have hlen : a.length = b.length := by
    have : ((a.length : Nat) : Int) = b.length := by simpa using h1
    omega
  refine g_loop ?_
  refine rch_loop2 (fun i : Nat => [(0, ints a), (1, ints b), (5, ii i)]) (fun _ => []) (fun _ => O) 26
    (fun i => i ≤ a.length ∧ ∀ (j : Nat) (h : j < a.length), j < i → a[j] = b[j]'(by omega)) (fun i => a.length - i) 0 ⟨Nat.zero_le _, fun j _ h => by omega⟩ ⟨rfl, rfl, rfl, trivial⟩ rfl trivial rfl rfl ?_
  rintro i ⟨hi, hno⟩ ih
  refine g_run Tk Tryz.func21 ?_
  first | refine g_cnd Tk Tryz.func21 rfl (fun h2 => ?_) (fun h2 => ?_) | refine g_know Tk Tryz.func21 rfl (fun h2 => ?_) (fun h2 => ?_) | refine s_know Tk (fun h2 => ?_) (fun h2 => ?_)
  · have h2 : i < a.length := by simpa using h2
    have ga : (a.map fun x => [vi x])[(i : Int).toNat]? = some [(fun x => vi x) a[i]] := get_mapZ (f := fun x => [vi x]) h2
    have gb : (b.map fun x => [vi x])[(i : Int).toNat]? = some [(fun x => vi x) (b[i]'(by omega))] := get_mapZ (f := fun x => [vi x]) (by omega)
    have hne : a[i] ≠ b[i]'(by omega) → a ≠ b := fun h e => by subst e; exact h rfl
    have hstep : a[i] = b[i]'(by omega) → ∀ (j : Nat) (h : j < a.length), j < i + 1 → a[j] = b[j]'(by omega) := fun h j hj hji => by
      by_cases e : j = i
      · subst e; exact h
      · exact hno j hj (by omega)
    generalize a[i] = x at *
    generalize b[i]'(by omega) = y at *
    refine g_drawn Tk Tryz.func21 mixedT rfl ?_
    first | refine g_need Tk Tryz.func21 (by exact ⟨by omega, by show (i : Int) < (a.length : Int); omega⟩) ?_ | refine s_need Tk (by exact ⟨by omega, by show (i : Int) < (a.length : Int); omega⟩) ?_
    first | refine g_elem Tk Tryz.func21 (ga) ?_ | refine s_elem Tk (ga) ?_
    first | refine g_need Tk Tryz.func21 (by exact ⟨by omega, by show (i : Int) < (b.length : Int); omega⟩) ?_ | refine s_need Tk (by exact ⟨by omega, by show (i : Int) < (b.length : Int); omega⟩) ?_
    first | refine g_elem Tk Tryz.func21 (gb) ?_ | refine s_elem Tk (gb) ?_
    refine e_done Tk Tryz.func21 (by kernel_rfl) ?_
    first | refine g_cnd Tk Tryz.func21 rfl (fun h3 => ?_) (fun h3 => ?_) | refine g_know Tk Tryz.func21 rfl (fun h3 => ?_) (fun h3 => ?_) | refine s_know Tk (fun h3 => ?_) (fun h3 => ?_)
    · have h3 : x ≠ y := by simpa using h3
      rw [decide_eq_false (hne h3)]
      refine g_ret Tk (r := bb false) rfl rfl rfl trivial rfl rfl ?_
      rfl
    · have h3 : x = y := by simpa using h3
      refine g_loop ?_
      exact ih (i + 1) _ _ ⟨h2, hstep h3⟩ (by omega) ⟨rfl, rfl, congrArg ii (wsucc h2 ha), trivial⟩ rfl trivial rfl rfl
  · have h2 : a.length ≤ i := by simpa using h2
    have : a = b := List.ext_getElem hlen fun j h h' => hno j h (by omega)
    rw [decide_eq_true this]
    refine g_ret Tk (r := bb true) rfl rfl rfl trivial rfl rfl ?_
    rfl
end Go.AI


/- Searches with closures; whether a box is free. -/
namespace Go.AI
open Go.Proofs
set_option maxRecDepth 20000
end Go.AI


/- Growing a box. -/
namespace Go.AI
open Go.Proofs
set_option maxRecDepth 20000
end Go.AI


/- The law's own: within, permitted, grow. -/
namespace Go.AI
open Go.Proofs
set_option maxRecDepth 20000
end Go.AI


/- The law's domain, table, bits. -/
namespace Go.AI
open Go.Proofs
set_option maxRecDepth 20000
end Go.AI


/- The law's table, bits, covered. -/
namespace Go.AI
open Go.Proofs
set_option maxRecDepth 20000
/-- What the law asks of variables. -/
structure domOk (l : List Vr) : Prop where
  len : l.length ≤ 16
  b : ∀ v ∈ l, (-65536 ≤ v.low ∧ v.high ≤ 65536) ∧ v.low ≤ v.high
  cnt : ∀ j, (allV (l.take j)).length ≤ 4096
theorem domOk.all {l : List Vr} (h : domOk l) : (allV l).length ≤ 4096 := by have := h.cnt l.length; rwa [List.take_length] at this
theorem allV_mem_len {l : List Vr} {v : List Int} (h : v ∈ allV l) : v.length = l.length := inV_len ((allV_dom l).mem v |>.1 h)
end Go.AI


/- The law's covered and cover. -/
namespace Go.AI
open Go.Proofs
set_option maxRecDepth 20000
end Go.AI


/- The law's cover. -/
namespace Go.AI
open Go.Proofs
set_option maxRecDepth 20000
theorem dom_bounds {l : List Vr} (h : domOk l) {v : List Int} (hv : v ∈ allV l) : ∀ j, -65536 ≤ v.getD j 0 ∧ v.getD j 0 ≤ 65536 := by
  have h1 := (allV_dom l).mem v |>.1 hv
  have hb := h.b
  clear h hv
  induction l generalizing v with
  | nil => cases v with
    | nil => intro j; simp
    | cons x xs => exact h1.elim
  | cons a r ih =>
    cases v with
    | nil => exact h1.elim
    | cons x xs =>
      intro j
      cases j with
      | zero => have := hb a (by simp); have := h1.1; simp only [List.getD_cons_zero]; omega
      | succ j => simpa using ih (v := xs) h1.2 (fun v hv => hb v (by simp [hv])) j
end Go.AI


/- strings.Builder, told whole: what a write changes, and that nothing else changes. -/
namespace Go.Proofs
open Go.Shelf Go.RowKit
variable {P : Program} {ρ : Ren}
theorem heap_set0 {w : World} {b : Nat} {p q v : Value} {T : TypeId} (h : w.heap[b]? = some (.cells #[p, v] T (0, 0))) : (w.setCell ⟨b, 0, none⟩ q).heap[b]? = some (.cells #[q, v] T (0, 0)) := by
  show (Array.modify _ _ _)[b]? = _
  rw [Array.getElem?_modify, if_pos rfl, h]
  rfl
theorem heap_set1 {w : World} {b : Nat} {p q v : Value} {T : TypeId} (h : w.heap[b]? = some (.cells #[p, v] T (0, 0))) : (w.setCell ⟨b, 1, none⟩ q).heap[b]? = some (.cells #[p, q] T (0, 0)) := by
  show (Array.modify _ _ _)[b]? = _
  rw [Array.getElem?_modify, if_pos rfl, h]
  rfl
theorem ownsRow_at {w w' : World} {e : TypeId} {v : Value} {n : Nat} {xs : List Value} (h : w.ownsRow 0 e 1 v n xs) (hb : ∀ k, v.ownBlock = some k → w'.heap[k]? = w.heap[k]?) : w'.ownsRow 0 e 1 v n xs := by
  refine ⟨h.1, ?_⟩
  rcases h.2 with h1 | ⟨g, cap, cur, rfl, h2, h3, h4⟩
  · exact .inl h1
  · exact .inr ⟨g, cap, cur, rfl, h2, by rw [hb g rfl]; exact h3, h4⟩
section
variable (w : World)
/-- Where the row of an append lies: where it lay, or in a new block. -/
def RowAt (w : World) (v v' : Value) : Prop := v'.ownBlock = v.ownBlock ∨ ∀ k, v'.ownBlock = some k → w.heap.size ≤ k
theorem append_str_law (t u ty e : TypeId) (i : TypeInfo) (ht : P.underlying t = some (.slice e)) (hu : P.underlying u = some .string) (hi : P.info? e = some i) (hz : i.zero = some (.int .u8 0))
    (hsize : i.size = 1) (hby : i.bytes = 1) (v : Value) (n : Nat) (xs : List Value) (hown : w.ownsRow 0 e 1 v n xs) (s : ByteArray) (h63 : n + s.size ≤ maxLen) (hbytes : n + s.size ≤ 140737488355328) :
    ∃ v' w', (Builtin.append_ #[t, u] ty #[v, .string s]).run P w = .ok v' w' ∧ w'.ownsRow 0 e 1 v' (n + s.size) (xs ++ Lib.strCells s) ∧ w.grownBy w' v.ownBlock ∧ RowAt w v v' := by
  obtain ⟨v', w', hr, h2, h3, -⟩ := Lib.run_append_own_string (P := P) w 0 t u ty e i ht hu hi hz hsize hby v n xs hown s h63 hbytes (Nat.zero_le _)
  refine ⟨v', w', hr, h2, h3, ?_⟩
  have hxl : xs.length = n := by simpa using hown.1
  rcases hown.2 with ⟨rfl, rfl⟩ | ⟨g, cap, cur, rfl, hbg, hg, hnc, hcm, hcs, htake⟩
  · obtain rfl : xs = [] := List.eq_nil_of_length_eq_zero hxl
    obtain ⟨v2, w2, hr2, h5, -⟩ := Lib.run_append_own_string (P := P) w w.heap.size t u ty e i ht hu hi hz hsize hby (.slice none 0 0) 0 [] (World.ownsRow_nil w _ e 1) s h63 hbytes (Nat.le_refl _)
    have e1 : v' = v2 := by have := hr.symm.trans hr2; injection this
    subst e1
    exact .inr fun k hk => (h5.lt k hk).1
  · by_cases hroom : n + s.size ≤ cap
    · have hr2 := Lib.run_append_room_string (P := P) w t u ty e i ht hu hi hsize g n cap cur hg s hroom (by omega)
      have e1 : v' = .slice (some ⟨g, 0, none⟩) (n + s.size) cap := by have := hr.symm.trans hr2; injection this
      subst e1
      exact .inl rfl
    · have holds : ∀ j u, xs[j]? = some u → w.cell? ((⟨g, 0, none⟩ : Addr).add j) = some u := hown.cells (g := g) rfl
      have hr2 := Lib.run_append_grow_string (P := P) w t u ty e i (.int .u8 0) ht hu hi hz ⟨g, 0, none⟩ n cap xs (by rw [hsize]; simpa using hxl) holds s (by omega) (by simp only [maxLen] at h63; omega) (by rw [hby]; exact growslice_fits (by omega) (by omega))
      have e1 : v' = .slice (some ⟨w.heap.size, 0, none⟩) (n + s.size) (grownCap w (n + s.size) cap e) := by have := hr.symm.trans hr2; injection this
      subst e1
      exact .inr fun k hk => by simp [Value.ownBlock] at hk; omega
theorem append_row_law (t ty e : TypeId) (i : TypeInfo) (ht : P.underlying t = some (.slice e)) (hi : P.info? e = some i) (hz : i.zero = some (.int .u8 0))
    (hsize : i.size = 1) (hby : i.bytes = 1) (v : Value) (n : Nat) (xs : List Value) (hown : w.ownsRow 0 e 1 v n xs)
    (a : Addr) (m c : Nat) (news : List Value) (hl : news.length = m * 1) (hnews : ∀ j u, news[j]? = some u → w.cell? (a.add j) = some u) (h1 : ∀ u ∈ news, u.oneCell' = true)
    (h63 : n + m ≤ maxLen) (hbytes : (n + m) * 1 ≤ 140737488355328) :
    ∃ v' w', (Builtin.append_ #[t, t] ty #[v, .slice (some a) m c]).run P w = .ok v' w' ∧ w'.ownsRow 0 e 1 v' (n + m) (xs ++ news) ∧ w.grownBy w' v.ownBlock ∧ RowAt w v v' := by
  obtain ⟨v', w', hr, h2, h3, -⟩ := run_append_own (P := P) w 0 t ty e i (.int .u8 0) 1 1 ht hi hz hsize hby rfl (by decide) v n xs hown a m c news hl hnews h1 h63 hbytes (Nat.zero_le _)
  refine ⟨v', w', hr, h2, h3, ?_⟩
  have hxl : xs.length = n := by simpa using hown.1
  rcases hown.2 with ⟨rfl, rfl⟩ | ⟨g, cap, cur, rfl, hbg, hg, hnc, hcm, hcs, htake⟩
  · obtain rfl : xs = [] := List.eq_nil_of_length_eq_zero hxl
    obtain ⟨v2, w2, hr2, h5, -⟩ := run_append_own (P := P) w w.heap.size t ty e i (.int .u8 0) 1 1 ht hi hz hsize hby rfl (by decide) (.slice none 0 0) 0 [] (World.ownsRow_nil w _ e 1) a m c news hl hnews h1 h63 hbytes (Nat.le_refl _)
    have e1 : v' = v2 := by have := hr.symm.trans hr2; injection this
    subst e1
    exact .inr fun k hk => (h5.lt k hk).1
  · by_cases hroom : n + m ≤ cap
    · have hr2 := run_append_room (P := P) w t ty e i ht hi g n cap cur hg a m c news (by rw [hsize]; exact hl) hnews h1 hroom (by rw [hsize]; omega)
      have e1 : v' = .slice (some ⟨g, 0, none⟩) (n + m) cap := by have := hr.symm.trans hr2; injection this
      subst e1
      exact .inl rfl
    · have holds : ∀ j u, xs[j]? = some u → w.cell? ((⟨g, 0, none⟩ : Addr).add j) = some u := hown.cells (g := g) rfl
      have hr2 := run_append_grow (P := P) w t ty e i (.int .u8 0) ht hi hz ⟨g, 0, none⟩ n cap xs (by rw [hsize]; simpa using hxl) holds a m c news (by rw [hsize]; exact hl) hnews (by omega) (by simp only [maxLen] at h63; omega) (by rw [hby]; exact growslice_fits (by omega) hbytes)
      have e1 : v' = .slice (some ⟨w.heap.size, 0, none⟩) (n + m) (grownCap w (n + m) cap e) := by have := hr.symm.trans hr2; injection this
      subst e1
      exact .inr fun k hk => by simp [Value.ownBlock] at hk; omega
theorem wpList_app_str {ops : Array Oper} {rest : List Oper} {o : Oper} {a : Act} {Q : Exit → Act → World → Prop} (hgd : o.guard = none) (sl x : Operand) (t u : TypeId)
    (ho : o.op = .call { callee := .builtin .append, args := #[sl, x], argTypes := #[t, u] })
    (e : TypeId) (i : TypeInfo) (ht : P.underlying t = some (.slice e)) (hu : P.underlying u = some .string) (hi : P.info? e = some i) (hz : i.zero = some (.int .u8 0)) (hsize : i.size = 1) (hby : i.bytes = 1)
    (v : Value) (n : Nat) (xs : List Value) (hs : a.eval sl = v) (hown : w.ownsRow 0 e 1 v n xs) (s : ByteArray) (hx : a.eval x = .string s) (h63 : n + s.size ≤ maxLen) (hbytes : n + s.size ≤ 140737488355328)
    (h : ∀ v' w', w'.ownsRow 0 e 1 v' (n + s.size) (xs ++ Lib.strCells s) → w.grownBy w' v.ownBlock → RowAt w v v' → wpList P ops Q rest (a.put o.dst v') w') : wpList P ops Q (o :: rest) a w := by
  refine wpList_plain hgd fun K hK => ?_
  obtain ⟨v', w', hr, h2, h3, h4⟩ := append_str_law (P := P) w t u o.type e i ht hu hi hz hsize hby v n xs hown s h63 hbytes
  unfold Oper.wp execOp
  simp only [ho, resolve, invoke, builtin, Sem.run_bind, Sem.run_pure, Result.andThen_ok, List.map_toArray, List.map_cons, List.map_nil, hs, hx, hr]
  exact hK _ _ (h v' w' h2 h3 h4)
theorem wpList_app_row {ops : Array Oper} {rest : List Oper} {o : Oper} {a : Act} {Q : Exit → Act → World → Prop} (hgd : o.guard = none) (sl x : Operand) (t : TypeId)
    (ho : o.op = .call { callee := .builtin .append, args := #[sl, x], argTypes := #[t, t] })
    (e : TypeId) (i : TypeInfo) (ht : P.underlying t = some (.slice e)) (hi : P.info? e = some i) (hz : i.zero = some (.int .u8 0)) (hsize : i.size = 1) (hby : i.bytes = 1)
    (v : Value) (n : Nat) (xs : List Value) (hs : a.eval sl = v) (hown : w.ownsRow 0 e 1 v n xs)
    (ad : Addr) (m c : Nat) (news : List Value) (hx : a.eval x = .slice (some ad) m c) (hl : news.length = m * 1) (hnews : ∀ j u, news[j]? = some u → w.cell? (ad.add j) = some u) (h1 : ∀ u ∈ news, u.oneCell' = true)
    (h63 : n + m ≤ maxLen) (hbytes : (n + m) * 1 ≤ 140737488355328)
    (h : ∀ v' w', w'.ownsRow 0 e 1 v' (n + m) (xs ++ news) → w.grownBy w' v.ownBlock → RowAt w v v' → wpList P ops Q rest (a.put o.dst v') w') : wpList P ops Q (o :: rest) a w := by
  refine wpList_plain hgd fun K hK => ?_
  obtain ⟨v', w', hr, h2, h3, h4⟩ := append_row_law (P := P) w t o.type e i ht hi hz hsize hby v n xs hown ad m c news hl hnews h1 h63 hbytes
  unfold Oper.wp execOp
  simp only [ho, resolve, invoke, builtin, Sem.run_bind, Sem.run_pure, Result.andThen_ok, List.map_toArray, List.map_cons, List.map_nil, hs, hx, hr]
  exact hK _ _ (h v' w' h2 h3 h4)
end
/-- What a write does: its own address is stored where there was none; perhaps a new block; an append to the row; the row is stored. -/
def Wrote (T e : TypeId) (b : Nat) (p v0 : Value) (bs news : List Value) (w w' : World) : Prop :=
  ∃ w1 w2 w3 v', ((w1 = w ∧ p = .pointer (some ⟨b, 0, none⟩)) ∨ (w1 = w.setCell ⟨b, 0, none⟩ (.pointer (some ⟨b, 0, none⟩)) ∧ p = .pointer none)) ∧ (w2 = w1 ∨ ∃ o, w2 = w1.alloc o) ∧
    w3.ownsRow 0 e 1 v' (bs.length + news.length) (bs ++ news) ∧ w2.grownBy w3 v0.ownBlock ∧ RowAt w2 v0 v' ∧ w' = w3.setCell ⟨b, 1, none⟩ v'
set_option maxHeartbeats 1000000 in
set_option maxRecDepth 100000 in
/-- String, of a builder that holds a byte. -/
theorem bld_string (L : Lays.n169 P ρ) (X : Builder.Extra P ρ) (b : Nat) (p v : Value) (l : List UInt8) (w : World) (hbk : w.heap[b]? = some (.cells #[p, v] (ρ.t 72) (0, 0))) (hown : w.ownsRow 0 (ρ.t 5) 1 v l.length (Lib.byteCells l)) (h0 : l ≠ []) :
    Calls P (ρ.f 169) #[.pointer (some ⟨b, 0, none⟩)] w fun e w' => e = .returned (.string ⟨l.toArray⟩) ∧ ∃ g, v.ownBlock = some g ∧ w' = w.drew.freeze ⟨g, 0, none⟩ l.length := by
  have hl0 : l.length ≠ 0 := by simpa using h0
  obtain ⟨g, cap, cur, rfl, hbg, hg, hnc, hcm, hcs, htake⟩ : ∃ g cap cur, v = .slice (some ⟨g, 0, none⟩) l.length cap ∧ 0 ≤ g ∧ w.heap[g]? = some (.cells cur (ρ.t 5) (0, 0)) ∧ l.length ≤ cap ∧ cap ≤ maxLen ∧ cur.size = cap * 1 ∧ cur.toList.take (l.length * 1) = Lib.byteCells l := by
    rcases hown.2 with ⟨_, hz⟩ | ⟨g, cap, cur, hv, r⟩
    · exact absurd hz hl0
    · exact ⟨g, cap, cur, hv, r⟩
  have c1 : w.drew.cell? ⟨b, 1, none⟩ = some (.slice (some ⟨g, 0, none⟩) l.length cap) := by
    have : w.drew.heap[b]? = some (.cells #[p, .slice (some ⟨g, 0, none⟩) l.length cap] (ρ.t 72) (0, 0)) := hbk
    rw [Lib.cell_of_heap this]; rfl
  have hSD : (Builtin.unsafeSliceData_ #[(ρ.t 37)] (ρ.t 127) #[.slice (some ⟨g, 0, none⟩) l.length cap]).run P w.drew = .ok (.pointer (some ⟨g, 0, none⟩)) w.drew :=
    Lib.run_unsafeSliceData_row _ _ _ _ _ _ (by omega)
  have hUS : (Builtin.unsafeString_ #[(ρ.t 127), (ρ.t 3)] (ρ.t 9) #[.pointer (some ⟨g, 0, none⟩), .int .i64 l.length]).run P w.drew = .ok (.string ⟨l.toArray⟩) (w.drew.freeze ⟨g, 0, none⟩ l.length) := by
    refine Lib.run_unsafeString_row w.drew (ρ.t 127) (ρ.t 3) (ρ.t 9) (ρ.t 5) L.t127 X.cellsByte g cur.size (by have hg' : w.drew.heap[g]? = some (.cells cur (ρ.t 5) (0, 0)) := hg; simp [World.shape?, hg']) l h0 (by omega) (by unfold maxLen at hcm; omega) ?_
    intro j x hx
    have := hown.cells (g := g) rfl j (.int .u8 x.toNat) (by simp [Lib.byteCells, hx])
    exact this
  have mixed := L.mixed
  have t72 := L.t72; have a72 := L.a72; have z72 := L.z72; have v72 := L.v72; have u72 := run_underlying L.t72
  have t70 := L.t70; have a70 := L.a70; have z70 := L.z70; have v70 := L.v70; have u70 := run_underlying L.t70
  have t37 := L.t37; have a37 := L.a37; have z37 := L.z37; have v37 := L.v37; have u37 := run_underlying L.t37
  have t127 := L.t127; have a127 := L.a127; have z127 := L.z127; have v127 := L.v127; have u127 := run_underlying L.t127
  have t3 := L.t3; have a3 := L.a3; have z3 := L.z3; have v3 := L.v3; have u3 := run_underlying L.t3
  have t9 := L.t9; have a9 := L.a9; have z9 := L.z9; have v9 := L.v9; have u9 := run_underlying L.t9
  have t5 := X.t5; have a5 := X.a5; have z5 := X.z5; have v5 := X.v5; have u5 := run_underlying X.t5
  go_enter L.f169, Body.n169_ntmps ρ
  go_wp2
  go_region_o
  all_goals (go_wp2; go_ret; exact ⟨rfl, g, rfl, rfl⟩)
end Go.Proofs


/- A builder of the own frame: what a write does to the state. -/
namespace Go.AI
open Go.Proofs
set_option maxRecDepth 20000
section
variable {E : Env} {K : Kn} {ρ : Nat → Nat → Loc} {w w' : World}
/-- The row behind an append, as an object. -/
theorem app_of_row {sh : Nat → Nat → Option Sh} {w3 : World} {l : Loc} {ty n m : Nat} {xs ys : List (List I)} {olds news : List Value} {v' : Value} (h : OwnAt K ρ sh w l (.arr ty 1 n xs true)) (ho : RepL K olds xs.flatten) (hn : RepL K news ys.flatten)
    (hy : ∀ d ∈ ys, d.length = 1) (hm : ys.length = m) (hrow : w3.ownsRow 0 ty 1 v' (n + m) (olds ++ news)) (hg : w.grownBy w3 (Value.slice l.base n l.cap).ownBlock) (hat : RowAt w (.slice l.base n l.cap) v')
    (hfresh : ∀ b o, w.heap.size ≤ b → K b o = none) :
    ∃ l' : Loc, v' = .slice l'.base (n + m) l'.cap ∧ (∀ (ρ' : Nat → Nat → Loc) (sh' : Nat → Nat → Option Sh), OwnAt K ρ' sh' w3 l' (.arr ty 1 (n + m) (xs ++ ys) true)) ∧ Apnd K w w3 l l' := by
  have hel : ∀ d ∈ xs ++ ys, d.length = 1 := fun d hd => by
    rcases List.mem_append.1 hd with h1 | h1
    · exact h.1 d h1
    · exact hy d h1
  have hlen : (xs ++ ys).length = n + m := by simp [h.2.1, hm]
  have hbase : l.base = none ∨ l.base = some ⟨l.block, 0, none⟩ := by
    rcases h.2.2.2.2 with ⟨_, h1⟩ | ⟨h1, _⟩
    · exact .inl h1
    · exact .inr h1
  have hold : ∀ b, b < w.heap.size → (l.base ≠ none → b ≠ l.block) → w3.heap[b]? = w.heap[b]? := fun b hb hne => hg.block b hb fun e => by
    rcases hbase with h1 | h1
    · rw [h1] at e; simp [Value.ownBlock] at e
    · rw [h1] at e
      simp only [Value.ownBlock, Option.some.injEq] at e
      exact hne (by rw [h1]; simp) e
  rcases hrow.2 with ⟨rfl, h0⟩ | ⟨g, cap, cur, rfl, _, hg3, hnc, hcm, hcs, htake⟩
  · refine ⟨⟨0, 0, none⟩, by rw [h0], fun ρ' sh' => ⟨hel, hlen, by simp only; omega, Nat.zero_le _, .inl ⟨rfl, rfl⟩⟩, ⟨hg.size, hold, ⟨hg.tape, hg.os, hg.output⟩, fun e => absurd rfl e⟩⟩
  · have hKg : ∀ o, K g o = none := by
      rcases hat with h1 | h1
      · rcases hbase with h2 | h2
        · rw [h2] at h1; simp [Value.ownBlock] at h1
        · rw [h2] at h1
          simp only [Value.ownBlock, Option.some.injEq] at h1
          subst h1
          rcases h.2.2.2.2 with ⟨_, h3⟩ | ⟨_, c, _, _, _, h4, _⟩
          · rw [h2] at h3; cases h3
          · exact h4 rfl
      · exact fun o => hfresh g o (h1 g rfl)
    have htk : cur.toList.take ((n + m) * 1) = olds ++ news := htake
    refine ⟨⟨g, cap, some ⟨g, 0, none⟩⟩, rfl, fun ρ' sh' => ⟨hel, hlen, hnc, hcm, .inr ⟨rfl, cur, hg3, hcs, ?_, fun _ o => hKg o, fun o _ => hKg o, fun e => by cases e⟩⟩, ⟨hg.size, hold, ⟨hg.tape, hg.os, hg.output⟩, fun _ => ?_⟩⟩
    · rw [htk, List.flatten_append]
      exact ho.append hn
    · rcases hat with h1 | h1
      · rcases hbase with h2 | h2
        · rw [h2] at h1; simp [Value.ownBlock] at h1
        · rw [h2] at h1
          simp only [Value.ownBlock, Option.some.injEq] at h1
          exact .inr ⟨by rw [h2]; simp, h1⟩
      · exact .inl (h1 g rfl)
/-- What a write of a builder is to do. -/
def WSpec (P : Program) (f : FuncId) (T ty : TypeId) (res x : Value) (news : List Value) : Prop := ∀ (b : Nat) (p v0 : Value) (bs : List Value) (w : World), (p = .pointer none ∨ p = .pointer (some ⟨b, 0, none⟩)) →
  w.heap[b]? = some (.cells #[p, v0] T (0, 0)) → w.ownsRow 0 ty 1 v0 bs.length bs → v0.ownBlock ≠ some b → bs.length + news.length ≤ 140737488355328 →
  Calls P f #[.pointer (some ⟨b, 0, none⟩), x] w fun e w' => e = .returned res ∧ Wrote T ty b p v0 bs news w w'
/-- A call, by what it does to the state. -/
def Wp (c : Cx) (o : Oper) (s : St) (f : FuncId) (args : List D) (s' : St) : Prop := ∀ K ρ a w, Inv c.E K ρ s a w → (∃ vs, (execOp a.eval o).run c.P w = (callFunc f vs.toArray).run c.P w ∧ RepDL K ρ (shape s.S) vs args) →
  ∀ (next : Act → World → Prop) (Qe : Exit → Act → World → Prop), (∀ v w' K' ρ', Inv c.E K' ρ' s' (a.put o.dst v) w' → next (a.put o.dst v) w') → o.wp c.P a w next Qe
theorem does_write {c : Cx} {s : St} {o : Oper} {f : FuncId} {t nm nm2 n m T ty : Nat} {dp dx rd : D} {x res : Value} {news : List Value} {xs ys : List (List I)} {H : Heap} {O : List Heap}
    (hspec : WSpec c.P f T ty res x news) (hent : ∀ args w, (callFunc f args).run c.P w = .ok (.enter f args) w) (hx : ∀ K ρ sh v, RepD K ρ sh v dx → v = x) (hr : ∀ K ρ sh, RepD K ρ sh res rd)
    (hdp : dp = .i (.v (.pointer none)) ∨ dp = .own 0 nm 0 0) (ht : o.dst = some t) (hn : t < s.n) (hS : s.S = H :: O) (hb : look H nm = some (.tb T [dp, .osl 0 nm2])) (ha : look H nm2 = some (.arr ty 1 n xs true))
    (hne : nm ≠ nm2) (hnews : ∀ K, RepL K news ys.flatten) (hy : ∀ d ∈ ys, d.length = 1) (hm : ys.length = m) (hlim : n + m ≤ 140737488355328) :
    Wp c o s f [.own 0 nm 0 0, dx] { σ := (t, rd) :: killσ nm2 s.σ, S := ((nm, .tb T [.own 0 nm 0 0, .osl 0 nm2]) :: (nm2, .arr ty 1 (n + m) (xs ++ ys) true) :: killH nm2 ((nm, .tb T [.own 0 nm 0 0, .osl 0 nm2]) :: H)) :: O, n := s.n } := by
  intro K ρ a w hi ⟨vs, hrun, hrep⟩ next Qe hnext
  have hh := hi.h
  rw [hS] at hh hrep
  have hob : objAt (H :: O) 0 nm = some (.tb T [dp, .osl 0 nm2]) := by simpa [objAt] using hb
  have hoa : objAt (H :: O) 0 nm2 = some (.arr ty 1 n xs true) := by simpa [objAt] using ha
  have e0 : (fun d n => ρ (0 + d) n) = ρ := by funext d n; rw [Nat.zero_add]
  have s0 : ∀ S : List Heap, shape (S.drop 0) = shape S := fun S => by rw [List.drop_zero]
  have hwb := hh.own _ _ _ hob
  rw [e0, s0] at hwb
  obtain ⟨cur, hc, hrc, hKb⟩ := hwb
  have hwa := hh.own _ _ _ hoa
  rw [e0, s0] at hwa
  obtain ⟨olds, hro, hrow⟩ := own_row hwa
  have hol : olds.length = n := by simpa using hrow.1
  have hshb : shape (H :: O) 0 nm = some .box := by simp [shape, hob, Ob.sh]
  have hsha : shape (H :: O) 0 nm2 = some (.arr 1 n) := by simp [shape, hoa, Ob.sh]
  obtain ⟨p, v0, hcur, hp, hv0⟩ : ∃ p v0, cur = #[p, v0] ∧ RepD K ρ (shape (H :: O)) p dp ∧ RepD K ρ (shape (H :: O)) v0 (.osl 0 nm2) := by
    generalize hL : cur.toList = L at hrc
    cases hrc with
    | cons h1 h2 => cases h2 with
      | cons h3 h4 => cases h4; exact ⟨_, _, Array.ext' (by rw [hL]), h1, h3⟩
  subst hcur
  have hv0 := inv_osl hv0 hsha
  subst hv0
  have hpp : p = .pointer none ∨ p = .pointer (some ⟨(ρ 0 nm).block, 0, none⟩) := by
    rcases hdp with rfl | rfl
    · exact .inl (inv_v hp)
    · exact .inr (inv_box hp hshb)
  have hnb : (Value.slice (ρ 0 nm2).base n (ρ 0 nm2).cap).ownBlock ≠ some (ρ 0 nm).block := by
    intro e
    rcases hwa.2.2.2.2 with ⟨_, h1⟩ | ⟨h1, _⟩
    · rw [h1] at e; simp [Value.ownBlock] at e
    · rw [h1] at e
      simp only [Value.ownBlock, Option.some.injEq] at e
      exact hne (hh.inj 0 nm _ 0 nm2 _ hob hoa trivial (by show _ ≠ none; rw [h1]; simp) e.symm).2
  obtain ⟨rfl⟩ : vs = [.pointer (some ⟨(ρ 0 nm).block, 0, none⟩), x] := by
    cases hrep with
    | cons h1 h2 => cases h2 with
      | cons h3 h4 => cases h4; rw [inv_box h1 hshb, hx _ _ _ _ h3]
  rw [hent] at hrun
  simp only [Oper.wp, hrun, Oper.upon]
  have hml : news.length = m := by
    have := (hnews K).length
    rw [this, flat_len ys hy, hm]; omega
  refine (hspec _ p _ olds w hpp hc (by rw [hol]; exact hrow) hnb (by rw [hol, hml]; exact hlim)).mono ?_
  rintro e w' ⟨rfl, w1, w2, w3, v', h1, h2, hrow3, hgb, hat, rfl⟩
  rw [hol, hml] at hrow3
  have e1 : (fun d n => shape (H :: O) (0 + d) n) = shape (H :: O) := by funext d n; rw [Nat.zero_add]
  have hcells : RepDL K (fun d n => ρ (0 + d) n) (fun d n => shape (H :: O) (0 + d) n) [.pointer (some ⟨(ρ 0 nm).block, 0, none⟩), .slice (ρ 0 nm2).base n (ρ 0 nm2).cap] [.own 0 nm 0 0, .osl 0 nm2] := by
    rw [e0, e1]
    exact .cons (.box hshb) (.cons (.osl hsha) .nil)
  have hI1 : HInv c.E K ρ (setAt (H :: O) 0 nm (.tb T [.own 0 nm 0 0, .osl 0 nm2])) w1 ∧ w1.heap[(ρ 0 nm).block]? = some (.cells #[.pointer (some ⟨(ρ 0 nm).block, 0, none⟩), .slice (ρ 0 nm2).base n (ρ 0 nm2).cap] T (0, 0)) := by
    rcases h1 with ⟨rfl, rfl⟩ | ⟨rfl, rfl⟩
    · exact ⟨hh.put hob rfl trivial trivial rfl (fun _ _ => rfl) ⟨rfl, rfl, rfl⟩ (fun o' x' hx' => by rw [hKb] at hx'; cases hx') ⟨_, hc, hcells, hKb⟩, hc⟩
    · exact ⟨hh.put hob rfl trivial trivial (by simp [World.setCell]) (fun b hb => Go.Deep.blk_setCell_other w _ _ b hb) ⟨rfl, rfl, rfl⟩ (fun o' x' hx' => by rw [hKb] at hx'; cases hx') ⟨_, heap_set0 hc, hcells, hKb⟩, heap_set0 hc⟩
  obtain ⟨hI1, hc1⟩ := hI1
  have hI1 : HInv c.E K ρ (((nm, .tb T [.own 0 nm 0 0, .osl 0 nm2]) :: H) :: O) w1 := hI1
  have hlt1 : (ρ 0 nm).block < w1.heap.size := by
    rcases Nat.lt_or_ge (ρ 0 nm).block w1.heap.size with h' | h'
    · exact h'
    · simp [Array.getElem?_eq_none h'] at hc1
  have hI2 : HInv c.E K ρ (((nm, .tb T [.own 0 nm 0 0, .osl 0 nm2]) :: H) :: O) w2 ∧ w2.heap[(ρ 0 nm).block]? = some (.cells #[.pointer (some ⟨(ρ 0 nm).block, 0, none⟩), .slice (ρ 0 nm2).base n (ρ 0 nm2).cap] T (0, 0)) ∧ w1.heap.size ≤ w2.heap.size := by
    rcases h2 with rfl | ⟨o', rfl⟩
    · exact ⟨hI1, hc1, Nat.le_refl _⟩
    · exact ⟨(HInv.grow (S := ((nm, .tb T [.own 0 nm 0 0, .osl 0 nm2]) :: H) :: O) rfl hI1 (fun _ _ _ e => e) (fun _ h => by simp [look] at h) (grow_none hI1 (.inl rfl) o')).1, by rw [heap_alloc_old w1 o' hlt1]; exact hc1, by simp [World.size_alloc]⟩
  obtain ⟨hI2, hc2, hsz2⟩ := hI2
  have hc3 : w3.heap[(ρ 0 nm).block]? = some (.cells #[.pointer (some ⟨(ρ 0 nm).block, 0, none⟩), .slice (ρ 0 nm2).base n (ρ 0 nm2).cap] T (0, 0)) := by
    rw [hgb.block _ (by omega) (fun e => hnb e.symm)]
    exact hc2
  have hlk : look ((nm, Ob.tb T [.own 0 nm 0 0, .osl 0 nm2]) :: H) nm2 = some (.arr ty 1 n xs true) := by
    rw [look_cons, if_neg hne]; exact ha
  have hoa2 : objAt (((nm, Ob.tb T [.own 0 nm 0 0, .osl 0 nm2]) :: H) :: O) 0 nm2 = some (.arr ty 1 n xs true) := by simpa [objAt] using hlk
  have hob2 : objAt (((nm, Ob.tb T [.own 0 nm 0 0, .osl 0 nm2]) :: H) :: O) 0 nm = some (.tb T [.own 0 nm 0 0, .osl 0 nm2]) := by simp [objAt, look_cons]
  have hwa2 := hI2.own _ _ _ hoa2
  rw [e0, s0] at hwa2
  obtain ⟨l', rfl, hown', hap⟩ := app_of_row hwa2 hro (hnews K) hy hm hrow3 hgb hat (fun b o hb => hI2.K_fresh hb)
  have hKo : backed (ρ 0 nm2) (.arr ty 1 n xs true) → ∀ o, K (ρ 0 nm2).block o = none := by
    intro hbk
    obtain ⟨_, _, _, _, h5⟩ := hwa
    rcases h5 with ⟨_, h6⟩ | ⟨_, c, _, _, _, h9, _⟩
    · exact absurd h6 hbk
    · exact h9 rfl
  obtain ⟨hI3, hbut⟩ := hI2.renew (nm := nm2) (dst := nm2) hlk (by rw [look_killH]; simp) hap Iff.rfl (ob' := .arr ty 1 (n + m) (xs ++ ys) true) Iff.rfl hKo hown'
  generalize hS3 : (((nm2, Ob.arr ty 1 (n + m) (xs ++ ys) true) :: killH nm2 ((nm, Ob.tb T [.own 0 nm 0 0, .osl 0 nm2]) :: H)) :: O) = S3 at hI3 hbut
  have hob3 : objAt S3 0 nm = some (Ob.kill nm2 (.tb T [.own 0 nm 0 0, .osl 0 nm2])) := by
    rw [← hS3]
    simp only [objAt, List.getElem?_cons_zero, look_cons, if_neg (Ne.symm hne), look_killH, if_neg hne, if_true, Option.map_some]
  obtain ⟨hb1, hb2⟩ := hbut 0 nm .box (.inr hne) (by simp [shape, hob2, Ob.sh])
  have hsh3 : shape S3 0 nm2 = some (.arr 1 (n + m)) := by
    rw [← hS3]
    simp [shape, objAt, look_cons, Ob.sh]
  have f0 : (fun d n => upd ρ nm2 l' (0 + d) n) = upd ρ nm2 l' := by funext d n; rw [Nat.zero_add]
  have f1 : (fun d n => shape S3 (0 + d) n) = shape S3 := by funext d n; rw [Nat.zero_add]
  have hcells3 : RepDL K (fun d n => upd ρ nm2 l' (0 + d) n) (fun d n => shape S3 (0 + d) n) [.pointer (some ⟨(ρ 0 nm).block, 0, none⟩), .slice l'.base (n + m) l'.cap] [.own 0 nm 0 0, .osl 0 nm2] := by
    rw [f0, f1]
    have g1 := RepD.box (K := K) (ρ := upd ρ nm2 l') (off := 0) hb1
    rw [hb2] at g1
    have g2 := RepD.osl (K := K) (ρ := upd ρ nm2 l') hsh3
    rw [upd_same] at g2
    exact .cons g1 (.cons g2 .nil)
  have hI4 : HInv c.E K (upd ρ nm2 l') (setAt S3 0 nm (.tb T [.own 0 nm 0 0, .osl 0 nm2])) (w3.setCell ⟨(ρ 0 nm).block, 1, none⟩ (.slice l'.base (n + m) l'.cap)) := by
    refine hI3.put hob3 rfl trivial trivial (by simp [World.setCell]) (fun b hb => Go.Deep.blk_setCell_other w3 _ _ b (by rw [hb2] at hb; exact hb)) ⟨rfl, rfl, rfl⟩ (fun o' x' hx' => by rw [hb2, hKb] at hx'; cases hx') ⟨_, by rw [hb2]; exact heap_set1 hc3, hcells3, fun o => by rw [hb2]; exact hKb o⟩
  have hS4 : setAt S3 0 nm (.tb T [.own 0 nm 0 0, .osl 0 nm2]) = ((nm, .tb T [.own 0 nm 0 0, .osl 0 nm2]) :: (nm2, .arr ty 1 (n + m) (xs ++ ys) true) :: killH nm2 ((nm, .tb T [.own 0 nm 0 0, .osl 0 nm2]) :: H)) :: O := by rw [← hS3]; rfl
  have hsh4 : shape (setAt S3 0 nm (.tb T [.own 0 nm 0 0, .osl 0 nm2])) = shape S3 := shape_setAt hob3 rfl
  have hsh2 : shape (((nm, Ob.tb T [.own 0 nm 0 0, .osl 0 nm2]) :: H) :: O) = shape (H :: O) := shape_setAt (S := H :: O) hob rfl
  rw [hS4] at hI4 hsh4
  rw [hsh2] at hbut
  refine hnext _ _ K (upd ρ nm2 l') ?_
  · rw [ht]
    refine ⟨hI4, hi.defers, by simp [Act.put]; exact hi.size, fun t' d' e' => ?_⟩
    rw [tmps_put (by rw [hi.size]; exact hn)]
    simp only [look_cons] at e'
    split at e'
    · rename_i e2
      simp only [Option.some.injEq] at e'
      subst e'
      rw [if_pos e2]
      exact hr _ _ _
    · rename_i e2
      rw [if_neg e2]
      rw [look_killσ] at e'
      cases hls : look s.σ t' with
      | none => simp [hls] at e'
      | some d0 =>
        simp only [hls, Option.map_some, Option.some.injEq] at e'
        subst e'
        have hr := hi.slots _ _ hls
        rw [hS] at hr
        show RepD _ _ (shape _) _ _
        rw [hsh4]
        exact hr.kill hbut
end
section
variable {c : Cx} {s : St} {k : List Item} {ops : Array Oper} {rest : List Nat} {o : Oper}
/-- At a pause before a call: what it does. -/
theorem g_callP (hT : TOk c.P c.T) (hfn : c.P.funcs[c.f]? = some c.fn) {i t : Nat} {f : FuncId} {args : List D} {s' : St} (ho : ops[i]? = some o) (hg : o.guard = none) (hd : o.dst = some t) (hex : exec c.T s o = .call f args) (hw : Wp c o s f args s')
    (h : GM c (run c.T c.stop 1000 (.inRegion ops rest :: k) s')) : GM c (.pause ops i rest o s k) := by
  have hk : RG c ops rest s' (Rch c k) := run_sound hT hfn 1000 (.inRegion ops rest :: k) _ h.h
  refine ⟨?_⟩
  intro K ρ a w hi
  simp only [wpOps, ho, wanted_of hi (show wantedD ops s o = some true by unfold wantedD; rw [hg]), if_true]
  refine .inl (hw K ρ a w hi ?_ _ _ fun v w' K' ρ' hi' => hk K' ρ' _ w' hi')
  have := exec_snd hT hi.h (.inl hd) fun x _ => hi.ev x
  rw [hex] at this
  exact this
end
section
/-- Bytes, as the elements of a row. -/
def u8l (l : List UInt8) : List (List I) := l.map fun b => [.v (.int .u8 b.toNat)]
theorem u8l_flat : ∀ l : List UInt8, (u8l l).flatten = l.map fun b => I.v (.int .u8 b.toNat)
  | [] => rfl
  | b :: r => by
    have := u8l_flat r
    unfold u8l at this ⊢
    rw [List.map_cons, List.flatten_cons, this]
    rfl
theorem u8l_el (l : List UInt8) : ∀ d ∈ u8l l, d.length = 1 := fun d hd => by
  unfold u8l at hd
  obtain ⟨b, _, rfl⟩ := List.mem_map.1 hd
  rfl
theorem u8l_rep (K : Kn) : ∀ l : List UInt8, RepL K (l.map fun b => Value.int .u8 b.toNat) (u8l l).flatten
  | [] => .nil
  | b :: r => by
    have := u8l_rep K r
    rw [u8l_flat] at this ⊢
    exact .cons (.v rfl) this
theorem repL_vals {K : Kn} : ∀ {vs : List Value} {l : List Value}, RepL K vs (l.map I.v) → vs = l
  | _, [], h => by cases h; rfl
  | _, x :: r, h => by
    cases h with
    | cons h1 h2 =>
      rw [repL_vals h2]
      cases h1
      rfl
theorem u8l_app (a b : List UInt8) : u8l a ++ u8l b = u8l (a ++ b) := by simp [u8l]
/-- What String of a builder is to do. -/
def SSpec (P : Program) (f : FuncId) (T ty : TypeId) : Prop := ∀ (b : Nat) (p v : Value) (l : List UInt8) (w : World), w.heap[b]? = some (.cells #[p, v] T (0, 0)) → w.ownsRow 0 ty 1 v l.length (Lib.byteCells l) → l ≠ [] →
  Calls P f #[.pointer (some ⟨b, 0, none⟩)] w fun e w' => e = .returned (.string ⟨l.toArray⟩) ∧ ∃ g, v.ownBlock = some g ∧ w' = w.drew.freeze ⟨g, 0, none⟩ l.length
theorem freeze_other (w : World) (g n k : Nat) (h : k ≠ g) : (w.freeze ⟨g, 0, none⟩ n).heap[k]? = w.heap[k]? := by
  unfold World.freeze
  split <;> simp [Array.getElem?_modify, Array.getElem?_setIfInBounds, Ne.symm h]
theorem freeze_rest (w : World) (g n : Nat) : (w.freeze ⟨g, 0, none⟩ n).tape = w.tape ∧ (w.freeze ⟨g, 0, none⟩ n).os = w.os ∧ (w.freeze ⟨g, 0, none⟩ n).output = w.output ∧ (w.freeze ⟨g, 0, none⟩ n).heap.size = w.heap.size := by
  unfold World.freeze
  split <;> simp
theorem does_bstr {c : Cx} {s : St} {o : Oper} {f : FuncId} {t nm nm2 T ty : Nat} {dp : D} {l : List UInt8} {H : Heap} {O : List Heap}
    (hspec : SSpec c.P f T ty) (hent : ∀ args w, (callFunc f args).run c.P w = .ok (.enter f args) w) (h0 : l ≠ [])
    (ht : o.dst = some t) (hn : t < s.n) (hS : s.S = H :: O) (hb : look H nm = some (.tb T [dp, .osl 0 nm2])) (ha : look H nm2 = some (.arr ty 1 l.length (u8l l) true)) :
    Wp c o s f [.own 0 nm 0 0] { σ := (t, .i (.v (.string ⟨l.toArray⟩))) :: killσ nm2 s.σ, S := ((nm2, .arr ty 1 0 [] true) :: killH nm2 H) :: O, n := s.n } := by
  intro K ρ a w hi ⟨vs, hrun, hrep⟩ next Qe hnext
  have hh := hi.h
  rw [hS] at hh hrep
  have hob : objAt (H :: O) 0 nm = some (.tb T [dp, .osl 0 nm2]) := by simpa [objAt] using hb
  have hoa : objAt (H :: O) 0 nm2 = some (.arr ty 1 l.length (u8l l) true) := by simpa [objAt] using ha
  have e0 : (fun d n => ρ (0 + d) n) = ρ := by funext d n; rw [Nat.zero_add]
  have s0 : ∀ S : List Heap, shape (S.drop 0) = shape S := fun S => by rw [List.drop_zero]
  have hwb := hh.own _ _ _ hob
  rw [e0, s0] at hwb
  obtain ⟨cur, hc, hrc, hKb⟩ := hwb
  have hwa := hh.own _ _ _ hoa
  rw [e0, s0] at hwa
  obtain ⟨olds, hro, hrow⟩ := own_row hwa
  have hold : olds = Lib.byteCells l := by
    rw [u8l_flat] at hro
    have : (l.map fun b => I.v (.int .u8 b.toNat)) = (l.map fun b => Value.int .u8 b.toNat).map I.v := by rw [List.map_map]; rfl
    rw [this] at hro
    exact repL_vals hro
  subst hold
  have hshb : shape (H :: O) 0 nm = some .box := by simp [shape, hob, Ob.sh]
  have hsha : shape (H :: O) 0 nm2 = some (.arr 1 l.length) := by simp [shape, hoa, Ob.sh]
  obtain ⟨p, v0, hcur, hv0⟩ : ∃ p v0, cur = #[p, v0] ∧ RepD K ρ (shape (H :: O)) v0 (.osl 0 nm2) := by
    generalize hL : cur.toList = L at hrc
    cases hrc with
    | cons h1 h2 => cases h2 with
      | cons h3 h4 => cases h4; exact ⟨_, _, Array.ext' (by rw [hL]), h3⟩
  subst hcur
  have hv0 := inv_osl hv0 hsha
  subst hv0
  obtain ⟨rfl⟩ : vs = [.pointer (some ⟨(ρ 0 nm).block, 0, none⟩)] := by
    cases hrep with
    | cons h1 h2 => cases h2; rw [inv_box h1 hshb]
  rw [hent] at hrun
  simp only [Oper.wp, hrun, Oper.upon]
  refine (hspec _ p _ l w hc hrow h0).mono ?_
  rintro e w' ⟨rfl, g, hgb, rfl⟩
  obtain ⟨r1, r2, r3, r4⟩ := freeze_rest w.drew g l.length
  have hbase : (ρ 0 nm2).base = some ⟨(ρ 0 nm2).block, 0, none⟩ := by
    rcases hwa.2.2.2.2 with ⟨_, h1⟩ | ⟨h1, _⟩
    · rw [h1] at hgb; simp [Value.ownBlock] at hgb
    · exact h1
  have hgb : (ρ 0 nm2).block = g := by rw [hbase] at hgb; simpa [Value.ownBlock] using hgb
  subst hgb
  have hKo : backed (ρ 0 nm2) (.arr ty 1 l.length (u8l l) true) → ∀ o, K (ρ 0 nm2).block o = none := by
    intro hbk
    obtain ⟨_, _, _, _, h5⟩ := hwa
    rcases h5 with ⟨_, h6⟩ | ⟨_, c, _, _, _, h9, _⟩
    · exact absurd h6 hbk
    · exact h9 rfl
  let l0 : Loc := ⟨0, 0, none⟩
  have hap : Apnd K w (w.drew.freeze ⟨(ρ 0 nm2).block, 0, none⟩ l.length) (ρ 0 nm2) l0 := by
    refine ⟨Nat.le_of_eq r4.symm, fun b _ hne => ?_, ⟨r1, r2, r3⟩, fun e => absurd rfl e⟩
    exact freeze_other w.drew _ _ _ (hne (by rw [hbase]; simp))
  obtain ⟨hI3, hbut⟩ := hh.renew (nm := nm2) (dst := nm2) ha (by rw [look_killH]; simp) hap Iff.rfl (ob' := .arr ty 1 0 [] true) Iff.rfl hKo (fun ρ' sh' => ⟨by simp, rfl, Nat.le_refl _, by simp [l0], .inl ⟨rfl, rfl⟩⟩)
  refine hnext _ _ K (upd ρ nm2 l0) ?_
  · rw [ht]
    refine ⟨hI3, hi.defers, by simp [Act.put]; exact hi.size, fun t' d' e' => ?_⟩
    rw [tmps_put (by rw [hi.size]; exact hn)]
    simp only [look_cons] at e'
    split at e'
    · rename_i e2
      simp only [Option.some.injEq] at e'
      subst e'
      rw [if_pos e2]
      exact .i (.v rfl)
    · rename_i e2
      rw [if_neg e2]
      rw [look_killσ] at e'
      cases hls : look s.σ t' with
      | none => simp [hls] at e'
      | some d0 =>
        simp only [hls, Option.map_some, Option.some.injEq] at e'
        subst e'
        have hr := hi.slots _ _ hls
        rw [hS] at hr
        exact hr.kill hbut
end
end Go.AI


/- slices.Delete of a list of boxes: one element goes, in place. -/
namespace Go.AI
open Go.Proofs
open Go.Shelf Go.RowKit Go.Lib Go.Sort
end Go.AI


/- A region whose order is drawn, with a late operation: behind a prefix an old operation, one that may come ahead of it, and a last one. -/
namespace Go.AI
section
variable {c : Cx} {s : St} {k : List Item} {ops : Array Oper} {rest : List Nat} {o : Oper}
end
end Go.AI


/- Searches in lists of one's own, clones, the closure of boxes. -/
namespace Go.AI
open Go.Proofs
set_option maxRecDepth 20000
end Go.AI


/- The program's cover. -/
namespace Go.AI
open Go.Proofs
set_option maxRecDepth 20000
end Go.AI


/- covered, Boxes, equal lists of boxes. -/
namespace Go.AI
open Go.Proofs
set_option maxRecDepth 20000
/-- What a domain's values are. -/
structure valsB (l : List Vr) (dom : List (List Int)) : Prop where
  vb : ∀ a ∈ l, -65536 ≤ a.low ∧ a.high ≤ 65536
  ll : l.length ≤ 16
  len : dom.length ≤ 4096
  vl : ∀ v ∈ dom, v.length = l.length
  b : ∀ v ∈ dom, ∀ j, -65536 ≤ v.getD j 0 ∧ v.getD j 0 ≤ 65536
theorem domOk.vals {l : List Vr} (h : domOk l) : valsB l (allV l) := ⟨fun a ha => (h.b a ha).1, h.len, h.all, fun v hv => allV_mem_len hv, fun v hv => dom_bounds h hv⟩
end Go.AI


/- Variables of small ranges. -/
namespace Go.AI
set_option maxRecDepth 20000
/-- The variables that the laws draw. -/
structure small (l : List Vr) : Prop where
  dom : domOk l
  all : allG l = (allV l, 0)
  len : l.length ≤ 3
  pos : 1 ≤ (allV l).length
  most : (allV l).length ≤ 64
  v : ∀ x ∈ l, vrOk x
theorem small.max {l : List Vr} (h : small l) : l.length ≤ max63 ∧ ∀ v ∈ l, v.name.size ≤ max63 :=
  ⟨by have := h.len; simp only [max63]; omega, fun v hv => by rw [(h.v v hv).nm]; decide⟩
end Go.AI


/- The arguments of the statements about guards: data. -/
namespace Go.Proofs.YtdehnnadfbildaaGreatDoor
open Go.ChangeShapes Go.WideShapes Go.ChangeAt Go.RowKit Go.Deep Go.WideElems
set_option maxRecDepth 100000
section
variable {H : Type} {enc : TypeId × Value → H} {W : World}
end
end Go.Proofs.YtdehnnadfbildaaGreatDoor


/- The arguments of the statements about flattening: data. -/
namespace Go.Proofs.YtdehnnadfbildaaGreatDoor
open Go.ChangeShapes Go.WideShapes Go.ChangeAt Go.RowKit Go.Deep Go.WideElems
set_option maxRecDepth 100000
section
variable {H : Type} {enc : TypeId × Value → H} {W : World}
theorem open_u8 {r : Reach} {b0 : Nat} {v : Value} {d : DataW H} {p : List MemPlace} (hv : Value.okWide Tryz.prog W r b0 5 v) (h : DataW.Trod enc Tryz.prog W 0 (fun _ => true) true 5 v d p) :
    ∃ n : Int, (0 ≤ n ∧ n ≤ 255) ∧ ∀ ρ sh, AI.RepD (KW W) ρ sh v (AI.u8D n) := by
  obtain ⟨x, rfl, _, _, hw⟩ := open_int Tryz.underlying5 hv h
  exact ⟨x, wf_u8 hw, fun ρ sh => .i (.v rfl)⟩
end
end Go.Proofs.YtdehnnadfbildaaGreatDoor


/- Boxes checked; the literals of a box. -/
namespace Go.AI
open Go.Proofs
set_option maxRecDepth 20000
end Go.AI


/- Expressions of literals, joins. -/
namespace Go.AI
open Go.Proofs
set_option maxRecDepth 20000
end Go.AI


/- The guard of boxes. -/
namespace Go.AI
open Go.Proofs
set_option maxRecDepth 20000
end Go.AI


/- Literals, Implies, Equivalent, Simplify. -/
namespace Go.AI
open Go.Proofs
set_option maxRecDepth 20000
end Go.AI


/- A builder begins: a typed variable, its nil row as a row of no bytes. -/
namespace Go.AI
open Go.Proofs
section
variable {P : Program} {T : TT} {E : Env} {K : Kn} {ρ : Nat → Nat → Loc} {S : List Heap} {w : World} {dst : Nat}
theorem new_tb (hw : HInv E K ρ S w) (hf : objAt S 0 dst = none) {cs : List Value} {ds : List D} (hr : RepDL K ρ (shape S) cs ds) (ty : TypeId) :
    ∃ l, Grow K ρ S w [(dst, .tb ty ds)] K (upd ρ dst l) (w.alloc (.cells cs.toArray ty)) ∧ RepD K (upd ρ dst l) (shape (addS S [(dst, .tb ty ds)])) (.pointer (some ⟨w.heap.size, 0, none⟩)) (.own 0 dst 0 0) := by
  have hst := stays_add (K := K) (ρ := ρ) hf (.tb ty ds) ⟨w.heap.size, 0, none⟩
  refine ⟨⟨w.heap.size, 0, none⟩, grow_alloc hw hf (.inl rfl) (fun _ => rfl) ⟨cs.toArray, heap_alloc_new w _, by simpa using hr.stays hst, fun o => hw.K_fresh (Nat.le_refl _)⟩, ?_⟩
  have hsh : shape (addS S [(dst, .tb ty ds)]) 0 dst = some .box := by
    cases S with
    | nil => simp [shape, addS, objAt, look_cons, Ob.sh]
    | cons H O => simp [shape, objAt_addS, look_cons, Ob.sh]
  have := RepD.box (K := K) (ρ := upd ρ dst ⟨w.heap.size, 0, none⟩) (off := 0) hsh
  rwa [upd_same] at this
end
section
variable {c : Cx} {s : St} {k : List Item} {ops : Array Oper} {rest : List Nat} {o : Oper}
/-- At a pause: a variable that keeps its type. -/
theorem g_tb (hT : TOk c.P c.T) (hfn : c.P.funcs[c.f]? = some c.fn) {i t nm : Nat} {ti : TI} {H : Heap} {O : List Heap} (ho : ops[i]? = some o) (hop : o.op = .alloc t) (hd : o.dst = some nm) (hg : o.guard = none) (hn : Nat.ble (nm + 1) s.n = true) (hi : look c.T t = some ti)
    (hS : s.S = H :: O) (hf : look H nm = none) (h : GM c (run c.T c.stop 1000 (.inRegion ops rest :: k) { σ := (nm, .own 0 nm 0 0) :: s.σ, S := ((nm, .tb t (ti.zero.map fun v => .i (.v v))) :: H) :: O, n := s.n })) :
    GM c (.pause ops i rest o s k) := by
  refine ⟨?_⟩
  have hk : RG c ops rest { σ := (nm, .own 0 nm 0 0) :: s.σ, S := ((nm, .tb t (ti.zero.map fun v => .i (.v v))) :: H) :: O, n := s.n } (Rch c k) := run_sound hT hfn 1000 (.inRegion ops rest :: k) _ h.h
  refine rg_op ho (by unfold wantedD; rw [hg]) ?_
  intro K ρ a w hinv next Qe hnext
  have hok := hT _ _ hi
  have hh := hinv.h
  rw [hS] at hh
  obtain ⟨inf, h1, h2, h3, z, h4, h5, -⟩ := hok.info
  have hf' : objAt (H :: O) 0 nm = none := by simpa [objAt] using hf
  obtain ⟨l, g, r⟩ := new_tb (dst := nm) hh hf' (ones_of hok.one) t
  have hz : z.cells = ti.zero.toArray := by rw [← h5]
  have hrun : (execOp a.eval o).run c.P w = .ok (.value (.pointer (some ⟨w.heap.size, 0, none⟩))) (w.alloc (.cells ti.zero.toArray t)) := by
    simp [execOp, hop, Instr.alloc, zeroValue, typeInfo, h1, h4, newVar, newRow, hz]
  simp only [Oper.wp, hrun, Oper.upon]
  obtain ⟨hI, hst⟩ := HInv.grow (S := H :: O) rfl hh (fun _ _ _ e => e) (fun n' h => by
    cases hl : look [(nm, Ob.tb t (ti.zero.map fun v => .i (.v v)))] n' with
    | none => exact absurd hl h
    | some ob => obtain ⟨rfl, rfl⟩ := look_one hl; exact hf) g
  refine hnext _ _ _ _ _ hst.le (fun d n x _ e => ⟨hst.shp _ _ _ (by rw [hS] at e; exact e), hst.loc _ _ _ (by rw [hS] at e; exact e)⟩) ?_ hk
  rw [hd]
  refine inv_set hinv (Nat.le_of_ble_eq_true hn) hI ?_ r
  rw [hS]; exact hst
theorem wk_niltb (b nm e z : Nat) {T : Nat} {x : D} {H : Heap} {O : List Heap} (hS : s.S = H :: O) (hb : look H b = some (.tb T [x, .i (.v (.slice none 0 0))])) (hf : look H nm = none) : Wk c s { σ := s.σ, S := ((b, .tb T [x, .osl 0 nm]) :: (nm, .arr e z 0 [] true) :: H) :: O, n := s.n } := by
  intro K ρ a w hi
  have hh := hi.h
  rw [hS] at hh
  let l0 : Loc := ⟨0, 0, none⟩
  have hown : ∀ ρ' sh', OwnAt K ρ' sh' w l0 (.arr e z 0 [] true) := fun ρ' sh' => ⟨by simp, rfl, Nat.le_refl _, by simp [l0], .inl ⟨rfl, rfl⟩⟩
  have hg : Grow K ρ (H :: O) w [(nm, .arr e z 0 [] true)] K (upd ρ nm l0) w := by
    refine ⟨K.le_refl, fun _ _ _ h => .inl h, Nat.le_refl _, fun _ _ => rfl, ⟨rfl, rfl, rfl⟩, fun d n' h => ?_, hh.holds, fun n' ob e' => ?_, fun n1 o1 n2 o2 e1 e2 b1 b2 _ => ?_⟩
    · refine upd_other _ _ _ (h.imp id fun h e' => ?_)
      subst e'
      simp [look_cons] at h
    · obtain ⟨rfl, rfl⟩ := look_one e'
      rw [upd_same]
      exact ⟨hown _ _, fun hb => absurd rfl hb⟩
    · obtain ⟨rfl, rfl⟩ := look_one e1
      obtain ⟨rfl, rfl⟩ := look_one e2
      rfl
  obtain ⟨hI, hst⟩ := HInv.grow (S := H :: O) rfl hh (fun _ _ _ e => e) (fun n' h => by
    cases hl : look [(nm, Ob.arr e z 0 [] true)] n' with
    | none => exact absurd hl h
    | some ob => obtain ⟨rfl, rfl⟩ := look_one hl; exact hf) hg
  have hbn : nm ≠ b := fun e' => by subst e'; rw [hf] at hb; cases hb
  have hI : HInv c.E K (upd ρ nm l0) (((nm, .arr e z 0 [] true) :: H) :: O) w := hI
  have hob : objAt (((nm, .arr e z 0 [] true) :: H) :: O) 0 b = some (.tb T [x, .i (.v (.slice none 0 0))]) := by
    simp only [objAt, List.getElem?_cons_zero, look_cons, if_neg hbn]; exact hb
  have hwb := hI.own _ _ _ hob
  have e0 : (fun d n => upd ρ nm l0 (0 + d) n) = upd ρ nm l0 := by funext d n; rw [Nat.zero_add]
  have e1 : (fun d n => shape (((nm, Ob.arr e z 0 [] true) :: H) :: O) (0 + d) n) = shape (((nm, Ob.arr e z 0 [] true) :: H) :: O) := by funext d n; rw [Nat.zero_add]
  obtain ⟨cur, hc, hrc, hKb⟩ := hwb
  rw [e0, List.drop_zero] at hrc
  have hnew : RepDL K (fun d n => upd ρ nm l0 (0 + d) n) (fun d n => shape (((nm, Ob.arr e z 0 [] true) :: H) :: O) (0 + d) n) cur.toList [x, .osl 0 nm] := by
    rw [e0, e1]
    generalize cur.toList = L at hrc
    cases hrc with
    | cons h1 h2 => cases h2 with
      | cons h3 h4 =>
        cases h4
        rw [inv_v h3]
        have := RepD.osl (K := K) (ρ := upd ρ nm l0) (sh := shape (((nm, Ob.arr e z 0 [] true) :: H) :: O)) (dep := 0) (nm := nm) (es := z) (len := 0) (by simp [shape, objAt, look_cons, Ob.sh])
        rw [upd_same] at this
        exact .cons h1 (.cons this .nil)
  have hI2 := hI.put (ob' := .tb T [x, .osl 0 nm]) hob rfl trivial trivial (w' := w) rfl (fun _ _ => rfl) ⟨rfl, rfl, rfl⟩ (fun o' x' hx' => by rw [hKb] at hx'; cases hx') ⟨cur, hc, hnew, hKb⟩
  have hsh : shape (setAt (((nm, Ob.arr e z 0 [] true) :: H) :: O) 0 b (.tb T [x, .osl 0 nm])) = shape (((nm, Ob.arr e z 0 [] true) :: H) :: O) := shape_setAt hob rfl
  refine ⟨K, upd ρ nm l0, hI2, hi.defers, hi.size, fun t' d e' => ?_⟩
  have := hi.slots _ _ e'
  rw [hS] at this
  show RepD K _ (shape (((b, .tb T [x, .osl 0 nm]) :: (nm, .arr e z 0 [] true) :: H) :: O)) _ _
  have hsh : shape (((b, .tb T [x, .osl 0 nm]) :: (nm, .arr e z 0 [] true) :: H) :: O) = shape (((nm, Ob.arr e z 0 [] true) :: H) :: O) := hsh
  rw [hsh]
  exact this.stays hst
end
end Go.AI


/- strings.Builder of this program: copyCheck, WriteString, WriteByte, String, told whole. -/
namespace Go.Proofs
open Go.Shelf Go.RowKit
theorem sizeB : (Tryz.prog.info? 151).map (·.size) = some 2 := by kernel_rfl
theorem liesB : liesAt Tryz.prog Tryz.prog.depth 151 (2 / Tryz.prog.cellsOf 151) 0 151 1 = true := by kernel_rfl
set_option maxHeartbeats 1000000 in
set_option maxRecDepth 100000 in
theorem chk_used (b : Nat) (w : World) (h0 : w.cell? ⟨b, 0, none⟩ = some (.pointer (some ⟨b, 0, none⟩))) :
    Calls Tryz.prog 105 #[.pointer (some ⟨b, 0, none⟩)] w fun e w' => e = .returned (.tuple #[]) ∧ w' = w := by
  obtain ⟨j, hj, _⟩ := Option.map_eq_some_iff.1 sizeB
  have u72 := run_underlying Tryz.underlying151
  have u70 := run_underlying Tryz.underlying149
  have u4 := run_underlying Tryz.underlying4
  have u164 := run_underlying Tryz.underlying203
  go_enter Tryz.func105, Tryz.ntmps105
  go_wp2
  rw [Lib.run_neq_ptr_same w _ Tryz.underlying149 hj]
  go_wp2
  go_end0
  exact ⟨rfl, rfl⟩
set_option maxHeartbeats 1000000 in
set_option maxRecDepth 100000 in
theorem chk_fresh (b : Nat) (w : World) (h0 : w.cell? ⟨b, 0, none⟩ = some (.pointer none)) (hsh : w.shape? b = some (151, 2)) (hfz : w.frozen? ⟨b, 0, none⟩ = false) :
    Calls Tryz.prog 105 #[.pointer (some ⟨b, 0, none⟩)] w fun e w' => e = .returned (.tuple #[]) ∧ w' = w.setCell ⟨b, 0, none⟩ (.pointer (some ⟨b, 0, none⟩)) := by
  obtain ⟨j, hj, hjs⟩ := Option.map_eq_some_iff.1 sizeB
  have u72 := run_underlying Tryz.underlying151
  have u70 := run_underlying Tryz.underlying149
  have u4 := run_underlying Tryz.underlying4
  have u164 := run_underlying Tryz.underlying203
  go_enter Tryz.func105, Tryz.ntmps105
  go_wp2
  rw [Lib.run_to_unsafe w ⟨b, 0, none⟩ Tryz.underlying149 Tryz.underlying203 hj (by rw [hjs]; decide) hsh (Nat.zero_lt_succ 1)]
  simp only [Result.andThen]
  rw [Oper.upon_value]
  go_wp2
  rw [run_callFunc_extern Tryz.func121 (by kernel_rfl) (by kernel_rfl) (by kernel_rfl) (e := Extern.AbiNoEscape.same) (by kernel_rfl)]
  rw [Lib.run_noEscape]
  simp only [Result.andThen]
  rw [Oper.upon_value]
  go_wp2
  rw [Lib.run_from_unsafe w ⟨b, 0, none⟩ Tryz.underlying203 Tryz.underlying149 hj hsh liesB]
  simp only [Result.andThen]
  rw [Oper.upon_value]
  go_wp2
  go_end0
  exact ⟨rfl, rfl⟩
/-- copyCheck. -/
theorem bld_check148 (b : Nat) (p v : Value) (bs : List Value) (w : World) (hp : p = .pointer none ∨ p = .pointer (some ⟨b, 0, none⟩)) (hbk : w.heap[b]? = some (.cells #[p, v] 151 (0, 0)))
    (hrow : w.ownsRow 0 5 1 v bs.length bs) (hne : v.ownBlock ≠ some b) :
    Calls Tryz.prog 105 #[.pointer (some ⟨b, 0, none⟩)] w fun e w' => e = .returned (.tuple #[]) ∧ (w'.heap[b]? = some (.cells #[.pointer (some ⟨b, 0, none⟩), v] 151 (0, 0)) ∧ w'.ownsRow 0 5 1 v bs.length bs) ∧
      ((w' = w ∧ p = .pointer (some ⟨b, 0, none⟩)) ∨ (w' = w.setCell ⟨b, 0, none⟩ (.pointer (some ⟨b, 0, none⟩)) ∧ p = .pointer none)) := by
  have hc : w.cell? ⟨b, 0, none⟩ = some p := by rw [Lib.cell_of_heap hbk]; rfl
  rcases hp with rfl | rfl
  · have hsh : w.shape? b = some (151, 2) := by simp [World.shape?, hbk]
    refine (chk_fresh b w hc hsh (Lib.frozen_of_heap hbk 0)).mono ?_
    rintro e w' ⟨rfl, rfl⟩
    exact ⟨rfl, ⟨heap_set0 hbk, ownsRow_at hrow fun k hk => Go.Deep.blk_setCell_other w _ _ k fun e => hne (by rw [hk, e])⟩, .inr ⟨rfl, rfl⟩⟩
  · refine (chk_used b w hc).mono ?_
    rintro e w' ⟨rfl, rfl⟩
    exact ⟨rfl, ⟨hbk, hrow⟩, .inl ⟨rfl, rfl⟩⟩
set_option maxHeartbeats 2000000 in
set_option maxRecDepth 100000 in
/-- WriteString. -/
theorem bld_str90 (b : Nat) (p v0 : Value) (bs : List Value) (s : ByteArray) (w : World) (hp : p = .pointer none ∨ p = .pointer (some ⟨b, 0, none⟩)) (hbk0 : w.heap[b]? = some (.cells #[p, v0] 151 (0, 0)))
    (hrow : w.ownsRow 0 5 1 v0 bs.length bs) (hne : v0.ownBlock ≠ some b) (hlen : bs.length + s.size ≤ 140737488355328) :
    Calls Tryz.prog 74 #[.pointer (some ⟨b, 0, none⟩), .string s] w fun e w' => e = .returned (.tuple #[.int .i64 s.size, .nilIface]) ∧ Wrote 151 5 b p v0 bs (Lib.strCells s) w w' := by
  obtain ⟨i0, hi, hz0, hz1, hz2⟩ := info_parts Tryz.Builder_Extra_169.infoByte
  have u72 := run_underlying Tryz.underlying151
  have u70 := run_underlying Tryz.underlying149
  have u37 := run_underlying Tryz.underlying112
  have u9 := run_underlying Tryz.underlying9
  have u4 := run_underlying Tryz.underlying4
  have u5 := run_underlying Tryz.underlying5
  have u3 := run_underlying Tryz.underlying3
  have e240 : ∀ args w, (callFunc 105 args).run Tryz.prog w = .ok (.enter 105 args) w := Tryz.call105
  go_enter Tryz.func74, Tryz.ntmps74
  go_wp2_with (go_at_fn 105; refine (bld_check148 b p v0 bs _ hp hbk0 hrow hne).mono ?_)
  rintro e w1 ⟨rfl, ⟨hbk, hown⟩, hb1⟩
  have c0 : w1.cell? ⟨b, 0, none⟩ = some (.pointer (some ⟨b, 0, none⟩)) := by rw [Lib.cell_of_heap hbk]; rfl
  have c1 : w1.cell? ⟨b, 1, none⟩ = some v0 := by rw [Lib.cell_of_heap hbk]; rfl
  have hlt : b < w1.heap.size := by
    rcases Nat.lt_or_ge b w1.heap.size with h' | h'
    · exact h'
    · simp [Array.getElem?_eq_none h'] at hbk
  go_wp2_with (at_builtin; refine wpList_app_str _ rfl _ _ 112 9 rfl 5 i0 Tryz.underlying112 Tryz.underlying9 hi hz0 hz1 hz2 _ _ _ rfl hown s rfl ?c3 ?c4 ?_)
  case c3 => unfold maxLen; omega
  case c4 => omega
  intro v' w2 hown' hgrow hat
  have hb2 : w2.heap[b]? = some (.cells #[.pointer (some ⟨b, 0, none⟩), v0] 151 (0, 0)) := by
    rw [hgrow.block b hlt (fun e => hne e.symm)]
    exact hbk
  have d0 : w2.cell? ⟨b, 0, none⟩ = some (.pointer (some ⟨b, 0, none⟩)) := by rw [Lib.cell_of_heap hb2]; rfl
  have d1 : w2.cell? ⟨b, 1, none⟩ = some v0 := by rw [Lib.cell_of_heap hb2]; rfl
  have f1 : w2.frozen? ⟨b, 1, none⟩ = false := Lib.frozen_of_heap hb2 1
  have hfin : Wrote 151 5 b p v0 bs (Lib.strCells s) w (w2.setCell ⟨b, 1, none⟩ v') := ⟨w1, w1, w2, v', hb1, .inl rfl, by simpa [Lib.strCells_length] using hown', hgrow, hat, rfl⟩
  obtain ⟨ao, n', cap, rfl⟩ : ∃ ao n' cap, v' = .slice ao n' cap := by
    rcases hown'.2 with ⟨hv, _⟩ | ⟨g, cap, cur, hv, _⟩
    · exact ⟨_, _, _, hv⟩
    · exact ⟨_, _, _, hv⟩
  go_wp2
  go_ret2
  exact ⟨rfl, hfin⟩
set_option maxHeartbeats 2000000 in
set_option maxRecDepth 100000 in
/-- WriteByte. -/
theorem bld_byte155 (b : Nat) (p v0 : Value) (bs : List Value) (c : Int) (w : World) (hp : p = .pointer none ∨ p = .pointer (some ⟨b, 0, none⟩)) (hbk0 : w.heap[b]? = some (.cells #[p, v0] 151 (0, 0)))
    (hrow : w.ownsRow 0 5 1 v0 bs.length bs) (hne : v0.ownBlock ≠ some b) (hlen : bs.length + 1 ≤ 140737488355328) :
    Calls Tryz.prog 76 #[.pointer (some ⟨b, 0, none⟩), .int .u8 c] w fun e w' => e = .returned .nilIface ∧ Wrote 151 5 b p v0 bs [.int .u8 c] w w' := by
  obtain ⟨i0, hi, hz0, hz1, hz2⟩ := info_parts Tryz.Builder_Extra_169.infoByte
  have u72 := run_underlying Tryz.underlying151
  have u70 := run_underlying Tryz.underlying149
  have u37 := run_underlying Tryz.underlying112
  have u4 := run_underlying Tryz.underlying4
  have u5 := run_underlying Tryz.underlying5
  have e240 : ∀ args w, (callFunc 105 args).run Tryz.prog w = .ok (.enter 105 args) w := Tryz.call105
  go_enter Tryz.func76, Tryz.ntmps76
  go_wp2_with (go_at_fn 105; refine (bld_check148 b p v0 bs _ hp hbk0 hrow hne).mono ?_)
  rintro e w1 ⟨rfl, ⟨hbk, hown⟩, hb1⟩
  have c0 : w1.cell? ⟨b, 0, none⟩ = some (.pointer (some ⟨b, 0, none⟩)) := by rw [Lib.cell_of_heap hbk]; rfl
  have c1 : w1.cell? ⟨b, 1, none⟩ = some v0 := by rw [Lib.cell_of_heap hbk]; rfl
  have hlt : b < w1.heap.size := by
    rcases Nat.lt_or_ge b w1.heap.size with h' | h'
    · exact h'
    · simp [Array.getElem?_eq_none h'] at hbk
  go_wp2_with (at_builtin; refine wpList_app_row _ rfl _ _ 112 rfl 5 i0 Tryz.underlying112 hi hz0 hz1 hz2 _ _ _ rfl (hown.alloc _) ⟨w1.heap.size, 0, none⟩ 1 1 [.int .u8 c] rfl rfl ?c1 ?c2 ?c3 ?c4 ?_)
  case c1 =>
    intro j u hj
    match j, hj with
    | 0, hj => simp at hj; subst hj; simp [Addr.add]
  case c2 => intro u hu; simp at hu; subst hu; rfl
  case c3 => unfold maxLen; omega
  case c4 => omega
  intro v' w2 hown' hgrow hat
  have hb2 : w2.heap[b]? = some (.cells #[.pointer (some ⟨b, 0, none⟩), v0] 151 (0, 0)) := by
    rw [hgrow.block b (by simp; omega) (fun e => hne e.symm), Lib.alloc_old w1 _ b hlt]
    exact hbk
  have d0 : w2.cell? ⟨b, 0, none⟩ = some (.pointer (some ⟨b, 0, none⟩)) := by rw [Lib.cell_of_heap hb2]; rfl
  have d1 : w2.cell? ⟨b, 1, none⟩ = some v0 := by rw [Lib.cell_of_heap hb2]; rfl
  have f1 : w2.frozen? ⟨b, 1, none⟩ = false := Lib.frozen_of_heap hb2 1
  have hfin : Wrote 151 5 b p v0 bs [.int .u8 c] w (w2.setCell ⟨b, 1, none⟩ v') := ⟨w1, _, w2, v', hb1, .inr ⟨_, rfl⟩, by simpa using hown', hgrow, hat, rfl⟩
  obtain ⟨g, cap, rfl⟩ : ∃ g cap, v' = .slice (some ⟨g, 0, none⟩) (bs.length + 1) cap := by
    rcases hown'.2 with ⟨_, h0⟩ | ⟨g, cap, cur, hv, _⟩
    · omega
    · exact ⟨g, cap, hv⟩
  go_wp2
  go_ret
  exact ⟨rfl, hfin⟩
end Go.Proofs
namespace Go.AI
open Go.Proofs
theorem wspec90 (s : ByteArray) : WSpec Tryz.prog 74 151 5 (.tuple #[.int .i64 s.size, .nilIface]) (.string s) (Lib.strCells s) :=
  fun b p v0 bs w hp hbk hrow hne hlen => bld_str90 b p v0 bs s w hp hbk hrow hne (by rw [Lib.strCells_length] at hlen; exact hlen)
theorem wspec155 (c : Int) : WSpec Tryz.prog 76 151 5 .nilIface (.int .u8 c) [.int .u8 c] :=
  fun b p v0 bs w hp hbk hrow hne hlen => bld_byte155 b p v0 bs c w hp hbk hrow hne (by simpa using hlen)
theorem sspec93 : SSpec Tryz.prog 77 151 5 := fun b p v l w hbk hown h0 => bld_string Tryz.lays169 Tryz.Builder_Extra_169 b p v l w hbk hown h0
end Go.AI


/- The text of a literal. -/
namespace Go.AI
open Go.Proofs
set_option maxRecDepth 20000
end Go.AI


/- The text of boxes. -/
namespace Go.AI
open Go.Proofs
set_option maxRecDepth 20000
abbrev oby (T : List UInt8) : Ob := .arr 5 1 T.length (u8l T) true
theorem oby_app (T s : List UInt8) : Ob.arr 5 1 (T.length + s.length) (u8l T ++ u8l s) true = oby (T ++ s) := by rw [u8l_app]; simp [oby]
theorem strCells_u8 (K : Kn) (s : ByteArray) : RepL K (Lib.strCells s) (u8l s.data.toList).flatten := u8l_rep K s.data.toList
theorem size_list (s : ByteArray) : s.data.toList.length = s.size := by rw [Array.length_toList]; rfl
/-- A write of a string. -/
theorem does_ws {c : Cx} (hP : c.P = Tryz.prog) {s : St} {o : Oper} {t nm nm2 : Nat} {dp : D} {H : Heap} {O : List Heap} (sb : ByteArray) (T : List UInt8) (hdp : dp = .i (.v (.pointer none)) ∨ dp = .own 0 nm 0 0) (hlim : T.length + sb.size ≤ 140737488355328) (ht : o.dst = some t) (hn : t < s.n) (hS : s.S = H :: O)
    (hb : look H nm = some (.tb 151 [dp, .osl 0 nm2])) (ha : look H nm2 = some (oby T)) (hne : nm ≠ nm2) :
    Wp c o s 74 [.own 0 nm 0 0, .i (.v (.string sb))] { σ := (t, .tup [ii sb.size, .i (.v .nilIface)]) :: killσ nm2 s.σ, S := ((nm, .tb 151 [.own 0 nm 0 0, .osl 0 nm2]) :: (nm2, oby (T ++ sb.data.toList)) :: killH nm2 ((nm, .tb 151 [.own 0 nm 0 0, .osl 0 nm2]) :: H)) :: O, n := s.n } := by
  have h := does_write (c := c) (s := s) (o := o) (ys := u8l sb.data.toList) (m := sb.data.toList.length) (T := 151) (ty := 5) (rd := .tup [ii sb.size, .i (.v .nilIface)]) (dx := .i (.v (.string sb))) (x := .string sb) (res := .tuple #[.int .i64 sb.size, .nilIface]) (xs := u8l T) (n := T.length) (by rw [hP]; exact wspec90 sb) (by rw [hP]; exact Tryz.call74)
    (fun K ρ sh v h => inv_v h) (fun K ρ sh => .tup (.cons (.i (.v rfl)) (.cons (.i (.v rfl)) .nil))) hdp ht hn hS hb ha hne (fun K => strCells_u8 K sb) (u8l_el _) (by simp [u8l]) (by rw [size_list]; exact hlim)
  rwa [oby_app] at h
theorem does_bs {c : Cx} (hP : c.P = Tryz.prog) {s : St} {o : Oper} {t nm nm2 : Nat} {dp : D} {H : Heap} {O : List Heap} {T : List UInt8} (h0 : T ≠ []) (ht : o.dst = some t) (hn : t < s.n) (hS : s.S = H :: O)
    (hb : look H nm = some (.tb 151 [dp, .osl 0 nm2])) (ha : look H nm2 = some (oby T)) :
    Wp c o s 77 [.own 0 nm 0 0] { σ := (t, .i (.v (.string ⟨T.toArray⟩))) :: killσ nm2 s.σ, S := ((nm2, .arr 5 1 0 [] true) :: killH nm2 H) :: O, n := s.n } :=
  does_bstr (c := c) (s := s) (o := o) (T := 151) (ty := 5) (by rw [hP]; exact sspec93) (by rw [hP]; exact Tryz.call77) h0 ht hn hS hb ha
end Go.AI


/- Unfolding: the states that are found from an initial one on, and their edges, in plain data. -/
namespace Go.AI
structure Unf (σ : Type) where
  sts : List σ
  mkl : List Int
  eds : List (Int × Int × Int)
/-- The number of states that edges in order of discovery know. -/
def kOf : List (Int × Int × Int) → Nat → Option Nat
  | [], k => some k
  | e :: r, k => if (0 ≤ e.1 ∧ e.1 < k) ∧ 0 ≤ e.2.2 ∧ e.2.2 ≤ k then kOf r (if e.2.2 = k then k + 1 else k) else none
section
variable {σ : Type} (eq : σ → σ → Bool) (lim : Bool) (step : σ → Int → σ × Bool × Int) (mkd : σ → Bool)
def uvisit (i : Nat) (s : σ) (ev : Int) (U : Unf σ) : Except Int (Unf σ) :=
  if (step s ev).2.2 ≠ 0 then .error (step s ev).2.2 else
  if (step s ev).2.1 = false then .ok U else
  if U.sts.findIdx (eq (step s ev).1) < U.sts.length then .ok { U with eds := U.eds ++ [((i : Int), ev, ((U.sts.findIdx (eq (step s ev).1) : Nat) : Int))] } else
  if lim = true ∧ U.sts.length = 4096 then .error 3 else
  .ok { sts := U.sts ++ [(step s ev).1], mkl := U.mkl, eds := U.eds ++ [((i : Int), ev, ((U.sts.findIdx (eq (step s ev).1) : Nat) : Int))] }
def uvisits (i : Nat) (s : σ) : List Int → Unf σ → Except Int (Unf σ)
  | [], U => .ok U
  | ev :: r, U => match uvisit eq lim step i s ev U with
    | .error e => .error e
    | .ok U' => uvisits i s r U'
def umark (i : Nat) (s : σ) (U : Unf σ) : Unf σ := if mkd s then { U with mkl := U.mkl ++ [(i : Int)] } else U
def uloop (alpha : List Int) : Nat → Nat → Unf σ → Except Int (Unf σ)
  | 0, _, U => .ok U
  | f + 1, i, U => match U.sts[i]? with
    | none => .ok U
    | some s => match uvisits eq lim step i s alpha (umark mkd i s U) with
      | .error e => .error e
      | .ok U' => uloop alpha f (i + 1) U'
def unf0 (first : σ) : Unf σ := ⟨[first], [], []⟩
def unfR (alpha : List Int) (first : σ) : Except Int (Unf σ) := uloop eq lim step mkd alpha 4097 0 (unf0 first)
theorem umark_sts (i : Nat) (s : σ) (U : Unf σ) : (umark mkd i s U).sts = U.sts ∧ (umark mkd i s U).eds = U.eds := by
  unfold umark; split <;> exact ⟨rfl, rfl⟩
end
theorem findIdx_le {α : Type} {p : α → Bool} : ∀ {l : List α}, l.findIdx p ≤ l.length
  | [] => Nat.le_refl _
  | x :: l => by
    have := findIdx_le (p := p) (l := l)
    rw [List.findIdx_cons]
    cases p x with
    | true => exact Nat.zero_le _
    | false => simp only [cond_false, List.length_cons]; omega
section
variable {σ : Type} [DecidableEq σ]
/-- Equality, as a test. -/
def eqB (a b : σ) : Bool := decide (a = b)
variable (step : σ → Int → σ × Bool × Int) (mkd : σ → Bool)
/-- The edge by an event. -/
def eOf (sts : List σ) (i : Nat) (s : σ) (ev : Int) : Option (Int × Int × Int) := if (step s ev).2.1 = true then some ((i : Int), ev, ((sts.findIdx (eqB (step s ev).1) : Nat) : Int)) else none
/-- What is known of states: a property that steps keep, for which there are few. -/
structure Fin1 (eq : σ → σ → Bool) (lim : Bool) (P : σ → Prop) : Prop where
  step : ∀ s ev, P s → (step s ev).2.1 = true → P (step s ev).1
  eq : ∀ s t, P s → P t → eq s t = eqB s t
  few : lim = true → ∀ l : List σ, (∀ s ∈ l, P s) → l.Nodup → l.length < 4096
structure UOk (P : σ → Prop) (U : Unf σ) : Prop where
  ok : ∀ s ∈ U.sts, P s
  nd : U.sts.Nodup
  fr : kOf U.eds 1 = some U.sts.length
variable {step} {eq : σ → σ → Bool} {lim : Bool} {P : σ → Prop}
/-- What is known when the first states are done. -/
structure UAt (mkd : σ → Bool) (alpha : List Int) (P : σ → Prop) (step : σ → Int → σ × Bool × Int) (i : Nat) (U : Unf σ) : Prop extends UOk P U where
  le : i ≤ U.sts.length
  pos : 0 < U.sts.length
  eds : U.eds = (List.range i).flatMap fun k => match U.sts[k]? with
    | none => []
    | some s => alpha.filterMap (eOf step U.sts k s)
  mkl : U.mkl = ((List.range i).filter fun k => match U.sts[k]? with
    | none => false
    | some s => mkd s).map fun k => ((k : Nat) : Int)
  fine : ∀ k s, k < i → U.sts[k]? = some s → ∀ ev ∈ alpha, (step s ev).2.2 = 0 ∧ ((step s ev).2.1 = true → (step s ev).1 ∈ U.sts)
end
end Go.AI


/- Automata in plain data: their check, and what is canonical. -/
namespace Go.AI
abbrev Edg := Int × Int × Int
structure Aut where
  alpha : List Int
  states : Int
  marked : List Int
  edges : List Edg
abbrev edgI (e : Edg) : List I := [vi e.1, vi e.2.1, vi e.2.2]
abbrev edgs (l : List Edg) : D := .i (.sl 3 l.length (l.map edgI))
abbrev autD (a : Aut) : D := .agg [ints a.alpha, ii a.states, ints a.marked, edgs a.edges]
def chkEds (alpha : List Int) (n : Int) : Option Edg → List Edg → Int
  | _, [] => 0
  | prev, x :: r => if x.1 < 0 ∨ x.1 ≥ n ∨ x.2.2 < 0 ∨ x.2.2 ≥ n then 2 else if x.2.1 ∉ alpha then 9 else
    if prev.any (fun y => decide (x.1 < y.1 ∨ x.1 = y.1 ∧ x.2.1 ≤ y.2.1)) = true then 5 else chkEds alpha n (some x) r
def chkA (a : Aut) : Int := if checkSet 32 a.alpha none ≠ 0 then checkSet 32 a.alpha none else if a.states < 0 then 2 else if a.states > 4096 then 3 else
  if checkSet a.states a.marked none ≠ 0 then checkSet a.states a.marked none else chkEds a.alpha a.states none a.edges
end Go.AI


/- The key of numbers: flatten.key. -/
namespace Go.AI
open Go.Proofs
set_option maxRecDepth 20000
/-- A write of a byte. -/
theorem does_wb {c : Cx} (hP : c.P = Tryz.prog) {s : St} {o : Oper} {t nm nm2 : Nat} {dp : D} {H : Heap} {O : List Heap} (b : UInt8) (T : List UInt8) (hdp : dp = .i (.v (.pointer none)) ∨ dp = .own 0 nm 0 0) (hlim : T.length + 1 ≤ 140737488355328) (ht : o.dst = some t) (hn : t < s.n) (hS : s.S = H :: O)
    (hb : look H nm = some (.tb 151 [dp, .osl 0 nm2])) (ha : look H nm2 = some (oby T)) (hne : nm ≠ nm2) :
    Wp c o s 76 [.own 0 nm 0 0, .i (.v (.int .u8 b.toNat))] { σ := (t, .i (.v .nilIface)) :: killσ nm2 s.σ, S := ((nm, .tb 151 [.own 0 nm 0 0, .osl 0 nm2]) :: (nm2, oby (T ++ [b])) :: killH nm2 ((nm, .tb 151 [.own 0 nm 0 0, .osl 0 nm2]) :: H)) :: O, n := s.n } := by
  have h := does_write (c := c) (s := s) (o := o) (ys := u8l [b]) (m := 1) (T := 151) (ty := 5) (rd := .i (.v .nilIface)) (dx := .i (.v (.int .u8 b.toNat))) (x := .int .u8 b.toNat) (res := .nilIface) (xs := u8l T) (n := T.length) (by rw [hP]; exact wspec155 b.toNat) (by rw [hP]; exact Tryz.call76)
    (fun K ρ sh v h => inv_v h) (fun K ρ sh => .i (.v rfl)) hdp ht hn hS hb ha hne (fun K => u8l_rep K [b]) (u8l_el _) (by simp [u8l]) hlim
  rwa [show T.length + 1 = T.length + [b].length from rfl, oby_app] at h
def keyL : List UInt8 → List Int → List UInt8
  | T, [] => T
  | T, n :: r => keyL (T ++ (itoaB n).data.toList ++ [32]) r
def keyLs : List UInt8 → List (List Int) → List UInt8
  | T, [] => T
  | T, l :: r => keyLs (keyL T l ++ [59]) r
/-- The key of some lists. -/
def fkeyB (ls : List (List Int)) : ByteArray := ⟨(keyLs [] ls).toArray⟩
abbrev dp3 (p : Bool) : D := bif p then .own 0 3 0 0 else .i (.v (.pointer none))
theorem dp3_or (p : Bool) : dp3 p = .i (.v (.pointer none)) ∨ dp3 p = .own 0 3 0 0 := by cases p; exact .inl rfl; exact .inr rfl
set_option maxHeartbeats 4000000 in
theorem key106 {g : Nat} (hg : IsTab g) {ty : TypeId} {fr : Nat × Nat} (O : List Heap) (ls : List (List Int)) (h0 : ls ≠ []) (hn : ls.length ≤ 4096) (hl : ∀ l ∈ ls, l.length ≤ 4096 ∧ ∀ v ∈ l, i64B v) :
    ASpecT g (ptab ty fr) Tryz.prog 38 [.i (intssI ls)] O (.i (.v (.string (fkeyB ls)))) [] O := by
  have hno : fkeyB ls = ⟨(keyLs [] (ls.drop 0)).toArray⟩ := rfl
  have hpos : 0 < ls.length := List.length_pos_iff.2 h0
  generalize fkeyB ls = R at *
  refine aspecT_stop [200003, 200022, 200023, 200025, 200027] Tk Tryz.func38 rfl Tryz.call38 Tryz.ntmps38 (Nat.le_of_ble_eq_true rfl) fun E hE => ?_
  refine g_run Tk Tryz.func38 ?_
  refine g_tb Tk Tryz.func38 rfl rfl rfl rfl rfl rfl rfl rfl ?_
  refine g_loop ?_
  refine rch_wk (wk_niltb 3 60 5 1 rfl rfl rfl) ?_
  refine rch_loop2 (fun x : Nat × List UInt8 × Bool => [(3, .own 0 3 0 0), (8, .i (intssI ls)), (9, ii ls.length), (10, ii x.1)]) (fun x => [(3, .tb 151 [dp3 x.2.2, .osl 0 60]), (60, oby x.2.1)]) (fun _ => O) 28
    (fun x => x.1 ≤ ls.length ∧ x.2.1.length ≤ 100000 * x.1 ∧ (x.1 = 0 ∨ x.2.1 ≠ []) ∧ R = ⟨(keyLs x.2.1 (ls.drop x.1)).toArray⟩) (fun x => ls.length - x.1) (0, [], false)
    ⟨Nat.zero_le _, by simp, .inl rfl, hno⟩ ⟨rfl, rfl, rfl, rfl, trivial⟩ rfl ⟨rfl, rfl, trivial⟩ rfl rfl ?_
  clear hno
  rintro ⟨i, T, p⟩ ⟨hi, hTl, hT0, hno⟩ ih
  simp only at hi hTl hT0 hno
  refine g_run Tk Tryz.func38 ?_
  first | refine g_cnd Tk Tryz.func38 rfl (fun g1 => ?_) (fun g1 => ?_) | refine g_know Tk Tryz.func38 rfl (fun g1 => ?_) (fun g1 => ?_) | refine s_know Tk (fun g1 => ?_) (fun g1 => ?_)
  · have h2 : i < ls.length := by simpa using g1
    clear g1
    have gb : (ls.map fun x => [intsI x])[(i : Int).toNat]? = some [intsI ls[i]] := get_mapZ (f := fun x => [intsI x]) h2
    have db : ls.drop i = ls[i] :: ls.drop (i + 1) := List.drop_eq_getElem_cons h2
    have hll := hl _ (List.getElem_mem h2)
    rw [db] at hno
    simp only [keyLs] at hno
    clear db
    generalize ls[i] = l at *
    have hi1 : ii (IntKind.i64.wrap ((i : Int) + 1)) = ii ((i + 1 : Nat) : Int) := congrArg ii (wsucc (n := 4096) (by omega) (by decide))
    first | refine g_need Tk Tryz.func38 (by exact ⟨by omega, by show (i : Int) < (ls.length : Int); omega⟩) ?_ | refine s_need Tk (by exact ⟨by omega, by show (i : Int) < (ls.length : Int); omega⟩) ?_
    first | refine g_elem Tk Tryz.func38 (gb) ?_ | refine s_elem Tk (gb) ?_
    have hF0 : keyL T l = keyL T (l.drop 0) := rfl
    generalize keyL T l = F at *
    refine g_loop ?_
    refine rch_loop2 (fun x : Nat × List UInt8 × Bool => [(3, .own 0 3 0 0), (8, .i (intssI ls)), (9, ii ls.length), (10, ii i), (14, ints l), (15, ii l.length), (16, ii x.1)]) (fun x => [(3, .tb 151 [dp3 x.2.2, .osl 0 60]), (60, oby x.2.1)]) (fun _ => O) 28
      (fun x => x.1 ≤ l.length ∧ x.2.1.length ≤ T.length + 22 * x.1 ∧ F = keyL x.2.1 (l.drop x.1)) (fun x => l.length - x.1) (0, T, p)
      ⟨Nat.zero_le _, by simp, hF0⟩ ⟨rfl, rfl, rfl, rfl, rfl, rfl, rfl, trivial⟩ rfl ⟨rfl, rfl, trivial⟩ (by cases p <;> rfl) rfl ?_
    clear hF0
    rintro ⟨k, U, q⟩ ⟨hk, hUl, hF⟩ ih2
    simp only at hk hUl hF
    refine g_run Tk Tryz.func38 ?_
    first | refine g_cnd Tk Tryz.func38 rfl (fun g2 => ?_) (fun g2 => ?_) | refine g_know Tk Tryz.func38 rfl (fun g2 => ?_) (fun g2 => ?_) | refine s_know Tk (fun g2 => ?_) (fun g2 => ?_)
    · have h3 : k < l.length := by simpa using g2
      clear g2
      have gl : (l.map fun x => [vi x])[(k : Int).toNat]? = some [vi l[k]] := get_mapZ (f := fun x => [vi x]) h3
      have dl : l.drop k = l[k] :: l.drop (k + 1) := List.drop_eq_getElem_cons h3
      have hv := hll.2 _ (List.getElem_mem h3)
      rw [dl] at hF
      simp only [keyL] at hF
      clear dl
      generalize l[k] = n at *
      have hz := itoaB_size hv.1 hv.2
      have hk1 : ii (IntKind.i64.wrap ((k : Int) + 1)) = ii ((k + 1 : Nat) : Int) := congrArg ii (wsucc (n := 4096) (by omega) (by decide))
      first | refine g_need Tk Tryz.func38 (by exact ⟨by omega, by show (k : Int) < (l.length : Int); omega⟩) ?_ | refine s_need Tk (by exact ⟨by omega, by show (k : Int) < (l.length : Int); omega⟩) ?_
      first | refine g_elem Tk Tryz.func38 (gl) ?_ | refine s_elem Tk (gl) ?_
      refine g_callT Tk Tryz.func38 hE (itoa79 hg _ n hv.1 hv.2) rfl rfl rfl rfl rfl rfl ?_
      generalize itoaB n = W at *
      refine g_callP Tk Tryz.func38 rfl rfl rfl rfl (does_ws rfl W U (dp3_or q) (by omega) rfl (show 22 < 28 by decide) rfl rfl rfl (by decide)) ?_
      refine g_callP Tk Tryz.func38 rfl rfl rfl rfl (does_wb rfl 32 (U ++ W.data.toList) (.inr rfl) (by rw [List.length_append, size_list]; omega) rfl (show 23 < 28 by decide) rfl rfl rfl (by decide)) ?_
      refine g_loop ?_
      refine ih2 (k + 1, U ++ W.data.toList ++ [32], true) _ _ ⟨h3, by simp only [List.length_append, size_list, List.length_singleton]; omega, hF⟩ (by simp only; omega) ⟨rfl, rfl, rfl, rfl, rfl, rfl, hk1, trivial⟩ rfl ⟨rfl, rfl, trivial⟩ rfl rfl
    · have h3 : l.length ≤ k := by simpa using g2
      rw [List.drop_eq_nil_of_le h3] at hF
      simp only [keyL] at hF
      subst hF
      refine g_callP Tk Tryz.func38 rfl rfl rfl rfl (does_wb rfl 59 F (dp3_or q) (by omega) rfl (show 25 < 28 by decide) rfl rfl rfl (by decide)) ?_
      refine g_loop ?_
      refine ih (i + 1, F ++ [59], true) _ _ ⟨h2, by simp only [List.length_append, List.length_singleton]; omega, .inr (by simp), hno⟩ (by simp only; omega) ⟨rfl, rfl, rfl, hi1, trivial⟩ rfl ⟨rfl, rfl, trivial⟩ rfl rfl
  · have h2 : ls.length ≤ i := by simpa using g1
    rw [List.drop_eq_nil_of_le h2] at hno
    simp only [keyLs] at hno
    subst hno
    have hT0 : T ≠ [] := hT0.resolve_left (by omega)
    refine g_callP Tk Tryz.func38 rfl rfl rfl rfl (does_bs rfl hT0 rfl (show 27 < 28 by decide) rfl rfl rfl) ?_
    refine g_ret Tk (r := .i (.v (.string ⟨T.toArray⟩))) rfl rfl rfl trivial rfl rfl ?_
    rfl
end Go.AI


/- The small functions of flatten: contains, clone, the closures, At, Locate, Where. -/
namespace Go.AI
open Go.Proofs
set_option maxRecDepth 20000
def idxI (x : Int) : List Int → Nat → Int
  | [], _ => -1
  | y :: r, i => if x = y then i else idxI x r (i + 1)
theorem idxI_iff (x : Int) : ∀ (l : List Int) (i : Nat), idxI x l i ≥ 0 ↔ x ∈ l
  | [], _ => by simp [idxI]
  | y :: r, i => by
    simp only [idxI]
    by_cases h : x = y
    · simp only [if_pos h, h]
      simp
    · simp only [if_neg h]
      rw [idxI_iff x r (i + 1)]
      simp [h]
theorem idxI_mem (x : Int) (l : List Int) (i : Nat) : decide (idxI x l i ≥ 0) = decide (x ∈ l) := decide_eq_decide.2 (idxI_iff x l i)
theorem index156 (O : List Heap) (l : List Int) (x : Int) (hl : l.length ≤ max63) : ASpec Tryz.prog 80 [ints l, ii x] O (ii (idxI x l 0)) [] O := by
  generalize hR : idxI x l 0 = R
  refine aspec_intro Tk Tryz.func80 rfl Tryz.call80 Tryz.ntmps80 (Nat.le_of_ble_eq_true rfl) fun E => ?_
  refine g_run Tk Tryz.func80 ?_
  refine g_loop ?_
  refine rch_loop2 (fun i : Nat => [(0, ints l), (1, ii x), (7, ii l.length), (8, ii i)]) (fun _ => []) (fun _ => O) 19
    (fun i => i ≤ l.length ∧ idxI x (l.drop i) i = R) (fun i => l.length - i) 0 ⟨Nat.zero_le _, hR⟩ ⟨rfl, rfl, rfl, rfl, trivial⟩ rfl trivial rfl rfl ?_
  rintro i ⟨hi, hno⟩ ih
  clear hR
  refine g_run Tk Tryz.func80 ?_
  first | refine g_cnd Tk Tryz.func80 rfl (fun g1 => ?_) (fun g1 => ?_) | refine g_know Tk Tryz.func80 rfl (fun g1 => ?_) (fun g1 => ?_) | refine s_know Tk (fun g1 => ?_) (fun g1 => ?_)
  · have h1 : i < l.length := by simpa using g1
    have gl : (l.map fun x => [vi x])[(i : Int).toNat]? = some [vi l[i]] := get_mapZ (f := fun x => [vi x]) h1
    have dl : l.drop i = l[i] :: l.drop (i + 1) := List.drop_eq_getElem_cons h1
    rw [dl] at hno
    simp only [idxI] at hno
    clear dl
    generalize l[i] = y at *
    first | refine g_need Tk Tryz.func80 (by exact ⟨by omega, by show (i : Int) < (l.length : Int); omega⟩) ?_ | refine s_need Tk (by exact ⟨by omega, by show (i : Int) < (l.length : Int); omega⟩) ?_
    first | refine g_elem Tk Tryz.func80 (gl) ?_ | refine s_elem Tk (gl) ?_
    first | refine g_cnd Tk Tryz.func80 rfl (fun g2 => ?_) (fun g2 => ?_) | refine g_know Tk Tryz.func80 rfl (fun g2 => ?_) (fun g2 => ?_) | refine s_know Tk (fun g2 => ?_) (fun g2 => ?_)
    · have g2 : x = y := beqT g2
      rw [if_pos g2] at hno
      subst hno
      refine g_ret Tk (r := ii (i : Int)) rfl rfl rfl trivial rfl rfl ?_
      rfl
    · have g2 : x ≠ y := beqF g2
      rw [if_neg g2] at hno
      refine g_loop ?_
      exact ih (i + 1) _ _ ⟨h1, hno⟩ (by omega) ⟨rfl, rfl, rfl, congrArg ii (wsucc h1 hl), trivial⟩ rfl trivial rfl rfl
  · have h1 : l.length ≤ i := by simpa using g1
    rw [List.drop_eq_nil_of_le h1] at hno
    simp only [idxI] at hno
    subst hno
    refine g_ret Tk (r := ii (-1)) rfl rfl rfl trivial rfl rfl ?_
    rfl
theorem contains110 (O : List Heap) (l : List Int) (x : Int) (hl : l.length ≤ max63) : ASpec Tryz.prog 42 [ints l, ii x] O (bb (decide (x ∈ l))) [] O := by
  rw [← idxI_mem x l 0]
  have h := fun O => index156 O l x hl
  refine aspec_intro Tk Tryz.func42 rfl Tryz.call42 Tryz.ntmps42 (Nat.le_of_ble_eq_true rfl) fun E => ?_
  refine g_run Tk Tryz.func42 ?_
  first | refine g_call Tk Tryz.func42 (h _) rfl rfl rfl rfl rfl ?_ | refine s_callq Tk (fun _ => h _) rfl rfl rfl ?_
  refine g_ret Tk (r := bb (decide (idxI x l 0 ≥ 0))) rfl rfl rfl trivial rfl rfl ?_
  rfl
theorem clone84 (O : List Heap) (l : List Int) (hl : l.length * 8 ≤ big) : ASpec Tryz.prog 55 [ints l] O (ints l) [] O := by
  refine aspec_intro Tk Tryz.func55 rfl Tryz.call55 Tryz.ntmps55 (Nat.le_of_ble_eq_true rfl) fun E => ?_
  refine g_run Tk Tryz.func55 ?_
  refine g_anyb Tk Tryz.func55 rfl rfl fun b hb => ?_
  first | refine g_cnd Tk Tryz.func55 rfl (fun h1 => ?_) (fun h1 => ?_) | refine g_know Tk Tryz.func55 rfl (fun h1 => ?_) (fun h1 => ?_) | refine s_know Tk (fun h1 => ?_) (fun h1 => ?_)
  · have hl0 : l = [] := List.eq_nil_of_length_eq_zero (hb h1)
    subst hl0
    refine g_ret_co Tk (r := .i (.v (.slice none 0 0))) rfl rfl rfl trivial rfl rfl ?_
    exact coD_i coI_nil
  · first | refine g_need Tk Tryz.func55 (by exact ⟨by show (0 + l.length) * 8 ≤ 140737488355328; simp only [big] at hl; omega, by show 0 + l.length ≤ 9223372036854775807; simp only [big] at hl; omega⟩) ?_ | refine s_need Tk (by exact ⟨by show (0 + l.length) * 8 ≤ 140737488355328; simp only [big] at hl; omega, by show 0 + l.length ≤ 9223372036854775807; simp only [big] at hl; omega⟩) ?_
    refine g_rwk (wk_cut (l := [(2, .osl 0 7)]) (Hv := [(7, .arr 3 1 (0 + l.length) ([] ++ l.map fun x => [vi x]) true)]) ⟨rfl, trivial⟩ rfl ⟨rfl, trivial⟩ rfl rfl) ?_
    rw [Nat.zero_add, List.nil_append]
    refine g_rwk (wk_freeze 7 rfl rfl) ?_
    refine g_ret Tk (r := ints l) rfl rfl rfl trivial rfl rfl ?_
    rfl
/-- The key of a state. -/
def fkey (s : Sta) : ByteArray := fkeyB [[s.loc], s.vals]
structure keyOk (s : Sta) : Prop where
  loc : i64B s.loc
  len : s.vals.length ≤ 4096
  vals : ∀ v ∈ s.vals, i64B v
theorem keyName105 {g : Nat} (hg : IsTab g) {ty : TypeId} {fr : Nat × Nat} (O : List Heap) (s : Sta) (hs : keyOk s) : ASpecT g (ptab ty fr) Tryz.prog 50 [staD s] O (.i (.v (.string (fkey s)))) [] O := by
  have hk := fun O => key106 hg (ty := ty) (fr := fr) O [[s.loc], s.vals] (by simp) (by simp) (by
    intro l hl
    simp only [List.mem_cons, List.mem_nil_iff, or_false] at hl
    rcases hl with rfl | rfl
    · exact ⟨by simp, fun v hv => by simp only [List.mem_singleton] at hv; subst hv; exact hs.loc⟩
    · exact ⟨hs.len, hs.vals⟩)
  unfold fkey
  generalize fkeyB [[s.loc], s.vals] = K at *
  obtain ⟨l, v⟩ := s
  refine aspecT_stop [] Tk Tryz.func50 rfl Tryz.call50 Tryz.ntmps50 (Nat.le_of_ble_eq_true rfl) fun E hE => ?_
  refine g_run Tk Tryz.func50 ?_
  refine g_callT Tk Tryz.func50 hE (hk _) rfl rfl rfl rfl rfl rfl ?_
  refine g_ret Tk (r := .i (.v (.string K))) rfl rfl rfl trivial rfl rfl ?_
  rfl
theorem keyStep107 (O : List Heap) (m : Ext) (s : Sta) (ev : Int) (d nm : Nat) (ho : objAt O d nm = some (.box (extC m))) (hok : extOk m) : ASpec Tryz.prog 51 [staD s, ii ev, .own d nm 0 0] O (.tup [staD (stpR m s ev).1, bb (stpR m s ev).2.1, ii (stpR m s ev).2.2]) [] O := by
  have h := fun O => step31 O m s ev hok
  generalize stpR m s ev = R at *
  obtain ⟨⟨a, b⟩, p, e⟩ := R
  obtain ⟨l, v⟩ := s
  refine aspec_intro Tk Tryz.func51 rfl Tryz.call51 Tryz.ntmps51 (Nat.le_of_ble_eq_true rfl) fun E => ?_
  refine g_run Tk Tryz.func51 ?_
  first | refine g_obj Tk Tryz.func51 (up_obj ho) ?_ | refine s_obj Tk (up_obj ho) ?_
  first | refine g_call Tk Tryz.func51 (h _) rfl rfl rfl rfl rfl ?_ | refine s_callq Tk (fun _ => h _) rfl rfl rfl ?_
  refine g_ret Tk (r := .tup [staD ⟨a, b⟩, bb p, ii e]) rfl rfl rfl trivial rfl rfl ?_
  rfl
theorem keyMark109 (O : List Heap) (m : Ext) (s : Sta) (d nm : Nat) (ho : objAt O d nm = some (.box (extC m))) (hok : extOk m) : ASpec Tryz.prog 53 [staD s, .own d nm 0 0] O (bb (decide (s.loc ∈ m.marked))) [] O := by
  have h := fun O => contains110 O m.marked s.loc hok.ma
  obtain ⟨l, v⟩ := s
  refine aspec_intro Tk Tryz.func53 rfl Tryz.call53 Tryz.ntmps53 (Nat.le_of_ble_eq_true rfl) fun E => ?_
  refine g_run Tk Tryz.func53 ?_
  first | refine g_obj Tk Tryz.func53 (up_obj ho) ?_ | refine s_obj Tk (up_obj ho) ?_
  first | refine g_call Tk Tryz.func53 (h _) rfl rfl rfl rfl rfl ?_ | refine s_callq Tk (fun _ => h _) rfl rfl rfl ?_
  refine g_ret Tk (r := bb (decide (l ∈ m.marked))) rfl rfl rfl trivial rfl rfl ?_
  rfl
end Go.AI
