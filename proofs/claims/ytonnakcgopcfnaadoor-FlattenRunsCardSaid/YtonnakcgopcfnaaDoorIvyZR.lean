/- The layer of abstract runs, part 44. -/
import Derived.Test.YtonnakcgopcfnaaDoorIvyZQ
import Derived.KernelRfl
set_option linter.unusedSimpArgs false
set_option linter.unusedVariables false
set_option linter.all false

/- Automata: BinarySearchFunc, out, Check. -/
namespace Go.AI
open Go.Proofs
set_option maxRecDepth 20000
abbrev edgD (e : Edg) : D := .agg [ii e.1, ii e.2.1, ii e.2.2]
theorem cmp182 (O : List Heap) (e : Edg) (s : Int) : ASpec Tryd.prog 182 [edgD e, ii s] O (ii (IntKind.i64.wrap (e.1 - s))) [] O := by
  obtain ⟨a, b, c⟩ := e
  refine aspec_intro Tk Tryd.func182 rfl Tryd.call182 Tryd.ntmps182 (Nat.le_of_ble_eq_true rfl) fun E => ?_
  refine g_run Tk Tryd.func182 ?_
  refine g_ret Tk (r := ii (IntKind.i64.wrap (a - s))) rfl rfl rfl trivial rfl rfl ?_
  rfl
theorem cmp183 (O : List Heap) (e : Edg) (s : Int) : ASpec Tryd.prog 183 [edgD e, ii s] O (ii (IntKind.i64.wrap (e.1 - s))) [] O := by
  obtain ⟨a, b, c⟩ := e
  refine aspec_intro Tk Tryd.func183 rfl Tryd.call183 Tryd.ntmps183 (Nat.le_of_ble_eq_true rfl) fun E => ?_
  refine g_run Tk Tryd.func183 ?_
  refine g_ret Tk (r := ii (IntKind.i64.wrap (a - s))) rfl rfl rfl trivial rfl rfl ?_
  rfl
def fndE (l : List Edg) (s : Int) : Bool := match l[lowE l s]? with
  | some e => e.1 - s == 0
  | none => false
theorem lowE_eq {l : List Edg} {s : Int} {i : Nat} (hi : i ≤ l.length) (h1 : ∀ k (h : k < l.length), k < i → l[k].1 < s) (h2 : ∀ k (h : k < l.length), i ≤ k → s ≤ l[k].1) : lowE l s = i := by
  rcases Nat.lt_trichotomy (lowE l s) i with h | h | h
  · have hl : lowE l s < l.length := by omega
    have a := h1 _ hl h
    have h0 : decide (s ≤ (l[lowE l s]).1) = true := List.findIdx_getElem (p := fun e : Edg => decide (s ≤ e.1)) (w := hl)
    have h0 := of_decide_eq_true h0
    omega
  · exact h
  · have hl : i < l.length := by have := lowE_le l s; omega
    have a := lowE_lt h hl
    have b := h2 _ hl (Nat.le_refl _)
    omega
theorem bsf181 (O : List Heap) (l : List Edg) (s : Int) (f : Nat) (hf : ∀ e O, ASpec Tryd.prog f [edgD e, ii s] O (ii (IntKind.i64.wrap (e.1 - s))) [] O) (hl : l.length ≤ max63) (hs : sortedF l) (hb : ∀ e ∈ l, 0 ≤ e.1 ∧ e.1 ≤ 5000) (hsb : 0 ≤ s ∧ s ≤ 5000) :
    ASpec Tryd.prog 181 [edgs l, ii s, .fn (.func f) [] []] O (.tup [ii (lowE l s : Nat), bb (fndE l s)]) [] O := by
  have hw : ∀ e ∈ l, IntKind.i64.wrap (e.1 - s) = e.1 - s := fun e he => by
    have := hb e he
    exact w64 (by omega) (by omega)
  have hsort : ∀ i j (hi : i < l.length) (hj : j < l.length), i ≤ j → l[i].1 ≤ l[j].1 := fun i j hi hj h => by
    rcases Nat.lt_or_eq_of_le h with h | h
    · exact List.pairwise_iff_getElem.1 hs i j hi hj h
    · subst h; exact Int.le_refl _
  refine aspec_intro Tk Tryd.func181 rfl Tryd.call181 Tryd.ntmps181 (Nat.le_of_ble_eq_true rfl) fun E => ?_
  refine g_run Tk Tryd.func181 ?_
  refine g_loop ?_
  refine rch_loop2 (fun p : Nat × Nat => [(0, edgs l), (1, ii s), (2, .fn (.func f) [] []), (8, ii l.length), (9, ii p.1), (10, ii p.2)]) (fun _ => []) (fun _ => O) 49
    (fun p => p.1 ≤ p.2 ∧ p.2 ≤ l.length ∧ (∀ k (h : k < l.length), k < p.1 → l[k].1 < s) ∧ ∀ k (h : k < l.length), p.2 ≤ k → s ≤ l[k].1) (fun p => p.2 - p.1) (0, l.length)
    ⟨Nat.zero_le _, Nat.le_refl _, fun k h h' => by simp at h', fun k h h' => by simp at h'; omega⟩ ⟨rfl, rfl, rfl, rfl, rfl, rfl, trivial⟩ rfl trivial rfl rfl ?_
  rintro ⟨i, j⟩ ⟨hij, hj, hlo, hhi⟩ ih
  simp only at hij hj hlo hhi
  have hlj : j ≤ max63 := Nat.le_trans hj hl
  refine g_run Tk Tryd.func181 ?_
  first | refine g_cnd Tk Tryd.func181 rfl (fun h1 => ?_) (fun h1 => ?_) | refine g_know Tk Tryd.func181 rfl (fun h1 => ?_) (fun h1 => ?_) | refine s_know Tk (fun h1 => ?_) (fun h1 => ?_)
  · have h1 : i < j := by simpa using h1
    have hm := mid64 (Nat.le_trans hij hlj) hlj
    have hmj : (i + j) / 2 < j := by omega
    have hml : (i + j) / 2 < l.length := by omega
    have ge : (l.map edgI)[((((i + j) / 2 : Nat) : Int)).toNat]? = some (edgI l[(i + j) / 2]) := get_mapZ hml
    have hwm := hw _ (List.getElem_mem hml)
    have hfm := hf l[(i + j) / 2]
    generalize he : l[(i + j) / 2] = e at *
    first | refine g_need Tk Tryd.func181 (by simp [IntKind.bits]) ?_ | refine s_need Tk (by simp [IntKind.bits]) ?_
    first | refine g_need Tk Tryd.func181 (by rw [hm]; exact ⟨by omega, by show (((i + j) / 2 : Nat) : Int) < (l.length : Int); omega⟩) ?_ | refine s_need Tk (by rw [hm]; exact ⟨by omega, by show (((i + j) / 2 : Nat) : Int) < (l.length : Int); omega⟩) ?_
    first | refine g_elem Tk Tryd.func181 (by rw [hm]; exact ge) ?_ | refine s_elem Tk (by rw [hm]; exact ge) ?_
    first | refine g_call Tk Tryd.func181 (hfm _) rfl rfl rfl rfl rfl ?_ | refine s_callq Tk (fun _ => hfm _) rfl rfl rfl ?_
    first | refine g_cnd Tk Tryd.func181 rfl (fun h2 => ?_) (fun h2 => ?_) | refine g_know Tk Tryd.func181 rfl (fun h2 => ?_) (fun h2 => ?_) | refine s_know Tk (fun h2 => ?_) (fun h2 => ?_)
    · have h2 : IntKind.i64.wrap (e.1 - s) < 0 := of_decide_eq_true h2
      rw [hwm] at h2
      refine g_loop ?_
      refine ih ((i + j) / 2 + 1, j) _ _ ⟨by show (i + j) / 2 + 1 ≤ j; omega, hj, fun k h h' => ?_, hhi⟩ (by simp only; omega) ⟨rfl, rfl, rfl, rfl, ?_, rfl, trivial⟩ rfl trivial rfl rfl
      · have h' : k < (i + j) / 2 + 1 := h'
        have := hsort k ((i + j) / 2) h hml (by omega)
        rw [he] at this
        omega
      · show D.i (.v (.int .i64 _)) = _
        rw [hm]
        exact congrArg ii (wsucc (n := j) (by omega) hlj)
    · have h2 : ¬ IntKind.i64.wrap (e.1 - s) < 0 := of_decide_eq_false h2
      rw [hwm] at h2
      refine g_loop ?_
      refine ih (i, (i + j) / 2) _ _ ⟨by show i ≤ (i + j) / 2; omega, by show (i + j) / 2 ≤ l.length; omega, hlo, fun k h h' => ?_⟩ (by simp only; omega) ⟨rfl, rfl, rfl, rfl, rfl, ?_, trivial⟩ rfl trivial rfl rfl
      · have h' : (i + j) / 2 ≤ k := h'
        have := hsort ((i + j) / 2) k hml h h'
        rw [he] at this
        omega
      · show D.i (.v (.int .i64 _)) = _
        rw [hm]
  · have h1 : j ≤ i := by simpa using h1
    have hij : i = j := by omega
    subst hij
    have hlow : lowE l s = i := lowE_eq hj hlo hhi
    have hfd : fndE l s = match l[i]? with | some e => e.1 - s == 0 | none => false := by unfold fndE; rw [hlow]
    rw [hlow, hfd]
    first | refine g_cnd Tk Tryd.func181 rfl (fun h2 => ?_) (fun h2 => ?_) | refine g_know Tk Tryd.func181 rfl (fun h2 => ?_) (fun h2 => ?_) | refine s_know Tk (fun h2 => ?_) (fun h2 => ?_)
    · have h2 : i < l.length := by simpa using h2
      have ge : (l.map edgI)[(i : Int).toNat]? = some (edgI l[i]) := get_mapZ h2
      have hwm := hw _ (List.getElem_mem h2)
      have hfm := hf l[i]
      rw [List.getElem?_eq_getElem h2]
      generalize l[i] = e at *
      first | refine g_need Tk Tryd.func181 (by exact ⟨by omega, by show (i : Int) < (l.length : Int); omega⟩) ?_ | refine s_need Tk (by exact ⟨by omega, by show (i : Int) < (l.length : Int); omega⟩) ?_
      first | refine g_elem Tk Tryd.func181 (ge) ?_ | refine s_elem Tk (ge) ?_
      first | refine g_call Tk Tryd.func181 (hfm _) rfl rfl rfl rfl rfl ?_ | refine s_callq Tk (fun _ => hfm _) rfl rfl rfl ?_
      refine g_ret Tk (r := .tup [ii (i : Nat), bb (IntKind.i64.wrap (e.1 - s) == 0)]) rfl rfl rfl trivial rfl rfl ?_
      rw [hwm]
    · have h2 : l.length ≤ i := by simpa using h2
      rw [List.getElem?_eq_none h2]
      refine g_ret Tk (r := .tup [ii (i : Nat), bb false]) rfl rfl rfl trivial rfl rfl ?_
      rfl
theorem out163 (O : List Heap) (a : Aut) (s : Int) (hl : a.edges.length ≤ max63) (hs : sortedF a.edges) (hb : ∀ e ∈ a.edges, 0 ≤ e.1 ∧ e.1 ≤ 5000) (hsb : 0 ≤ s ∧ s ≤ 4999) : ASpec Tryd.prog 163 [autD a, ii s] O (edgs (outR a.edges s)) [] O := by
  obtain ⟨al, n, mk, es⟩ := a
  simp only at hl hs hb ⊢
  have h1 := fun O => bsf181 O es s 182 (fun e O => cmp182 O e s) hl hs hb (by omega)
  have hw : IntKind.i64.wrap (s + 1) = s + 1 := w64 (by omega) (by omega)
  have h2 : ∀ O, ASpec Tryd.prog 181 [edgs es, ii (IntKind.i64.wrap (s + 1)), .fn (.func 183) [] []] O (.tup [ii (lowE es (s + 1) : Nat), bb (fndE es (s + 1))]) [] O := fun O => by
    rw [hw]
    exact bsf181 O es (s + 1) 183 (fun e O => cmp183 O e (s + 1)) hl hs hb (by omega)
  have hle := lowE_mono hs (show s ≤ s + 1 by omega)
  have hle2 := lowE_le es (s + 1)
  have hlen := outR_len es s
  have ho : outR es s = (es.take (lowE es (s + 1))).drop (lowE es s) := rfl
  have hres : edgs (outR es s) = .i (.sl 3 (((lowE es (s + 1) : Nat) : Int).toNat - ((lowE es s : Nat) : Int).toNat) (((es.map edgI).take ((lowE es (s + 1) : Nat) : Int).toNat).drop ((lowE es s : Nat) : Int).toNat)) := by
    unfold edgs
    rw [hlen]
    unfold outR
    rw [List.map_drop, List.map_take]
    rfl
  rw [hres]
  generalize lowE es s = p at *
  generalize lowE es (s + 1) = q at *
  refine aspec_intro Tk Tryd.func163 rfl Tryd.call163 Tryd.ntmps163 (Nat.le_of_ble_eq_true rfl) fun E => ?_
  refine g_run Tk Tryd.func163 ?_
  first | refine g_call Tk Tryd.func163 (h1 _) rfl rfl rfl rfl rfl ?_ | refine s_callq Tk (fun _ => h1 _) rfl rfl rfl ?_
  first | refine g_call Tk Tryd.func163 (h2 _) rfl rfl rfl rfl rfl ?_ | refine s_callq Tk (fun _ => h2 _) rfl rfl rfl ?_
  first | refine g_need Tk Tryd.func163 (by exact ⟨by omega, by omega, by show ((q : Nat) : Int) ≤ (es.length : Int); omega⟩) ?_ | refine s_need Tk (by exact ⟨by omega, by omega, by show ((q : Nat) : Int) ≤ (es.length : Int); omega⟩) ?_
  refine g_ret Tk (r := .i (.sl 3 (((q : Nat) : Int).toNat - ((p : Nat) : Int).toNat) (((es.map edgI).take ((q : Nat) : Int).toNat).drop ((p : Nat) : Int).toNat))) rfl rfl rfl trivial rfl rfl ?_
  rfl
theorem checkSet159 (O : List Heap) (l : List Int) (n : Int) (hl : l.length ≤ max63) : ASpec Tryd.prog 159 [ints l, ii n] O (ii (checkSet n l none)) [] O := by
  generalize hR : checkSet n l none = R
  refine aspec_stop [6, 8] Tk Tryd.func159 rfl Tryd.call159 Tryd.ntmps159 (Nat.le_of_ble_eq_true rfl) fun E => ?_
  refine g_run Tk Tryd.func159 ?_
  refine g_loop ?_
  refine rch_loop2 (fun x : Nat × Option Int => [(0, ints l), (1, ii n), (7, ints l), (8, ii l.length), (9, ii x.1)]) (fun _ => []) (fun _ => O) 35
    (fun x => x.1 ≤ l.length ∧ checkSet n (l.drop x.1) x.2 = R ∧ ((x.1 = 0 ∧ x.2 = none) ∨ ∃ h : 0 < x.1 ∧ x.1 - 1 < l.length, x.2 = some (l[x.1 - 1]'h.2))) (fun x => l.length - x.1) (0, none) ⟨Nat.zero_le _, hR, .inl ⟨rfl, rfl⟩⟩ ⟨rfl, rfl, rfl, rfl, rfl, trivial⟩ rfl trivial rfl rfl ?_
  rintro ⟨i, prev⟩ ⟨hi, hno, hp⟩ ih
  simp only at hi hno hp
  clear hR
  refine g_run Tk Tryd.func159 ?_
  first | refine g_cnd Tk Tryd.func159 rfl (fun g1 => ?_) (fun g1 => ?_) | refine g_know Tk Tryd.func159 rfl (fun g1 => ?_) (fun g1 => ?_) | refine s_know Tk (fun g1 => ?_) (fun g1 => ?_)
  · have h1 : i < l.length := by simpa using g1
    have gl : (l.map fun x => [vi x])[(i : Int).toNat]? = some [vi l[i]] := get_mapZ (f := fun x => [vi x]) h1
    have dl : l.drop i = l[i] :: l.drop (i + 1) := List.drop_eq_getElem_cons h1
    rw [dl] at hno
    simp only [checkSet] at hno
    clear dl
    have hi1 : ii (IntKind.i64.wrap ((i : Int) + 1)) = ii ((i + 1 : Nat) : Int) := congrArg ii (wsucc h1 hl)
    have hnext : (i + 1 = 0 ∧ some l[i] = none) ∨ ∃ h : 0 < i + 1 ∧ i + 1 - 1 < l.length, some l[i] = some (l[i + 1 - 1]'h.2) := .inr ⟨⟨by omega, by omega⟩, rfl⟩
    generalize hx : l[i] = x at *
    first | refine g_need Tk Tryd.func159 (by exact ⟨by omega, by show (i : Int) < (l.length : Int); omega⟩) ?_ | refine s_need Tk (by exact ⟨by omega, by show (i : Int) < (l.length : Int); omega⟩) ?_
    first | refine g_elem Tk Tryd.func159 (gl) ?_ | refine s_elem Tk (gl) ?_
    apply join_p (P := ¬ (x < 0 ∨ x ≥ n)) (s6 := { σ := [(0, ints l), (1, ii n), (5, ii i), (6, ii x), (7, ints l), (8, ii l.length), (9, ii i)], S := [] :: O, n := 35 })
    · intro J
      first | refine g_cnd Tk Tryd.func159 rfl (fun c1 => ?_) (fun c1 => ?_) | refine g_know Tk Tryd.func159 rfl (fun c1 => ?_) (fun c1 => ?_) | refine s_know Tk (fun c1 => ?_) (fun c1 => ?_)
      · have c1 : x < 0 := of_decide_eq_true c1
        rw [if_pos (.inl c1)] at hno
        subst hno
        repeat (first | refine g_cnd Tk Tryd.func159 rfl (fun _ => ?_) (fun h => absurd h (by decide)) | refine g_know Tk Tryd.func159 rfl (fun _ => ?_) (fun h => absurd h (by decide)) | refine s_know Tk (fun _ => ?_) (fun h => absurd h (by decide)) | refine g_cnd Tk Tryd.func159 rfl (fun h => absurd h (by decide)) (fun _ => ?_) | refine g_know Tk Tryd.func159 rfl (fun h => absurd h (by decide)) (fun _ => ?_) | refine s_know Tk (fun h => absurd h (by decide)) (fun _ => ?_) | refine g_cnd Tk Tryd.func159 rfl (fun _ => ?_) (fun h => absurd (show true = false from h) (by decide)) | refine g_know Tk Tryd.func159 rfl (fun _ => ?_) (fun h => absurd (show true = false from h) (by decide)) | refine s_know Tk (fun _ => ?_) (fun h => absurd (show true = false from h) (by decide)) | refine g_cnd Tk Tryd.func159 rfl (fun h => absurd (show false = true from h) (by decide)) (fun _ => ?_) | refine g_know Tk Tryd.func159 rfl (fun h => absurd (show false = true from h) (by decide)) (fun _ => ?_) | refine s_know Tk (fun h => absurd (show false = true from h) (by decide)) (fun _ => ?_))
        refine g_ret Tk (r := ii 2) rfl rfl rfl trivial rfl rfl ?_
        rfl
      have c1 : ¬ x < 0 := of_decide_eq_false c1
      first | refine g_cnd Tk Tryd.func159 rfl (fun c2 => ?_) (fun c2 => ?_) | refine g_know Tk Tryd.func159 rfl (fun c2 => ?_) (fun c2 => ?_) | refine s_know Tk (fun c2 => ?_) (fun c2 => ?_)
      · have c2 : x ≥ n := of_decide_eq_true c2
        rw [if_pos (.inr c2)] at hno
        subst hno
        refine g_ret Tk (r := ii 2) rfl rfl rfl trivial rfl rfl ?_
        rfl
      have c2 : ¬ x ≥ n := of_decide_eq_false c2
      refine g_stop ?_
      refine rch_meet (J (by rintro (h | h); exact c1 h; exact c2 h)) ⟨rfl, rfl, rfl, rfl, rfl, rfl, rfl, trivial⟩ rfl trivial rfl rfl
    · intro hc
      rw [if_neg hc] at hno
      refine g_run Tk Tryd.func159 ?_
      refine g_go Tk Tryd.func159 ?_
      rcases hp with ⟨h0, hpr⟩ | ⟨hp1, hpr⟩
      · rw [hpr] at hno
        rw [if_neg (by simp)] at hno
        first | refine g_cnd Tk Tryd.func159 rfl (fun c3 => ?_) (fun c3 => ?_) | refine g_know Tk Tryd.func159 rfl (fun c3 => ?_) (fun c3 => ?_) | refine s_know Tk (fun c3 => ?_) (fun c3 => ?_)
        · have c3 : (i : Int) > 0 := of_decide_eq_true c3
          omega
        repeat (first | refine g_cnd Tk Tryd.func159 rfl (fun _ => ?_) (fun h => absurd h (by decide)) | refine g_know Tk Tryd.func159 rfl (fun _ => ?_) (fun h => absurd h (by decide)) | refine s_know Tk (fun _ => ?_) (fun h => absurd h (by decide)) | refine g_cnd Tk Tryd.func159 rfl (fun h => absurd h (by decide)) (fun _ => ?_) | refine g_know Tk Tryd.func159 rfl (fun h => absurd h (by decide)) (fun _ => ?_) | refine s_know Tk (fun h => absurd h (by decide)) (fun _ => ?_) | refine g_cnd Tk Tryd.func159 rfl (fun _ => ?_) (fun h => absurd (show true = false from h) (by decide)) | refine g_know Tk Tryd.func159 rfl (fun _ => ?_) (fun h => absurd (show true = false from h) (by decide)) | refine s_know Tk (fun _ => ?_) (fun h => absurd (show true = false from h) (by decide)) | refine g_cnd Tk Tryd.func159 rfl (fun h => absurd (show false = true from h) (by decide)) (fun _ => ?_) | refine g_know Tk Tryd.func159 rfl (fun h => absurd (show false = true from h) (by decide)) (fun _ => ?_) | refine s_know Tk (fun h => absurd (show false = true from h) (by decide)) (fun _ => ?_))
        refine g_stop ?_
        refine g_run Tk Tryd.func159 ?_
        refine g_go Tk Tryd.func159 ?_
        refine g_loop ?_
        exact ih (i + 1, some x) _ _ ⟨h1, hno, hnext⟩ (by simp only; omega) ⟨rfl, rfl, rfl, rfl, hi1, trivial⟩ rfl trivial rfl rfl
      · have gp : (l.map fun x => [vi x])[(IntKind.i64.wrap ((i : Int) - 1)).toNat]? = some [vi (l[i - 1]'hp1.2)] := by
          rw [w64 (by omega) (by simp only [max63] at hl; omega), show ((i : Int) - 1).toNat = i - 1 by omega]
          rw [List.getElem?_map, List.getElem?_eq_getElem hp1.2]
          rfl
        have hwp : IntKind.i64.wrap ((i : Int) - 1) = (i : Int) - 1 := w64 (by omega) (by simp only [max63] at hl; omega)
        generalize l[i - 1]'hp1.2 = y at *
        first | refine g_cnd Tk Tryd.func159 rfl (fun c3 => ?_) (fun c3 => ?_) | refine g_know Tk Tryd.func159 rfl (fun c3 => ?_) (fun c3 => ?_) | refine s_know Tk (fun c3 => ?_) (fun c3 => ?_)
        rotate_left
        · have c3 : ¬ (i : Int) > 0 := of_decide_eq_false c3
          omega
        first | refine g_need Tk Tryd.func159 (by rw [hwp]; exact ⟨by omega, by show (i : Int) - 1 < (l.length : Int); omega⟩) ?_ | refine s_need Tk (by rw [hwp]; exact ⟨by omega, by show (i : Int) - 1 < (l.length : Int); omega⟩) ?_
        first | refine g_elem Tk Tryd.func159 (gp) ?_ | refine s_elem Tk (gp) ?_
        rw [hpr] at hno
        first | refine g_cnd Tk Tryd.func159 rfl (fun c4 => ?_) (fun c4 => ?_) | refine g_know Tk Tryd.func159 rfl (fun c4 => ?_) (fun c4 => ?_) | refine s_know Tk (fun c4 => ?_) (fun c4 => ?_)
        · have c4 : x ≤ y := of_decide_eq_true c4
          rw [if_pos (by simpa using c4)] at hno
          subst hno
          refine g_ret Tk (r := ii 5) rfl rfl rfl trivial rfl rfl ?_
          rfl
        have c4 : ¬ x ≤ y := of_decide_eq_false c4
        rw [if_neg (by simpa using c4)] at hno
        refine g_stop ?_
        refine g_run Tk Tryd.func159 ?_
        refine g_go Tk Tryd.func159 ?_
        refine g_loop ?_
        exact ih (i + 1, some x) _ _ ⟨h1, hno, hnext⟩ (by simp only; omega) ⟨rfl, rfl, rfl, rfl, hi1, trivial⟩ rfl trivial rfl rfl
  · have h1 : l.length ≤ i := by simpa using g1
    rw [List.drop_eq_nil_of_le h1] at hno
    simp only [checkSet] at hno
    subst hno
    refine g_ret Tk (r := ii 0) rfl rfl rfl trivial rfl rfl ?_
    rfl
end Go.AI


/- Automata: Check. -/
namespace Go.AI
open Go.Proofs
set_option maxRecDepth 20000
set_option maxHeartbeats 4000000 in
theorem checkEdges160 (O : List Heap) (a : Aut) (hl : a.edges.length ≤ max63) (hal : a.alpha.length ≤ max63) : ASpec Tryd.prog 160 [autD a] O (ii (chkEds a.alpha a.states none a.edges)) [] O := by
  obtain ⟨al, n, mk, es⟩ := a
  simp only at hl hal ⊢
  generalize hR : chkEds al n none es = R
  refine aspec_intro Tk Tryd.func160 rfl Tryd.call160 Tryd.ntmps160 (Nat.le_of_ble_eq_true rfl) fun E => ?_
  refine g_run Tk Tryd.func160 ?_
  refine g_loop ?_
  refine rch_loop2 (fun x : Nat × Option Edg => [(1, .own 0 1 0 0), (7, edgs es), (8, ii es.length), (9, ii x.1)]) (fun _ => [(1, .box [ints al, ii n, ints mk, edgs es])]) (fun _ => O) 72
    (fun x => x.1 ≤ es.length ∧ chkEds al n x.2 (es.drop x.1) = R ∧ ((x.1 = 0 ∧ x.2 = none) ∨ ∃ h : 0 < x.1 ∧ x.1 - 1 < es.length, x.2 = some (es[x.1 - 1]'h.2))) (fun x => es.length - x.1) (0, none) ⟨Nat.zero_le _, hR, .inl ⟨rfl, rfl⟩⟩ ⟨rfl, rfl, rfl, rfl, trivial⟩ rfl ⟨rfl, trivial⟩ rfl rfl ?_
  rintro ⟨i, prev⟩ ⟨hi, hno, hp⟩ ih
  simp only at hi hno hp
  clear hR
  refine g_run Tk Tryd.func160 ?_
  first | refine g_cnd Tk Tryd.func160 rfl (fun g1 => ?_) (fun g1 => ?_) | refine g_know Tk Tryd.func160 rfl (fun g1 => ?_) (fun g1 => ?_) | refine s_know Tk (fun g1 => ?_) (fun g1 => ?_)
  · have h1 : i < es.length := by simpa using g1
    have ge : (es.map edgI)[(i : Int).toNat]? = some (edgI es[i]) := get_mapZ h1
    have dl : es.drop i = es[i] :: es.drop (i + 1) := List.drop_eq_getElem_cons h1
    rw [dl] at hno
    simp only [chkEds] at hno
    clear dl
    have hi1 : ii (IntKind.i64.wrap ((i : Int) + 1)) = ii ((i + 1 : Nat) : Int) := congrArg ii (wsucc h1 hl)
    have hnext : (i + 1 = 0 ∧ some es[i] = none) ∨ ∃ h : 0 < i + 1 ∧ i + 1 - 1 < es.length, some es[i] = some (es[i + 1 - 1]'h.2) := .inr ⟨⟨by omega, by omega⟩, rfl⟩
    have hcn := contains110 (l := al) (x := es[i].2.1) (hl := hal)
    generalize hx : es[i] = x at *
    obtain ⟨xf, xe, xt⟩ := x
    simp only at hno hcn
    first | refine g_need Tk Tryd.func160 (by exact ⟨by omega, by show (i : Int) < (es.length : Int); omega⟩) ?_ | refine s_need Tk (by exact ⟨by omega, by show (i : Int) < (es.length : Int); omega⟩) ?_
    first | refine g_elem Tk Tryd.func160 (ge) ?_ | refine s_elem Tk (ge) ?_
    first | refine g_cnd Tk Tryd.func160 rfl (fun c1 => ?_) (fun c1 => ?_) | refine g_know Tk Tryd.func160 rfl (fun c1 => ?_) (fun c1 => ?_) | refine s_know Tk (fun c1 => ?_) (fun c1 => ?_)
    · have c1 : xf < 0 := of_decide_eq_true c1
      rw [if_pos (.inl c1)] at hno
      subst hno
      repeat (first | refine g_cnd Tk Tryd.func160 rfl (fun _ => ?_) (fun h => absurd h (by decide)) | refine g_know Tk Tryd.func160 rfl (fun _ => ?_) (fun h => absurd h (by decide)) | refine s_know Tk (fun _ => ?_) (fun h => absurd h (by decide)) | refine g_cnd Tk Tryd.func160 rfl (fun h => absurd h (by decide)) (fun _ => ?_) | refine g_know Tk Tryd.func160 rfl (fun h => absurd h (by decide)) (fun _ => ?_) | refine s_know Tk (fun h => absurd h (by decide)) (fun _ => ?_) | refine g_cnd Tk Tryd.func160 rfl (fun _ => ?_) (fun h => absurd (show true = false from h) (by decide)) | refine g_know Tk Tryd.func160 rfl (fun _ => ?_) (fun h => absurd (show true = false from h) (by decide)) | refine s_know Tk (fun _ => ?_) (fun h => absurd (show true = false from h) (by decide)) | refine g_cnd Tk Tryd.func160 rfl (fun h => absurd (show false = true from h) (by decide)) (fun _ => ?_) | refine g_know Tk Tryd.func160 rfl (fun h => absurd (show false = true from h) (by decide)) (fun _ => ?_) | refine s_know Tk (fun h => absurd (show false = true from h) (by decide)) (fun _ => ?_))
      refine g_ret Tk (r := ii 2) rfl rfl rfl trivial rfl rfl ?_
      rfl
    have c1 : ¬ xf < 0 := of_decide_eq_false c1
    first | refine g_cnd Tk Tryd.func160 rfl (fun c2 => ?_) (fun c2 => ?_) | refine g_know Tk Tryd.func160 rfl (fun c2 => ?_) (fun c2 => ?_) | refine s_know Tk (fun c2 => ?_) (fun c2 => ?_)
    · have c2 : xf ≥ n := of_decide_eq_true c2
      rw [if_pos (.inr (.inl c2))] at hno
      subst hno
      repeat (first | refine g_cnd Tk Tryd.func160 rfl (fun _ => ?_) (fun h => absurd h (by decide)) | refine g_know Tk Tryd.func160 rfl (fun _ => ?_) (fun h => absurd h (by decide)) | refine s_know Tk (fun _ => ?_) (fun h => absurd h (by decide)) | refine g_cnd Tk Tryd.func160 rfl (fun h => absurd h (by decide)) (fun _ => ?_) | refine g_know Tk Tryd.func160 rfl (fun h => absurd h (by decide)) (fun _ => ?_) | refine s_know Tk (fun h => absurd h (by decide)) (fun _ => ?_) | refine g_cnd Tk Tryd.func160 rfl (fun _ => ?_) (fun h => absurd (show true = false from h) (by decide)) | refine g_know Tk Tryd.func160 rfl (fun _ => ?_) (fun h => absurd (show true = false from h) (by decide)) | refine s_know Tk (fun _ => ?_) (fun h => absurd (show true = false from h) (by decide)) | refine g_cnd Tk Tryd.func160 rfl (fun h => absurd (show false = true from h) (by decide)) (fun _ => ?_) | refine g_know Tk Tryd.func160 rfl (fun h => absurd (show false = true from h) (by decide)) (fun _ => ?_) | refine s_know Tk (fun h => absurd (show false = true from h) (by decide)) (fun _ => ?_))
      refine g_ret Tk (r := ii 2) rfl rfl rfl trivial rfl rfl ?_
      rfl
    have c2 : ¬ xf ≥ n := of_decide_eq_false c2
    first | refine g_cnd Tk Tryd.func160 rfl (fun c3 => ?_) (fun c3 => ?_) | refine g_know Tk Tryd.func160 rfl (fun c3 => ?_) (fun c3 => ?_) | refine s_know Tk (fun c3 => ?_) (fun c3 => ?_)
    · have c3 : xt < 0 := of_decide_eq_true c3
      rw [if_pos (.inr (.inr (.inl c3)))] at hno
      subst hno
      repeat (first | refine g_cnd Tk Tryd.func160 rfl (fun _ => ?_) (fun h => absurd h (by decide)) | refine g_know Tk Tryd.func160 rfl (fun _ => ?_) (fun h => absurd h (by decide)) | refine s_know Tk (fun _ => ?_) (fun h => absurd h (by decide)) | refine g_cnd Tk Tryd.func160 rfl (fun h => absurd h (by decide)) (fun _ => ?_) | refine g_know Tk Tryd.func160 rfl (fun h => absurd h (by decide)) (fun _ => ?_) | refine s_know Tk (fun h => absurd h (by decide)) (fun _ => ?_) | refine g_cnd Tk Tryd.func160 rfl (fun _ => ?_) (fun h => absurd (show true = false from h) (by decide)) | refine g_know Tk Tryd.func160 rfl (fun _ => ?_) (fun h => absurd (show true = false from h) (by decide)) | refine s_know Tk (fun _ => ?_) (fun h => absurd (show true = false from h) (by decide)) | refine g_cnd Tk Tryd.func160 rfl (fun h => absurd (show false = true from h) (by decide)) (fun _ => ?_) | refine g_know Tk Tryd.func160 rfl (fun h => absurd (show false = true from h) (by decide)) (fun _ => ?_) | refine s_know Tk (fun h => absurd (show false = true from h) (by decide)) (fun _ => ?_))
      refine g_ret Tk (r := ii 2) rfl rfl rfl trivial rfl rfl ?_
      rfl
    have c3 : ¬ xt < 0 := of_decide_eq_false c3
    first | refine g_cnd Tk Tryd.func160 rfl (fun c4 => ?_) (fun c4 => ?_) | refine g_know Tk Tryd.func160 rfl (fun c4 => ?_) (fun c4 => ?_) | refine s_know Tk (fun c4 => ?_) (fun c4 => ?_)
    · have c4 : xt ≥ n := of_decide_eq_true c4
      rw [if_pos (.inr (.inr (.inr c4)))] at hno
      subst hno
      refine g_ret Tk (r := ii 2) rfl rfl rfl trivial rfl rfl ?_
      rfl
    have c4 : ¬ xt ≥ n := of_decide_eq_false c4
    rw [if_neg (by omega)] at hno
    first | refine g_call Tk Tryd.func160 (hcn _) rfl rfl rfl rfl rfl ?_ | refine s_callq Tk (fun _ => hcn _) rfl rfl rfl ?_
    first | refine g_cnd Tk Tryd.func160 rfl (fun c5 => ?_) (fun c5 => ?_) | refine g_know Tk Tryd.func160 rfl (fun c5 => ?_) (fun c5 => ?_) | refine s_know Tk (fun c5 => ?_) (fun c5 => ?_)
    · have c5 : decide (xe ∈ al) = false := notT c5
      have c5 : xe ∉ al := of_decide_eq_false c5
      rw [if_pos c5] at hno
      subst hno
      refine g_ret Tk (r := ii 9) rfl rfl rfl trivial rfl rfl ?_
      rfl
    have c5 : decide (xe ∈ al) = true := notF c5
    have c5 : xe ∈ al := of_decide_eq_true c5
    rw [if_neg (by simpa using c5)] at hno
    rcases hp with ⟨h0, hpr⟩ | ⟨hp1, hpr⟩
    · rw [hpr, if_neg (by simp)] at hno
      first | refine g_cnd Tk Tryd.func160 rfl (fun c6 => ?_) (fun c6 => ?_) | refine g_know Tk Tryd.func160 rfl (fun c6 => ?_) (fun c6 => ?_) | refine s_know Tk (fun c6 => ?_) (fun c6 => ?_)
      rotate_left
      · have c6 : (i : Int) ≠ 0 := beqF c6
        omega
      refine g_loop ?_
      exact ih (i + 1, some (xf, xe, xt)) _ _ ⟨h1, hno, hnext⟩ (by simp only; omega) ⟨rfl, rfl, rfl, hi1, trivial⟩ rfl ⟨rfl, trivial⟩ rfl rfl
    · have gp : (es.map edgI)[(IntKind.i64.wrap ((i : Int) - 1)).toNat]? = some (edgI (es[i - 1]'hp1.2)) := by
        rw [w64 (by omega) (by simp only [max63] at hl; omega), show ((i : Int) - 1).toNat = i - 1 by omega]
        rw [List.getElem?_map, List.getElem?_eq_getElem hp1.2]
        rfl
      have hwp : IntKind.i64.wrap ((i : Int) - 1) = (i : Int) - 1 := w64 (by omega) (by simp only [max63] at hl; omega)
      rw [hpr] at hno
      generalize es[i - 1]'hp1.2 = y at *
      obtain ⟨yf, ye, yt⟩ := y
      simp only [Option.any_some, decide_eq_true_eq] at hno
      first | refine g_cnd Tk Tryd.func160 rfl (fun c6 => ?_) (fun c6 => ?_) | refine g_know Tk Tryd.func160 rfl (fun c6 => ?_) (fun c6 => ?_) | refine s_know Tk (fun c6 => ?_) (fun c6 => ?_)
      · have c6 : (i : Int) = 0 := beqT c6
        omega
      first | refine g_need Tk Tryd.func160 (by rw [hwp]; exact ⟨by omega, by show (i : Int) - 1 < (es.length : Int); omega⟩) ?_ | refine s_need Tk (by rw [hwp]; exact ⟨by omega, by show (i : Int) - 1 < (es.length : Int); omega⟩) ?_
      first | refine g_elem Tk Tryd.func160 (gp) ?_ | refine s_elem Tk (gp) ?_
      first | refine g_cnd Tk Tryd.func160 rfl (fun c7 => ?_) (fun c7 => ?_) | refine g_know Tk Tryd.func160 rfl (fun c7 => ?_) (fun c7 => ?_) | refine s_know Tk (fun c7 => ?_) (fun c7 => ?_)
      · have c7 : xf < yf := of_decide_eq_true c7
        rw [if_pos (.inl c7)] at hno
        subst hno
        repeat (first | refine g_cnd Tk Tryd.func160 rfl (fun _ => ?_) (fun h => absurd h (by decide)) | refine g_know Tk Tryd.func160 rfl (fun _ => ?_) (fun h => absurd h (by decide)) | refine s_know Tk (fun _ => ?_) (fun h => absurd h (by decide)) | refine g_cnd Tk Tryd.func160 rfl (fun h => absurd h (by decide)) (fun _ => ?_) | refine g_know Tk Tryd.func160 rfl (fun h => absurd h (by decide)) (fun _ => ?_) | refine s_know Tk (fun h => absurd h (by decide)) (fun _ => ?_) | refine g_cnd Tk Tryd.func160 rfl (fun _ => ?_) (fun h => absurd (show true = false from h) (by decide)) | refine g_know Tk Tryd.func160 rfl (fun _ => ?_) (fun h => absurd (show true = false from h) (by decide)) | refine s_know Tk (fun _ => ?_) (fun h => absurd (show true = false from h) (by decide)) | refine g_cnd Tk Tryd.func160 rfl (fun h => absurd (show false = true from h) (by decide)) (fun _ => ?_) | refine g_know Tk Tryd.func160 rfl (fun h => absurd (show false = true from h) (by decide)) (fun _ => ?_) | refine s_know Tk (fun h => absurd (show false = true from h) (by decide)) (fun _ => ?_))
        refine g_ret Tk (r := ii 5) rfl rfl rfl trivial rfl rfl ?_
        rfl
      have c7 : ¬ xf < yf := of_decide_eq_false c7
      first | refine g_cnd Tk Tryd.func160 rfl (fun c8 => ?_) (fun c8 => ?_) | refine g_know Tk Tryd.func160 rfl (fun c8 => ?_) (fun c8 => ?_) | refine s_know Tk (fun c8 => ?_) (fun c8 => ?_)
      · have c8 : xf = yf := beqT c8
        first | refine g_cnd Tk Tryd.func160 rfl (fun c9 => ?_) (fun c9 => ?_) | refine g_know Tk Tryd.func160 rfl (fun c9 => ?_) (fun c9 => ?_) | refine s_know Tk (fun c9 => ?_) (fun c9 => ?_)
        · have c9 : xe ≤ ye := of_decide_eq_true c9
          rw [if_pos (.inr ⟨c8, c9⟩)] at hno
          subst hno
          refine g_ret Tk (r := ii 5) rfl rfl rfl trivial rfl rfl ?_
          rfl
        · have c9 : ¬ xe ≤ ye := of_decide_eq_false c9
          rw [if_neg (by omega)] at hno
          refine g_loop ?_
          exact ih (i + 1, some (xf, xe, xt)) _ _ ⟨h1, hno, hnext⟩ (by simp only; omega) ⟨rfl, rfl, rfl, hi1, trivial⟩ rfl ⟨rfl, trivial⟩ rfl rfl
      · have c8 : xf ≠ yf := beqF c8
        rw [if_neg (by omega)] at hno
        repeat (first | refine g_cnd Tk Tryd.func160 rfl (fun _ => ?_) (fun h => absurd h (by decide)) | refine g_know Tk Tryd.func160 rfl (fun _ => ?_) (fun h => absurd h (by decide)) | refine s_know Tk (fun _ => ?_) (fun h => absurd h (by decide)) | refine g_cnd Tk Tryd.func160 rfl (fun h => absurd h (by decide)) (fun _ => ?_) | refine g_know Tk Tryd.func160 rfl (fun h => absurd h (by decide)) (fun _ => ?_) | refine s_know Tk (fun h => absurd h (by decide)) (fun _ => ?_) | refine g_cnd Tk Tryd.func160 rfl (fun _ => ?_) (fun h => absurd (show true = false from h) (by decide)) | refine g_know Tk Tryd.func160 rfl (fun _ => ?_) (fun h => absurd (show true = false from h) (by decide)) | refine s_know Tk (fun _ => ?_) (fun h => absurd (show true = false from h) (by decide)) | refine g_cnd Tk Tryd.func160 rfl (fun h => absurd (show false = true from h) (by decide)) (fun _ => ?_) | refine g_know Tk Tryd.func160 rfl (fun h => absurd (show false = true from h) (by decide)) (fun _ => ?_) | refine s_know Tk (fun h => absurd (show false = true from h) (by decide)) (fun _ => ?_))
        refine g_loop ?_
        exact ih (i + 1, some (xf, xe, xt)) _ _ ⟨h1, hno, hnext⟩ (by simp only; omega) ⟨rfl, rfl, rfl, hi1, trivial⟩ rfl ⟨rfl, trivial⟩ rfl rfl
  · have h1 : es.length ≤ i := by simpa using g1
    rw [List.drop_eq_nil_of_le h1] at hno
    simp only [chkEds] at hno
    subst hno
    refine g_ret Tk (r := ii 0) rfl rfl rfl trivial rfl rfl ?_
    rfl
theorem check116 (O : List Heap) (a : Aut) (hl : a.edges.length ≤ max63) (hal : a.alpha.length ≤ max63) (hmk : a.marked.length ≤ max63) : ASpec Tryd.prog 116 [autD a] O (ii (chkA a)) [] O := by
  have h1 := fun O => checkSet159 O a.alpha 32 hal
  have h2 := fun O => checkSet159 O a.marked a.states hmk
  have h3 := fun O => checkEdges160 O a hl hal
  generalize hR : chkA a = R
  unfold chkA at hR
  generalize checkSet 32 a.alpha none = e1 at *
  generalize checkSet a.states a.marked none = e2 at *
  generalize chkEds a.alpha a.states none a.edges = e3 at *
  obtain ⟨al, n, mk, es⟩ := a
  simp only at hR h1 h2 h3
  refine aspec_intro Tk Tryd.func116 rfl Tryd.call116 Tryd.ntmps116 (Nat.le_of_ble_eq_true rfl) fun E => ?_
  refine g_run Tk Tryd.func116 ?_
  first | refine g_call Tk Tryd.func116 (h1 _) rfl rfl rfl rfl rfl ?_ | refine s_callq Tk (fun _ => h1 _) rfl rfl rfl ?_
  first | refine g_cnd Tk Tryd.func116 rfl (fun c1 => ?_) (fun c1 => ?_) | refine g_know Tk Tryd.func116 rfl (fun c1 => ?_) (fun c1 => ?_) | refine s_know Tk (fun c1 => ?_) (fun c1 => ?_)
  · have c1 : e1 ≠ 0 := bneT c1
    rw [if_pos c1] at hR
    subst hR
    refine g_ret Tk (r := ii e1) rfl rfl rfl trivial rfl rfl ?_
    rfl
  have c1 : e1 = 0 := bneF c1
  rw [if_neg (by simpa using c1)] at hR
  first | refine g_cnd Tk Tryd.func116 rfl (fun c2 => ?_) (fun c2 => ?_) | refine g_know Tk Tryd.func116 rfl (fun c2 => ?_) (fun c2 => ?_) | refine s_know Tk (fun c2 => ?_) (fun c2 => ?_)
  · have c2 : n < 0 := of_decide_eq_true c2
    rw [if_pos c2] at hR
    subst hR
    refine g_ret Tk (r := ii 2) rfl rfl rfl trivial rfl rfl ?_
    rfl
  have c2 : ¬ n < 0 := of_decide_eq_false c2
  rw [if_neg c2] at hR
  first | refine g_cnd Tk Tryd.func116 rfl (fun c3 => ?_) (fun c3 => ?_) | refine g_know Tk Tryd.func116 rfl (fun c3 => ?_) (fun c3 => ?_) | refine s_know Tk (fun c3 => ?_) (fun c3 => ?_)
  · have c3 : n > 4096 := of_decide_eq_true c3
    rw [if_pos c3] at hR
    subst hR
    refine g_ret Tk (r := ii 3) rfl rfl rfl trivial rfl rfl ?_
    rfl
  have c3 : ¬ n > 4096 := of_decide_eq_false c3
  rw [if_neg c3] at hR
  first | refine g_call Tk Tryd.func116 (h2 _) rfl rfl rfl rfl rfl ?_ | refine s_callq Tk (fun _ => h2 _) rfl rfl rfl ?_
  first | refine g_cnd Tk Tryd.func116 rfl (fun c4 => ?_) (fun c4 => ?_) | refine g_know Tk Tryd.func116 rfl (fun c4 => ?_) (fun c4 => ?_) | refine s_know Tk (fun c4 => ?_) (fun c4 => ?_)
  · have c4 : e2 ≠ 0 := bneT c4
    rw [if_pos c4] at hR
    subst hR
    refine g_ret Tk (r := ii e2) rfl rfl rfl trivial rfl rfl ?_
    rfl
  have c4 : e2 = 0 := bneF c4
  rw [if_neg (by simpa using c4)] at hR
  subst hR
  first | refine g_call Tk Tryd.func116 (h3 _) rfl rfl rfl rfl rfl ?_ | refine s_callq Tk (fun _ => h3 _) rfl rfl rfl ?_
  refine g_ret Tk (r := ii e3) rfl rfl rfl trivial rfl rfl ?_
  rfl
end Go.AI


/- Automata: what is canonical. -/
namespace Go.AI
open Go.Proofs
set_option maxRecDepth 20000
end Go.AI


/- The examples of the chapter (19). -/
namespace Go.AI
open Go.Proofs
set_option maxRecDepth 20000
def plusE (op n : Int) : Ex := .mk op 0 0 [nE, kE n]
def counter19 (g : Ex) : Ext := ⟨[0, 1], 1, 0, [], [nVr 2], [⟨0, 0, 0, g, [⟨0, plusE 2 1⟩]⟩, ⟨0, 1, 0, plusE 6 2, [⟨0, zeroE⟩]⟩]⟩
theorem plus103 (O : List Heap) (op n : Int) : ASpec Tryd.prog 103 [ii op, ii n] O (exA (plusE op n)) [] O := by
  refine aspec_intro Tk Tryd.func103 rfl Tryd.call103 Tryd.ntmps103 (Nat.le_of_ble_eq_true rfl) fun E => ?_
  refine g_run Tk Tryd.func103 ?_
  refine g_ret_co Tk (r := _) rfl rfl rfl trivial rfl rfl ?_
  repeat' (first | refine coD_tup ?_ | refine coD_agg ?_ | refine coD_i ?_ | refine CoDL.cons ?_ ?_ | exact CoDL.nil | exact coI_nil | refine coI_sl ?_ | refine CoLL.cons ?_ ?_ | exact CoLL.nil | refine CoL.cons ?_ ?_ | exact CoL.nil | exact CoI.refl _ | exact CoL.refl _ | exact CoLL.refl _ | exact CoDL.refl _ | exact CoD.refl _)
theorem counter102 (O : List Heap) (x : Ex) : ASpec Tryd.prog 102 [exA x] O (extD (counter19 x)) [] O := by
  have hp := fun op n O => plus103 O op n
  refine aspec_intro Tk Tryd.func102 rfl Tryd.call102 Tryd.ntmps102 (Nat.le_of_ble_eq_true rfl) fun E => ?_
  refine g_run Tk Tryd.func102 ?_
  refine g_drawn Tk Tryd.func102 mixedT rfl ?_
  first | refine g_call Tk Tryd.func102 (hp 2 1 _) rfl rfl rfl rfl rfl ?_ | refine s_callq Tk (fun _ => hp 2 1 _) rfl rfl rfl ?_
  first | refine g_call Tk Tryd.func102 (hp 6 2 _) rfl rfl rfl rfl rfl ?_ | refine s_callq Tk (fun _ => hp 6 2 _) rfl rfl rfl ?_
  refine s_put Tk rfl rfl rfl ?_
  refine e_done Tk Tryd.func102 (by kernel_rfl) ?_
  refine g_ret_co Tk (r := _) rfl rfl rfl trivial rfl rfl ?_
  repeat' (first | refine coD_tup ?_ | refine coD_agg ?_ | refine coD_i ?_ | refine CoDL.cons ?_ ?_ | exact CoDL.nil | exact coI_nil | refine coI_sl ?_ | refine CoLL.cons ?_ ?_ | exact CoLL.nil | refine CoL.cons ?_ ?_ | exact CoL.nil | exact CoI.refl _ | exact CoL.refl _ | exact CoLL.refl _ | exact CoDL.refl _ | exact CoD.refl _)
theorem plus_ok (op n : Int) : exOk (plusE op n) := exOk_two (exOk_leaf _ _ _) (exOk_leaf _ _ _)
theorem cnt19_ok {x : Ex} (hx : exOk x) : extOk (counter19 x) := by
  refine ⟨by simp [counter19, max63], by simp [counter19, max63], by simp [counter19, max63], fun v hv => ?_, by simp [counter19, max63], fun x hx => ?_⟩
  · simp only [counter19, List.mem_singleton] at hv
    subst hv
    show (1 : Nat) ≤ max63
    decide
  · simp only [counter19, List.mem_cons, List.mem_nil_iff, or_false] at hx
    rcases hx with rfl | rfl
    · refine ⟨by assumption, by simp [max63], fun u hu => ?_⟩
      simp only [List.mem_singleton] at hu
      subst hu
      exact plus_ok _ _
    · refine ⟨plus_ok _ _, by simp [max63], fun u hu => ?_⟩
      simp only [List.mem_singleton] at hu
      subst hu
      exact exOk_leaf _ _ _
def knU : Unf Sta := ⟨[⟨0, [0]⟩, ⟨0, [1]⟩, ⟨0, [2]⟩], [], [(0, 0, 1), (1, 0, 2), (2, 1, 0)]⟩
theorem unf_known : unfoldR (counter19 (plusE 8 2)) = .ok knU := by kernel_rfl
theorem unf_known2 : unfoldR (counter19 trueE) = .error 17 := by kernel_rfl
theorem where_known : whereR (counter19 (plusE 8 2)) knU.sts (plusE 6 2) = ([2], 0) := by kernel_rfl
theorem known48 {g : Nat} (hg : IsTab g) {ty : TypeId} {fr : Nat × Nat} (O : List Heap) : ASpecT g (ptab ty fr) Tryd.prog 48 [] O (bb true) [] O := by
  have hp := fun op n O => plus103 O op n
  have hc := fun x O => counter102 O x
  have hu := fun O => Unfold50 hg (ty := ty) (fr := fr) O (counter19 (plusE 8 2)) (cnt19_ok (plus_ok _ _))
  simp only [unf_known] at hu
  have hu2 := fun O => Unfold50 hg (ty := ty) (fr := fr) O (counter19 trueE) (cnt19_ok (exOk_two (exOk_leaf _ _ _) (exOk_leaf _ _ _)))
  simp only [unf_known2] at hu2
  have hw := fun O => where52 O (counter19 (plusE 8 2)) knU.sts (plusE 6 2) (cnt19_ok (plus_ok _ _)) (plus_ok _ _) (by decide) (by decide)
  simp only [where_known] at hw
  have ht := fun O => true42 O
  have hs := fun O => sameInts36 O [2] [2] (by decide)
  refine aspecT_stop [] Tk Tryd.func48 rfl Tryd.call48 Tryd.ntmps48 (Nat.le_of_ble_eq_true rfl) fun E hE => ?_
  refine g_run Tk Tryd.func48 ?_
  first | refine g_call Tk Tryd.func48 (hp 8 2 _) rfl rfl rfl rfl rfl ?_ | refine s_callq Tk (fun _ => hp 8 2 _) rfl rfl rfl ?_
  first | refine g_call Tk Tryd.func48 (hc (plusE 8 2) _) rfl rfl rfl rfl rfl ?_ | refine s_callq Tk (fun _ => hc (plusE 8 2) _) rfl rfl rfl ?_
  refine g_callT Tk Tryd.func48 hE (hu _) rfl rfl rfl rfl rfl rfl ?_
  first | refine g_call Tk Tryd.func48 (ht _) rfl rfl rfl rfl rfl ?_ | refine s_callq Tk (fun _ => ht _) rfl rfl rfl ?_
  first | refine g_call Tk Tryd.func48 (hc trueE _) rfl rfl rfl rfl rfl ?_ | refine s_callq Tk (fun _ => hc trueE _) rfl rfl rfl ?_
  refine g_callT Tk Tryd.func48 hE (hu2 _) rfl rfl rfl rfl rfl rfl ?_
  first | refine g_call Tk Tryd.func48 (hp 8 2 _) rfl rfl rfl rfl rfl ?_ | refine s_callq Tk (fun _ => hp 8 2 _) rfl rfl rfl ?_
  first | refine g_call Tk Tryd.func48 (hc (plusE 8 2) _) rfl rfl rfl rfl rfl ?_ | refine s_callq Tk (fun _ => hc (plusE 8 2) _) rfl rfl rfl ?_
  first | refine g_call Tk Tryd.func48 (hp 6 2 _) rfl rfl rfl rfl rfl ?_ | refine s_callq Tk (fun _ => hp 6 2 _) rfl rfl rfl ?_
  first | refine g_call Tk Tryd.func48 (hw _) rfl rfl rfl rfl rfl ?_ | refine s_callq Tk (fun _ => hw _) rfl rfl rfl ?_
  repeat (first | refine g_cnd Tk Tryd.func48 rfl (fun _ => ?_) (fun h => absurd h (by decide)) | refine g_know Tk Tryd.func48 rfl (fun _ => ?_) (fun h => absurd h (by decide)) | refine s_know Tk (fun _ => ?_) (fun h => absurd h (by decide)) | refine g_cnd Tk Tryd.func48 rfl (fun h => absurd h (by decide)) (fun _ => ?_) | refine g_know Tk Tryd.func48 rfl (fun h => absurd h (by decide)) (fun _ => ?_) | refine s_know Tk (fun h => absurd h (by decide)) (fun _ => ?_) | refine g_cnd Tk Tryd.func48 rfl (fun _ => ?_) (fun h => absurd (show true = false from h) (by decide)) | refine g_know Tk Tryd.func48 rfl (fun _ => ?_) (fun h => absurd (show true = false from h) (by decide)) | refine s_know Tk (fun _ => ?_) (fun h => absurd (show true = false from h) (by decide)) | refine g_cnd Tk Tryd.func48 rfl (fun h => absurd (show false = true from h) (by decide)) (fun _ => ?_) | refine g_know Tk Tryd.func48 rfl (fun h => absurd (show false = true from h) (by decide)) (fun _ => ?_) | refine s_know Tk (fun h => absurd (show false = true from h) (by decide)) (fun _ => ?_))
  first | refine g_need Tk Tryd.func48 (by exact ⟨by decide, by decide⟩) ?_ | refine s_need Tk (by exact ⟨by decide, by decide⟩) ?_
  first | refine g_elem Tk Tryd.func48 (rfl) ?_ | refine s_elem Tk (rfl) ?_
  repeat (first | refine g_cnd Tk Tryd.func48 rfl (fun _ => ?_) (fun h => absurd h (by decide)) | refine g_know Tk Tryd.func48 rfl (fun _ => ?_) (fun h => absurd h (by decide)) | refine s_know Tk (fun _ => ?_) (fun h => absurd h (by decide)) | refine g_cnd Tk Tryd.func48 rfl (fun h => absurd h (by decide)) (fun _ => ?_) | refine g_know Tk Tryd.func48 rfl (fun h => absurd h (by decide)) (fun _ => ?_) | refine s_know Tk (fun h => absurd h (by decide)) (fun _ => ?_) | refine g_cnd Tk Tryd.func48 rfl (fun _ => ?_) (fun h => absurd (show true = false from h) (by decide)) | refine g_know Tk Tryd.func48 rfl (fun _ => ?_) (fun h => absurd (show true = false from h) (by decide)) | refine s_know Tk (fun _ => ?_) (fun h => absurd (show true = false from h) (by decide)) | refine g_cnd Tk Tryd.func48 rfl (fun h => absurd (show false = true from h) (by decide)) (fun _ => ?_) | refine g_know Tk Tryd.func48 rfl (fun h => absurd (show false = true from h) (by decide)) (fun _ => ?_) | refine s_know Tk (fun h => absurd (show false = true from h) (by decide)) (fun _ => ?_))
  first | refine g_call Tk Tryd.func48 (hs _) rfl rfl rfl rfl rfl ?_ | refine s_callq Tk (fun _ => hs _) rfl rfl rfl ?_
  refine g_ret Tk (r := bb true) rfl rfl rfl trivial rfl rfl ?_
  rfl
end Go.AI


/- FlattenUnfolds. -/
namespace Go.AI
open Go.Proofs
set_option maxRecDepth 20000
/-- The automaton of an unfolding. -/
def autU (alpha : List Int) (U : Unf Sta) : Aut := ⟨alpha, U.sts.length, U.mkl, U.eds⟩
theorem unf_eds {m : Ext} {U : Unf Sta} (hA : UAt (mkdM m) m.alpha (okS m) (stpR m) U.sts.length U) (hs : m.alpha.Pairwise (· < ·)) :
    U.eds.Pairwise ltE ∧ ∀ x ∈ U.eds, x.2.1 ∈ m.alpha := by
  rw [hA.eds]
  constructor
  · rw [List.pairwise_flatMap]
    refine ⟨fun k hk => ?_, ?_⟩
    · split
      · exact .nil
      · rw [List.pairwise_filterMap]
        refine hs.imp fun {a b} hab x hx y hy => ?_
        unfold eOf at hx hy
        split at hx
        · split at hy
          · simp only [Option.some.injEq] at hx hy
            subst hx hy
            exact .inr ⟨rfl, hab⟩
          · cases hy
        · cases hx
    · refine List.pairwise_lt_range.imp fun {a b} hab x hx y hy => ?_
      have frm : ∀ (k : Nat) (s : Sta) (z : Edg), z ∈ m.alpha.filterMap (eOf (stpR m) U.sts k s) → z.1 = (k : Int) := by
        intro k s z hz
        rw [List.mem_filterMap] at hz
        obtain ⟨ev, _, he⟩ := hz
        unfold eOf at he
        split at he
        · simp only [Option.some.injEq] at he
          subst he
          rfl
        · cases he
      have h1 : x.1 = (a : Int) := by
        split at hx
        · cases hx
        · exact frm _ _ _ hx
      have h2 : y.1 = (b : Int) := by
        split at hy
        · cases hy
        · exact frm _ _ _ hy
      left
      omega
  · intro x hx
    rw [List.mem_flatMap] at hx
    obtain ⟨k, _, hz⟩ := hx
    split at hz
    · cases hz
    · rw [List.mem_filterMap] at hz
      obtain ⟨ev, hev, he⟩ := hz
      unfold eOf at he
      split at he
      · simp only [Option.some.injEq] at he
        subst he
        exact hev
      · cases he
theorem unf_len {m : Ext} {U : Unf Sta} (hA : UAt (mkdM m) m.alpha (okS m) (stpR m) U.sts.length U) (h3 : m.alpha.length ≤ 4) : U.eds.length ≤ 4 * U.sts.length ∧ U.mkl.length ≤ U.sts.length := by
  constructor
  · rw [hA.eds]
    refine Nat.le_trans (flat_len4 fun k _ => ?_) (by rw [List.length_range]; exact Nat.le_refl _)
    split
    · simp
    · exact Nat.le_trans (List.length_filterMap_le _ _) h3
  · rw [hA.mkl, List.length_map]
    exact Nat.le_trans (List.length_filter_le _ _) (by simp)
theorem unf_chk {m : Ext} {U : Unf Sta} (hr : extRight m) (hA : UAt (mkdM m) m.alpha (okS m) (stpR m) U.sts.length U) (h64 : U.sts.length ≤ 64) : chkA (autU m.alpha U) = 0 := by
  obtain ⟨hs, _, _⟩ := checkSet_sorted hr.alpha
  obtain ⟨e1, e2⟩ := unf_eds hA hs
  have hb := (kOf_mono hA.fr).2
  have hm : checkSet (U.sts.length : Int) U.mkl none = 0 := by
    refine checkSet_of ?_ ?_ (fun y h => by cases h)
    · rw [hA.mkl, List.pairwise_map]
      exact (List.Pairwise.filter _ List.pairwise_lt_range).imp fun {a b} h => by omega
    · intro x hx
      rw [hA.mkl, List.mem_map] at hx
      obtain ⟨k, hk, rfl⟩ := hx
      have := (List.mem_filter.1 hk).1
      rw [List.mem_range] at this
      omega
  have he : chkEds m.alpha (U.sts.length : Int) none U.eds = 0 := chkEds_of e1 (fun x hx => ⟨(hb x hx).1, (hb x hx).2, e2 x hx⟩) (fun y h => by cases h)
  unfold chkA autU
  simp only
  rw [if_neg (by rw [hr.alpha]; simp), if_neg (by omega), if_neg (by omega), if_neg (by rw [hm]; simp)]
  exact he
end Go.AI


/- automaton.Run. -/
namespace Go.AI
open Go.Proofs
set_option maxRecDepth 20000
theorem indexFunc184 (O : List Heap) (l : List Edg) (f : Nat) (d nm : Nat) (p : Edg → Bool) (hl : l.length ≤ max63) (hp : ∀ x ∈ l, ASpec Tryd.prog f [edgD x, .own (d + 1) nm 0 0] ([] :: O) (bb (p x)) [] ([] :: O)) :
    ASpec Tryd.prog 184 [edgs l, .fn (.func f) [] [.own d nm 0 0]] O (ii (findIx p l 0)) [] O := by
  generalize hR : findIx p l 0 = R
  refine aspec_intro Tk Tryd.func184 rfl Tryd.call184 Tryd.ntmps184 (Nat.le_of_ble_eq_true rfl) fun E => ?_
  refine g_run Tk Tryd.func184 ?_
  refine g_loop ?_
  refine rch_loop2 (fun i : Nat => [(0, edgs l), (1, .fn (.func f) [] [.own (d + 1) nm 0 0]), (7, ii l.length), (8, ii i)]) (fun _ => []) (fun _ => O) 19
    (fun i => i ≤ l.length ∧ findIx p (l.drop i) i = R) (fun i => l.length - i) 0 ⟨Nat.zero_le _, hR⟩ ⟨rfl, rfl, rfl, rfl, trivial⟩ rfl trivial rfl rfl ?_
  rintro i ⟨hi, hno⟩ ih
  clear hR
  refine g_run Tk Tryd.func184 ?_
  first | refine g_cnd Tk Tryd.func184 rfl (fun g1 => ?_) (fun g1 => ?_) | refine g_know Tk Tryd.func184 rfl (fun g1 => ?_) (fun g1 => ?_) | refine s_know Tk (fun g1 => ?_) (fun g1 => ?_)
  · have h1 : i < l.length := by simpa using g1
    have gs : (l.map edgI)[(i : Int).toNat]? = some (edgI l[i]) := get_mapZ h1
    have hps := hp l[i] (List.getElem_mem h1)
    have hd : l.drop i = l[i] :: l.drop (i + 1) := List.drop_eq_getElem_cons h1
    rw [hd] at hno
    simp only [findIx] at hno
    clear hd
    generalize l[i] = s at *
    first | refine g_need Tk Tryd.func184 (by exact ⟨by omega, by show (i : Int) < (l.length : Int); omega⟩) ?_ | refine s_need Tk (by exact ⟨by omega, by show (i : Int) < (l.length : Int); omega⟩) ?_
    first | refine g_elem Tk Tryd.func184 (gs) ?_ | refine s_elem Tk (gs) ?_
    first | refine g_call Tk Tryd.func184 (hps) rfl rfl rfl rfl rfl ?_ | refine s_callq Tk (fun _ => hps) rfl rfl rfl ?_
    first | refine g_cnd Tk Tryd.func184 rfl (fun g2 => ?_) (fun g2 => ?_) | refine g_know Tk Tryd.func184 rfl (fun g2 => ?_) (fun g2 => ?_) | refine s_know Tk (fun g2 => ?_) (fun g2 => ?_)
    · rw [if_pos g2] at hno
      subst hno
      refine g_ret Tk (r := ii (i : Int)) rfl rfl rfl trivial rfl rfl ?_
      rfl
    · rw [if_neg (by rw [g2]; simp)] at hno
      refine g_loop ?_
      exact ih (i + 1) _ _ ⟨h1, hno⟩ (by omega) ⟨rfl, rfl, rfl, congrArg ii (wsucc h1 hl), trivial⟩ rfl trivial rfl rfl
  · have h1 : l.length ≤ i := by simpa using g1
    rw [List.drop_eq_nil_of_le h1] at hno
    simp only [findIx] at hno
    subst hno
    refine g_ret Tk (r := ii (-1)) rfl rfl rfl trivial rfl rfl ?_
    rfl
theorem evIs185 (O : List Heap) (x : Edg) (ev : Int) (d nm : Nat) (ho : objAt O d nm = some (.box [ii ev])) : ASpec Tryd.prog 185 [edgD x, .own d nm 0 0] O (bb (x.2.1 == ev)) [] O := by
  obtain ⟨a, b, c⟩ := x
  refine aspec_intro Tk Tryd.func185 rfl Tryd.call185 Tryd.ntmps185 (Nat.le_of_ble_eq_true rfl) fun E => ?_
  refine g_run Tk Tryd.func185 ?_
  first | refine g_obj Tk Tryd.func185 (up_obj ho) ?_ | refine s_obj Tk (up_obj ho) ?_
  refine g_ret Tk (r := bb (b == ev)) rfl rfl rfl trivial rfl rfl ?_
  rfl
/-- The state to which an event leads, or -1. -/
def nextR (es : List Edg) (s ev : Int) : Int := match (outR es s).find? (fun x => x.2.1 == ev) with
  | some e => e.2.2
  | none => -1
theorem findIx_find {α : Type} {p : α → Bool} : ∀ (l : List α) (i : Nat), (l.find? p = none ∧ findIx p l i = -1) ∨ ∃ (k : Nat) (e : α), l[k]? = some e ∧ l.find? p = some e ∧ findIx p l i = ((i + k : Nat) : Int)
  | [], i => .inl ⟨rfl, rfl⟩
  | x :: r, i => by
    cases h : p x with
    | true => exact .inr ⟨0, x, rfl, by simp [h], by simp [findIx, h]⟩
    | false =>
      rcases findIx_find r (i + 1) with ⟨h1, h2⟩ | ⟨k, e, h1, h2, h3⟩
      · exact .inl ⟨by rw [List.find?_cons, h]; exact h1, by simp only [findIx, h]; rw [if_neg (by simp)]; exact h2⟩
      · refine .inr ⟨k + 1, e, by simpa using h1, by rw [List.find?_cons, h]; exact h2, ?_⟩
        simp only [findIx, h]
        rw [if_neg (by simp), h3]
        congr 1
        omega
structure autOk (a : Aut) : Prop where
  ed : a.edges.length ≤ 1000000
  al : a.alpha.length ≤ 1000000
  mkd : a.marked.length ≤ 1000000
  chk : chkA a = 0
theorem chk_parts {a : Aut} (h : chkA a = 0) : checkSet 32 a.alpha none = 0 ∧ (0 ≤ a.states ∧ a.states ≤ 4096) ∧ checkSet a.states a.marked none = 0 ∧ chkEds a.alpha a.states none a.edges = 0 := by
  unfold chkA at h
  by_cases h1 : checkSet 32 a.alpha none ≠ 0
  · rw [if_pos h1] at h; exact absurd h h1
  rw [if_neg h1] at h
  by_cases h2 : a.states < 0
  · rw [if_pos h2] at h; cases h
  rw [if_neg h2] at h
  by_cases h3 : a.states > 4096
  · rw [if_pos h3] at h; cases h
  rw [if_neg h3] at h
  by_cases h4 : checkSet a.states a.marked none ≠ 0
  · rw [if_pos h4] at h; exact absurd h h4
  rw [if_neg h4] at h
  exact ⟨by simpa using h1, by omega, by simpa using h4, h⟩
theorem next166 (O : List Heap) (a : Aut) (s ev : Int) (ha : autOk a) (hs : 0 ≤ s ∧ s ≤ 4999) : ASpec Tryd.prog 166 [autD a, ii s, ii ev] O (ii (nextR a.edges s ev)) [] O := by
  obtain ⟨c1, c2, c3, c4⟩ := chk_parts ha.chk
  obtain ⟨es1, eb, _⟩ := chkEds_sorted c4
  have hso := sortedF_of es1
  have hed := ha.ed
  have hout := fun O => out163 O a s (by simp only [max63]; omega) hso (fun e he => by have := (eb e he).1; omega) hs
  have hol : (outR a.edges s).length ≤ 1000000 := by rw [outR_len]; have := lowE_le a.edges (s + 1); omega
  have hix := fun O d nm ho => indexFunc184 O (outR a.edges s) 185 d nm (fun x => x.2.1 == ev) (by simp only [max63]; omega) (fun x _ => evIs185 _ x ev (d + 1) nm (up_obj ho))
  have hf := findIx_find (p := fun x : Edg => x.2.1 == ev) (outR a.edges s) 0
  unfold nextR
  generalize outR a.edges s = L at *
  obtain ⟨al, st, mk, es⟩ := a
  rcases hf with ⟨h1, h2⟩ | ⟨k, e, h1, h2, h3⟩
  · simp only [h2] at hix
    simp only [h1]
    refine aspec_intro Tk Tryd.func166 rfl Tryd.call166 Tryd.ntmps166 (Nat.le_of_ble_eq_true rfl) fun E => ?_
    refine g_run Tk Tryd.func166 ?_
    first | refine g_call Tk Tryd.func166 (hout _) rfl rfl rfl rfl rfl ?_ | refine s_callq Tk (fun _ => hout _) rfl rfl rfl ?_
    first | refine g_call Tk Tryd.func166 (hix _ 0 5 rfl) rfl rfl rfl rfl rfl ?_ | refine s_callq Tk (fun _ => hix _ 0 5 rfl) rfl rfl rfl ?_
    repeat (first | refine g_cnd Tk Tryd.func166 rfl (fun _ => ?_) (fun h => absurd h (by decide)) | refine g_know Tk Tryd.func166 rfl (fun _ => ?_) (fun h => absurd h (by decide)) | refine s_know Tk (fun _ => ?_) (fun h => absurd h (by decide)) | refine g_cnd Tk Tryd.func166 rfl (fun h => absurd h (by decide)) (fun _ => ?_) | refine g_know Tk Tryd.func166 rfl (fun h => absurd h (by decide)) (fun _ => ?_) | refine s_know Tk (fun h => absurd h (by decide)) (fun _ => ?_) | refine g_cnd Tk Tryd.func166 rfl (fun _ => ?_) (fun h => absurd (show true = false from h) (by decide)) | refine g_know Tk Tryd.func166 rfl (fun _ => ?_) (fun h => absurd (show true = false from h) (by decide)) | refine s_know Tk (fun _ => ?_) (fun h => absurd (show true = false from h) (by decide)) | refine g_cnd Tk Tryd.func166 rfl (fun h => absurd (show false = true from h) (by decide)) (fun _ => ?_) | refine g_know Tk Tryd.func166 rfl (fun h => absurd (show false = true from h) (by decide)) (fun _ => ?_) | refine s_know Tk (fun h => absurd (show false = true from h) (by decide)) (fun _ => ?_))
    refine g_ret Tk (r := ii (-1)) rfl rfl rfl trivial rfl rfl ?_
    rfl
  · simp only [h3, Nat.zero_add] at hix
    simp only [h2]
    have hkl : k < L.length := (List.getElem?_eq_some_iff.1 h1).1
    have ge : (L.map edgI)[((k : Nat) : Int).toNat]? = some (edgI e) := by
      rw [List.getElem?_map, show ((k : Nat) : Int).toNat = k by omega, h1]
      rfl
    obtain ⟨xf, xe, xt⟩ := e
    refine aspec_intro Tk Tryd.func166 rfl Tryd.call166 Tryd.ntmps166 (Nat.le_of_ble_eq_true rfl) fun E => ?_
    refine g_run Tk Tryd.func166 ?_
    first | refine g_call Tk Tryd.func166 (hout _) rfl rfl rfl rfl rfl ?_ | refine s_callq Tk (fun _ => hout _) rfl rfl rfl ?_
    first | refine g_call Tk Tryd.func166 (hix _ 0 5 rfl) rfl rfl rfl rfl rfl ?_ | refine s_callq Tk (fun _ => hix _ 0 5 rfl) rfl rfl rfl ?_
    first | refine g_cnd Tk Tryd.func166 rfl (fun c1 => ?_) (fun c1 => ?_) | refine g_know Tk Tryd.func166 rfl (fun c1 => ?_) (fun c1 => ?_) | refine s_know Tk (fun c1 => ?_) (fun c1 => ?_)
    · have c1 : ((k : Nat) : Int) < 0 := of_decide_eq_true c1
      omega
    first | refine g_need Tk Tryd.func166 (by exact ⟨by omega, by show ((k : Nat) : Int) < (L.length : Int); omega⟩) ?_ | refine s_need Tk (by exact ⟨by omega, by show ((k : Nat) : Int) < (L.length : Int); omega⟩) ?_
    first | refine g_elem Tk Tryd.func166 (ge) ?_ | refine s_elem Tk (ge) ?_
    refine g_ret Tk (r := ii xt) rfl rfl rfl trivial rfl rfl ?_
    rfl
/-- The state to which the possible part of a word leads, and its length. -/
def folL (es : List Edg) : List Int → Int → Nat → Int × Int
  | [], s, i => (s, i)
  | x :: r, s, i => if nextR es s x < 0 then (s, i) else folL es r (nextR es s x) (i + 1)
theorem nextR_lt {a : Aut} (ha : autOk a) {s ev : Int} : nextR a.edges s ev < a.states ∧ -1 ≤ nextR a.edges s ev ∧ 0 ≤ a.states ∧ a.states ≤ 4096 := by
  obtain ⟨c1, c2, c3, c4⟩ := chk_parts ha.chk
  obtain ⟨es1, eb, _⟩ := chkEds_sorted c4
  unfold nextR
  cases hf : (outR a.edges s).find? (fun x => x.2.1 == ev) with
  | none => simp only; omega
  | some e =>
    have := (eb _ (outR_sub _ (List.mem_of_find?_eq_some hf))).2.1
    simp only
    omega
theorem follow133 (O : List Heap) (a : Aut) (s : Int) (w : List Int) (ha : autOk a) (hs : 0 ≤ s ∧ s < a.states) (hw : w.length ≤ max63) : ASpec Tryd.prog 133 [autD a, ii s, ints w] O (.tup [ii (folL a.edges w s 0).1, ii (folL a.edges w s 0).2]) [] O := by
  have hnx := fun O s ev hs => next166 O a s ev ha hs
  have hnl := fun s ev => nextR_lt ha (s := s) (ev := ev)
  have hR0 : folL a.edges w s 0 = folL a.edges (w.drop 0) s 0 := rfl
  generalize folL a.edges w s 0 = R at *
  obtain ⟨al, st, mk, es⟩ := a
  simp only at hs hnl hR0
  refine aspec_intro Tk Tryd.func133 rfl Tryd.call133 Tryd.ntmps133 (Nat.le_of_ble_eq_true rfl) fun E => ?_
  refine g_run Tk Tryd.func133 ?_
  refine g_loop ?_
  refine rch_loop2 (fun x : Nat × Int => [(1, ii x.2), (2, ints w), (3, .own 0 3 0 0), (11, ints w), (12, ii w.length), (13, ii x.1)]) (fun _ => [(3, .box [ints al, ii st, ints mk, edgs es])]) (fun _ => O) 31
    (fun x => x.1 ≤ w.length ∧ (0 ≤ x.2 ∧ x.2 < st) ∧ R = folL es (w.drop x.1) x.2 x.1) (fun x => w.length - x.1) (0, s) ⟨Nat.zero_le _, hs, hR0⟩ ⟨rfl, rfl, rfl, rfl, rfl, rfl, trivial⟩ rfl ⟨rfl, trivial⟩ rfl rfl ?_
  clear hR0
  rintro ⟨i, q⟩ ⟨hi, hq, hno⟩ ih
  simp only at hi hq hno
  have hst := (hnl 0 0).2.2.2
  refine g_run Tk Tryd.func133 ?_
  first | refine g_cnd Tk Tryd.func133 rfl (fun g1 => ?_) (fun g1 => ?_) | refine g_know Tk Tryd.func133 rfl (fun g1 => ?_) (fun g1 => ?_) | refine s_know Tk (fun g1 => ?_) (fun g1 => ?_)
  · have h1 : i < w.length := by simpa using g1
    have gw : (w.map fun x => [vi x])[(i : Int).toNat]? = some [vi w[i]] := get_mapZ (f := fun x => [vi x]) h1
    have dw : w.drop i = w[i] :: w.drop (i + 1) := List.drop_eq_getElem_cons h1
    rw [dw] at hno
    simp only [folL] at hno
    clear dw
    generalize w[i] = ev at *
    have hn1 := fun O => hnx O q ev (by omega)
    have hn2 := hnl q ev
    generalize nextR es q ev = N at *
    first | refine g_need Tk Tryd.func133 (by exact ⟨by omega, by show (i : Int) < (w.length : Int); omega⟩) ?_ | refine s_need Tk (by exact ⟨by omega, by show (i : Int) < (w.length : Int); omega⟩) ?_
    first | refine g_elem Tk Tryd.func133 (gw) ?_ | refine s_elem Tk (gw) ?_
    first | refine g_call Tk Tryd.func133 (hn1 _) rfl rfl rfl rfl rfl ?_ | refine s_callq Tk (fun _ => hn1 _) rfl rfl rfl ?_
    first | refine g_cnd Tk Tryd.func133 rfl (fun g2 => ?_) (fun g2 => ?_) | refine g_know Tk Tryd.func133 rfl (fun g2 => ?_) (fun g2 => ?_) | refine s_know Tk (fun g2 => ?_) (fun g2 => ?_)
    · have g2 : N < 0 := of_decide_eq_true g2
      rw [if_pos g2] at hno
      subst hno
      refine g_ret Tk (r := .tup [ii q, ii (i : Int)]) rfl rfl rfl trivial rfl rfl ?_
      rfl
    · have g2 : ¬ N < 0 := of_decide_eq_false g2
      rw [if_neg g2] at hno
      refine g_loop ?_
      exact ih (i + 1, N) _ _ ⟨h1, ⟨by simp only; omega, hn2.1⟩, hno⟩ (by simp only; omega) ⟨rfl, rfl, rfl, rfl, rfl, congrArg ii (wsucc h1 hw), trivial⟩ rfl ⟨rfl, trivial⟩ rfl rfl
  · have h1 : w.length ≤ i := by simpa using g1
    rw [List.drop_eq_nil_of_le h1] at hno
    simp only [folL] at hno
    have hie : i = w.length := by omega
    subst hie
    subst hno
    refine g_ret Tk (r := .tup [ii q, ii (w.length : Int)]) rfl rfl rfl trivial rfl rfl ?_
    rfl
theorem checkState131 (O : List Heap) (a : Aut) (s : Int) (ha : autOk a) (hs : 0 ≤ s ∧ s < a.states) : ASpec Tryd.prog 131 [autD a, ii s] O (ii 0) [] O := by
  have h1 := fun O => check116 O a (by have := ha.ed; simp only [max63]; omega) (by have := ha.al; simp only [max63]; omega) (by have := ha.mkd; simp only [max63]; omega)
  rw [ha.chk] at h1
  obtain ⟨al, st, mk, es⟩ := a
  simp only at hs
  refine aspec_intro Tk Tryd.func131 rfl Tryd.call131 Tryd.ntmps131 (Nat.le_of_ble_eq_true rfl) fun E => ?_
  refine g_run Tk Tryd.func131 ?_
  first | refine g_call Tk Tryd.func131 (h1 _) rfl rfl rfl rfl rfl ?_ | refine s_callq Tk (fun _ => h1 _) rfl rfl rfl ?_
  repeat (first | refine g_cnd Tk Tryd.func131 rfl (fun _ => ?_) (fun h => absurd h (by decide)) | refine g_know Tk Tryd.func131 rfl (fun _ => ?_) (fun h => absurd h (by decide)) | refine s_know Tk (fun _ => ?_) (fun h => absurd h (by decide)) | refine g_cnd Tk Tryd.func131 rfl (fun h => absurd h (by decide)) (fun _ => ?_) | refine g_know Tk Tryd.func131 rfl (fun h => absurd h (by decide)) (fun _ => ?_) | refine s_know Tk (fun h => absurd h (by decide)) (fun _ => ?_) | refine g_cnd Tk Tryd.func131 rfl (fun _ => ?_) (fun h => absurd (show true = false from h) (by decide)) | refine g_know Tk Tryd.func131 rfl (fun _ => ?_) (fun h => absurd (show true = false from h) (by decide)) | refine s_know Tk (fun _ => ?_) (fun h => absurd (show true = false from h) (by decide)) | refine g_cnd Tk Tryd.func131 rfl (fun h => absurd (show false = true from h) (by decide)) (fun _ => ?_) | refine g_know Tk Tryd.func131 rfl (fun h => absurd (show false = true from h) (by decide)) (fun _ => ?_) | refine s_know Tk (fun h => absurd (show false = true from h) (by decide)) (fun _ => ?_))
  first | refine g_cnd Tk Tryd.func131 rfl (fun c1 => ?_) (fun c1 => ?_) | refine g_know Tk Tryd.func131 rfl (fun c1 => ?_) (fun c1 => ?_) | refine s_know Tk (fun c1 => ?_) (fun c1 => ?_)
  · have c1 : s < 0 := of_decide_eq_true c1
    omega
  first | refine g_cnd Tk Tryd.func131 rfl (fun c2 => ?_) (fun c2 => ?_) | refine g_know Tk Tryd.func131 rfl (fun c2 => ?_) (fun c2 => ?_) | refine s_know Tk (fun c2 => ?_) (fun c2 => ?_)
  · have c2 : s ≥ st := of_decide_eq_true c2
    omega
  refine g_ret Tk (r := ii 0) rfl rfl rfl trivial rfl rfl ?_
  rfl
theorem notIn132 (O : List Heap) (a : Aut) (x : Int) (ha : a.alpha.length ≤ 1000000) (d nm : Nat) (ho : objAt O d nm = some (.box (autC a))) : ASpec Tryd.prog 132 [ii x, .own d nm 0 0] O (bb (!decide (x ∈ a.alpha))) [] O := by
  have h := fun O => contains110 O a.alpha x (by simp only [max63]; omega)
  obtain ⟨al, st, mk, es⟩ := a
  refine aspec_intro Tk Tryd.func132 rfl Tryd.call132 Tryd.ntmps132 (Nat.le_of_ble_eq_true rfl) fun E => ?_
  refine g_run Tk Tryd.func132 ?_
  first | refine g_obj Tk Tryd.func132 (up_obj ho) ?_ | refine s_obj Tk (up_obj ho) ?_
  first | refine g_call Tk Tryd.func132 (h _) rfl rfl rfl rfl rfl ?_ | refine s_callq Tk (fun _ => h _) rfl rfl rfl ?_
  refine g_ret Tk (r := bb (!decide (x ∈ al))) rfl rfl rfl trivial rfl rfl ?_
  rfl
theorem runA65 (O : List Heap) (a : Aut) (s : Int) (w : List Int) (ha : autOk a) (hs : 0 ≤ s ∧ s < a.states) (hw : w.length ≤ max63) (hal : ∀ x ∈ w, x ∈ a.alpha) : ASpec Tryd.prog 65 [autD a, ii s, ints w] O (.tup [ii (folL a.edges w s 0).1, ii (folL a.edges w s 0).2, ii 0]) [] O := by
  have h1 := fun O => checkState131 O a s ha hs
  have h2 := fun O ho => containsFunc68 O w 132 0 3 (fun x => !decide (x ∈ a.alpha)) hw (fun x _ => notIn132 _ a x ha.al 2 3 ho)
  have h3 := fun O => follow133 O a s w ha hs hw
  have hany : w.any (fun x => !decide (x ∈ a.alpha)) = false := by
    rw [List.any_eq_false]
    intro x hx
    simp [hal x hx]
  rw [hany] at h2
  generalize folL a.edges w s 0 = R at *
  obtain ⟨al, st, mk, es⟩ := a
  refine aspec_intro Tk Tryd.func65 rfl Tryd.call65 Tryd.ntmps65 (Nat.le_of_ble_eq_true rfl) fun E => ?_
  refine g_run Tk Tryd.func65 ?_
  first | refine g_call Tk Tryd.func65 (h1 _) rfl rfl rfl rfl rfl ?_ | refine s_callq Tk (fun _ => h1 _) rfl rfl rfl ?_
  repeat (first | refine g_cnd Tk Tryd.func65 rfl (fun _ => ?_) (fun h => absurd h (by decide)) | refine g_know Tk Tryd.func65 rfl (fun _ => ?_) (fun h => absurd h (by decide)) | refine s_know Tk (fun _ => ?_) (fun h => absurd h (by decide)) | refine g_cnd Tk Tryd.func65 rfl (fun h => absurd h (by decide)) (fun _ => ?_) | refine g_know Tk Tryd.func65 rfl (fun h => absurd h (by decide)) (fun _ => ?_) | refine s_know Tk (fun h => absurd h (by decide)) (fun _ => ?_) | refine g_cnd Tk Tryd.func65 rfl (fun _ => ?_) (fun h => absurd (show true = false from h) (by decide)) | refine g_know Tk Tryd.func65 rfl (fun _ => ?_) (fun h => absurd (show true = false from h) (by decide)) | refine s_know Tk (fun _ => ?_) (fun h => absurd (show true = false from h) (by decide)) | refine g_cnd Tk Tryd.func65 rfl (fun h => absurd (show false = true from h) (by decide)) (fun _ => ?_) | refine g_know Tk Tryd.func65 rfl (fun h => absurd (show false = true from h) (by decide)) (fun _ => ?_) | refine s_know Tk (fun h => absurd (show false = true from h) (by decide)) (fun _ => ?_))
  first | refine g_call Tk Tryd.func65 (h2 _ rfl) rfl rfl rfl rfl rfl ?_ | refine s_callq Tk (fun _ => h2 _ rfl) rfl rfl rfl ?_
  repeat (first | refine g_cnd Tk Tryd.func65 rfl (fun _ => ?_) (fun h => absurd h (by decide)) | refine g_know Tk Tryd.func65 rfl (fun _ => ?_) (fun h => absurd h (by decide)) | refine s_know Tk (fun _ => ?_) (fun h => absurd h (by decide)) | refine g_cnd Tk Tryd.func65 rfl (fun h => absurd h (by decide)) (fun _ => ?_) | refine g_know Tk Tryd.func65 rfl (fun h => absurd h (by decide)) (fun _ => ?_) | refine s_know Tk (fun h => absurd h (by decide)) (fun _ => ?_) | refine g_cnd Tk Tryd.func65 rfl (fun _ => ?_) (fun h => absurd (show true = false from h) (by decide)) | refine g_know Tk Tryd.func65 rfl (fun _ => ?_) (fun h => absurd (show true = false from h) (by decide)) | refine s_know Tk (fun _ => ?_) (fun h => absurd (show true = false from h) (by decide)) | refine g_cnd Tk Tryd.func65 rfl (fun h => absurd (show false = true from h) (by decide)) (fun _ => ?_) | refine g_know Tk Tryd.func65 rfl (fun h => absurd (show false = true from h) (by decide)) (fun _ => ?_) | refine s_know Tk (fun h => absurd (show false = true from h) (by decide)) (fun _ => ?_))
  first | refine g_call Tk Tryd.func65 (h3 _) rfl rfl rfl rfl rfl ?_ | refine s_callq Tk (fun _ => h3 _) rfl rfl rfl ?_
  refine g_ret Tk (r := .tup [ii R.1, ii R.2, ii 0]) rfl rfl rfl trivial rfl rfl ?_
  rfl
end Go.AI


/- FlattenRuns. -/
namespace Go.AI
open Go.Proofs
set_option maxRecDepth 20000
theorem mem_eds {m : Ext} {V : Unf Sta} (hA : UAt (mkdM m) m.alpha (okS m) (stpR m) V.sts.length V) {e : Edg} : e ∈ V.eds ↔ ∃ k s, V.sts[k]? = some s ∧ ∃ ev ∈ m.alpha, eOf (stpR m) V.sts k s ev = some e := by
  rw [hA.eds, List.mem_flatMap]
  constructor
  · rintro ⟨k, _, hz⟩
    split at hz
    · cases hz
    · rename_i s hs
      obtain ⟨ev, h1, h2⟩ := List.mem_filterMap.1 hz
      exact ⟨k, s, hs, ev, h1, h2⟩
  · rintro ⟨k, s, hs, ev, h1, h2⟩
    refine ⟨k, List.mem_range.2 (List.getElem?_eq_some_iff.1 hs).1, ?_⟩
    simp only [hs]
    exact List.mem_filterMap.2 ⟨ev, h1, h2⟩
theorem next_unf {m : Ext} {V : Unf Sta} (hr : extRight m) (hA : UAt (mkdM m) m.alpha (okS m) (stpR m) V.sts.length V) {k : Nat} {s : Sta} (hk : V.sts[k]? = some s) {ev : Int} (hev : ev ∈ m.alpha) :
    nextR V.eds k ev = if (stpR m s ev).2.1 = true then ((V.sts.findIdx (eqB (stpR m s ev).1) : Nat) : Int) else -1 := by
  obtain ⟨hs, _, _⟩ := checkSet_sorted hr.alpha
  have hso := sortedF_of (unf_eds hA hs).1
  unfold nextR
  cases hf : (outR V.eds (k : Int)).find? (fun x => x.2.1 == ev) with
  | some e =>
    have he : e.2.1 = ev := by simpa using List.find?_some hf
    have hm := List.mem_of_find?_eq_some hf
    have hfr := outR_frm hso e hm
    obtain ⟨k', s', hk', ev', _, heq⟩ := (mem_eds hA).1 (outR_sub e hm)
    unfold eOf at heq
    split at heq
    · rename_i hp
      simp only [Option.some.injEq] at heq
      subst heq
      simp only at he hfr
      subst he
      obtain rfl : k' = k := by omega
      rw [hk] at hk'
      obtain rfl : s = s' := Option.some.inj hk'
      rw [if_pos hp]
    · cases heq
  | none =>
    show (-1 : Int) = _
    split
    · rename_i hp
      have hmem : ((k : Int), ev, ((V.sts.findIdx (eqB (stpR m s ev).1) : Nat) : Int)) ∈ V.eds := (mem_eds hA).2 ⟨k, s, hk, ev, hev, by unfold eOf; rw [if_pos hp]⟩
      have h := List.find?_eq_none.1 hf _ (outR_mem hso hmem)
      simp at h
    · rfl
theorem fol_run {m : Ext} (hm : made m) {V : Unf Sta} (hA : UAt (mkdM m) m.alpha (okS m) (stpR m) V.sts.length V) : ∀ (w : List Int) (s : Sta) (k i : Nat), V.sts[k]? = some s → (∀ x ∈ w, x ∈ m.alpha) →
    ∃ (k' : Nat) (s' : Sta) (j : Int), V.sts[k']? = some s' ∧ folL V.eds w k i = ((k' : Int), j) ∧ runL m w s (i : Int) = (s', j, 0)
  | [], s, k, i, hk, _ => ⟨k, s, i, hk, rfl, rfl⟩
  | ev :: r, s, k, i, hk, hw => by
    have hev := hw ev (by simp)
    obtain ⟨hkl, hks⟩ := List.getElem?_eq_some_iff.1 hk
    have hok : okS m s := hA.ok s (hks ▸ List.getElem_mem hkl)
    obtain ⟨h0, hnx⟩ := hA.fine k s hkl hk ev hev
    have hn := next_unf (made_right hm) hA hk hev
    rw [stp_made hm hok hev] at h0 hnx hn
    simp only [folL, runL]
    rw [if_neg (show ¬ (stepR m s ev).2.2 ≠ 0 by rw [h0]; simp)]
    rcases Bool.eq_false_or_eq_true (stepR m s ev).2.1 with hp | hp
    rotate_left
    · rw [if_neg (by rw [hp]; simp)] at hn
      rw [hn, if_pos (show (-1 : Int) < 0 by decide), if_pos hp]
      exact ⟨k, s, i, hk, rfl, rfl⟩
    · rw [if_pos hp] at hn
      rw [hn, if_neg (by omega), if_neg (by rw [hp]; simp)]
      obtain ⟨k', s', j, h1, h2, h3⟩ := fol_run hm hA r _ _ (i + 1) (idx_get (hnx hp)) (fun x hx => hw x (by simp [hx]))
      refine ⟨k', s', j, h1, h2, ?_⟩
      rw [show ((i : Int) + 1) = ((i + 1 : Nat) : Int) by omega]
      exact h3
/-- The first state stays the first. -/
theorem uvisits_pre {σ : Type} {eq : σ → σ → Bool} {lim : Bool} {step : σ → Int → σ × Bool × Int} {i : Nat} {s : σ} : ∀ (l : List Int) {U V : Unf σ}, uvisits eq lim step i s l U = .ok V → ∃ r, V.sts = U.sts ++ r
  | [], U, V, h => by
    simp only [uvisits, Except.ok.injEq] at h
    subst h
    exact ⟨[], by simp⟩
  | ev :: l, U, V, h => by
    simp only [uvisits] at h
    cases hv : uvisit eq lim step i s ev U with
    | error e => rw [hv] at h; cases h
    | ok W =>
      rw [hv] at h
      obtain ⟨r, hr⟩ := uvisits_pre l h
      have : ∃ r, W.sts = U.sts ++ r := by
        unfold uvisit at hv
        split at hv
        · cases hv
        split at hv
        · simp only [Except.ok.injEq] at hv; subst hv; exact ⟨[], by simp⟩
        split at hv
        · simp only [Except.ok.injEq] at hv; subst hv; exact ⟨[], by simp⟩
        split at hv
        · cases hv
        · simp only [Except.ok.injEq] at hv; subst hv; exact ⟨_, rfl⟩
      obtain ⟨r', hr'⟩ := this
      exact ⟨r' ++ r, by rw [hr, hr', List.append_assoc]⟩
theorem uloop_pre {σ : Type} {eq : σ → σ → Bool} {lim : Bool} {step : σ → Int → σ × Bool × Int} {mkd : σ → Bool} {alpha : List Int} : ∀ (f i : Nat) {U V : Unf σ}, uloop eq lim step mkd alpha f i U = .ok V → ∃ r, V.sts = U.sts ++ r
  | 0, i, U, V, h => by
    simp only [uloop, Except.ok.injEq] at h
    subst h
    exact ⟨[], by simp⟩
  | f + 1, i, U, V, h => by
    simp only [uloop] at h
    cases hs : U.sts[i]? with
    | none =>
      rw [hs] at h
      simp only [Except.ok.injEq] at h
      subst h
      exact ⟨[], by simp⟩
    | some s =>
      rw [hs] at h
      simp only at h
      cases hv : uvisits eq lim step i s alpha (umark mkd i s U) with
      | error e => rw [hv] at h; cases h
      | ok W =>
        rw [hv] at h
        obtain ⟨r, hr⟩ := uloop_pre f (i + 1) h
        obtain ⟨r', hr'⟩ := uvisits_pre alpha hv
        rw [(umark_sts mkd i s U).1] at hr'
        exact ⟨r' ++ r, by rw [hr, hr', List.append_assoc]⟩
theorem unf_first {m : Ext} (hm : made m) {V : Unf Sta} (h : unfoldR m = .ok V) : V.sts[0]? = some (startR m) := by
  unfold unfoldR at h
  rw [made_chk hm, if_neg (by simp)] at h
  unfold unfX unfR at h
  obtain ⟨r, hr⟩ := uloop_pre 4097 0 h
  rw [hr]
  rfl
/- The search of extended and the unfolding, side by side. -/
theorem vt_kind' {m : Ext} {i : Nat} {s : Sta} {ev : Int} {S : Srch} : (vt m i s ev S).kind ≠ 0 ↔ S.kind ≠ 0 ∨ (stepR m s ev).2.2 ≠ 0 := by
  unfold vt
  simp only
  generalize hS1 : (if (stepR m s ev).2.2 ≠ 0 ∧ S.kind = 0 then { S with kind := (stepR m s ev).2.2, flt := ((i : Int), ev) } else S) = S1
  have h : S1.kind ≠ 0 ↔ S.kind ≠ 0 ∨ (stepR m s ev).2.2 ≠ 0 := by
    rw [← hS1]
    split
    · rename_i h1
      simp only
      exact ⟨fun h => .inr h, fun _ => h1.1⟩
    · rename_i h1
      constructor
      · exact .inl
      · rintro (h | h)
        · exact h
        · intro hk; exact h1 ⟨h, hk⟩
  split
  · exact h
  · exact h
theorem vts_kind {m : Ext} {i : Nat} {s : Sta} : ∀ (l : List Int) {S : Srch}, S.kind ≠ 0 → (l.foldl (fun S ev => vt m i s ev S) S).kind ≠ 0
  | [], S, h => h
  | ev :: l, S, h => vts_kind l (vt_kind'.2 (.inl h))
theorem search_kind {m : Ext} (hm : made m) : ∀ (f i : Nat) {S F : Srch}, Inv5 m S → S.kind ≠ 0 → searchL m f i S = some F → F.kind ≠ 0
  | 0, i, S, F, hI, h, hF => by simp only [searchL, Option.some.injEq] at hF; subst hF; exact h
  | f + 1, i, S, F, hI, h, hF => by
    simp only [searchL] at hF
    cases hs : S.sts[i]? with
    | none => rw [hs] at hF; simp only [Option.some.injEq] at hF; subst hF; exact h
    | some s =>
      obtain ⟨hlt, e⟩ := List.getElem?_eq_some_iff.1 hs
      obtain ⟨h1, h2, _⟩ := vts_inv hm (i := i) (s := s) (hI.ok s (e ▸ List.getElem_mem hlt)) m.alpha hI hlt
      rw [hs] at hF
      simp only [h1] at hF
      exact search_kind hm f (i + 1) h2 (vts_kind _ h) hF
theorem vt_same {m : Ext} (hm : made m) {i : Nat} {s : Sta} {ev : Int} (hev : ev ∈ m.alpha) (hs : okS m s) {S : Srch} {U : Unf Sta} (hU : UOk (okS m) U) (hSU : U.sts = S.sts) (hk : S.kind = 0) (h0 : (stepR m s ev).2.2 = 0) (hi : i < U.sts.length) :
    ∃ V, uvisit keq true (stpR m) i s ev U = .ok V ∧ UOk (okS m) V ∧ V.sts = (vt m i s ev S).sts ∧ (vt m i s ev S).kind = 0 ∧ i < V.sts.length := by
  have h1 := uvisit_spec (fin_made hm) (ev := ev) hU hs hi
  rw [stp_made hm hs hev, if_neg (by rw [h0]; simp)] at h1
  obtain ⟨r, h2, h3, h4⟩ := h1
  refine ⟨_, h2, h3, ?_, ?_, by simp only [List.length_append]; omega⟩
  · have hv : uvisit keq true (stpR m) i s ev U = .ok ⟨U.sts ++ r, U.mkl, U.eds ++ [ev].filterMap (eOf (stpR m) (U.sts ++ r) i s)⟩ := h2
    unfold uvisit at hv
    rw [stp_made hm hs hev, if_neg (by rw [h0]; simp)] at hv
    unfold vt
    simp only
    rw [if_neg (show ¬ ((stepR m s ev).2.2 ≠ 0 ∧ S.kind = 0) by rw [h0]; simp)]
    cases hp : (stepR m s ev).2.1 with
    | false =>
      rw [hp, if_pos rfl] at hv
      simp only [Except.ok.injEq] at hv
      have h5 : U.sts = U.sts ++ r := congrArg Unf.sts hv
      rw [if_pos (.inl rfl), ← h5, hSU]
    | true =>
      rw [hp, if_neg (by simp)] at hv
      have hn : okS m (stepR m s ev).1 := step_ok (made_right hm) hs hp
      have hq : U.sts.findIdx (keq (stepR m s ev).1) = U.sts.findIdx (eqB (stepR m s ev).1) := findIdx_congr fun x hx => keq_made hm hn (hU.ok x hx)
      rw [hq] at hv
      by_cases hmem : (stepR m s ev).1 ∈ U.sts
      · have hlt : U.sts.findIdx (eqB (stepR m s ev).1) < U.sts.length := findIdx_lt ⟨_, hmem, by simp [eqB]⟩
        rw [if_pos hlt] at hv
        simp only [Except.ok.injEq] at hv
        have h5 : U.sts = U.sts ++ r := congrArg Unf.sts hv
        rw [if_pos (.inr (hSU ▸ hmem)), ← h5, hSU]
      · have hno : U.sts.findIdx (eqB (stepR m s ev).1) = U.sts.length := findIdx_none fun x hx => by
          simp only [eqB, decide_eq_false_iff_not]
          exact fun e => hmem (e ▸ hx)
        rw [hno, if_neg (Nat.lt_irrefl _)] at hv
        split at hv
        · cases hv
        · simp only [Except.ok.injEq] at hv
          have h5 : U.sts ++ [(stepR m s ev).1] = U.sts ++ r := congrArg Unf.sts hv
          rw [if_neg (by rintro (h' | h'); cases h'; exact hmem (hSU ▸ h'))]
          simp only
          rw [← h5, hSU]
  · apply Classical.byContradiction
    intro h
    rcases vt_kind'.1 h with h | h
    · exact h hk
    · exact h h0
theorem vts_same {m : Ext} (hm : made m) {i : Nat} {s : Sta} (hs : okS m s) : ∀ (l : List Int) {S : Srch} {U : Unf Sta}, (∀ e ∈ l, e ∈ m.alpha) → UOk (okS m) U → U.sts = S.sts → S.kind = 0 → i < U.sts.length →
    (∃ e, uvisits keq true (stpR m) i s l U = .error e ∧ (l.foldl (fun S ev => vt m i s ev S) S).kind ≠ 0) ∨
      ∃ V, uvisits keq true (stpR m) i s l U = .ok V ∧ UOk (okS m) V ∧ V.sts = (l.foldl (fun S ev => vt m i s ev S) S).sts ∧ (l.foldl (fun S ev => vt m i s ev S) S).kind = 0
  | [], S, U, _, hU, h1, h2, _ => .inr ⟨U, rfl, hU, h1, h2⟩
  | ev :: l, S, U, hl, hU, h1, h2, hi => by
    have hev := hl ev (by simp)
    by_cases h0 : (stepR m s ev).2.2 = 0
    · obtain ⟨V, g1, g2, g3, g4, g5⟩ := vt_same hm hev hs hU h1 h2 h0 hi
      simp only [uvisits, g1, List.foldl_cons]
      exact vts_same hm hs l (fun e he => hl e (by simp [he])) g2 g3 g4 g5
    · left
      have h3 := uvisit_spec (fin_made hm) (ev := ev) hU hs hi
      rw [stp_made hm hs hev, if_pos h0] at h3
      simp only [uvisits, h3, List.foldl_cons]
      exact ⟨_, rfl, vts_kind l (vt_kind'.2 (.inr h0))⟩
theorem loop_same {m : Ext} (hm : made m) : ∀ (f i : Nat) {S F : Srch} {U : Unf Sta}, UOk (okS m) U → Inv5 m S → U.sts = S.sts → S.kind = 0 → searchL m f i S = some F →
    (∃ e, uloop keq true (stpR m) (mkdM m) m.alpha f i U = .error e ∧ F.kind ≠ 0) ∨ ∃ V, uloop keq true (stpR m) (mkdM m) m.alpha f i U = .ok V ∧ F.kind = 0
  | 0, i, S, F, U, hU, hI, h1, h2, hF => by
    simp only [searchL, Option.some.injEq] at hF
    subst hF
    exact .inr ⟨U, rfl, h2⟩
  | f + 1, i, S, F, U, hU, hI, h1, h2, hF => by
    simp only [searchL] at hF
    simp only [uloop]
    rw [h1]
    cases hs : S.sts[i]? with
    | none =>
      rw [hs] at hF
      simp only [Option.some.injEq] at hF
      subst hF
      exact .inr ⟨U, rfl, h2⟩
    | some s =>
      obtain ⟨hlt, e⟩ := List.getElem?_eq_some_iff.1 hs
      have hoks := hI.ok s (e ▸ List.getElem_mem hlt)
      obtain ⟨g1, g2, _⟩ := vts_inv hm (i := i) (s := s) hoks m.alpha hI hlt
      rw [hs] at hF
      simp only [g1] at hF
      obtain ⟨m1, m2⟩ := umark_sts (mkdM m) i s U
      have hM : UOk (okS m) (umark (mkdM m) i s U) := ⟨by rw [m1]; exact hU.ok, by rw [m1]; exact hU.nd, by rw [m1, m2]; exact hU.fr⟩
      rcases vts_same hm hoks m.alpha (S := S) (U := umark (mkdM m) i s U) (fun _ h => h) hM (by rw [m1, h1]) h2 (by rw [m1, h1]; exact hlt) with ⟨e', he, hk⟩ | ⟨V, hv, hV, hs2, hk⟩
      · simp only [he]
        exact .inl ⟨e', rfl, search_kind hm f (i + 1) g2 hk hF⟩
      · simp only [hv]
        exact loop_same hm f (i + 1) hV g2 hs2 hk hF
theorem fault_same {m : Ext} (hm : made m) {F : Srch} (hF : searchR m = some F) : (∃ e, unfoldR m = .error e ∧ F.kind ≠ 0) ∨ ∃ V, unfoldR m = .ok V ∧ F.kind = 0 := by
  unfold unfoldR
  rw [made_chk hm, if_neg (by simp)]
  exact loop_same hm 4097 0 (U := unf0 (startR m)) ⟨fun s hs => by rw [unf0, List.mem_singleton] at hs; subst hs; exact start_ok (made_right hm), by simp [unf0], rfl⟩ (inv0 hm) rfl rfl hF
end Go.AI


/- FlattenRuns: the law. -/
namespace Go.AI
open Go.Proofs
set_option maxRecDepth 20000
def word3 (w : List Int) : List Int := w.map fun b => b % 3
theorem word3_take {w : List Int} {i : Nat} (h : i < w.length) : (word3 w).take (i + 1) = (word3 w).take i ++ [w[i] % 3] := by
  rw [List.take_succ_eq_append_getElem (by simpa [word3] using h)]
  simp [word3]
theorem mem_mkl {m : Ext} {V : Unf Sta} (hA : UAt (mkdM m) m.alpha (okS m) (stpR m) V.sts.length V) {k : Nat} {s : Sta} (hk : V.sts[k]? = some s) : decide ((k : Int) ∈ V.mkl) = decide (s.loc ∈ m.marked) := by
  apply decide_eq_decide.2
  rw [hA.mkl, List.mem_map]
  constructor
  · rintro ⟨j, hj, he⟩
    obtain rfl : j = k := by omega
    have h := (List.mem_filter.1 hj).2
    simp only [hk] at h
    simpa using h
  · intro h
    refine ⟨k, List.mem_filter.2 ⟨List.mem_range.2 (List.getElem?_eq_some_iff.1 hk).1, ?_⟩, rfl⟩
    simp only [hk]
    simpa using h
set_option maxHeartbeats 4000000 in
theorem runs14 {g : Nat} (hg : IsTab g) {ty : TypeId} {fr : Nat × Nat} (O : List Heap) (k : Sk) (w : List Int) (hk : skOk k) (hb : byteOk w) (hwl : w.length ≤ max63) : ASpecT g (ptab ty fr) Tryd.prog 14 [skD k, byts w] O (bb true) [] O := by
  have hkn := fun O => known48 hg (ty := ty) (fr := fr) O
  by_cases h8 : 8 < w.length
  · refine aspecT_stop [] Tk Tryd.func14 rfl Tryd.call14 Tryd.ntmps14 (Nat.le_of_ble_eq_true rfl) fun E hE => ?_
    refine g_run Tk Tryd.func14 ?_
    refine g_callT Tk Tryd.func14 hE (hkn _) rfl rfl rfl rfl rfl rfl ?_
    repeat (first | refine g_cnd Tk Tryd.func14 rfl (fun _ => ?_) (fun h => absurd h (by decide)) | refine g_know Tk Tryd.func14 rfl (fun _ => ?_) (fun h => absurd h (by decide)) | refine s_know Tk (fun _ => ?_) (fun h => absurd h (by decide)) | refine g_cnd Tk Tryd.func14 rfl (fun h => absurd h (by decide)) (fun _ => ?_) | refine g_know Tk Tryd.func14 rfl (fun h => absurd h (by decide)) (fun _ => ?_) | refine s_know Tk (fun h => absurd h (by decide)) (fun _ => ?_) | refine g_cnd Tk Tryd.func14 rfl (fun _ => ?_) (fun h => absurd (show true = false from h) (by decide)) | refine g_know Tk Tryd.func14 rfl (fun _ => ?_) (fun h => absurd (show true = false from h) (by decide)) | refine s_know Tk (fun _ => ?_) (fun h => absurd (show true = false from h) (by decide)) | refine g_cnd Tk Tryd.func14 rfl (fun h => absurd (show false = true from h) (by decide)) (fun _ => ?_) | refine g_know Tk Tryd.func14 rfl (fun h => absurd (show false = true from h) (by decide)) (fun _ => ?_) | refine s_know Tk (fun h => absurd (show false = true from h) (by decide)) (fun _ => ?_))
    first | refine g_cnd Tk Tryd.func14 rfl (fun g1 => ?_) (fun g1 => ?_) | refine g_know Tk Tryd.func14 rfl (fun g1 => ?_) (fun g1 => ?_) | refine s_know Tk (fun g1 => ?_) (fun g1 => ?_)
    rotate_left
    · have g1 : ¬ ((w.length : Nat) : Int) > 8 := of_decide_eq_false g1
      omega
    refine g_callT Tk Tryd.func14 hE (hkn _) rfl rfl rfl rfl rfl rfl ?_
    refine g_ret Tk (r := bb true) rfl rfl rfl trivial rfl rfl ?_
    rfl
  have hmk := fun O => make16 O k hk
  have hm := make_made hk
  generalize makeR k = m at *
  have hok := made_ok hm
  have hr := made_right hm
  have hun := fun O => Unfold50 hg (ty := ty) (fr := fr) O m hok
  have hfl := fun O => fault15 hg (ty := ty) (fr := fr) O m hok
  obtain ⟨F, hF, _⟩ := made_search hm
  have hfr : ∃ l kd, faultR m = (l, decide (F.kind ≠ 0), kd, 0) := by
    unfold faultR
    rw [if_neg (by rw [made_chk hm]; simp), hF]
    simp only
    by_cases h : F.kind = 0
    · rw [if_pos h]; exact ⟨[], 0, by simp [h]⟩
    · rw [if_neg h]; exact ⟨(back F.frm 5000 F.flt).reverse, F.kind, by simp [h]⟩
  obtain ⟨fl, fk, hfr⟩ := hfr
  rw [hfr] at hfl
  simp only at hfl
  rcases fault_same hm hF with ⟨e, he, hkd⟩ | ⟨V, hV, hkd⟩
  · rw [he] at hun
    rw [decide_eq_true hkd] at hfl
    have he0 : e ≠ 0 := by
      rcases unf_made hm with ⟨e', he', h0, _⟩ | ⟨V, hV, _⟩
      · rw [he] at he'
        cases he'
        exact h0
      · rw [he] at hV
        cases hV
    refine aspecT_stop [] Tk Tryd.func14 rfl Tryd.call14 Tryd.ntmps14 (Nat.le_of_ble_eq_true rfl) fun E hE => ?_
    refine g_run Tk Tryd.func14 ?_
    refine g_callT Tk Tryd.func14 hE (hkn _) rfl rfl rfl rfl rfl rfl ?_
    repeat (first | refine g_cnd Tk Tryd.func14 rfl (fun _ => ?_) (fun h => absurd h (by decide)) | refine g_know Tk Tryd.func14 rfl (fun _ => ?_) (fun h => absurd h (by decide)) | refine s_know Tk (fun _ => ?_) (fun h => absurd h (by decide)) | refine g_cnd Tk Tryd.func14 rfl (fun h => absurd h (by decide)) (fun _ => ?_) | refine g_know Tk Tryd.func14 rfl (fun h => absurd h (by decide)) (fun _ => ?_) | refine s_know Tk (fun h => absurd h (by decide)) (fun _ => ?_) | refine g_cnd Tk Tryd.func14 rfl (fun _ => ?_) (fun h => absurd (show true = false from h) (by decide)) | refine g_know Tk Tryd.func14 rfl (fun _ => ?_) (fun h => absurd (show true = false from h) (by decide)) | refine s_know Tk (fun _ => ?_) (fun h => absurd (show true = false from h) (by decide)) | refine g_cnd Tk Tryd.func14 rfl (fun h => absurd (show false = true from h) (by decide)) (fun _ => ?_) | refine g_know Tk Tryd.func14 rfl (fun h => absurd (show false = true from h) (by decide)) (fun _ => ?_) | refine s_know Tk (fun h => absurd (show false = true from h) (by decide)) (fun _ => ?_))
    first | refine g_cnd Tk Tryd.func14 rfl (fun g1 => ?_) (fun g1 => ?_) | refine g_know Tk Tryd.func14 rfl (fun g1 => ?_) (fun g1 => ?_) | refine s_know Tk (fun g1 => ?_) (fun g1 => ?_)
    · have g1 : ((w.length : Nat) : Int) > 8 := of_decide_eq_true g1
      omega
    first | refine g_call Tk Tryd.func14 (hmk _) rfl rfl rfl rfl rfl ?_ | refine s_callq Tk (fun _ => hmk _) rfl rfl rfl ?_
    refine g_callT Tk Tryd.func14 hE (hun _) rfl rfl rfl rfl rfl rfl ?_
    refine g_callT Tk Tryd.func14 hE (hfl _) rfl rfl rfl rfl rfl rfl ?_
    repeat (first | refine g_cnd Tk Tryd.func14 rfl (fun _ => ?_) (fun h => absurd h (by decide)) | refine g_know Tk Tryd.func14 rfl (fun _ => ?_) (fun h => absurd h (by decide)) | refine s_know Tk (fun _ => ?_) (fun h => absurd h (by decide)) | refine g_cnd Tk Tryd.func14 rfl (fun h => absurd h (by decide)) (fun _ => ?_) | refine g_know Tk Tryd.func14 rfl (fun h => absurd h (by decide)) (fun _ => ?_) | refine s_know Tk (fun h => absurd h (by decide)) (fun _ => ?_) | refine g_cnd Tk Tryd.func14 rfl (fun _ => ?_) (fun h => absurd (show true = false from h) (by decide)) | refine g_know Tk Tryd.func14 rfl (fun _ => ?_) (fun h => absurd (show true = false from h) (by decide)) | refine s_know Tk (fun _ => ?_) (fun h => absurd (show true = false from h) (by decide)) | refine g_cnd Tk Tryd.func14 rfl (fun h => absurd (show false = true from h) (by decide)) (fun _ => ?_) | refine g_know Tk Tryd.func14 rfl (fun h => absurd (show false = true from h) (by decide)) (fun _ => ?_) | refine s_know Tk (fun h => absurd (show false = true from h) (by decide)) (fun _ => ?_))
    first | refine g_cnd Tk Tryd.func14 rfl (fun g2 => ?_) (fun g2 => ?_) | refine g_know Tk Tryd.func14 rfl (fun g2 => ?_) (fun g2 => ?_) | refine s_know Tk (fun g2 => ?_) (fun g2 => ?_)
    · simp [he0] at g2
    first | refine g_cnd Tk Tryd.func14 rfl (fun g3 => ?_) (fun g3 => ?_) | refine g_know Tk Tryd.func14 rfl (fun g3 => ?_) (fun g3 => ?_) | refine s_know Tk (fun g3 => ?_) (fun g3 => ?_)
    rotate_left
    · exact absurd (bneF g3) he0
    refine g_ret Tk (r := bb true) rfl rfl rfl trivial rfl rfl ?_
    rfl
  have hA : UAt (mkdM m) m.alpha (okS m) (stpR m) V.sts.length V := by
    rcases unf_made hm with ⟨e', he', _⟩ | ⟨V', hV', hA⟩
    · rw [hV] at he'; cases he'
    · rw [hV] at hV'
      cases hV'
      exact hA
  rw [hV] at hun
  rw [decide_eq_false (by simp [hkd])] at hfl
  have h64 : V.sts.length ≤ 64 := few_states hm hA.ok hA.nd
  have h3 : m.alpha.length = 3 := by rw [hm.al]; rfl
  obtain ⟨hl1, hl2⟩ := unf_len hA (by omega)
  have haut : autOk (autU m.alpha V) := ⟨by show V.eds.length ≤ _; omega, by show m.alpha.length ≤ _; omega, by show V.mkl.length ≤ _; omega, unf_chk hr hA h64⟩
  have hW : (word3 w).length = w.length := by simp [word3]
  have hWa : ∀ x ∈ word3 w, x ∈ m.alpha := by
    intro x hx
    simp only [word3, List.mem_map] at hx
    obtain ⟨b, hbm, rfl⟩ := hx
    have := hb b hbm
    rw [hm.al]
    simp only [List.mem_cons, List.mem_nil_iff, or_false]
    omega
  obtain ⟨q, s, j, hq, hfol, hrun⟩ := fol_run hm hA (word3 w) (startR m) 0 0 (unf_first hm hV) hWa
  obtain ⟨hql, hqs⟩ := List.getElem?_eq_some_iff.1 hq
  have hoks : okS m s := hA.ok s (hqs ▸ List.getElem_mem hql)
  have hra := fun O => runA65 O (autU m.alpha V) 0 (word3 w) haut ⟨Int.le_refl _, by show (0 : Int) < (V.sts.length : Int); omega⟩ (by simp only [max63]; omega) hWa
  have hfol : folL (autU m.alpha V).edges (word3 w) 0 0 = ((q : Int), j) := hfol
  rw [hfol] at hra
  have hrR : runR m (word3 w) = (s, j, 0) := by
    unfold runR
    rw [if_neg (by rw [made_chk hm]; simp), if_neg]
    · exact hrun
    · rw [Bool.not_eq_true, List.any_eq_false]
      intro x hx
      simp [hWa x hx]
  have hrr := fun O => run21 O m (word3 w) hok (by simp only [max63]; omega)
  rw [hrR] at hrr
  have hmr := fun O => marked30 O m s hok
  have hmR : markR m s = (decide (s.loc ∈ m.marked), 0) := by
    unfold markR
    rw [if_neg (by rw [okS_ck hm hoks]; simp)]
  rw [hmR] at hmr
  have hhs := fun O => has68 O V.mkl (q : Int) (by simp only [max63]; omega)
  rw [mem_mkl hA hq] at hhs
  have heq := fun O => equalStates32 O s s (by have := (okS_bounds hr hoks).2.2.1; simp only [max63]; omega)
  rw [decide_eq_true rfl] at heq
  have gq : (V.sts.map staI)[((q : Nat) : Int).toNat]? = some (staI s) := by
    rw [List.getElem?_map, show ((q : Nat) : Int).toNat = q by omega, hq]
    rfl
  clear hA hV hrR hmR hfol hrun haut hqs hq hl1 hoks
  obtain ⟨sts, mkl, eds⟩ := V
  simp only at hql gq hhs h64
  generalize decide (s.loc ∈ m.marked) = B at *
  obtain ⟨sl, sv⟩ := s
  have hun : ∀ O, ASpecT g (ptab ty fr) Tryd.prog 50 [extD m] O (.tup [.agg [ints m.alpha, ii (sts.length : Nat), ints mkl, edgs eds], stasD sts, ii 0]) [] O := hun
  have hra : ∀ O, ASpec Tryd.prog 65 [.agg [ints m.alpha, ii (sts.length : Nat), ints mkl, edgs eds], ii 0, ints (word3 w)] O (.tup [ii (q : Nat), ii j, ii 0]) [] O := hra
  refine aspecT_stop [15] Tk Tryd.func14 rfl Tryd.call14 Tryd.ntmps14 (Nat.le_of_ble_eq_true rfl) fun E hE => ?_
  refine g_run Tk Tryd.func14 ?_
  refine g_callT Tk Tryd.func14 hE (hkn _) rfl rfl rfl rfl rfl rfl ?_
  repeat (first | refine g_cnd Tk Tryd.func14 rfl (fun _ => ?_) (fun h => absurd h (by decide)) | refine g_know Tk Tryd.func14 rfl (fun _ => ?_) (fun h => absurd h (by decide)) | refine s_know Tk (fun _ => ?_) (fun h => absurd h (by decide)) | refine g_cnd Tk Tryd.func14 rfl (fun h => absurd h (by decide)) (fun _ => ?_) | refine g_know Tk Tryd.func14 rfl (fun h => absurd h (by decide)) (fun _ => ?_) | refine s_know Tk (fun h => absurd h (by decide)) (fun _ => ?_) | refine g_cnd Tk Tryd.func14 rfl (fun _ => ?_) (fun h => absurd (show true = false from h) (by decide)) | refine g_know Tk Tryd.func14 rfl (fun _ => ?_) (fun h => absurd (show true = false from h) (by decide)) | refine s_know Tk (fun _ => ?_) (fun h => absurd (show true = false from h) (by decide)) | refine g_cnd Tk Tryd.func14 rfl (fun h => absurd (show false = true from h) (by decide)) (fun _ => ?_) | refine g_know Tk Tryd.func14 rfl (fun h => absurd (show false = true from h) (by decide)) (fun _ => ?_) | refine s_know Tk (fun h => absurd (show false = true from h) (by decide)) (fun _ => ?_))
  first | refine g_cnd Tk Tryd.func14 rfl (fun g1 => ?_) (fun g1 => ?_) | refine g_know Tk Tryd.func14 rfl (fun g1 => ?_) (fun g1 => ?_) | refine s_know Tk (fun g1 => ?_) (fun g1 => ?_)
  · have g1 : ((w.length : Nat) : Int) > 8 := of_decide_eq_true g1
    omega
  first | refine g_call Tk Tryd.func14 (hmk _) rfl rfl rfl rfl rfl ?_ | refine s_callq Tk (fun _ => hmk _) rfl rfl rfl ?_
  refine g_callT Tk Tryd.func14 hE (hun _) rfl rfl rfl rfl rfl rfl ?_
  refine g_callT Tk Tryd.func14 hE (hfl _) rfl rfl rfl rfl rfl rfl ?_
  repeat (first | refine g_cnd Tk Tryd.func14 rfl (fun _ => ?_) (fun h => absurd h (by decide)) | refine g_know Tk Tryd.func14 rfl (fun _ => ?_) (fun h => absurd h (by decide)) | refine s_know Tk (fun _ => ?_) (fun h => absurd h (by decide)) | refine g_cnd Tk Tryd.func14 rfl (fun h => absurd h (by decide)) (fun _ => ?_) | refine g_know Tk Tryd.func14 rfl (fun h => absurd h (by decide)) (fun _ => ?_) | refine s_know Tk (fun h => absurd h (by decide)) (fun _ => ?_) | refine g_cnd Tk Tryd.func14 rfl (fun _ => ?_) (fun h => absurd (show true = false from h) (by decide)) | refine g_know Tk Tryd.func14 rfl (fun _ => ?_) (fun h => absurd (show true = false from h) (by decide)) | refine s_know Tk (fun _ => ?_) (fun h => absurd (show true = false from h) (by decide)) | refine g_cnd Tk Tryd.func14 rfl (fun h => absurd (show false = true from h) (by decide)) (fun _ => ?_) | refine g_know Tk Tryd.func14 rfl (fun h => absurd (show false = true from h) (by decide)) (fun _ => ?_) | refine s_know Tk (fun h => absurd (show false = true from h) (by decide)) (fun _ => ?_))
  refine g_loop ?_
  refine rch_wk (wk_nil 13 70 3 1 rfl rfl rfl) ?_
  refine rch_loop2 (fun i : Nat => [(1, byts w), (5, .own 0 5 0 0), (6, .own 0 6 0 0), (7, stasD sts), (13, .osl 0 70), (14, ii i)]) (fun i => [(5, .box (extC m)), (6, .box [ints m.alpha, ii (sts.length : Nat), ints mkl, edgs eds]), (70, oints ((word3 w).take i))]) (fun _ => O) 127
    (fun i => i ≤ w.length) (fun i => w.length - i) 0 (Nat.zero_le _) ⟨rfl, rfl, rfl, rfl, rfl, rfl, trivial⟩ rfl ⟨rfl, rfl, rfl, trivial⟩ rfl rfl ?_
  intro i hi ih
  refine g_run Tk Tryd.func14 ?_
  first | refine g_cnd Tk Tryd.func14 rfl (fun g2 => ?_) (fun g2 => ?_) | refine g_know Tk Tryd.func14 rfl (fun g2 => ?_) (fun g2 => ?_) | refine s_know Tk (fun g2 => ?_) (fun g2 => ?_)
  · have h1 : i < w.length := by simpa using g2
    have gw : (w.map u8I)[(i : Int).toNat]? = some (u8I w[i]) := get_mapZ h1
    have hbi := hb _ (List.getElem_mem h1)
    have htk := word3_take h1
    have hlt : ((word3 w).take i).length ≤ 8 := by rw [List.length_take]; omega
    generalize w[i] = b at *
    have hbw : IntKind.i64.wrap (b.tmod 3) = b % 3 := by
      rw [Int.tmod_eq_emod_of_nonneg hbi.1, w64 (by omega) (by omega)]
    first | refine g_need Tk Tryd.func14 (by exact ⟨by omega, by show (i : Int) < (w.length : Int); omega⟩) ?_ | refine s_need Tk (by exact ⟨by omega, by show (i : Int) < (w.length : Int); omega⟩) ?_
    first | refine g_elem Tk Tryd.func14 (gw) ?_ | refine s_elem Tk (gw) ?_
    first | refine g_need Tk Tryd.func14 (by decide) ?_ | refine s_need Tk (by decide) ?_
    first | refine g_need Tk Tryd.func14 (by exact ⟨by show (((word3 w).take i).length + 1) * 8 ≤ 140737488355328; omega, by show ((word3 w).take i).length + 1 ≤ 9223372036854775807; omega⟩) ?_ | refine s_need Tk (by exact ⟨by show (((word3 w).take i).length + 1) * 8 ≤ 140737488355328; omega, by show ((word3 w).take i).length + 1 ≤ 9223372036854775807; omega⟩) ?_
    refine g_loop ?_
    refine ih (i + 1) _ _ h1 (by omega) ⟨rfl, rfl, rfl, rfl, rfl, congrArg ii (wsucc (n := 4096) (by omega) (by decide)), trivial⟩ rfl ⟨rfl, rfl, ?_, trivial⟩ rfl rfl
    rw [htk, ← hbw]
    exact congrArg some (oints_app ((word3 w).take i) (IntKind.i64.wrap (b.tmod 3)))
  have h1 : w.length ≤ i := by simpa using g2
  rw [List.take_of_length_le (by omega)]
  clear ih g2
  refine g_stop ?_
  refine rch_wk (wk_freeze 70 rfl rfl) ?_
  refine g_run Tk Tryd.func14 ?_
  refine g_go Tk Tryd.func14 ?_
  first | refine g_call Tk Tryd.func14 (hrr _) rfl rfl rfl rfl rfl ?_ | refine s_callq Tk (fun _ => hrr _) rfl rfl rfl ?_
  first | refine g_call Tk Tryd.func14 (hra _) rfl rfl rfl rfl rfl ?_ | refine s_callq Tk (fun _ => hra _) rfl rfl rfl ?_
  refine g_drawn Tk Tryd.func14 mixedT rfl ?_
  repeat (first | refine g_cnd Tk Tryd.func14 rfl (fun _ => ?_) (fun h => absurd h (by decide)) | refine g_know Tk Tryd.func14 rfl (fun _ => ?_) (fun h => absurd h (by decide)) | refine s_know Tk (fun _ => ?_) (fun h => absurd h (by decide)) | refine g_cnd Tk Tryd.func14 rfl (fun h => absurd h (by decide)) (fun _ => ?_) | refine g_know Tk Tryd.func14 rfl (fun h => absurd h (by decide)) (fun _ => ?_) | refine s_know Tk (fun h => absurd h (by decide)) (fun _ => ?_) | refine g_cnd Tk Tryd.func14 rfl (fun _ => ?_) (fun h => absurd (show true = false from h) (by decide)) | refine g_know Tk Tryd.func14 rfl (fun _ => ?_) (fun h => absurd (show true = false from h) (by decide)) | refine s_know Tk (fun _ => ?_) (fun h => absurd (show true = false from h) (by decide)) | refine g_cnd Tk Tryd.func14 rfl (fun h => absurd (show false = true from h) (by decide)) (fun _ => ?_) | refine g_know Tk Tryd.func14 rfl (fun h => absurd (show false = true from h) (by decide)) (fun _ => ?_) | refine s_know Tk (fun h => absurd (show false = true from h) (by decide)) (fun _ => ?_))
  first | refine g_cnd Tk Tryd.func14 rfl (fun c1 => ?_) (fun c1 => ?_) | refine g_know Tk Tryd.func14 rfl (fun c1 => ?_) (fun c1 => ?_) | refine s_know Tk (fun c1 => ?_) (fun c1 => ?_)
  · exact absurd rfl (bneT c1)
  first | refine g_cnd Tk Tryd.func14 rfl (fun c2 => ?_) (fun c2 => ?_) | refine g_know Tk Tryd.func14 rfl (fun c2 => ?_) (fun c2 => ?_) | refine s_know Tk (fun c2 => ?_) (fun c2 => ?_)
  · have c2 : ((q : Nat) : Int) ≥ ((sts.length : Nat) : Int) := of_decide_eq_true c2
    omega
  first | refine g_need Tk Tryd.func14 (by exact ⟨by omega, by show ((q : Nat) : Int) < (sts.length : Int); omega⟩) ?_ | refine s_need Tk (by exact ⟨by omega, by show ((q : Nat) : Int) < (sts.length : Int); omega⟩) ?_
  first | refine g_elem Tk Tryd.func14 (gq) ?_ | refine s_elem Tk (gq) ?_
  first | refine g_call Tk Tryd.func14 (heq _) rfl rfl rfl rfl rfl ?_ | refine s_callq Tk (fun _ => heq _) rfl rfl rfl ?_
  refine e_done Tk Tryd.func14 (by kernel_rfl) ?_
  repeat (first | refine g_cnd Tk Tryd.func14 rfl (fun _ => ?_) (fun h => absurd h (by decide)) | refine g_know Tk Tryd.func14 rfl (fun _ => ?_) (fun h => absurd h (by decide)) | refine s_know Tk (fun _ => ?_) (fun h => absurd h (by decide)) | refine g_cnd Tk Tryd.func14 rfl (fun h => absurd h (by decide)) (fun _ => ?_) | refine g_know Tk Tryd.func14 rfl (fun h => absurd h (by decide)) (fun _ => ?_) | refine s_know Tk (fun h => absurd h (by decide)) (fun _ => ?_) | refine g_cnd Tk Tryd.func14 rfl (fun _ => ?_) (fun h => absurd (show true = false from h) (by decide)) | refine g_know Tk Tryd.func14 rfl (fun _ => ?_) (fun h => absurd (show true = false from h) (by decide)) | refine s_know Tk (fun _ => ?_) (fun h => absurd (show true = false from h) (by decide)) | refine g_cnd Tk Tryd.func14 rfl (fun h => absurd (show false = true from h) (by decide)) (fun _ => ?_) | refine g_know Tk Tryd.func14 rfl (fun h => absurd (show false = true from h) (by decide)) (fun _ => ?_) | refine s_know Tk (fun h => absurd (show false = true from h) (by decide)) (fun _ => ?_))
  first | refine g_call Tk Tryd.func14 (hmr _) rfl rfl rfl rfl rfl ?_ | refine s_callq Tk (fun _ => hmr _) rfl rfl rfl ?_
  repeat (first | refine g_cnd Tk Tryd.func14 rfl (fun _ => ?_) (fun h => absurd h (by decide)) | refine g_know Tk Tryd.func14 rfl (fun _ => ?_) (fun h => absurd h (by decide)) | refine s_know Tk (fun _ => ?_) (fun h => absurd h (by decide)) | refine g_cnd Tk Tryd.func14 rfl (fun h => absurd h (by decide)) (fun _ => ?_) | refine g_know Tk Tryd.func14 rfl (fun h => absurd h (by decide)) (fun _ => ?_) | refine s_know Tk (fun h => absurd h (by decide)) (fun _ => ?_) | refine g_cnd Tk Tryd.func14 rfl (fun _ => ?_) (fun h => absurd (show true = false from h) (by decide)) | refine g_know Tk Tryd.func14 rfl (fun _ => ?_) (fun h => absurd (show true = false from h) (by decide)) | refine s_know Tk (fun _ => ?_) (fun h => absurd (show true = false from h) (by decide)) | refine g_cnd Tk Tryd.func14 rfl (fun h => absurd (show false = true from h) (by decide)) (fun _ => ?_) | refine g_know Tk Tryd.func14 rfl (fun h => absurd (show false = true from h) (by decide)) (fun _ => ?_) | refine s_know Tk (fun h => absurd (show false = true from h) (by decide)) (fun _ => ?_))
  first | refine g_call Tk Tryd.func14 (hhs _) rfl rfl rfl rfl rfl ?_ | refine s_callq Tk (fun _ => hhs _) rfl rfl rfl ?_
  refine g_ret Tk (r := bb (B == B)) rfl rfl rfl trivial rfl rfl ?_
  simp
end Go.AI
