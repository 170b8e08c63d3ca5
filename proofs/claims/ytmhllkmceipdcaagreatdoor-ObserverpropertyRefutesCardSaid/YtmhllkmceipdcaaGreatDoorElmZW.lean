/- The layer of abstract runs, part 49. -/
import Derived.Test.YtmhllkmceipdcaaGreatDoorElmZV
set_option linter.unusedSimpArgs false
set_option linter.unusedVariables false
set_option linter.all false

/- The law's own enabled, contradicted. -/
namespace Go.AI
open Go.Proofs
set_option maxRecDepth 20000
def enbR (es : List Edg) (l : List Int) (ev : Int) : Bool := l.any fun s => decide (stp3 es s ev ≥ 0)
set_option maxHeartbeats 4000000 in
theorem enabled75 (O : List Heap) (a : Aut) (l : List Int) (ev : Int) (hed : a.edges.length ≤ max63) (hl : l.length ≤ max63) :
    ASpec Tryz.prog 75 [autD a, ints l, ii ev] O (bb (enbR a.edges l ev)) [] O := by
  have h1 := fun O s => step121 O a s ev hed
  unfold enbR
  generalize hK : (l.any fun s => decide (stp3 a.edges s ev ≥ 0)) = KK
  refine aspec_intro Tk Tryz.func75 rfl Tryz.call75 Tryz.ntmps75 (Nat.le_of_ble_eq_true rfl) fun E => ?_
  refine g_run Tk Tryz.func75 ?_
  refine g_loop ?_
  refine rch_loop2 (fun i : Nat => [(1, ints l), (2, ii ev), (3, .own 0 3 0 0), (7, ii i)]) (fun _ => [(3, .box (autC a))]) (fun _ => O) 22
    (fun i => i ≤ l.length ∧ (l.drop i).any (fun s => decide (stp3 a.edges s ev ≥ 0)) = KK) (fun i => l.length - i) 0 ⟨Nat.zero_le _, by simpa using hK⟩ ⟨rfl, rfl, rfl, rfl, trivial⟩ rfl ⟨rfl, trivial⟩ rfl rfl ?_
  clear hK
  rintro i ⟨hi, hno⟩ ih
  have hj1 : i < l.length → ii (IntKind.i64.wrap ((i : Int) + 1)) = ii ((i + 1 : Nat) : Int) := fun h => congrArg ii (wsucc h hl)
  refine g_run Tk Tryz.func75 ?_
  first | refine g_cnd Tk Tryz.func75 rfl (fun g2 => ?_) (fun g2 => ?_) | refine g_know Tk Tryz.func75 rfl (fun g2 => ?_) (fun g2 => ?_) | refine s_know Tk (fun g2 => ?_) (fun g2 => ?_)
  · have h3 : i < l.length := by simpa using g2
    have ga : (l.map fun x => [vi x])[(i : Int).toNat]? = some [vi l[i]] := get_mapZ h3
    rw [List.drop_eq_getElem_cons h3, List.any_cons] at hno
    generalize l[i] = x at *
    have h1' := fun O => h1 O x
    generalize stp3 a.edges x ev = u at *
    refine g_drawn Tk Tryz.func75 mixedT rfl ?_
    first | refine g_need Tk Tryz.func75 (by exact ⟨by omega, by show (i : Int) < (l.length : Int); omega⟩) ?_ | refine s_need Tk (by exact ⟨by omega, by show (i : Int) < (l.length : Int); omega⟩) ?_
    first | refine g_elem Tk Tryz.func75 (ga) ?_ | refine s_elem Tk (ga) ?_
    first | refine g_call Tk Tryz.func75 (h1' _) rfl rfl rfl rfl rfl ?_ | refine s_callq Tk (fun _ => h1' _) rfl rfl rfl ?_
    refine e_done Tk Tryz.func75 (by kernel_rfl) ?_
    first | refine g_cnd Tk Tryz.func75 rfl (fun g3 => ?_) (fun g3 => ?_) | refine g_know Tk Tryz.func75 rfl (fun g3 => ?_) (fun g3 => ?_) | refine s_know Tk (fun g3 => ?_) (fun g3 => ?_)
    · have g3 : decide (u ≥ 0) = true := g3
      rw [g3] at hno
      subst hno
      refine g_ret Tk (r := bb true) rfl rfl rfl trivial rfl rfl ?_
      rfl
    · have g3 : decide (u ≥ 0) = false := g3
      rw [g3, Bool.false_or] at hno
      refine g_loop ?_
      exact ih (i + 1) _ _ ⟨h3, hno⟩ (by omega) ⟨rfl, rfl, rfl, hj1 h3, trivial⟩ rfl ⟨rfl, trivial⟩ rfl rfl
  · have h3 : l.length ≤ i := by simpa using g2
    rw [List.drop_eq_nil_of_le h3] at hno
    have hno : false = KK := hno
    subst hno
    refine g_ret Tk (r := bb false) rfl rfl rfl trivial rfl rfl ?_
    rfl
theorem lowT_free {a : Aut} {n : Nat} (h : gAut a n) (on un l : List Int) : clo a.edges (fun x => decide (x ∈ (erasR a on).filter fun x => decide (x ∈ un))) n l = clo a.edges (lowP on un true) n l :=
  clo_congr h.to (fun e he => by
    have h1 := h.ev e he
    show decide (e.2.1 ∈ (a.alpha.filter fun x => !decide (x ∈ on)).filter fun x => decide (x ∈ un)) = (!decide (e.2.1 ∈ on) && (!true || _))
    simp [List.mem_filter, h1, Bool.and_comm]) fun _ => Iff.rfl
def ctrR (a : Aut) (on un : List Int) (n : Nat) (s ev : Int) : Bool := enbR a.edges (clo a.edges (lowP on [] false) n [s]) ev && !enbR a.edges (clo a.edges (lowP on un true) n [s]) ev
set_option maxHeartbeats 4000000 in
theorem contradicted35 (O : List Heap) (a : Aut) (on un : List Int) (s ev : Int) (n : Nat) (h : gAut a n) (hn : n ≤ 4096) (hon : on.length ≤ max63) (hun : un.length ≤ max63) :
    ASpec Tryz.prog 35 [autD a, ints on, ints un, ii s, ii ev] O (bb (ctrR a on un n s ev)) [] O := by
  have hal := h.sm.al
  have hel : (erasR a on).length ≤ 1000000 := Nat.le_trans (List.length_filter_le _ _) hal
  have h1 : ∀ O, ASpec Tryz.prog 74 [autD a, ints on] O (ints (erasR a on)) [] O := fun O => erased74 O a on hal hon
  have h2 := fun O ev hev => reach20 O a [s] ev n h.st hn h.sm.ed h.to (by simp) hev
  have h3 := fun O => h2 O (erasR a on) (by simp only [max63]; omega)
  have h4 := fun O => h2 O ((erasR a on).filter fun x => decide (x ∈ un)) (Nat.le_trans (List.length_filter_le _ _) (by simp only [max63]; omega))
  rw [erasR_low h on []] at h3
  rw [lowT_free h on un] at h4
  have h5 := fun O l hl => enabled75 O a l ev (by have := h.sm.ed; simp only [max63]; omega) hl
  have hc1 := clo_len a.edges (lowP on [] false) n [s]
  have hc2 := clo_len a.edges (lowP on un true) n [s]
  unfold ctrR
  generalize clo a.edges (lowP on [] false) n [s] = C1 at *
  generalize clo a.edges (lowP on un true) n [s] = C2 at *
  have h6 := fun O => h5 O C1 (by simp only [max63]; omega)
  have h7 := fun O => h5 O C2 (by simp only [max63]; omega)
  clear h2 h5
  generalize enbR a.edges C1 ev = b1 at *
  generalize enbR a.edges C2 ev = b2 at *
  generalize erasR a on = er at *
  generalize hK : (er.filter fun x => decide (x ∈ un)) = KK at *
  clear h
  obtain ⟨al, st, mk, es⟩ := a
  refine aspec_stop [8] Tk Tryz.func35 rfl Tryz.call35 Tryz.ntmps35 (Nat.le_of_ble_eq_true rfl) fun E => ?_
  refine g_run Tk Tryz.func35 ?_
  first | refine g_call Tk Tryz.func35 (h1 _) rfl rfl rfl rfl rfl ?_ | refine s_callq Tk (fun _ => h1 _) rfl rfl rfl ?_
  refine g_loop ?_
  refine rch_wk (wk_nil 12 35 3 1 rfl rfl rfl) ?_
  refine rch_loop2 (fun x : Nat × List Int => [(1, ints on), (2, ints un), (3, ii s), (4, ii ev), (5, .own 0 5 0 0), (11, ints er), (12, .osl 0 35), (13, ii x.1)]) (fun x => [(5, .box [ints al, ii st, ints mk, edgs es]), (35, oints x.2)]) (fun _ => O) 55
    (fun x => x.1 ≤ er.length ∧ x.2.length ≤ x.1 ∧ x.2 ++ (er.drop x.1).filter (fun x => decide (x ∈ un)) = KK) (fun x => er.length - x.1) (0, []) ⟨Nat.zero_le _, Nat.le_refl _, by simpa using hK⟩ ⟨rfl, rfl, rfl, rfl, rfl, rfl, rfl, rfl, trivial⟩ rfl ⟨rfl, rfl, trivial⟩ rfl rfl ?_
  rintro ⟨i, kp⟩ ⟨hi, hkl, hno⟩ ih
  simp only at hi hkl hno
  have hj1 : ii (IntKind.i64.wrap ((i : Int) + 1)) = ii ((i + 1 : Nat) : Int) := congrArg ii (wsucc (n := 1000001) (by omega) (by decide))
  refine g_run Tk Tryz.func35 ?_
  first | refine g_cnd Tk Tryz.func35 rfl (fun g2 => ?_) (fun g2 => ?_) | refine g_know Tk Tryz.func35 rfl (fun g2 => ?_) (fun g2 => ?_) | refine s_know Tk (fun g2 => ?_) (fun g2 => ?_)
  · have h3 : i < er.length := by simpa using g2
    have ga : (er.map fun x => [vi x])[(i : Int).toNat]? = some [vi er[i]] := get_mapZ h3
    rw [List.drop_eq_getElem_cons h3, List.filter_cons] at hno
    generalize er[i] = x at *
    first | refine g_need Tk Tryz.func35 (by exact ⟨by omega, by show (i : Int) < (er.length : Int); omega⟩) ?_ | refine s_need Tk (by exact ⟨by omega, by show (i : Int) < (er.length : Int); omega⟩) ?_
    first | refine g_elem Tk Tryz.func35 (ga) ?_ | refine s_elem Tk (ga) ?_
    first | refine g_call Tk Tryz.func35 (has30 _ un x hun) rfl rfl rfl rfl rfl ?_ | refine s_callq Tk (fun _ => has30 _ un x hun) rfl rfl rfl ?_
    first | refine g_cnd Tk Tryz.func35 rfl (fun g3 => ?_) (fun g3 => ?_) | refine g_know Tk Tryz.func35 rfl (fun g3 => ?_) (fun g3 => ?_) | refine s_know Tk (fun g3 => ?_) (fun g3 => ?_)
    · have g3 : (decide (x ∈ un)) = true := g3
      rw [if_pos g3] at hno
      first | refine g_need Tk Tryz.func35 (by exact ⟨by omega, by show (i : Int) < (er.length : Int); omega⟩) ?_ | refine s_need Tk (by exact ⟨by omega, by show (i : Int) < (er.length : Int); omega⟩) ?_
      first | refine g_elem Tk Tryz.func35 (ga) ?_ | refine s_elem Tk (ga) ?_
      first | refine g_need Tk Tryz.func35 (by exact ⟨by show (kp.length + 1) * 8 ≤ 140737488355328; omega, by show kp.length + 1 ≤ 9223372036854775807; omega⟩) ?_ | refine s_need Tk (by exact ⟨by show (kp.length + 1) * 8 ≤ 140737488355328; omega, by show kp.length + 1 ≤ 9223372036854775807; omega⟩) ?_
      refine g_loop ?_
      refine ih (i + 1, kp ++ [x]) _ _ ⟨h3, by simp; omega, by simpa using hno⟩ (by simp only; omega) ⟨rfl, rfl, rfl, rfl, rfl, rfl, rfl, hj1, trivial⟩ rfl ⟨rfl, congrArg some (oints_app kp x), trivial⟩ rfl rfl
    · have g3 : (decide (x ∈ un)) = false := g3
      rw [if_neg (by rw [g3]; decide)] at hno
      refine g_loop ?_
      exact ih (i + 1, kp) _ _ ⟨h3, by simp only; omega, hno⟩ (by simp only; omega) ⟨rfl, rfl, rfl, rfl, rfl, rfl, rfl, hj1, trivial⟩ rfl ⟨rfl, rfl, trivial⟩ rfl rfl
  · have h3' : er.length ≤ i := by simpa using g2
    rw [List.drop_eq_nil_of_le h3'] at hno
    simp only [List.filter_nil, List.append_nil] at hno
    subst hno
    refine g_stop ?_
    refine rch_wk (wk_freeze 35 rfl rfl) ?_
    refine g_run Tk Tryz.func35 ?_
    refine g_go Tk Tryz.func35 ?_
    refine g_drawn Tk Tryz.func35 mixedT rfl ?_
    first | refine g_call Tk Tryz.func35 (h3 _) rfl rfl rfl rfl rfl ?_ | refine s_callq Tk (fun _ => h3 _) rfl rfl rfl ?_
    first | refine g_call Tk Tryz.func35 (h6 _) rfl rfl rfl rfl rfl ?_ | refine s_callq Tk (fun _ => h6 _) rfl rfl rfl ?_
    first | refine g_cnd Tk Tryz.func35 rfl (fun c1 => ?_) (fun c1 => ?_) | refine g_know Tk Tryz.func35 rfl (fun c1 => ?_) (fun c1 => ?_) | refine s_know Tk (fun c1 => ?_) (fun c1 => ?_)
    · have c1 : b1 = true := c1
      subst c1
      first | refine g_call Tk Tryz.func35 (h4 _) rfl rfl rfl rfl rfl ?_ | refine s_callq Tk (fun _ => h4 _) rfl rfl rfl ?_
      first | refine g_call Tk Tryz.func35 (h7 _) rfl rfl rfl rfl rfl ?_ | refine s_callq Tk (fun _ => h7 _) rfl rfl rfl ?_
      refine e_done Tk Tryz.func35 (by kernel_rfl) ?_
      refine g_ret Tk (r := bb (!b2)) rfl rfl rfl trivial rfl rfl ?_
      rfl
    · have c1 : b1 = false := c1
      subst c1
      refine e_done Tk Tryz.func35 (by kernel_rfl) ?_
      refine g_ret Tk (r := bb false) rfl rfl rfl trivial rfl rfl ?_
      rfl
end Go.AI


/- The law's own missing. -/
namespace Go.AI
open Go.Proofs
set_option maxRecDepth 20000
def okX (y : PS) : Bool := decide (y.1.length > 0)
end Go.AI


/- The law's own pairs. -/
namespace Go.AI
open Go.Proofs
set_option maxRecDepth 20000
section
variable {S : Type} [DecidableEq S]
end
end Go.AI


/- Plain: the search and its list; searches that are images of one another. -/
namespace Go.AI
section
variable {S : Type} [DecidableEq S]
end
section
variable {S : Type} [DecidableEq S]
end
/- Images. -/
section
variable {S T : Type} [DecidableEq S] [DecidableEq T]
end
end Go.AI


/- The law's own observer, consistent, both, extend. -/
namespace Go.AI
open Go.Proofs
set_option maxRecDepth 20000
end Go.AI


/- Plain: sets that pass their check. -/
namespace Go.AI
open Go.Proofs
set_option maxRecDepth 20000
theorem checkSet_aux {n : Int} : ∀ {l : List Int} {y : Int}, checkSet n l (some y) = 0 → y + 1 ≤ n → (l.length : Int) ≤ n - 1 - y
  | [], y, _, h => by simp only [List.length_nil]; omega
  | x :: r, y, h, hy => by
    simp only [checkSet] at h
    by_cases h1 : x < 0 ∨ x ≥ n
    · rw [if_pos h1] at h; exact absurd h (by decide)
    rw [if_neg h1] at h
    by_cases h2 : (some y).any (x ≤ ·) = true
    · rw [if_pos h2] at h; exact absurd h (by decide)
    rw [if_neg h2] at h
    have hxy : y < x := by simpa using h2
    have := checkSet_aux h (by omega)
    simp only [List.length_cons]
    omega
theorem checkSet_len {n : Int} (hn : 0 ≤ n) : ∀ {l : List Int}, checkSet n l none = 0 → (l.length : Int) ≤ n
  | [], _ => by simpa using hn
  | x :: r, h => by
    simp only [checkSet] at h
    by_cases h1 : x < 0 ∨ x ≥ n
    · rw [if_pos h1] at h; exact absurd h (by decide)
    rw [if_neg h1] at h
    have h' : checkSet n r (some x) = 0 := by simpa using h
    have := checkSet_aux h' (by omega)
    simp only [List.length_cons]
    omega
theorem checkSet_of {n : Int} : ∀ {l : List Int} {p : Option Int}, l.Pairwise (· < ·) → (∀ x ∈ l, 0 ≤ x ∧ x < n) → (∀ y, p = some y → ∀ x ∈ l, y < x) → checkSet n l p = 0
  | [], _, _, _, _ => rfl
  | x :: r, p, hs, hr, hp => by
    simp only [checkSet]
    have h1 := hr x (by simp)
    rw [if_neg (by omega), if_neg]
    · rw [List.pairwise_cons] at hs
      refine checkSet_of hs.2 (fun y hy => hr y (by simp [hy])) (fun y e z hz => ?_)
      simp only [Option.some.injEq] at e
      subst e
      exact hs.1 z hz
    · cases p with
      | none => simp
      | some y =>
        have := hp y rfl x (by simp)
        simp only [Option.any_some, decide_eq_true_eq]
        omega
end Go.AI


/- overseerref03.Canonical. -/
namespace Go.AI
open Go.Proofs
set_option maxRecDepth 20000
abbrev zBox : Ob := .box [.i (.v (.slice none 0 0)), ii 0, .i (.v (.slice none 0 0)), .i (.v (.slice none 0 0))]
def cOf (es : List Edg) (F : List Int) (k : Nat) (s ev : Int) : Option Edg := if 0 ≤ stp3 es s ev then some ((k : Int), ev, idxI (stp3 es s ev) F 0) else none
def cMk (F marked : List Int) (i : Nat) : List Int := ((List.range i).filter fun k => match F[k]? with
  | none => false
  | some s => decide (s ∈ marked)).map fun (k : Nat) => (k : Int)
def cEd (es : List Edg) (F al : List Int) (i : Nat) : List Edg := (List.range i).flatMap fun k => match F[k]? with
  | none => []
  | some s => al.filterMap (cOf es F k s)
def canR (a : Aut) (F : List Int) : Aut := ⟨a.alpha, F.length, cMk F a.marked F.length, cEd a.edges F a.alpha F.length⟩
theorem cMk_succ {F marked : List Int} {i : Nat} {s : Int} (h : F[i]? = some s) : cMk F marked (i + 1) = cMk F marked i ++ (if s ∈ marked then [(i : Int)] else []) := by
  unfold cMk
  rw [List.range_succ, List.filter_append, List.map_append]
  congr 1
  simp only [List.filter_cons, List.filter_nil, h]
  by_cases hm : s ∈ marked <;> simp [hm]
theorem cEd_succ {es : List Edg} {F al : List Int} {i : Nat} {s : Int} (h : F[i]? = some s) : cEd es F al (i + 1) = cEd es F al i ++ al.filterMap (cOf es F i s) := by
  unfold cEd
  rw [List.range_succ, List.flatMap_append]
  simp only [List.flatMap_cons, List.flatMap_nil, List.append_nil, h]
theorem flat_lenN {α β : Type} {f : α → List β} {N : Nat} : ∀ {l : List α}, (∀ x ∈ l, (f x).length ≤ N) → (l.flatMap f).length ≤ N * l.length
  | [], _ => by simp
  | x :: r, h => by
    have h1 := h x (by simp)
    have h2 := flat_lenN (l := r) fun y hy => h y (by simp [hy])
    simp only [List.flatMap_cons, List.length_append, List.length_cons, Nat.mul_succ]
    omega
theorem cEd_len {es : List Edg} {F al : List Int} {i : Nat} (h : al.length ≤ 32) : (cEd es F al i).length ≤ 32 * i := by
  unfold cEd
  refine Nat.le_trans (flat_lenN (N := 32) fun k _ => ?_) (by rw [List.length_range]; exact Nat.le_refl _)
  split
  · simp
  · exact Nat.le_trans (List.length_filterMap_le _ _) h
theorem cMk_len {F marked : List Int} {i : Nat} : (cMk F marked i).length ≤ i := by
  unfold cMk
  rw [List.length_map]
  exact Nat.le_trans (List.length_filter_le _ _) (by simp)
set_option maxHeartbeats 4000000 in
theorem canonical58 (O : List Heap) (a : Aut) (ha : autOk a) (h1 : 1 ≤ a.states) (F : List Int) (hF : foundR a = F) (hFl : F.length ≤ 4096) : ASpec Tryz.prog 41 [autD a] O (autD (canR a F)) [] O := by
  obtain ⟨c1, c2, c3, c4⟩ := chk_parts ha.chk
  have hed := ha.ed
  have hmk := ha.mkd
  have hal := checkSet_len (by decide) c1
  have hal : a.alpha.length ≤ 32 := by omega
  have hst := fun O s ev => step121 O a s ev (by simp only [max63]; omega)
  have hfo := fun O => found119 O a ha h1
  rw [hF] at hfo
  have hem := fun O => empty120 O a.alpha (by omega)
  have hho := fun O x => has118 O a.marked x (by simp only [max63]; omega)
  have hix := fun O x => index122 O F x (by simp only [max63]; omega)
  have hR : canR a F = ⟨a.alpha, F.length, cMk F a.marked F.length, cEd a.edges F a.alpha F.length⟩ := rfl
  rw [hR]
  clear hR c1 c2 c3 c4 hF
  obtain ⟨al, n, mk, es⟩ := a
  simp only at *
  refine aspec_stop [9, 14] Tk Tryz.func41 rfl Tryz.call41 Tryz.ntmps41 (Nat.le_of_ble_eq_true rfl) fun E => ?_
  refine g_run Tk Tryz.func41 ?_
  first | refine g_call Tk Tryz.func41 (hfo _) rfl rfl rfl rfl rfl ?_ | refine s_callq Tk (fun _ => hfo _) rfl rfl rfl ?_
  first | refine g_call Tk Tryz.func41 (hem _) rfl rfl rfl rfl rfl ?_ | refine s_callq Tk (fun _ => hem _) rfl rfl rfl ?_
  refine g_loop ?_
  refine rch_wk (wk_nilbox2 4 33 3 1 (pre := [ints al, ii F.length]) (post := [.i (.v (.slice none 0 0))]) rfl rfl rfl) ?_
  refine rch_wk (wk_nilbox2 4 68 79 3 (pre := [ints al, ii F.length, .osl 0 33]) (post := []) rfl rfl rfl) ?_
  refine rch_loop2 (fun i : Nat => [(1, .own 0 1 0 0), (2, .own 0 2 0 0), (3, ints F), (4, .own 0 4 0 0), (5, ii i)]) (fun i => [(1, .box [ints al, ii n, ints mk, edgs es]), (2, zBox), (4, .box [ints al, ii F.length, .osl 0 33, .osl 0 68]), (33, oints (cMk F mk i)), (68, oedgs (cEd es F al i))]) (fun _ => O) 71
    (fun i => i ≤ F.length) (fun i => F.length - i) 0 (Nat.zero_le _) ⟨rfl, rfl, rfl, rfl, rfl, trivial⟩ rfl ⟨rfl, rfl, rfl, rfl, rfl, trivial⟩ rfl rfl ?_
  intro i hi ih
  refine g_run Tk Tryz.func41 ?_
  first | refine g_cnd Tk Tryz.func41 rfl (fun g1 => ?_) (fun g1 => ?_) | refine g_know Tk Tryz.func41 rfl (fun g1 => ?_) (fun g1 => ?_) | refine s_know Tk (fun g1 => ?_) (fun g1 => ?_)
  · have h2 : i < F.length := by simpa using g1
    clear g1
    have hs0 : F[i]? = some F[i] := List.getElem?_eq_getElem h2
    have gs : (F.map fun x => [vi x])[(i : Int).toNat]? = some [vi F[i]] := get_mapZ (f := fun x => [vi x]) h2
    generalize F[i] = s at *
    have hm3 := cMk_succ (marked := mk) hs0
    have hml := cMk_len (F := F) (marked := mk) (i := i)
    have n1 : 0 ≤ (i : Int) ∧ (i : Int) < (F.length : Int) := by omega
    have hh1 := fun O => hho O s
    refine g_drawn Tk Tryz.func41 mixedT rfl ?_
    first | refine g_need Tk Tryz.func41 (by exact n1) ?_ | refine s_need Tk (by exact n1) ?_
    first | refine g_elem Tk Tryz.func41 (gs) ?_ | refine s_elem Tk (gs) ?_
    first | refine g_call Tk Tryz.func41 (hh1 _) rfl rfl rfl rfl rfl ?_ | refine s_callq Tk (fun _ => hh1 _) rfl rfl rfl ?_
    refine e_done Tk Tryz.func41 (by kernel_rfl) ?_
    apply join_p (P := True) (s6 := { σ := [(1, .own 0 1 0 0), (2, .own 0 2 0 0), (3, ints F), (4, .own 0 4 0 0), (5, ii i)], S := [(1, .box [ints al, ii n, ints mk, edgs es]), (2, zBox), (4, .box [ints al, ii F.length, .osl 0 33, .osl 0 68]), (33, oints (cMk F mk (i + 1))), (68, oedgs (cEd es F al i))] :: O, n := 71 })
    · intro J
      first | refine g_cnd Tk Tryz.func41 rfl (fun d1 => ?_) (fun d1 => ?_) | refine g_know Tk Tryz.func41 rfl (fun d1 => ?_) (fun d1 => ?_) | refine s_know Tk (fun d1 => ?_) (fun d1 => ?_)
      · have d1 : s ∈ mk := of_decide_eq_true d1
        rw [if_pos d1] at hm3
        first | refine g_need Tk Tryz.func41 (by exact ⟨by show ((cMk F mk i).length + 1) * 8 ≤ 140737488355328; omega, by show (cMk F mk i).length + 1 ≤ 9223372036854775807; omega⟩) ?_ | refine s_need Tk (by exact ⟨by show ((cMk F mk i).length + 1) * 8 ≤ 140737488355328; omega, by show (cMk F mk i).length + 1 ≤ 9223372036854775807; omega⟩) ?_
        refine g_stop ?_
        refine rch_meet (J trivial) ⟨rfl, rfl, rfl, rfl, rfl, trivial⟩ rfl ⟨rfl, rfl, rfl, ?_, rfl, trivial⟩ rfl rfl
        rw [hm3]
        exact congrArg some (oints_app (cMk F mk i) (i : Int))
      · have d1 : s ∉ mk := of_decide_eq_false d1
        rw [if_neg d1, List.append_nil] at hm3
        refine g_stop ?_
        refine rch_meet (J trivial) ⟨rfl, rfl, rfl, rfl, rfl, trivial⟩ rfl ⟨rfl, rfl, rfl, by rw [hm3]; rfl, rfl, trivial⟩ rfl rfl
    · intro _
      clear hm3 hml hh1
      have hE := cEd_succ (es := es) (al := al) hs0
      have hEl := cEd_len (es := es) (F := F) (i := i) hal
      have hst1 := fun O ev => hst O s ev
      refine g_run Tk Tryz.func41 ?_
      refine g_go Tk Tryz.func41 ?_
      refine g_loop ?_
      refine rch_loop2 (fun j : Nat => [(1, .own 0 1 0 0), (2, .own 0 2 0 0), (3, ints F), (4, .own 0 4 0 0), (5, ii i), (6, ii j)]) (fun j => [(1, .box [ints al, ii n, ints mk, edgs es]), (2, zBox), (4, .box [ints al, ii F.length, .osl 0 33, .osl 0 68]), (33, oints (cMk F mk (i + 1))), (68, oedgs (cEd es F al i ++ (al.take j).filterMap (cOf es F i s)))]) (fun _ => O) 71
        (fun j => j ≤ al.length) (fun j => al.length - j) 0 (Nat.zero_le _) ⟨rfl, rfl, rfl, rfl, rfl, rfl, trivial⟩ rfl ⟨rfl, rfl, rfl, rfl, by show some (oedgs (cEd es F al i)) = some (oedgs (cEd es F al i ++ [])); rw [List.append_nil], trivial⟩ rfl rfl ?_
      intro j hj ih2
      refine g_run Tk Tryz.func41 ?_
      first | refine g_cnd Tk Tryz.func41 rfl (fun g2 => ?_) (fun g2 => ?_) | refine g_know Tk Tryz.func41 rfl (fun g2 => ?_) (fun g2 => ?_) | refine s_know Tk (fun g2 => ?_) (fun g2 => ?_)
      · have h3 : j < al.length := by simpa using g2
        clear g2
        have ga : (al.map fun x => [vi x])[(j : Int).toNat]? = some [vi al[j]] := get_mapZ (f := fun x => [vi x]) h3
        have htk : (al.take (j + 1)).filterMap (cOf es F i s) = (al.take j).filterMap (cOf es F i s) ++ [al[j]].filterMap (cOf es F i s) := by
          rw [List.take_succ_eq_append_getElem h3, List.filterMap_append]
        have hpl : ((al.take j).filterMap (cOf es F i s)).length ≤ 32 := Nat.le_trans (List.length_filterMap_le _ _) (by rw [List.length_take]; omega)
        have n2 : 0 ≤ (j : Int) ∧ (j : Int) < (al.length : Int) := by omega
        have hj1 : ii (IntKind.i64.wrap ((j : Int) + 1)) = ii ((j + 1 : Nat) : Int) := congrArg ii (wsucc (n := 1000001) (by omega) (by decide))
        generalize al[j] = ev at *
        have hst2 := fun O => hst1 O ev
        have hco : [ev].filterMap (cOf es F i s) = if 0 ≤ stp3 es s ev then [((i : Int), ev, idxI (stp3 es s ev) F 0)] else [] := by
          unfold cOf
          by_cases h : 0 ≤ stp3 es s ev <;> simp [h]
        rw [hco] at htk
        clear hco
        have hix1 := fun O => hix O (stp3 es s ev)
        generalize stp3 es s ev = t at *
        refine g_drawn Tk Tryz.func41 mixedT rfl ?_
        first | refine g_need Tk Tryz.func41 (by exact n1) ?_ | refine s_need Tk (by exact n1) ?_
        first | refine g_elem Tk Tryz.func41 (gs) ?_ | refine s_elem Tk (gs) ?_
        first | refine g_need Tk Tryz.func41 (by exact n2) ?_ | refine s_need Tk (by exact n2) ?_
        first | refine g_elem Tk Tryz.func41 (ga) ?_ | refine s_elem Tk (ga) ?_
        first | refine g_call Tk Tryz.func41 (hst2 _) rfl rfl rfl rfl rfl ?_ | refine s_callq Tk (fun _ => hst2 _) rfl rfl rfl ?_
        refine e_done Tk Tryz.func41 (by kernel_rfl) ?_
        first | refine g_cnd Tk Tryz.func41 rfl (fun d1 => ?_) (fun d1 => ?_) | refine g_know Tk Tryz.func41 rfl (fun d1 => ?_) (fun d1 => ?_) | refine s_know Tk (fun d1 => ?_) (fun d1 => ?_)
        · have d1 : t ≥ 0 := of_decide_eq_true d1
          rw [if_pos d1] at htk
          refine g_stop ?_
          refine g_run Tk Tryz.func41 ?_
          refine g_go Tk Tryz.func41 ?_
          refine g_drawn Tk Tryz.func41 mixedT rfl ?_
          first | refine g_need Tk Tryz.func41 (by exact n2) ?_ | refine s_need Tk (by exact n2) ?_
          first | refine g_elem Tk Tryz.func41 (ga) ?_ | refine s_elem Tk (ga) ?_
          first | refine g_call Tk Tryz.func41 (hix1 _) rfl rfl rfl rfl rfl ?_ | refine s_callq Tk (fun _ => hix1 _) rfl rfl rfl ?_
          refine e_tail Tk Tryz.func41 ([13, 14, 15]) (by kernel_rfl) (by kernel_rfl) ?_
          first | refine g_need Tk Tryz.func41 (by exact ⟨by show ((cEd es F al i ++ (al.take j).filterMap (cOf es F i s)).length + 1) * 24 ≤ 140737488355328; rw [List.length_append]; omega, by show (cEd es F al i ++ (al.take j).filterMap (cOf es F i s)).length + 1 ≤ 9223372036854775807; rw [List.length_append]; omega⟩) ?_ | refine s_need Tk (by exact ⟨by show ((cEd es F al i ++ (al.take j).filterMap (cOf es F i s)).length + 1) * 24 ≤ 140737488355328; rw [List.length_append]; omega, by show (cEd es F al i ++ (al.take j).filterMap (cOf es F i s)).length + 1 ≤ 9223372036854775807; rw [List.length_append]; omega⟩) ?_
          refine g_loop ?_
          refine ih2 (j + 1) _ _ h3 (by omega) ⟨rfl, rfl, rfl, rfl, rfl, hj1, trivial⟩ rfl ⟨rfl, rfl, rfl, rfl, ?_, trivial⟩ rfl rfl
          rw [htk, ← List.append_assoc]
          exact congrArg some (oedgs_app (cEd es F al i ++ (al.take j).filterMap (cOf es F i s)) ((i : Int), ev, idxI t F 0))
        · have d1 : ¬ t ≥ 0 := of_decide_eq_false d1
          rw [if_neg d1, List.append_nil] at htk
          refine g_loop ?_
          refine ih2 (j + 1) _ _ h3 (by omega) ⟨rfl, rfl, rfl, rfl, rfl, hj1, trivial⟩ rfl ⟨rfl, rfl, rfl, rfl, by rw [htk]; rfl, trivial⟩ rfl rfl
      · have h3 : al.length ≤ j := by simpa using g2
        refine g_loop ?_
        refine ih (i + 1) _ _ h2 (by omega) ⟨rfl, rfl, rfl, rfl, congrArg ii (wsucc (n := 5000) (by omega) (by decide)), trivial⟩ rfl ⟨rfl, rfl, rfl, rfl, ?_, trivial⟩ rfl rfl
        show some (oedgs (cEd es F al i ++ (al.take j).filterMap (cOf es F i s))) = _
        rw [List.take_of_length_le h3, hE]
  · have h2 : F.length ≤ i := by simpa using g1
    obtain rfl : i = F.length := by omega
    refine g_rwk (wk_freeze 33 rfl rfl) ?_
    refine g_rwk (wk_freeze 68 rfl rfl) ?_
    refine g_rwk (wk_imm rfl) ?_
    refine g_ret Tk (r := autD ⟨al, F.length, cMk F mk F.length, cEd es F al F.length⟩) rfl rfl rfl trivial rfl rfl ?_
    rfl
end Go.AI


/- overseerlaw03: Events and Make. -/
namespace Go.AI
open Go.Proofs
set_option maxRecDepth 20000
abbrev u8D (x : Int) : D := .i (.v (.int .u8 x))
abbrev grC (gs gm : Int) (gt : Nat → Int) : List D := [u8D gs, u8D gm, u8D (gt 0), u8D (gt 1), u8D (gt 2), u8D (gt 3), u8D (gt 4), u8D (gt 5), u8D (gt 6), u8D (gt 7), u8D (gt 8), u8D (gt 9), u8D (gt 10), u8D (gt 11), u8D (gt 12), u8D (gt 13), u8D (gt 14), u8D (gt 15), u8D (gt 16), u8D (gt 17), u8D (gt 18), u8D (gt 19), u8D (gt 20), u8D (gt 21), u8D (gt 22), u8D (gt 23), u8D (gt 24)]
def bitP (b : Int) (i : Nat) : Bool := bits BinOp.and IntKind.u8 (b / 2 ^ Int.toNat (i : Int)) 1 == 1
def rawM (b : Int) (n : Nat) : List Int := ((List.range n).filter fun i => bitP b i).map fun (i : Nat) => (i : Int)
theorem rawM_succ (b : Int) (n : Nat) : rawM b (n + 1) = rawM b n ++ if bitP b n = true then [(n : Int)] else [] := by
  unfold rawM
  rw [List.range_succ, List.filter_append, List.map_append]
  congr 1
  by_cases h : bitP b n = true <;> simp [h]
theorem rawM_len (b : Int) (n : Nat) : (rawM b n).length ≤ n := by
  unfold rawM
  rw [List.length_map]
  exact Nat.le_trans (List.length_filter_le _ _) (by simp)
abbrev evsOf (b : Int) : List Int := rawM b 5
theorem events13 (O : List Heap) (b : Int) : ASpec Tryz.prog 13 [u8D b] O (ints (evsOf b)) [] O := by
  refine aspec_stop [7] Tk Tryz.func13 rfl Tryz.call13 Tryz.ntmps13 (Nat.le_of_ble_eq_true rfl) fun E => ?_
  refine g_run Tk Tryz.func13 ?_
  refine g_loop ?_
  refine rch_wk (wk_nil 3 17 3 1 rfl rfl rfl) ?_
  refine rch_loop2 (fun i : Nat => [(0, u8D b), (3, .osl 0 17), (4, ii i)]) (fun i => [(17, oints (rawM b i))]) (fun _ => O) 19
    (fun i => i ≤ 5) (fun i => 5 - i) 0 (Nat.zero_le _) ⟨rfl, rfl, rfl, trivial⟩ rfl ⟨rfl, trivial⟩ rfl rfl ?_
  intro i hi ih
  have hj1 : ii (IntKind.i64.wrap ((i : Int) + 1)) = ii ((i + 1 : Nat) : Int) := congrArg ii (wsucc (n := 1000001) (by omega) (by decide))
  have hs := rawM_succ b i
  have hl := rawM_len b i
  refine g_run Tk Tryz.func13 ?_
  first | refine g_cnd Tk Tryz.func13 rfl (fun g1 => ?_) (fun g1 => ?_) | refine g_know Tk Tryz.func13 rfl (fun g1 => ?_) (fun g1 => ?_) | refine s_know Tk (fun g1 => ?_) (fun g1 => ?_)
  · have g1 : (i : Int) < 5 := of_decide_eq_true g1
    first | refine g_need Tk Tryz.func13 (by exact ⟨by omega, by show (i : Int) ≤ (8 : Nat); omega⟩) ?_ | refine s_need Tk (by exact ⟨by omega, by show (i : Int) ≤ (8 : Nat); omega⟩) ?_
    first | refine g_cnd Tk Tryz.func13 rfl (fun g2 => ?_) (fun g2 => ?_) | refine g_know Tk Tryz.func13 rfl (fun g2 => ?_) (fun g2 => ?_) | refine s_know Tk (fun g2 => ?_) (fun g2 => ?_)
    · have g2 : bitP b i = true := g2
      rw [if_pos g2] at hs
      first | refine g_need Tk Tryz.func13 (by exact ⟨by show ((rawM b i).length + 1) * 8 ≤ 140737488355328; omega, by show (rawM b i).length + 1 ≤ 9223372036854775807; omega⟩) ?_ | refine s_need Tk (by exact ⟨by show ((rawM b i).length + 1) * 8 ≤ 140737488355328; omega, by show (rawM b i).length + 1 ≤ 9223372036854775807; omega⟩) ?_
      refine g_loop ?_
      refine ih (i + 1) _ _ (by omega) (by omega) ⟨rfl, rfl, hj1, trivial⟩ rfl ⟨?_, trivial⟩ rfl rfl
      rw [hs]
      exact congrArg some (oints_app (rawM b i) (i : Int))
    · have g2 : ¬ bitP b i = true := by intro h; exact absurd (g2.symm.trans h) (by decide)
      rw [if_neg g2, List.append_nil] at hs
      refine g_loop ?_
      exact ih (i + 1) _ _ (by omega) (by omega) ⟨rfl, rfl, hj1, trivial⟩ rfl ⟨by rw [hs]; rfl, trivial⟩ rfl rfl
  · have g1 : ¬ (i : Int) < 5 := of_decide_eq_false g1
    obtain rfl : i = 5 := by omega
    refine g_stop ?_
    refine rch_wk (wk_freeze 17 rfl rfl) ?_
    refine g_run Tk Tryz.func13 ?_
    refine g_go Tk Tryz.func13 ?_
    refine g_ret Tk (r := ints (evsOf b)) rfl rfl rfl trivial rfl rfl ?_
    rfl
def tgtV (x : Int) (n : Nat) : Int := (IntKind.i64.wrap x).tmod (IntKind.i64.wrap ((n : Int) + 2))
def rowE (gt : Nat → Int) (n i : Nat) (s : List Int) (k : Nat) : List Edg := (List.range k).filterMap fun k => match s[k]? with
  | some ev => if tgtV (gt (5 * i + k)) n < n then some ((i : Int), ev, tgtV (gt (5 * i + k)) n) else none
  | none => none
theorem rowE_succ {gt : Nat → Int} {n i : Nat} {s : List Int} {k : Nat} {ev : Int} (h : s[k]? = some ev) : rowE gt n i s (k + 1) = rowE gt n i s k ++ if tgtV (gt (5 * i + k)) n < n then [((i : Int), ev, tgtV (gt (5 * i + k)) n)] else [] := by
  unfold rowE
  rw [List.range_succ, List.filterMap_append]
  congr 1
  by_cases c : tgtV (gt (5 * i + k)) n < n <;> simp [h, c]
theorem rowE_len (gt : Nat → Int) (n i : Nat) (s : List Int) (k : Nat) : (rowE gt n i s k).length ≤ k := Nat.le_trans (List.length_filterMap_le _ _) (by simp)
def rawE (gt : Nat → Int) (n : Nat) (s : List Int) (i : Nat) : List Edg := (List.range i).flatMap fun i => rowE gt n i s s.length
theorem rawE_succ (gt : Nat → Int) (n : Nat) (s : List Int) (i : Nat) : rawE gt n s (i + 1) = rawE gt n s i ++ rowE gt n i s s.length := by
  unfold rawE
  rw [List.range_succ, List.flatMap_append]
  simp
theorem rawE_len (gt : Nat → Int) (n : Nat) (s : List Int) : ∀ i, (rawE gt n s i).length ≤ s.length * i
  | 0 => by simp [rawE]
  | i + 1 => by
    have := rawE_len gt n s i
    have := rowE_len gt n i s s.length
    rw [rawE_succ, List.length_append, Nat.mul_add, Nat.mul_one]
    omega
def rawN (gs : Int) : Nat := 1 + (gs % 5).toNat
def rawA (s : List Int) (gs gm : Int) (gt : Nat → Int) : Aut := ⟨s, rawN gs, rawM gm (rawN gs), rawE gt (rawN gs) s (rawN gs)⟩
def mkA (s : List Int) (gs gm : Int) (gt : Nat → Int) : Aut := if gs ≥ 250 then ⟨s, 0, [], []⟩ else canR (rawA s gs gm gt) (foundR (rawA s gs gm gt))
set_option maxHeartbeats 16000000 in
theorem make12 (O : List Heap) (s : List Int) (gs gm : Int) (gt : Nat → Int) (hsl : s.length ≤ 5) (hg0 : 0 ≤ gs) (hok : autOk (rawA s gs gm gt)) (hF : (foundR (rawA s gs gm gt)).length ≤ 4096) :
    ASpec Tryz.prog 12 [ints s, .agg (grC gs gm gt)] O (autD (mkA s gs gm gt)) [] O := by
  have hem := fun O => empty120 O s (by omega)
  have hcan := fun O => canonical58 O (rawA s gs gm gt) hok (by show (1 : Int) ≤ ((rawN gs : Nat) : Int); unfold rawN; omega) _ rfl hF
  have hn : IntKind.i64.wrap (1 + IntKind.i64.wrap (gs.tmod 5)) = ((rawN gs : Nat) : Int) := by
    rw [Int.tmod_eq_emod_of_nonneg hg0]
    have h1 : 0 ≤ gs % 5 ∧ gs % 5 < 5 := ⟨Int.emod_nonneg _ (by decide), Int.emod_lt_of_pos _ (by decide)⟩
    have w1 : IntKind.i64.wrap (gs % 5) = gs % 5 := w64 (by omega) (by omega)
    rw [w1, w64 (by omega) (by omega)]
    unfold rawN
    omega
  have hn5 : rawN gs ≤ 5 := by
    have h1 : 0 ≤ gs % 5 ∧ gs % 5 < 5 := ⟨Int.emod_nonneg _ (by decide), Int.emod_lt_of_pos _ (by decide)⟩
    unfold rawN
    omega
  unfold mkA
  refine aspec_stop [10, 13, 14, 16] Tk Tryz.func12 rfl Tryz.call12 Tryz.ntmps12 (Nat.le_of_ble_eq_true rfl) fun E => ?_
  refine g_run Tk Tryz.func12 ?_
  first | refine g_cnd Tk Tryz.func12 rfl (fun c1 => ?_) (fun c1 => ?_) | refine g_know Tk Tryz.func12 rfl (fun c1 => ?_) (fun c1 => ?_) | refine s_know Tk (fun c1 => ?_) (fun c1 => ?_)
  · rw [if_pos (of_decide_eq_true c1)]
    first | refine g_call Tk Tryz.func12 (hem _) rfl rfl rfl rfl rfl ?_ | refine s_callq Tk (fun _ => hem _) rfl rfl rfl ?_
    refine g_ret_co Tk (r := .agg [ints s, ii 0, .i (.v (.slice none 0 0)), .i (.v (.slice none 0 0))]) rfl rfl rfl trivial rfl rfl ?_
    repeat' (first | refine coD_tup ?_ | refine coD_agg ?_ | refine coD_i ?_ | refine CoDL.cons ?_ ?_ | exact CoDL.nil | exact coI_nil | refine coI_sl ?_ | refine CoLL.cons ?_ ?_ | exact CoLL.nil | refine CoL.cons ?_ ?_ | exact CoL.nil | exact CoI.refl _ | exact CoL.refl _ | exact CoLL.refl _ | exact CoDL.refl _ | exact CoD.refl _)
  rw [if_neg (of_decide_eq_false c1)]
  clear c1
  generalize canR (rawA s gs gm gt) (foundR (rawA s gs gm gt)) = R at *
  have hcan : ∀ O, ASpec Tryz.prog 41 [.agg [ints s, ii (rawN gs), ints (rawM gm (rawN gs)), edgs (rawE gt (rawN gs) s (rawN gs))]] O (autD R) [] O := hcan
  generalize rawN gs = n at *
  first | refine g_call Tk Tryz.func12 (hem _) rfl rfl rfl rfl rfl ?_ | refine s_callq Tk (fun _ => hem _) rfl rfl rfl ?_
  first | refine g_need Tk Tryz.func12 (by decide) ?_ | refine s_need Tk (by decide) ?_
  refine g_loop ?_
  refine rch_wk (wk_nilbox2 5 38 3 1 (pre := [ints s, ii _]) (post := [.i (.v (.slice none 0 0))]) rfl rfl rfl) ?_
  refine rch_wk (wk_nilbox2 5 75 79 3 (pre := [ints s, ii _, .osl 0 38]) (post := []) rfl rfl rfl) ?_
  refine rch_loop2 (fun i : Nat => [(0, ints s), (3, .own 0 3 0 0), (4, .own 0 4 0 0), (5, .own 0 5 0 0), (6, ii i)]) (fun i => [(3, .box (grC gs gm gt)), (4, zBox), (5, .box [ints s, ii n, .osl 0 38, .osl 0 75]), (38, oints (rawM gm i)), (75, oedgs (rawE gt n s i))]) (fun _ => O) 79
    (fun i => i ≤ n) (fun i => n - i) 0 (Nat.zero_le _) ⟨rfl, rfl, rfl, rfl, rfl, trivial⟩ rfl ⟨rfl, rfl, congrArg (fun z => some (Ob.box [ints s, ii z, .osl 0 38, .osl 0 75])) hn, rfl, rfl, trivial⟩ rfl rfl ?_
  intro i hi ih
  have hi1 : ii (IntKind.i64.wrap ((i : Int) + 1)) = ii ((i + 1 : Nat) : Int) := congrArg ii (wsucc (n := 1000001) (by omega) (by decide))
  refine g_run Tk Tryz.func12 ?_
  first | refine g_cnd Tk Tryz.func12 rfl (fun g1 => ?_) (fun g1 => ?_) | refine g_know Tk Tryz.func12 rfl (fun g1 => ?_) (fun g1 => ?_) | refine s_know Tk (fun g1 => ?_) (fun g1 => ?_)
  · have h2 : i < n := by simpa using g1
    clear g1
    have hm3 := rawM_succ gm i
    have hml := rawM_len gm i
    first | refine g_need Tk Tryz.func12 (by exact ⟨by omega, by show (i : Int) ≤ (8 : Nat); omega⟩) ?_ | refine s_need Tk (by exact ⟨by omega, by show (i : Int) ≤ (8 : Nat); omega⟩) ?_
    apply join_p (P := True) (s6 := { σ := [(0, ints s), (3, .own 0 3 0 0), (4, .own 0 4 0 0), (5, .own 0 5 0 0), (6, ii i)], S := [(3, .box (grC gs gm gt)), (4, zBox), (5, .box [ints s, ii n, .osl 0 38, .osl 0 75]), (38, oints (rawM gm (i + 1))), (75, oedgs (rawE gt n s i))] :: O, n := 79 })
    · intro J
      first | refine g_cnd Tk Tryz.func12 rfl (fun d1 => ?_) (fun d1 => ?_) | refine g_know Tk Tryz.func12 rfl (fun d1 => ?_) (fun d1 => ?_) | refine s_know Tk (fun d1 => ?_) (fun d1 => ?_)
      · have d1 : bitP gm i = true := d1
        rw [if_pos d1] at hm3
        first | refine g_need Tk Tryz.func12 (by exact ⟨by show ((rawM gm i).length + 1) * 8 ≤ 140737488355328; omega, by show (rawM gm i).length + 1 ≤ 9223372036854775807; omega⟩) ?_ | refine s_need Tk (by exact ⟨by show ((rawM gm i).length + 1) * 8 ≤ 140737488355328; omega, by show (rawM gm i).length + 1 ≤ 9223372036854775807; omega⟩) ?_
        refine g_stop ?_
        refine rch_meet (J trivial) ⟨rfl, rfl, rfl, rfl, rfl, trivial⟩ rfl ⟨rfl, rfl, rfl, ?_, rfl, trivial⟩ rfl rfl
        rw [hm3]
        exact congrArg some (oints_app (rawM gm i) (i : Int))
      · have d1 : ¬ bitP gm i = true := by intro h; exact absurd (d1.symm.trans h) (by decide)
        rw [if_neg d1, List.append_nil] at hm3
        refine g_stop ?_
        refine rch_meet (J trivial) ⟨rfl, rfl, rfl, rfl, rfl, trivial⟩ rfl ⟨rfl, rfl, rfl, by rw [hm3]; rfl, rfl, trivial⟩ rfl rfl
    intro _
    clear hm3 hml
    have hE := rawE_succ gt n s i
    have hEl := rawE_len gt n s i
    have hEl2 : s.length * i ≤ 5 * 5 := Nat.mul_le_mul hsl (by omega)
    refine g_run Tk Tryz.func12 ?_
    refine g_go Tk Tryz.func12 ?_
    refine g_loop ?_
    refine rch_loop2 (fun k : Nat => [(0, ints s), (3, .own 0 3 0 0), (4, .own 0 4 0 0), (5, .own 0 5 0 0), (6, ii i), (7, ii k)]) (fun k => [(3, .box (grC gs gm gt)), (4, zBox), (5, .box [ints s, ii n, .osl 0 38, .osl 0 75]), (38, oints (rawM gm (i + 1))), (75, oedgs (rawE gt n s i ++ rowE gt n i s k))]) (fun _ => O) 79
      (fun k => k ≤ s.length) (fun k => s.length - k) 0 (Nat.zero_le _) ⟨rfl, rfl, rfl, rfl, rfl, rfl, trivial⟩ rfl ⟨rfl, rfl, rfl, rfl, by show some (oedgs (rawE gt n s i)) = some (oedgs (rawE gt n s i ++ [])); rw [List.append_nil], trivial⟩ rfl rfl ?_
    intro k hk ih2
    refine g_run Tk Tryz.func12 ?_
    first | refine g_cnd Tk Tryz.func12 rfl (fun g2 => ?_) (fun g2 => ?_) | refine g_know Tk Tryz.func12 rfl (fun g2 => ?_) (fun g2 => ?_) | refine s_know Tk (fun g2 => ?_) (fun g2 => ?_)
    · have h3 : k < s.length := by simpa using g2
      clear g2
      first | refine g_cnd Tk Tryz.func12 rfl (fun g3 => ?_) (fun g3 => ?_) | refine g_know Tk Tryz.func12 rfl (fun g3 => ?_) (fun g3 => ?_) | refine s_know Tk (fun g3 => ?_) (fun g3 => ?_)
      rotate_left
      · have g3 : ¬ (k : Int) < 5 := of_decide_eq_false g3
        omega
      clear g3
      have ga : (s.map fun x => [vi x])[(k : Int).toNat]? = some [vi s[k]] := get_mapZ (f := fun x => [vi x]) h3
      have htk := rowE_succ (gt := gt) (n := n) (i := i) (List.getElem?_eq_getElem h3)
      have hpl := rowE_len gt n i s k
      have n2 : 0 ≤ (k : Int) ∧ (k : Int) < (s.length : Int) := by omega
      have hj1 : ii (IntKind.i64.wrap ((k : Int) + 1)) = ii ((k + 1 : Nat) : Int) := congrArg ii (wsucc (n := 1000001) (by omega) (by decide))
      generalize s[k] = ev at *
      have hnz : IntKind.i64.wrap ((n : Int) + 2) ≠ 0 := by rw [w64 (by omega) (by omega)]; omega
      apply join_p (P := True) (s6 := { σ := [(0, ints s), (3, .own 0 3 0 0), (4, .own 0 4 0 0), (5, .own 0 5 0 0), (6, ii i), (7, ii k), (8, ii (tgtV (gt (5 * i + k)) n))], S := [(3, .box (grC gs gm gt)), (4, zBox), (5, .box [ints s, ii n, .osl 0 38, .osl 0 75]), (38, oints (rawM gm (i + 1))), (75, oedgs (rawE gt n s i ++ rowE gt n i s k))] :: O, n := 79 })
      · intro J
        have hi5 : i = 0 ∨ i = 1 ∨ i = 2 ∨ i = 3 ∨ i = 4 := by omega
        have hk5 : k = 0 ∨ k = 1 ∨ k = 2 ∨ k = 3 ∨ k = 4 := by omega
        rcases hi5 with rfl | rfl | rfl | rfl | rfl <;> rcases hk5 with rfl | rfl | rfl | rfl | rfl <;>
          (refine g_go Tk Tryz.func12 ?_
           refine g_drawn Tk Tryz.func12 mixedT rfl ?_
           refine s_need Tk (by decide) ?_
           refine s_need Tk (by decide) ?_
           refine s_need Tk hnz ?_
           refine e_done Tk Tryz.func12 (by kernel_rfl) ?_
           refine g_stop ?_
           exact rch_meet (J trivial) ⟨rfl, rfl, rfl, rfl, rfl, rfl, rfl, trivial⟩ rfl ⟨rfl, rfl, rfl, rfl, rfl, trivial⟩ rfl rfl)
      intro _
      refine g_run Tk Tryz.func12 ?_
      refine g_go Tk Tryz.func12 ?_
      first | refine g_cnd Tk Tryz.func12 rfl (fun d1 => ?_) (fun d1 => ?_) | refine g_know Tk Tryz.func12 rfl (fun d1 => ?_) (fun d1 => ?_) | refine s_know Tk (fun d1 => ?_) (fun d1 => ?_)
      · have d1 : tgtV (gt (5 * i + k)) n < n := of_decide_eq_true d1
        rw [if_pos d1] at htk
        refine g_drawn Tk Tryz.func12 mixedT rfl ?_
        first | refine g_need Tk Tryz.func12 (by exact n2) ?_ | refine s_need Tk (by exact n2) ?_
        first | refine g_elem Tk Tryz.func12 (ga) ?_ | refine s_elem Tk (ga) ?_
        refine e_tail Tk Tryz.func12 ([10, 11, 12]) (by kernel_rfl) (by kernel_rfl) ?_
        first | refine g_need Tk Tryz.func12 (by exact ⟨by show ((rawE gt n s i ++ rowE gt n i s k).length + 1) * 24 ≤ 140737488355328; rw [List.length_append]; omega, by show (rawE gt n s i ++ rowE gt n i s k).length + 1 ≤ 9223372036854775807; rw [List.length_append]; omega⟩) ?_ | refine s_need Tk (by exact ⟨by show ((rawE gt n s i ++ rowE gt n i s k).length + 1) * 24 ≤ 140737488355328; rw [List.length_append]; omega, by show (rawE gt n s i ++ rowE gt n i s k).length + 1 ≤ 9223372036854775807; rw [List.length_append]; omega⟩) ?_
        refine g_loop ?_
        refine ih2 (k + 1) _ _ h3 (by omega) ⟨rfl, rfl, rfl, rfl, rfl, hj1, trivial⟩ rfl ⟨rfl, rfl, rfl, rfl, ?_, trivial⟩ rfl rfl
        rw [htk, ← List.append_assoc]
        exact congrArg some (oedgs_app (rawE gt n s i ++ rowE gt n i s k) ((i : Int), ev, tgtV (gt (5 * i + k)) n))
      · have d1 : ¬ tgtV (gt (5 * i + k)) n < n := of_decide_eq_false d1
        rw [if_neg d1, List.append_nil] at htk
        refine g_loop ?_
        exact ih2 (k + 1) _ _ h3 (by omega) ⟨rfl, rfl, rfl, rfl, rfl, hj1, trivial⟩ rfl ⟨rfl, rfl, rfl, rfl, by rw [htk]; rfl, trivial⟩ rfl rfl
    · have h3 : s.length ≤ k := by simpa using g2
      have hk2 : k = s.length := by omega
      repeat (first | refine g_cnd Tk Tryz.func12 rfl (fun _ => ?_) (fun h => absurd h (by decide)) | refine g_know Tk Tryz.func12 rfl (fun _ => ?_) (fun h => absurd h (by decide)) | refine s_know Tk (fun _ => ?_) (fun h => absurd h (by decide)) | refine g_cnd Tk Tryz.func12 rfl (fun h => absurd h (by decide)) (fun _ => ?_) | refine g_know Tk Tryz.func12 rfl (fun h => absurd h (by decide)) (fun _ => ?_) | refine s_know Tk (fun h => absurd h (by decide)) (fun _ => ?_) | refine g_cnd Tk Tryz.func12 rfl (fun _ => ?_) (fun h => absurd (show true = false from h) (by decide)) | refine g_know Tk Tryz.func12 rfl (fun _ => ?_) (fun h => absurd (show true = false from h) (by decide)) | refine s_know Tk (fun _ => ?_) (fun h => absurd (show true = false from h) (by decide)) | refine g_cnd Tk Tryz.func12 rfl (fun h => absurd (show false = true from h) (by decide)) (fun _ => ?_) | refine g_know Tk Tryz.func12 rfl (fun h => absurd (show false = true from h) (by decide)) (fun _ => ?_) | refine s_know Tk (fun h => absurd (show false = true from h) (by decide)) (fun _ => ?_))
      refine g_loop ?_
      refine ih (i + 1) _ _ h2 (by omega) ⟨rfl, rfl, rfl, rfl, hi1, trivial⟩ rfl ⟨rfl, rfl, rfl, rfl, ?_, trivial⟩ rfl rfl
      show some (oedgs (rawE gt n s i ++ rowE gt n i s k)) = _
      rw [hk2, hE]
  · have h2 : n ≤ i := by simpa using g1
    obtain rfl : i = n := by omega
    refine g_stop ?_
    refine rch_wk (wk_freeze 38 rfl rfl) ?_
    refine rch_wk (wk_freeze 75 rfl rfl) ?_
    refine rch_wk (wk_imm rfl) ?_
    refine g_run Tk Tryz.func12 ?_
    refine g_go Tk Tryz.func12 ?_
    first | refine g_call Tk Tryz.func12 (hcan _) rfl rfl rfl rfl rfl ?_ | refine s_callq Tk (fun _ => hcan _) rfl rfl rfl ?_
    refine g_ret Tk (r := autD R) rfl rfl rfl trivial rfl rfl ?_
    rfl
end Go.AI


/- Plain: what Make makes passes the check. -/
namespace Go.AI
theorem chkA_of {a : Aut} (h1 : checkSet 32 a.alpha none = 0) (h2 : 0 ≤ a.states ∧ a.states ≤ 4096) (h3 : checkSet a.states a.marked none = 0) (h4 : chkEds a.alpha a.states none a.edges = 0) : chkA a = 0 := by
  unfold chkA
  rw [if_neg (by rw [h1]; simp), if_neg (by omega), if_neg (by omega)]
  first
    | (rw [if_neg (by rw [h3]; simp)]; exact h4)
    | (simp only [h3, h4]; simp)
theorem rows_lt {f : Nat → List Edg} (h1 : ∀ i, ∀ x ∈ f i, x.1 = (i : Int)) (h2 : ∀ i, (f i).Pairwise fun x y => x.2.1 < y.2.1) : ∀ n, ((List.range n).flatMap f).Pairwise ltE
  | 0 => by simp
  | n + 1 => by
    rw [List.range_succ, List.flatMap_append, List.pairwise_append]
    refine ⟨rows_lt h1 h2 n, ?_, ?_⟩
    · rw [List.flatMap_cons, List.flatMap_nil, List.append_nil]
      have : (f n).Pairwise fun x y => (x ∈ f n ∧ y ∈ f n) ∧ x.2.1 < y.2.1 := List.Pairwise.imp_of_mem (fun {a b} ha hb h => ⟨⟨ha, hb⟩, h⟩) (h2 n)
      exact this.imp fun {x y} h => .inr ⟨by rw [h1 n x h.1.1, h1 n y h.1.2], h.2⟩
    · intro x hx y hy
      obtain ⟨i, hi, hx⟩ := List.mem_flatMap.1 hx
      rw [List.flatMap_cons, List.flatMap_nil, List.append_nil] at hy
      have := List.mem_range.1 hi
      exact .inl (by rw [h1 i x hx, h1 n y hy]; omega)
theorem rawM_ok (b : Int) (n : Nat) : (rawM b n).Pairwise (· < ·) ∧ ∀ x ∈ rawM b n, 0 ≤ x ∧ x < (n : Int) := by
  unfold rawM
  refine ⟨?_, fun x hx => ?_⟩
  · rw [List.pairwise_map]
    have : (List.range n).Pairwise (· < ·) := List.pairwise_lt_range
    exact (this.filter _).imp fun {a b} h => by omega
  · obtain ⟨i, hi, rfl⟩ := List.mem_map.1 hx
    have := List.mem_range.1 (List.mem_filter.1 hi).1
    omega
theorem tgtV_nn {x : Int} {n : Nat} (hx : 0 ≤ x ∧ x ≤ 255) (hn : n ≤ 5) : 0 ≤ tgtV x n := by
  unfold tgtV
  rw [w64 (by omega) (by omega), w64 (by omega) (by omega)]
  exact Int.tmod_nonneg _ hx.1
theorem rawN_b (gs : Int) : 1 ≤ rawN gs ∧ rawN gs ≤ 5 := by
  have h1 : 0 ≤ gs % 5 ∧ gs % 5 < 5 := ⟨Int.emod_nonneg _ (by decide), Int.emod_lt_of_pos _ (by decide)⟩
  unfold rawN
  omega
theorem mem_rowE {gt : Nat → Int} {n i : Nat} {s : List Int} {k : Nat} {x : Edg} (h : x ∈ rowE gt n i s k) : ∃ j, j < k ∧ ∃ ev, s[j]? = some ev ∧ tgtV (gt (5 * i + j)) n < n ∧ x = ((i : Int), ev, tgtV (gt (5 * i + j)) n) := by
  unfold rowE at h
  obtain ⟨j, hj, hx⟩ := List.mem_filterMap.1 h
  refine ⟨j, List.mem_range.1 hj, ?_⟩
  cases hs : s[j]? with
  | none => rw [hs] at hx; cases hx
  | some ev =>
    rw [hs] at hx
    by_cases c : tgtV (gt (5 * i + j)) n < n
    · simp only [c, if_true, Option.some.injEq] at hx
      exact ⟨ev, rfl, c, hx.symm⟩
    · simp only [c, if_false] at hx
      cases hx
theorem raw_ok {s : List Int} {gs gm : Int} {gt : Nat → Int} (hs : s.Pairwise (· < ·)) (hr : ∀ x ∈ s, 0 ≤ x ∧ x < 32) (hsl : s.length ≤ 5) (hg : ∀ j, 0 ≤ gt j ∧ gt j ≤ 255) : autOk (rawA s gs gm gt) := by
  obtain ⟨n1, n5⟩ := rawN_b gs
  have hm := rawM_ok gm (rawN gs)
  have hml := rawM_len gm (rawN gs)
  have hel := rawE_len gt (rawN gs) s (rawN gs)
  have hel2 : s.length * rawN gs ≤ 5 * 5 := Nat.mul_le_mul hsl n5
  refine ⟨by show (rawE gt (rawN gs) s (rawN gs)).length ≤ 1000000; omega, by show s.length ≤ 1000000; omega, by show (rawM gm (rawN gs)).length ≤ 1000000; omega, chkA_of ?_ ?_ ?_ ?_⟩
  · exact checkSet_of hs hr (fun y e => by cases e)
  · show (0 : Int) ≤ ((rawN gs : Nat) : Int) ∧ ((rawN gs : Nat) : Int) ≤ 4096
    omega
  · exact checkSet_of hm.1 hm.2 (fun y e => by cases e)
  · refine chkEds_of ?_ ?_ (fun y e => by cases e)
    · refine rows_lt (fun i x hx => ?_) (fun i => ?_) _
      · obtain ⟨j, _, ev, _, _, rfl⟩ := mem_rowE hx
        rfl
      · unfold rowE
        have hrg : (List.range s.length).Pairwise (· < ·) := List.pairwise_lt_range
        refine List.Pairwise.filterMap _ (fun a b hab x hx y hy => ?_) hrg
        have hget : ∀ {a : Nat} {x : Edg}, (match s[a]? with
            | some ev => if tgtV (gt (5 * i + a)) (rawN gs) < (rawN gs : Int) then some ((i : Int), ev, tgtV (gt (5 * i + a)) (rawN gs)) else none
            | none => none) = some x → s[a]? = some x.2.1 := by
          intro a x hx
          cases hs : s[a]? with
          | none => rw [hs] at hx; cases hx
          | some ev =>
            rw [hs] at hx
            by_cases c : tgtV (gt (5 * i + a)) (rawN gs) < (rawN gs : Int)
            · simp only [c, if_true, Option.some.injEq] at hx
              rw [← hx]
            · simp only [c, if_false] at hx
              cases hx
        have hx := hget hx
        have hy := hget hy
        obtain ⟨ha, ha2⟩ := List.getElem?_eq_some_iff.1 hx
        obtain ⟨hb, hb2⟩ := List.getElem?_eq_some_iff.1 hy
        rw [← ha2, ← hb2]
        exact List.pairwise_iff_getElem.1 hs a b ha hb hab
    · intro x hx
      obtain ⟨i, hi, hx⟩ := List.mem_flatMap.1 hx
      have hi := List.mem_range.1 hi
      obtain ⟨j, _, ev, he, ht, rfl⟩ := mem_rowE hx
      have := tgtV_nn (hg (5 * i + j)) n5
      refine ⟨⟨by simp only; omega, ?_⟩, ⟨this, ht⟩, List.mem_of_getElem? he⟩
      show (i : Int) < ((rawN gs : Nat) : Int)
      omega
/- Found. -/
theorem fvis_ok {es : List Edg} {s n : Int} (hes : ∀ x ∈ es, 0 ≤ x.2.2 ∧ x.2.2 < n) : ∀ {al out : List Int}, fOk n out → fOk n (fvis es s al out)
  | [], out, h => h
  | ev :: r, out, h => by
    simp only [fvis]
    split
    · rename_i c
      refine fvis_ok hes (fOk_app h ?_ c.2)
      rcases stp3_b (n := n) (es := es) (s := s) (ev := ev) hes with h1 | h1
      · rw [h1] at c; exact absurd c.1 (by decide)
      · exact h1
    · exact fvis_ok hes h
theorem fvis_pre {es : List Edg} {s : Int} : ∀ {al out : List Int}, out <+: fvis es s al out
  | [], out => List.prefix_refl _
  | ev :: r, out => by
    simp only [fvis]
    split
    · exact (List.prefix_append _ _).trans fvis_pre
    · exact fvis_pre
theorem fvis_has {es : List Edg} {s : Int} : ∀ {al out : List Int} {ev : Int}, ev ∈ al → 0 ≤ stp3 es s ev → stp3 es s ev ∈ fvis es s al out
  | e :: r, out, ev, h, c => by
    simp only [fvis]
    rcases List.mem_cons.1 h with rfl | h
    · by_cases c2 : stp3 es s ev ∈ out
      · rw [if_neg (fun h => h.2 c2)]
        exact fvis_pre.subset c2
      · rw [if_pos ⟨c, c2⟩]
        exact fvis_pre.subset (by simp)
    · exact fvis_has h c
theorem fndL_ok {es : List Edg} {al : List Int} {n : Nat} (hn : 1 ≤ n) (hes : ∀ x ∈ es, 0 ≤ x.2.2 ∧ x.2.2 < (n : Int)) {N : Nat} (hN : n < N) : ∀ (f i : Nat) (out : List Int), f + i = N → i ≤ out.length → fOk n out → (∀ s ∈ out.take i, ∀ ev ∈ al, 0 ≤ stp3 es s ev → stp3 es s ev ∈ out) →
    fOk n (fndL es al f i out) ∧ (∀ s ∈ fndL es al f i out, ∀ ev ∈ al, 0 ≤ stp3 es s ev → stp3 es s ev ∈ fndL es al f i out) ∧ out <+: fndL es al f i out
  | 0, i, out, hf, hi, h, _ => by
    rcases fOk_len h with h1 | h1
    · omega
    · rw [h1] at hi
      simp at hi
      omega
  | f + 1, i, out, hf, hi, h, hc => by
    simp only [fndL]
    cases hg : out[i]? with
    | none =>
      have : out.length ≤ i := by
        rcases Nat.lt_or_ge i out.length with h1 | h1
        · rw [List.getElem?_eq_getElem h1] at hg; cases hg
        · exact h1
      rw [List.take_of_length_le this] at hc
      exact ⟨h, hc, List.prefix_refl _⟩
    | some s =>
      have hlt : i < out.length := (List.getElem?_eq_some_iff.1 hg).1
      have hp := fvis_pre (es := es) (s := s) (al := al) (out := out)
      obtain ⟨r, hr⟩ := hp
      have htk : (fvis es s al out).take (i + 1) = out.take i ++ [s] := by
        rw [← hr, List.take_append_of_le_length (by omega), List.take_add_one, hg]; rfl
      obtain ⟨h1, h2, h3⟩ := fndL_ok hn hes hN f (i + 1) (fvis es s al out) (by omega) (by rw [← hr, List.length_append]; omega) (fvis_ok hes h) (fun t ht ev he c => by
        rw [htk, List.mem_append, List.mem_singleton] at ht
        rcases ht with ht | rfl
        · exact fvis_pre.subset (hc t ht ev he c)
        · exact fvis_has he c)
      exact ⟨h1, h2, fvis_pre.trans h3⟩
theorem found_ok {a : Aut} {n : Nat} (hst : a.states = n) (hn : 1 ≤ n ∧ n ≤ 4096) (hes : ∀ x ∈ a.edges, 0 ≤ x.2.2 ∧ x.2.2 < (n : Int)) :
    fOk n (foundR a) ∧ (∀ s ∈ foundR a, ∀ ev ∈ a.alpha, 0 ≤ stp3 a.edges s ev → stp3 a.edges s ev ∈ foundR a) ∧ [(0 : Int)] <+: foundR a :=
  fndL_ok hn.1 hes (N := 4097) (by omega) 4097 0 [0] rfl (by simp) ⟨by simp, fun x hx => by rw [List.mem_singleton] at hx; subst hx; constructor <;> omega⟩ (by simp)
theorem idxI_lt {t : Int} : ∀ {l : List Int} {i : Nat}, t ∈ l → (i : Int) ≤ idxI t l i ∧ idxI t l i < (i + l.length : Nat)
  | [], _, h => by simp at h
  | y :: r, i, h => by
    simp only [idxI]
    split
    · constructor
      · omega
      · simp only [List.length_cons]; omega
    · rename_i hne
      have hr : t ∈ r := by
        rcases List.mem_cons.1 h with rfl | h
        · simp at hne
        · exact h
      have := idxI_lt (i := i + 1) hr
      simp only [List.length_cons]
      constructor <;> omega
/-- What is canonical passes the check. -/
theorem can_ok {a : Aut} {n : Nat} (ha : autOk a) (hst : a.states = n) (hn : 1 ≤ n ∧ n ≤ 4096) : gAut (canR a (foundR a)) (foundR a).length ∧ (foundR a).length ≤ n := by
  obtain ⟨c1, c2, c3, c4⟩ := chk_parts ha.chk
  obtain ⟨_, eb, _⟩ := chkEds_sorted c4
  have hes : ∀ x ∈ a.edges, 0 ≤ x.2.2 ∧ x.2.2 < (n : Int) := fun x hx => by have := (eb x hx).2.1; rw [hst] at this; exact this
  obtain ⟨f1, f2, f3⟩ := found_ok hst hn hes
  have hal := checkSet_len (by decide) c1
  have hal : a.alpha.length ≤ 32 := by omega
  have hpw := (checkSet_sorted c1).1
  have hF : (foundR a).length ≤ n := by
    rcases fOk_len f1 with h | h
    · omega
    · rw [h]; simp
  generalize foundR a = F at *
  have hce := cEd_len (es := a.edges) (F := F) (al := a.alpha) (i := F.length) hal
  have hcm := cMk_len (F := F) (marked := a.marked) (i := F.length)
  refine ⟨⟨rfl, ⟨?_, ?_, ?_⟩, chkA_of c1 ?_ ?_ ?_⟩, hF⟩
  · show (cEd a.edges F a.alpha F.length).length ≤ 1000000
    omega
  · exact ha.al
  · show (cMk F a.marked F.length).length ≤ 1000000
    omega
  · show (0 : Int) ≤ (F.length : Int) ∧ (F.length : Int) ≤ 4096
    omega
  · show checkSet (F.length : Int) (cMk F a.marked F.length) none = 0
    unfold cMk
    refine checkSet_of ?_ (fun x hx => ?_) (fun y e => by cases e)
    · rw [List.pairwise_map]
      have : (List.range F.length).Pairwise (· < ·) := List.pairwise_lt_range
      exact (this.filter _).imp fun {a b} h => by omega
    · obtain ⟨i, hi, rfl⟩ := List.mem_map.1 hx
      have := List.mem_range.1 (List.mem_filter.1 hi).1
      omega
  · show chkEds a.alpha (F.length : Int) none (cEd a.edges F a.alpha F.length) = 0
    have hmem : ∀ {k : Nat} {x : Edg}, x ∈ (match F[k]? with
        | none => []
        | some s => a.alpha.filterMap (cOf a.edges F k s)) → ∃ s, F[k]? = some s ∧ x.1 = (k : Int) ∧ x.2.1 ∈ a.alpha ∧ 0 ≤ stp3 a.edges s x.2.1 ∧ x.2.2 = idxI (stp3 a.edges s x.2.1) F 0 := by
      intro k x hx
      cases hs : F[k]? with
      | none => rw [hs] at hx; cases hx
      | some s =>
        rw [hs] at hx
        obtain ⟨ev, he, hx⟩ := List.mem_filterMap.1 hx
        unfold cOf at hx
        by_cases c : 0 ≤ stp3 a.edges s ev
        · rw [if_pos c] at hx
          obtain rfl := Option.some.inj hx
          exact ⟨s, rfl, rfl, he, c, rfl⟩
        · rw [if_neg c] at hx; cases hx
    unfold cEd
    refine chkEds_of (rows_lt (fun i x hx => ?_) (fun i => ?_) _) (fun x hx => ?_) (fun y e => by cases e)
    · obtain ⟨_, _, h, _⟩ := hmem hx
      exact h
    · cases hs : F[i]? with
      | none => exact .nil
      | some s =>
        refine List.Pairwise.filterMap _ (fun p q hpq x hx y hy => ?_) hpw
        unfold cOf at hx hy
        by_cases cp : 0 ≤ stp3 a.edges s p
        · by_cases cq : 0 ≤ stp3 a.edges s q
          · rw [if_pos cp] at hx
            rw [if_pos cq] at hy
            obtain rfl := Option.some.inj hx
            obtain rfl := Option.some.inj hy
            exact hpq
          · rw [if_neg cq] at hy; cases hy
        · rw [if_neg cp] at hx; cases hx
    · obtain ⟨i, hi, hx⟩ := List.mem_flatMap.1 hx
      have hi := List.mem_range.1 hi
      obtain ⟨s, hs, h1, h2, h3, h4⟩ := hmem hx
      have h5 := f2 s (List.mem_of_getElem? hs) _ h2 h3
      have h6 := idxI_lt (i := 0) h5
      refine ⟨by rw [h1]; omega, ?_, h2⟩
      rw [h4]
      constructor
      · have := h6.1; omega
      · have := h6.2; omega
theorem mkA_ok {s : List Int} {gs gm : Int} {gt : Nat → Int} (hs : s.Pairwise (· < ·)) (hr : ∀ x ∈ s, 0 ≤ x ∧ x < 32) (hsl : s.length ≤ 5) (hg : ∀ j, 0 ≤ gt j ∧ gt j ≤ 255) :
    (autOk (rawA s gs gm gt) ∧ (foundR (rawA s gs gm gt)).length ≤ 4096) ∧ (∃ n, n ≤ 5 ∧ gAut (mkA s gs gm gt) n) ∧ (mkA s gs gm gt).alpha = s := by
  have hok := raw_ok (gs := gs) (gm := gm) hs hr hsl hg
  obtain ⟨n1, n5⟩ := rawN_b gs
  obtain ⟨h1, h2⟩ := can_ok hok (n := rawN gs) rfl ⟨n1, by omega⟩
  refine ⟨⟨hok, by omega⟩, ?_, ?_⟩
  · unfold mkA
    split
    · refine ⟨0, by omega, rfl, ⟨by simp, by simp only; omega, by simp⟩, chkA_of (checkSet_of hs hr (fun y e => by cases e)) ⟨by simp, by simp⟩ rfl rfl⟩
    · exact ⟨_, by omega, h1⟩
  · unfold mkA
    split <;> rfl
theorem evs_ok (b : Int) : (evsOf b).Pairwise (· < ·) ∧ (∀ x ∈ evsOf b, 0 ≤ x ∧ x < 32) ∧ (evsOf b).length ≤ 5 := by
  obtain ⟨h1, h2⟩ := rawM_ok b 5
  exact ⟨h1, fun x hx => by have := h2 x hx; omega, rawM_len b 5⟩
end Go.AI


/- Plain: Observer is what the law says. -/
namespace Go.AI
section
variable {S : Type} [DecidableEq S]
end
def hX (y : PS) : Option PS := if okX y = true then some y else none
end Go.AI


/- Plain: what refutes is accepted. -/
namespace Go.AI
end Go.AI


/- Law Observer. -/
namespace Go.AI
open Go.Proofs
set_option maxRecDepth 20000
abbrev grOkB (gs : Int) (gt : Nat → Int) : Prop := 0 ≤ gs ∧ ∀ j, 0 ≤ gt j ∧ gt j ≤ 255
theorem opE_good {a : Aut} {on un : List Int} (h : chkA a = 0) (h1 : checkSet 32 on none = 0) (h2 : checkSet 32 un none = 0) : opE a on un = 0 := by
  unfold opE
  rw [if_neg (fun c => c h), if_neg (fun c => c h1), h2]
theorem evs_chk (b : Int) : checkSet 32 (evsOf b) none = 0 := checkSet_of (evs_ok b).1 (evs_ok b).2.1 (fun y e => by cases e)
end Go.AI


/- Sets and graphs as arguments: data. -/
namespace Go.Proofs.YtmhllkmceipdcaaGreatDoor
open Go.ChangeShapes Go.WideShapes Go.ChangeAt Go.RowKit Go.Deep Go.WideElems
set_option maxRecDepth 100000
section
variable {H : Type} {enc : TypeId × Value → H} {P : Program} {W : World}
theorem okWide_array {r : Reach} {b0 n : Nat} {t e : TypeId} {v : Value} (ht : P.underlying t = some (.array n e)) (h : Value.okWide P W r b0 t v) : ∃ cs, v = .agg cs := by
  simp only [Value.okWide, ht] at h
  obtain ⟨cs, rfl, _⟩ := h
  exact ⟨cs, rfl⟩
theorem opn_arrayG {t e : TypeId} {m z : Nat} {R : List AI.I → Prop} (ht : P.underlying t = some (.array m e)) (hc : P.cellsOf e = z) (hct : P.cellsOf t = m * z) (he : Opn enc P W e R) :
    Opn enc P W t fun is => ∃ xs : List (List AI.I), xs.length = m ∧ is = xs.flatten ∧ ∀ x ∈ xs, R x := by
  intro n cs x h
  obtain ⟨xs, f, rfl, rfl, hl, hlen, hx⟩ := DataW.trod_array ht h
  rw [hct] at hl
  have build : ∀ k, k ≤ m → ∃ ys : List (List AI.I), ys.length = k ∧ AI.RepL (KW W) (cs.take (k * z)) ys.flatten ∧ ∀ y ∈ ys, R y := by
    intro k
    induction k with
    | zero => intro _; exact ⟨[], rfl, by rw [Nat.zero_mul, List.take_zero]; exact .nil, by simp⟩
    | succ k ih =>
      intro hk
      obtain ⟨ys, h1, h2, h3⟩ := ih (by omega)
      have h0 := hx k (by omega)
      rw [hc, List.getElem?_eq_getElem (by omega)] at h0
      obtain ⟨is, hr, hR⟩ := he _ _ _ h0
      refine ⟨ys ++ [is], by simp [h1], ?_, fun y hy => ?_⟩
      · rw [Nat.succ_mul, List.take_add, List.flatten_append]
        simpa using repL_app h2 hr
      · rcases List.mem_append.1 hy with hy | hy
        · exact h3 y hy
        · rw [List.mem_singleton] at hy
          subst hy
          exact hR
  obtain ⟨ys, h1, h2, h3⟩ := build m (Nat.le_refl _)
  rw [List.take_of_length_le (by omega)] at h2
  exact ⟨_, h2, ys, h1, rfl, h3⟩
theorem flat_u8 : ∀ {xs : List (List AI.I)}, (∀ x ∈ xs, ∃ zs : List Int, zs.length = 5 ∧ x = zs.map (fun z => AI.I.v (.int .u8 z)) ∧ ∀ z ∈ zs, (Lit.int .u8 z).wf = true) → ∃ L : List Int, L.length = 5 * xs.length ∧ xs.flatten = L.map (fun z => AI.I.v (.int .u8 z)) ∧ ∀ z ∈ L, 0 ≤ z ∧ z ≤ 255
  | [], _ => ⟨[], rfl, rfl, by simp⟩
  | x :: r, h => by
    obtain ⟨zs, h1, h2, h3⟩ := h x (by simp)
    obtain ⟨L, g1, g2, g3⟩ := flat_u8 (xs := r) fun y hy => h y (by simp [hy])
    refine ⟨zs ++ L, by rw [List.length_append, h1, g1, List.length_cons]; omega, by rw [List.flatten_cons, h2, g2, List.map_append], fun z hz => ?_⟩
    rcases List.mem_append.1 hz with hz | hz
    · exact wf_u8 (h3 z hz)
    · exact g3 z hz
end
section
variable {H : Type} {enc : TypeId × Value → H} {W : World}
theorem open_set3 {r : Reach} {b0 : Nat} {v : Value} {d : DataW H} {p : List MemPlace} (hv : Value.okWide Tryz.prog W r b0 23 v) (h : DataW.Trod enc Tryz.prog W 0 (fun _ => true) true 23 v d p) :
    ∃ b : Int × Int × Int, True ∧ ∀ ρ sh, AI.RepD (KW W) ρ sh v (.agg [AI.u8D b.1, AI.u8D b.2.1, AI.u8D b.2.2]) := by
  obtain ⟨cs, rfl⟩ := okWide_array Tryz.underlying23 hv
  obtain ⟨n, hn⟩ := h
  obtain ⟨is, hr, zs, hz, rfl, _⟩ := opn_array Tryz.underlying23 Tryz.underlying22 (by kernel_rfl) (by kernel_rfl) n _ _ hn
  match zs, hz with
  | [x, y, z], _ =>
    refine ⟨(x, y, z), trivial, fun ρ sh => ?_⟩
    have := AI.RepD.agg (AI.RepDL.ofL (ρ := ρ) (sh := sh) hr)
    simpa [Value.cells] using this
/-- A graph, by value. -/
theorem open_graph {r : Reach} {b0 : Nat} {v : Value} {d : DataW H} {p : List MemPlace} (hv : Value.okWide Tryz.prog W r b0 27 v) (h : DataW.Trod enc Tryz.prog W 0 (fun _ => true) true 27 v d p) :
    ∃ g : Int × Int × (Nat → Int), AI.grOkB g.1 g.2.2 ∧ ∀ ρ sh, AI.RepD (KW W) ρ sh v (.agg (AI.grC g.1 g.2.1 g.2.2)) := by
  obtain ⟨cs, rfl, _⟩ := okWide_struct Tryz.underlying27 hv
  obtain ⟨n, hn⟩ := h
  obtain ⟨is, hr, a, b, c, rfl, ⟨x, rfl, hx⟩, ⟨y, rfl, _⟩, ⟨xs, h5, rfl, hxs⟩⟩ := opn_struct3 Tryz.underlying27 (z0 := 1) (z1 := 1) (z2 := 25) (by kernel_rfl) (by kernel_rfl) (by kernel_rfl) (by kernel_rfl) rfl rfl rfl
    (opn_int Tryz.underlying5) (opn_int Tryz.underlying5) (opn_arrayG Tryz.underlying25 (z := 5) (by kernel_rfl) (by kernel_rfl) (opn_array Tryz.underlying24 Tryz.underlying5 (by kernel_rfl) (by kernel_rfl))) n _ _ hn
  obtain ⟨L, g1, g2, g3⟩ := flat_u8 hxs
  rw [h5] at g1
  rw [g2] at hr
  refine ⟨(x, y, fun j => L.getD j 0), ⟨(wf_u8 hx).1, fun j => ?_⟩, fun ρ sh => ?_⟩
  · show 0 ≤ L.getD j 0 ∧ L.getD j 0 ≤ 255
    rw [List.getD_eq_getElem?_getD]
    cases hj : L[j]? with
    | none => exact ⟨by decide, by decide⟩
    | some z => exact g3 z (List.mem_of_getElem? hj)
  · have := AI.RepD.agg (AI.RepDL.ofL (ρ := ρ) (sh := sh) hr)
    match L, g1 with
    | [a0, a1, a2, a3, a4, a5, a6, a7, a8, a9, a10, a11, a12, a13, a14, a15, a16, a17, a18, a19, a20, a21, a22, a23, a24], _ => exact (by simpa [Value.cells] using this : AI.RepD (KW W) ρ sh (.agg cs) (.agg [AI.u8D x, AI.u8D y, AI.u8D a0, AI.u8D a1, AI.u8D a2, AI.u8D a3, AI.u8D a4, AI.u8D a5, AI.u8D a6, AI.u8D a7, AI.u8D a8, AI.u8D a9, AI.u8D a10, AI.u8D a11, AI.u8D a12, AI.u8D a13, AI.u8D a14, AI.u8D a15, AI.u8D a16, AI.u8D a17, AI.u8D a18, AI.u8D a19, AI.u8D a20, AI.u8D a21, AI.u8D a22, AI.u8D a23, AI.u8D a24]))
end
end Go.Proofs.YtmhllkmceipdcaaGreatDoor


/- Plain: Consistent is what the law says. -/
namespace Go.AI
theorem enb_eq {a : Aut} {n : Nat} (h : gAut a n) (l : List Int) (ev : Int) : enabR a.edges l ev = enbR a.edges l ev := by
  unfold enabR enbR
  congr 1
  funext s
  cases hb : decide (stp3 a.edges s ev ≥ 0) with
  | true =>
    have h1 : stp3 a.edges s ev ≥ 0 := of_decide_eq_true hb
    by_cases c : ∃ e ∈ a.edges, e.1 = s ∧ e.2.1 = ev
    · obtain ⟨e, he, h2, h3⟩ := c
      exact List.any_eq_true.2 ⟨e, List.mem_filter.2 ⟨he, by simpa using h2⟩, by simpa using h3⟩
    · rw [stp3_no fun e he h => c ⟨e, he, h⟩] at h1
      exact absurd h1 (by decide)
  | false =>
    have h1 : ¬ stp3 a.edges s ev ≥ 0 := of_decide_eq_false hb
    cases hc : (a.edges.filter fun e => e.1 == s).any fun e => e.2.1 == ev with
    | false => rfl
    | true =>
      obtain ⟨e, he, h3⟩ := List.any_eq_true.1 hc
      obtain ⟨he, h2⟩ := List.mem_filter.1 he
      have h2 : e.1 = s := by simpa using h2
      have h3 : e.2.1 = ev := by simpa using h3
      have := stp3_of h.pw he
      rw [h2, h3] at this
      exact absurd (by rw [this]; exact (h.to e he).1) h1
theorem con_eq {a : Aut} {n : Nat} (h : gAut a n) (on un : List Int) (s ev : Int) : conR a on un n s ev = (decide (ev ∈ on) && (decide (ev ∈ un) && ctrR a on un n s ev)) := by
  unfold conR ctrR
  rw [enb_eq h, enb_eq h, low_un on un, Bool.and_assoc]
theorem runO_un (es : List Edg) (on un : List Int) (n : Nat) : ∀ (w : List Int) (x : OS), runO es on un n x w = runO es on [] n x w
  | [], _ => rfl
  | ev :: w, x => by
    have e : nxO es on un n x ev = nxO es on [] n x ev := by unfold nxO; rw [low_un on un]
    simp only [runO, e]
    rw [runO_un es on un n w]
theorem rchR_un (a : Aut) (on un : List Int) (n : Nat) (w : List Int) : rchR a on un n w = rchR a on [] n w := by
  unfold rchR
  rw [runO_un, low_un on un]
end Go.AI


/- Plain: Refutes and Contradicts are what the law says. -/
namespace Go.AI
theorem runO_W (es : List Edg) (on : List Int) (n : Nat) : ∀ (w : List Int) (x : OS) (k : Int), runO es on [] n x w = if (runW es x.1 w k).2 = k + w.length then some ((runW es x.1 w k).1, (w.filter fun e => decide (e ∈ on)).foldl (fun e ev => nxt es (lowP on [] false) n e ev) x.2) else none
  | [], x, k => by simp [runO, runW]
  | ev :: r, x, k => by
    have eW : runW es x.1 (ev :: r) k = if stp3 es x.1 ev < 0 then (x.1, k) else runW es (stp3 es x.1 ev) r (k + 1) := rfl
    have eO : runO es on [] n x (ev :: r) = if stp3 es x.1 ev < 0 then none else runO es on [] n (nxO es on [] n x ev) r := rfl
    by_cases c : stp3 es x.1 ev < 0
    · rw [if_pos c] at eW eO
      rw [eO, eW, if_neg]
      simp only [List.length_cons]
      omega
    · rw [if_neg c] at eW eO
      rw [eO, eW, runO_W es on n r (nxO es on [] n x ev) (k + 1)]
      have e1 : (nxO es on [] n x ev).1 = stp3 es x.1 ev := rfl
      rw [e1]
      have e2 : k + 1 + (r.length : Int) = k + ((ev :: r).length : Int) := by simp only [List.length_cons]; omega
      rw [e2]
      have e3 : (nxO es on [] n x ev).2 = if ev ∈ on then nxt es (lowP on [] false) n x.2 ev else x.2 := rfl
      rw [e3, List.filter_cons]
      by_cases c2 : ev ∈ on
      · simp only [c2, if_true, decide_true, List.foldl_cons]
      · simp only [c2, if_false, decide_false, Bool.false_eq_true]
/-- Is a word of the automaton's language? -/
def genB (a : Aut) (w : List Int) : Bool := decide (a.states > 0) && decide ((runW a.edges 0 w 0).2 = (w.length : Int))
theorem rch_W {a : Aut} {n : Nat} (h : gAut a n) (on w : List Int) : rchR a on [] n w = if genB a w = true then some ((runW a.edges 0 w 0).1, estR a on n (w.filter fun e => decide (e ∈ on))) else none := by
  have hst := h.st
  unfold rchR genB
  by_cases hn0 : n = 0
  · rw [if_pos hn0, if_neg]
    have : ¬ a.states > 0 := by omega
    simp [this]
  · rw [if_neg hn0, runO_W a.edges on n w _ 0]
    have h1 : a.states > 0 := by omega
    unfold estR begR
    rw [if_neg hn0]
    simp only [h1, decide_true, Bool.true_and, decide_eq_true_eq, Int.zero_add]
theorem rfs_eq {a : Aut} {n : Nat} (h : gAut a n) (on w obs : List Int) : rfsR a on n w obs = ((genB a w && obs.all fun ev => decide (ev ∈ keptR a on)) &&
    badM a (nxtL a.edges (lowP on [] false) n (estR a on n (w.filter fun e => decide (e ∈ on))) obs) (nxtL a.edges (lowP on [] false) n (clo a.edges (lowP on [] false) n [(runW a.edges 0 w 0).1]) obs)) := by
  unfold rfsR
  rw [rch_W h]
  cases hg : genB a w with
  | false => simp
  | true =>
    simp only [if_true, Bool.true_and]
    cases ha : obs.all fun ev => decide (ev ∈ keptR a on) with
    | true =>
      rw [if_neg]
      · simp
      · intro hc
        obtain ⟨ev, he, h1⟩ := List.any_eq_true.1 hc
        have := List.all_eq_true.1 ha ev he
        simp_all
    | false =>
      rw [if_pos]
      · simp
      · cases hc : obs.any fun ev => !decide (ev ∈ keptR a on) with
        | true => rfl
        | false =>
          have : (obs.all fun ev => decide (ev ∈ keptR a on)) = true := List.all_eq_true.2 fun ev he => by
            have := List.any_eq_false.1 hc ev he
            simpa using this
          rw [this] at ha; cases ha
theorem enb_no {a : Aut} {n : Nat} (h : gAut a n) {ev : Int} (he : ev ∉ a.alpha) (l : List Int) : enbR a.edges l ev = false := by
  unfold enbR
  rw [List.any_eq_false]
  intro s _
  have hno : stp3 a.edges s ev = -1 := stp3_no fun e hm hc => he (by have h1 := h.ev e hm; rw [hc.2] at h1; exact h1)
  rw [hno]
  decide
theorem con_kept {a : Aut} {n : Nat} (h : gAut a n) (on un : List Int) (s ev : Int) : conR a on un n s ev = ((decide (ev ∈ keptR a on) && decide (ev ∈ un)) && ctrR a on un n s ev) := by
  rw [con_eq h]
  by_cases c : ev ∈ a.alpha
  · have : decide (ev ∈ keptR a on) = decide (ev ∈ on) := by simp [keptR, List.mem_filter, c]
    rw [this, Bool.and_assoc]
  · have e1 : ctrR a on un n s ev = false := by
      unfold ctrR
      rw [enb_no h c]
      rfl
    rw [e1]
    simp
theorem cds_eq {a : Aut} {n : Nat} (h : gAut a n) (on un w : List Int) (ev : Int) : cdsR a on un n w ev = (((genB a w && decide (ev ∈ keptR a on)) && decide (ev ∈ un)) && ctrR a on un n (runW a.edges 0 w 0).1 ev) := by
  unfold cdsR
  rw [rchR_un, rch_W h]
  cases hg : genB a w with
  | false => simp
  | true =>
    simp only [if_true, Bool.true_and]
    exact con_kept h on un _ ev
end Go.AI


/- Law Consistent. -/
namespace Go.AI
open Go.Proofs
set_option maxRecDepth 20000
end Go.AI


/- Law Refutes. -/
namespace Go.AI
open Go.Proofs
set_option maxRecDepth 20000
set_option maxHeartbeats 16000000 in
theorem refutesL8 {g : Nat} (hg : IsTab g) {ty : TypeId} {fr : Nat × Nat} (O : List Heap) (b0 b1 b2 gs gm : Int) (gt : Nat → Int) (w0 w1 : List Int) (hgr : grOkB gs gt) (hw0 : w0.length ≤ max63) (hw1 : w1.length ≤ max63) :
    ASpecT g (ptab ty fr) Tryz.prog 8 [.agg [u8D b0, u8D b1, u8D b2], .agg (grC gs gm gt), .agg [ints w0, ints w1]] O (bb true) [] O := by
  have hkn := fun O => known11 hg (ty := ty) (fr := fr) O
  obtain ⟨e1, e2, e3⟩ := evs_ok b0
  obtain ⟨hraw, ⟨n, hn, hga⟩, hal⟩ := mkA_ok (gs := gs) (gm := gm) e1 e2 e3 hgr.2
  have hev := fun O b => events13 O b
  have hmk := fun O => make12 O (evsOf b0) gs gm gt e3 hgr.1 hraw.1 hraw.2
  have hol : (evsOf b1).length ≤ max63 := by have := (evs_ok b1).2.2; simp only [max63]; omega
  have hul : (evsOf b2).length ≤ max63 := by have := (evs_ok b2).2.2; simp only [max63]; omega
  have hop1 := opE_good hga.c (evs_chk b1) (show checkSet 32 [] none = 0 from rfl)
  have hop2 := opE_good hga.c (evs_chk b1) (evs_chk b2)
  generalize mkA (evsOf b0) gs gm gt = a at *
  have hev0 := fun O => hev O b0
  have hev1 := fun O => hev O b1
  have hev2 := fun O => hev O b2
  generalize evsOf b0 = s0 at *
  generalize evsOf b1 = on at *
  generalize evsOf b2 = un at *
  have hn' : ∀ {l : List Int} {k : Int}, decide (k < (l.length : Int)) = false → (l.length : Int) ≤ k := fun h => by simpa using h
  refine aspecT_stop [4, 6, 19, 25] Tk Tryz.func8 rfl Tryz.call8 Tryz.ntmps8 (Nat.le_of_ble_eq_true rfl) fun E hE => ?_
  refine g_run Tk Tryz.func8 ?_
  refine g_callT Tk Tryz.func8 hE (hkn _) rfl rfl rfl rfl rfl rfl ?_
  repeat (first | refine g_cnd Tk Tryz.func8 rfl (fun _ => ?_) (fun h => absurd h (by decide)) | refine g_know Tk Tryz.func8 rfl (fun _ => ?_) (fun h => absurd h (by decide)) | refine s_know Tk (fun _ => ?_) (fun h => absurd h (by decide)) | refine g_cnd Tk Tryz.func8 rfl (fun h => absurd h (by decide)) (fun _ => ?_) | refine g_know Tk Tryz.func8 rfl (fun h => absurd h (by decide)) (fun _ => ?_) | refine s_know Tk (fun h => absurd h (by decide)) (fun _ => ?_) | refine g_cnd Tk Tryz.func8 rfl (fun _ => ?_) (fun h => absurd (show true = false from h) (by decide)) | refine g_know Tk Tryz.func8 rfl (fun _ => ?_) (fun h => absurd (show true = false from h) (by decide)) | refine s_know Tk (fun _ => ?_) (fun h => absurd (show true = false from h) (by decide)) | refine g_cnd Tk Tryz.func8 rfl (fun h => absurd (show false = true from h) (by decide)) (fun _ => ?_) | refine g_know Tk Tryz.func8 rfl (fun h => absurd (show false = true from h) (by decide)) (fun _ => ?_) | refine s_know Tk (fun h => absurd (show false = true from h) (by decide)) (fun _ => ?_))
  first | refine g_need Tk Tryz.func8 (by decide) ?_ | refine s_need Tk (by decide) ?_
  first | refine g_cnd Tk Tryz.func8 rfl (fun c1 => ?_) (fun c1 => ?_) | refine g_know Tk Tryz.func8 rfl (fun c1 => ?_) (fun c1 => ?_) | refine s_know Tk (fun c1 => ?_) (fun c1 => ?_)
  · repeat (first | refine g_cnd Tk Tryz.func8 rfl (fun _ => ?_) (fun h => absurd h (by decide)) | refine g_know Tk Tryz.func8 rfl (fun _ => ?_) (fun h => absurd h (by decide)) | refine s_know Tk (fun _ => ?_) (fun h => absurd h (by decide)) | refine g_cnd Tk Tryz.func8 rfl (fun h => absurd h (by decide)) (fun _ => ?_) | refine g_know Tk Tryz.func8 rfl (fun h => absurd h (by decide)) (fun _ => ?_) | refine s_know Tk (fun h => absurd h (by decide)) (fun _ => ?_) | refine g_cnd Tk Tryz.func8 rfl (fun _ => ?_) (fun h => absurd (show true = false from h) (by decide)) | refine g_know Tk Tryz.func8 rfl (fun _ => ?_) (fun h => absurd (show true = false from h) (by decide)) | refine s_know Tk (fun _ => ?_) (fun h => absurd (show true = false from h) (by decide)) | refine g_cnd Tk Tryz.func8 rfl (fun h => absurd (show false = true from h) (by decide)) (fun _ => ?_) | refine g_know Tk Tryz.func8 rfl (fun h => absurd (show false = true from h) (by decide)) (fun _ => ?_) | refine s_know Tk (fun h => absurd (show false = true from h) (by decide)) (fun _ => ?_))
    refine g_callT Tk Tryz.func8 hE (hkn _) rfl rfl rfl rfl rfl rfl ?_
    refine g_ret Tk (r := bb true) rfl rfl rfl trivial rfl rfl ?_
    rfl
  first | refine g_need Tk Tryz.func8 (by decide) ?_ | refine s_need Tk (by decide) ?_
  first | refine g_cnd Tk Tryz.func8 rfl (fun c2 => ?_) (fun c2 => ?_) | refine g_know Tk Tryz.func8 rfl (fun c2 => ?_) (fun c2 => ?_) | refine s_know Tk (fun c2 => ?_) (fun c2 => ?_)
  · refine g_callT Tk Tryz.func8 hE (hkn _) rfl rfl rfl rfl rfl rfl ?_
    refine g_ret Tk (r := bb true) rfl rfl rfl trivial rfl rfl ?_
    rfl
  have k1 := hn' c1
  have k2 := hn' c2
  have hW0 : w0.length ≤ 1000000 := by omega
  have hW1 : w1.length ≤ 1000000 := by omega
  have hsm := hga.sm
  have hst := hga.st
  have hlb := clo_len a.edges (lowP on [] false) n
  have hrun := fun O => run28 O a 0 w0 (by have := hsm.ed; simp only [max63]; omega) hW0
  have hkp : ∀ O, ASpec Tryz.prog 29 [autD a, ints on] O (ints (keptR a on)) [] O := fun O => kept29 O a on hsm.al hol
  have hkl : (keptR a on).length ≤ max63 := Nat.le_trans (List.length_filter_le _ _) (by have := hsm.al; simp only [max63]; omega)
  have hobs := fun O => observe32 O on w0 hW0 hol
  have hest := fun O => estimate31 O a on (w0.filter fun x => decide (x ∈ on)) n hga (by omega) (Nat.le_trans (List.length_filter_le _ _) hW0) hol
  have hrea := fun O s => reachS33 O a on s n hga (by omega) hol
  have hnx := fun O e ev he => next34 O a on e ev n hga (by omega) he hol
  have hmar := fun O l hl => marked19 O a l (by have := hsm.mkd; simp only [max63]; omega) hl
  have hrf := fun O => refutes27 O a on w0 w1 n hst (by omega) hsm hol hW0 hW1 hop1
  have hct := fun O ev => contradicts25 O a on un w0 ev n hst (by omega) hsm hol hul hW0 hop2
  have hcd := fun O s ev => contradicted35 O a on un s ev n hga (by omega) hol hul
  have qrf := rfs_eq hga on w0 w1
  have qcd := fun ev => cds_eq hga on un w0 ev
  have qG : genB a w0 = (decide (a.states > 0) && decide ((runW a.edges 0 w0 0).2 = (w0.length : Int))) := rfl
  have hest0 : (estR a on n (w0.filter fun x => decide (x ∈ on))).length ≤ n := by
    unfold estR
    have h2 : ∀ (obs : List Int) (b : List Int), b.length ≤ n → (obs.foldl (fun e ev => nxt a.edges (lowP on [] false) n e ev) b).length ≤ n := by
      intro obs
      induction obs with
      | nil => intro b hb; exact hb
      | cons x r ih => intro b hb; exact ih _ (clo_len _ _ _ _)
    exact h2 _ _ (begR_len a on n)
  generalize rfsR a on n w0 w1 = RF at *
  generalize runW a.edges 0 w0 0 = rw0 at *
  generalize estR a on n (w0.filter fun x => decide (x ∈ on)) = est at *
  obtain ⟨st, dn⟩ := rw0
  simp only at hrun qrf qcd qG
  generalize genB a w0 = G at *
  generalize keptR a on = kp at *
  clear e1 e2 e3 hraw hal hev c1 c2 k1 k2 hga
  refine g_drawn Tk Tryz.func8 mixedT rfl ?_
  first | refine g_need Tk Tryz.func8 (by decide) ?_ | refine s_need Tk (by decide) ?_
  first | refine g_call Tk Tryz.func8 (hev0 _) rfl rfl rfl rfl rfl ?_ | refine s_callq Tk (fun _ => hev0 _) rfl rfl rfl ?_
  first | refine g_call Tk Tryz.func8 (hmk _) rfl rfl rfl rfl rfl ?_ | refine s_callq Tk (fun _ => hmk _) rfl rfl rfl ?_
  first | refine g_need Tk Tryz.func8 (by decide) ?_ | refine s_need Tk (by decide) ?_
  first | refine g_call Tk Tryz.func8 (hev1 _) rfl rfl rfl rfl rfl ?_ | refine s_callq Tk (fun _ => hev1 _) rfl rfl rfl ?_
  first | refine g_need Tk Tryz.func8 (by decide) ?_ | refine s_need Tk (by decide) ?_
  first | refine g_call Tk Tryz.func8 (hev2 _) rfl rfl rfl rfl rfl ?_ | refine s_callq Tk (fun _ => hev2 _) rfl rfl rfl ?_
  refine s_old Tk ?_
  refine d_mod Tk (p := ⟨[], [(7, .box (autC a))], none⟩) rfl rfl rfl ?_
  refine d_done Tk Tryz.func8 (by kernel_rfl) (GM.h ?_)
  refine g_stop ?_
  refine rch_wk (wk_cut (l := [(5, .own 0 5 0 0), (7, .own 0 7 0 0), (8, ints on), (9, ints un)]) (Hv := [(7, .box (autC a)), (5, .box [ints w0, ints w1])]) ⟨rfl, rfl, rfl, rfl, trivial⟩ rfl ⟨rfl, rfl, trivial⟩ rfl rfl) ?_
  refine g_run Tk Tryz.func8 ?_
  refine g_go Tk Tryz.func8 ?_
  first | refine g_need Tk Tryz.func8 (by decide) ?_ | refine s_need Tk (by decide) ?_
  first | refine g_call Tk Tryz.func8 (hrun _) rfl rfl rfl rfl rfl ?_ | refine s_callq Tk (fun _ => hrun _) rfl rfl rfl ?_
  apply join_p (P := True) (s6 := { σ := [(5, .own 0 5 0 0), (7, .own 0 7 0 0), (8, ints on), (9, ints un), (10, ii st), (12, bb G)], S := [(7, .box (autC a)), (5, .box [ints w0, ints w1])] :: O, n := 194 })
  · intro J
    first | refine g_cnd Tk Tryz.func8 rfl (fun c1 => ?_) (fun c1 => ?_) | refine g_know Tk Tryz.func8 rfl (fun c1 => ?_) (fun c1 => ?_) | refine s_know Tk (fun c1 => ?_) (fun c1 => ?_)
    · have c1 : a.states > 0 := of_decide_eq_true c1
      first | refine g_need Tk Tryz.func8 (by decide) ?_ | refine s_need Tk (by decide) ?_
      refine g_stop ?_
      refine rch_meet (J trivial) ⟨rfl, rfl, rfl, rfl, rfl, congrArg bb ?_, trivial⟩ rfl ⟨rfl, rfl, trivial⟩ rfl rfl
      rw [qG, decide_eq_true c1, Bool.true_and]
      rfl
    · have c1 : ¬ a.states > 0 := of_decide_eq_false c1
      refine g_stop ?_
      refine rch_meet (J trivial) ⟨rfl, rfl, rfl, rfl, rfl, congrArg bb ?_, trivial⟩ rfl ⟨rfl, rfl, trivial⟩ rfl rfl
      rw [qG, decide_eq_false c1, Bool.false_and]
  intro _
  refine g_run Tk Tryz.func8 ?_
  refine g_go Tk Tryz.func8 ?_
  first | refine g_call Tk Tryz.func8 (hkp _) rfl rfl rfl rfl rfl ?_ | refine s_callq Tk (fun _ => hkp _) rfl rfl rfl ?_
  apply join_q (α := Bool) (P := fun v => v = RF) (s6 := fun v => { σ := [(5, .own 0 5 0 0), (7, .own 0 7 0 0), (8, ints on), (9, ints un), (10, ii st), (12, bb G), (13, ints kp), (14, bb v)], S := [(7, .box (autC a)), (5, .box [ints w0, ints w1])] :: O, n := 194 })
  · intro J
    refine g_loop ?_
    refine rch_loop2 (fun x : Nat × Bool => [(5, .own 0 5 0 0), (7, .own 0 7 0 0), (8, ints on), (9, ints un), (10, ii st), (12, bb G), (13, ints kp), (14, bb x.2), (15, ii x.1)]) (fun _ => [(7, .box (autC a)), (5, .box [ints w0, ints w1])]) (fun _ => O) 194
      (fun x => x.1 ≤ w1.length ∧ (x.2 && (w1.drop x.1).all fun ev => decide (ev ∈ kp)) = (G && w1.all fun ev => decide (ev ∈ kp))) (fun x => w1.length - x.1) (0, G) ⟨Nat.zero_le _, by simp⟩ ⟨rfl, rfl, rfl, rfl, rfl, rfl, rfl, rfl, rfl, trivial⟩ rfl ⟨rfl, rfl, trivial⟩ rfl rfl ?_
    rintro ⟨i, b⟩ ⟨hi, hno⟩ ih
    simp only at hi hno
    have hj1 : ii (IntKind.i64.wrap ((i : Int) + 1)) = ii ((i + 1 : Nat) : Int) := congrArg ii (wsucc (n := 1000001) (by omega) (by decide))
    refine g_run Tk Tryz.func8 ?_
    first | refine g_need Tk Tryz.func8 (by decide) ?_ | refine s_need Tk (by decide) ?_
    first | refine g_cnd Tk Tryz.func8 rfl (fun g1 => ?_) (fun g1 => ?_) | refine g_know Tk Tryz.func8 rfl (fun g1 => ?_) (fun g1 => ?_) | refine s_know Tk (fun g1 => ?_) (fun g1 => ?_)
    · have g3 : i < w1.length := by simpa using g1
      clear g1
      have gx : (w1.map fun x => [vi x])[(i : Int).toNat]? = some [vi w1[i]] := get_mapZ (f := fun x => [vi x]) g3
      rw [List.drop_eq_getElem_cons g3, List.all_cons] at hno
      generalize w1[i] = x at *
      first | refine g_cnd Tk Tryz.func8 rfl (fun c2 => ?_) (fun c2 => ?_) | refine g_know Tk Tryz.func8 rfl (fun c2 => ?_) (fun c2 => ?_) | refine s_know Tk (fun c2 => ?_) (fun c2 => ?_)
      · have c2 : b = true := c2
        subst c2
        first | refine g_need Tk Tryz.func8 (by decide) ?_ | refine s_need Tk (by decide) ?_
        first | refine g_need Tk Tryz.func8 (by exact ⟨by omega, by show (i : Int) < (w1.length : Int); omega⟩) ?_ | refine s_need Tk (by exact ⟨by omega, by show (i : Int) < (w1.length : Int); omega⟩) ?_
        first | refine g_elem Tk Tryz.func8 (gx) ?_ | refine s_elem Tk (gx) ?_
        first | refine g_call Tk Tryz.func8 (has30 _ kp x hkl) rfl rfl rfl rfl rfl ?_ | refine s_callq Tk (fun _ => has30 _ kp x hkl) rfl rfl rfl ?_
        refine g_loop ?_
        exact ih (i + 1, decide (x ∈ kp)) _ _ ⟨g3, by simpa using hno⟩ (by simp only; omega) ⟨rfl, rfl, rfl, rfl, rfl, rfl, rfl, rfl, hj1, trivial⟩ rfl ⟨rfl, rfl, trivial⟩ rfl rfl
      · have c2 : b = false := c2
        subst c2
        refine g_loop ?_
        exact ih (i + 1, false) _ _ ⟨g3, by simpa using hno⟩ (by simp only; omega) ⟨rfl, rfl, rfl, rfl, rfl, rfl, rfl, rfl, hj1, trivial⟩ rfl ⟨rfl, rfl, trivial⟩ rfl rfl
    · have g1 : w1.length ≤ i := by simpa using g1
      rw [List.drop_of_length_le g1] at hno
      simp only [List.all_nil, Bool.and_true] at hno
      rw [← hno] at qrf
      clear hno ih
      first | refine g_cnd Tk Tryz.func8 rfl (fun c2 => ?_) (fun c2 => ?_) | refine g_know Tk Tryz.func8 rfl (fun c2 => ?_) (fun c2 => ?_) | refine s_know Tk (fun c2 => ?_) (fun c2 => ?_)
      · have c2 : b = true := c2
        subst c2
        simp only [Bool.true_and] at qrf
        have hc0 := hlb [st]
        have hrea' := fun O => hrea O st
        obtain ⟨C, hC⟩ : ∃ C, clo a.edges (lowP on [] false) n [st] = C := ⟨_, rfl⟩
        rw [hC] at hc0 qrf hrea'
        refine g_drawn Tk Tryz.func8 mixedT rfl ?_
        first | refine g_need Tk Tryz.func8 (by decide) ?_ | refine s_need Tk (by decide) ?_
        first | refine g_call Tk Tryz.func8 (hobs _) rfl rfl rfl rfl rfl ?_ | refine s_callq Tk (fun _ => hobs _) rfl rfl rfl ?_
        first | refine g_call Tk Tryz.func8 (hest _) rfl rfl rfl rfl rfl ?_ | refine s_callq Tk (fun _ => hest _) rfl rfl rfl ?_
        first | refine g_call Tk Tryz.func8 (hrea' _) rfl rfl rfl rfl rfl ?_ | refine s_callq Tk (fun _ => hrea' _) rfl rfl rfl ?_
        refine e_done Tk Tryz.func8 (by kernel_rfl) ?_
        refine g_loop ?_
        refine rch_loop2 (fun x : Nat × List Int × List Int => [(5, .own 0 5 0 0), (7, .own 0 7 0 0), (8, ints on), (9, ints un), (10, ii st), (12, bb G), (13, ints kp), (16, ints x.2.1), (17, ints x.2.2), (18, ii x.1)]) (fun _ => [(7, .box (autC a)), (5, .box [ints w0, ints w1])]) (fun _ => O) 194
          (fun x => x.1 ≤ w1.length ∧ x.2.1.length ≤ n ∧ x.2.2.length ≤ n ∧ RF = badM a (nxtL a.edges (lowP on [] false) n x.2.1 (w1.drop x.1)) (nxtL a.edges (lowP on [] false) n x.2.2 (w1.drop x.1))) (fun x => w1.length - x.1) (0, est, C) ⟨Nat.zero_le _, hest0, hc0, by simpa using qrf⟩ ⟨rfl, rfl, rfl, rfl, rfl, rfl, rfl, rfl, rfl, rfl, trivial⟩ rfl ⟨rfl, rfl, trivial⟩ rfl rfl ?_
        rintro ⟨i, X, Y⟩ ⟨hi, hX, hY, hno⟩ ih
        simp only at hi hX hY hno
        have hj1 : ii (IntKind.i64.wrap ((i : Int) + 1)) = ii ((i + 1 : Nat) : Int) := congrArg ii (wsucc (n := 1000001) (by omega) (by decide))
        refine g_run Tk Tryz.func8 ?_
        first | refine g_need Tk Tryz.func8 (by decide) ?_ | refine s_need Tk (by decide) ?_
        first | refine g_cnd Tk Tryz.func8 rfl (fun g1 => ?_) (fun g1 => ?_) | refine g_know Tk Tryz.func8 rfl (fun g1 => ?_) (fun g1 => ?_) | refine s_know Tk (fun g1 => ?_) (fun g1 => ?_)
        · have g1 : i < w1.length := by simpa using g1
          have gx : (w1.map fun x => [vi x])[(i : Int).toNat]? = some [vi w1[i]] := get_mapZ (f := fun x => [vi x]) g1
          rw [List.drop_eq_getElem_cons g1] at hno
          generalize w1[i] = x at *
          have hno : RF = badM a (nxtL a.edges (lowP on [] false) n (nxt a.edges (lowP on [] false) n X x) (w1.drop (i + 1))) (nxtL a.edges (lowP on [] false) n (nxt a.edges (lowP on [] false) n Y x) (w1.drop (i + 1))) := hno
          have hx1 := fun O => hnx O X x (by simp only [max63]; omega)
          have hx2 := fun O => hnx O Y x (by simp only [max63]; omega)
          have hl1 : (nxt a.edges (lowP on [] false) n X x).length ≤ n := hlb _
          have hl2 : (nxt a.edges (lowP on [] false) n Y x).length ≤ n := hlb _
          generalize nxt a.edges (lowP on [] false) n X x = X2 at *
          generalize nxt a.edges (lowP on [] false) n Y x = Y2 at *
          refine g_drawn Tk Tryz.func8 mixedT rfl ?_
          first | refine g_need Tk Tryz.func8 (by decide) ?_ | refine s_need Tk (by decide) ?_
          first | refine g_need Tk Tryz.func8 (by exact ⟨by omega, by show (i : Int) < (w1.length : Int); omega⟩) ?_ | refine s_need Tk (by exact ⟨by omega, by show (i : Int) < (w1.length : Int); omega⟩) ?_
          first | refine g_elem Tk Tryz.func8 (gx) ?_ | refine s_elem Tk (gx) ?_
          first | refine g_call Tk Tryz.func8 (hx1 _) rfl rfl rfl rfl rfl ?_ | refine s_callq Tk (fun _ => hx1 _) rfl rfl rfl ?_
          first | refine g_need Tk Tryz.func8 (by decide) ?_ | refine s_need Tk (by decide) ?_
          first | refine g_need Tk Tryz.func8 (by exact ⟨by omega, by show (i : Int) < (w1.length : Int); omega⟩) ?_ | refine s_need Tk (by exact ⟨by omega, by show (i : Int) < (w1.length : Int); omega⟩) ?_
          first | refine g_elem Tk Tryz.func8 (gx) ?_ | refine s_elem Tk (gx) ?_
          first | refine g_call Tk Tryz.func8 (hx2 _) rfl rfl rfl rfl rfl ?_ | refine s_callq Tk (fun _ => hx2 _) rfl rfl rfl ?_
          refine e_done Tk Tryz.func8 (by kernel_rfl) ?_
          refine g_loop ?_
          exact ih (i + 1, X2, Y2) _ _ ⟨g1, hl1, hl2, hno⟩ (by simp only; omega) ⟨rfl, rfl, rfl, rfl, rfl, rfl, rfl, rfl, rfl, hj1, trivial⟩ rfl ⟨rfl, rfl, trivial⟩ rfl rfl
        · have g1 : w1.length ≤ i := by simpa using g1
          rw [List.drop_of_length_le g1] at hno
          have hno : RF = ((X.any fun x => decide (x ∈ a.marked)) && !(Y.any fun x => decide (x ∈ a.marked))) := hno
          have hm1 := fun O => hmar O X (by simp only [max63]; omega)
          have hm2 := fun O => hmar O Y (by simp only [max63]; omega)
          generalize (X.any fun x => decide (x ∈ a.marked)) = m1 at *
          generalize (Y.any fun x => decide (x ∈ a.marked)) = m2 at *
          first | refine g_call Tk Tryz.func8 (hm1 _) rfl rfl rfl rfl rfl ?_ | refine s_callq Tk (fun _ => hm1 _) rfl rfl rfl ?_
          first | refine g_cnd Tk Tryz.func8 rfl (fun c3 => ?_) (fun c3 => ?_) | refine g_know Tk Tryz.func8 rfl (fun c3 => ?_) (fun c3 => ?_) | refine s_know Tk (fun c3 => ?_) (fun c3 => ?_)
          · have c3 : m1 = true := c3
            subst c3
            first | refine g_call Tk Tryz.func8 (hm2 _) rfl rfl rfl rfl rfl ?_ | refine s_callq Tk (fun _ => hm2 _) rfl rfl rfl ?_
            refine g_stop ?_
            refine rch_meet (J (!m2) (by rw [hno]; rfl)) ⟨rfl, rfl, rfl, rfl, rfl, rfl, rfl, rfl, trivial⟩ rfl ⟨rfl, rfl, trivial⟩ rfl rfl
          · have c3 : m1 = false := c3
            subst c3
            refine g_stop ?_
            refine rch_meet (J false (by rw [hno]; rfl)) ⟨rfl, rfl, rfl, rfl, rfl, rfl, rfl, rfl, trivial⟩ rfl ⟨rfl, rfl, trivial⟩ rfl rfl
      · have c2 : b = false := c2
        subst c2
        refine g_stop ?_
        refine rch_meet (J false (by rw [qrf]; rfl)) ⟨rfl, rfl, rfl, rfl, rfl, rfl, rfl, rfl, trivial⟩ rfl ⟨rfl, rfl, trivial⟩ rfl rfl
  rintro v rfl
  clear qrf hobs hest hrea hnx hmar
  refine g_run Tk Tryz.func8 ?_
  refine g_go Tk Tryz.func8 ?_
  first | refine g_need Tk Tryz.func8 (by decide) ?_ | refine s_need Tk (by decide) ?_
  first | refine g_need Tk Tryz.func8 (by decide) ?_ | refine s_need Tk (by decide) ?_
  first | refine g_call Tk Tryz.func8 (hrf _) rfl rfl rfl rfl rfl ?_ | refine s_callq Tk (fun _ => hrf _) rfl rfl rfl ?_
  repeat (first | refine g_cnd Tk Tryz.func8 rfl (fun _ => ?_) (fun h => absurd h (by decide)) | refine g_know Tk Tryz.func8 rfl (fun _ => ?_) (fun h => absurd h (by decide)) | refine s_know Tk (fun _ => ?_) (fun h => absurd h (by decide)) | refine g_cnd Tk Tryz.func8 rfl (fun h => absurd h (by decide)) (fun _ => ?_) | refine g_know Tk Tryz.func8 rfl (fun h => absurd h (by decide)) (fun _ => ?_) | refine s_know Tk (fun h => absurd h (by decide)) (fun _ => ?_) | refine g_cnd Tk Tryz.func8 rfl (fun _ => ?_) (fun h => absurd (show true = false from h) (by decide)) | refine g_know Tk Tryz.func8 rfl (fun _ => ?_) (fun h => absurd (show true = false from h) (by decide)) | refine s_know Tk (fun _ => ?_) (fun h => absurd (show true = false from h) (by decide)) | refine g_cnd Tk Tryz.func8 rfl (fun h => absurd (show false = true from h) (by decide)) (fun _ => ?_) | refine g_know Tk Tryz.func8 rfl (fun h => absurd (show false = true from h) (by decide)) (fun _ => ?_) | refine s_know Tk (fun h => absurd (show false = true from h) (by decide)) (fun _ => ?_))
  first | refine g_cnd Tk Tryz.func8 rfl (fun c1 => ?_) (fun c1 => ?_) | refine g_know Tk Tryz.func8 rfl (fun c1 => ?_) (fun c1 => ?_) | refine s_know Tk (fun c1 => ?_) (fun c1 => ?_)
  · exact absurd c1 (by simp)
  repeat (first | refine g_cnd Tk Tryz.func8 rfl (fun _ => ?_) (fun h => absurd h (by decide)) | refine g_know Tk Tryz.func8 rfl (fun _ => ?_) (fun h => absurd h (by decide)) | refine s_know Tk (fun _ => ?_) (fun h => absurd h (by decide)) | refine g_cnd Tk Tryz.func8 rfl (fun h => absurd h (by decide)) (fun _ => ?_) | refine g_know Tk Tryz.func8 rfl (fun h => absurd h (by decide)) (fun _ => ?_) | refine s_know Tk (fun h => absurd h (by decide)) (fun _ => ?_) | refine g_cnd Tk Tryz.func8 rfl (fun _ => ?_) (fun h => absurd (show true = false from h) (by decide)) | refine g_know Tk Tryz.func8 rfl (fun _ => ?_) (fun h => absurd (show true = false from h) (by decide)) | refine s_know Tk (fun _ => ?_) (fun h => absurd (show true = false from h) (by decide)) | refine g_cnd Tk Tryz.func8 rfl (fun h => absurd (show false = true from h) (by decide)) (fun _ => ?_) | refine g_know Tk Tryz.func8 rfl (fun h => absurd (show false = true from h) (by decide)) (fun _ => ?_) | refine s_know Tk (fun h => absurd (show false = true from h) (by decide)) (fun _ => ?_))
  apply join_q (α := Int) (P := fun _ => True) (s6 := fun ev => { σ := [(7, .own 0 7 0 0), (5, .own 0 5 0 0), (8, ints on), (9, ints un), (10, ii st), (12, bb G), (13, ints kp), (21, ii ev)], S := [(7, .box (autC a)), (5, .box [ints w0, ints w1])] :: O, n := 194 })
  · intro J
    first | refine g_need Tk Tryz.func8 (by decide) ?_ | refine s_need Tk (by decide) ?_
    first | refine g_cnd Tk Tryz.func8 rfl (fun c2 => ?_) (fun c2 => ?_) | refine g_know Tk Tryz.func8 rfl (fun c2 => ?_) (fun c2 => ?_) | refine s_know Tk (fun c2 => ?_) (fun c2 => ?_)
    · have c2 : (w1.length : Int) > 0 := of_decide_eq_true c2
      have gx : (w1.map fun x => [vi x])[0]? = some [vi (w1[0]'(by omega))] := by rw [List.getElem?_map, List.getElem?_eq_getElem (by omega)]; rfl
      first | refine g_need Tk Tryz.func8 (by decide) ?_ | refine s_need Tk (by decide) ?_
      first | refine g_need Tk Tryz.func8 (by exact ⟨by omega, by show (0 : Int) < (w1.length : Int); omega⟩) ?_ | refine s_need Tk (by exact ⟨by omega, by show (0 : Int) < (w1.length : Int); omega⟩) ?_
      first | refine g_elem Tk Tryz.func8 (gx) ?_ | refine s_elem Tk (gx) ?_
      refine g_stop ?_
      refine rch_meet (J _ trivial) ⟨rfl, rfl, rfl, rfl, rfl, rfl, rfl, rfl, trivial⟩ rfl ⟨rfl, rfl, trivial⟩ rfl rfl
    · refine g_stop ?_
      refine rch_meet (J (-1) trivial) ⟨rfl, rfl, rfl, rfl, rfl, rfl, rfl, rfl, trivial⟩ rfl ⟨rfl, rfl, trivial⟩ rfl rfl
  intro ev _
  have hct := fun O => hct O ev
  have qcd := qcd ev
  have hcd := fun O => hcd O st ev
  generalize cdsR a on un n w0 ev = CD at *
  generalize ctrR a on un n st ev = CT at *
  refine g_run Tk Tryz.func8 ?_
  refine g_go Tk Tryz.func8 ?_
  first | refine g_need Tk Tryz.func8 (by decide) ?_ | refine s_need Tk (by decide) ?_
  first | refine g_call Tk Tryz.func8 (hct _) rfl rfl rfl rfl rfl ?_ | refine s_callq Tk (fun _ => hct _) rfl rfl rfl ?_
  repeat (first | refine g_cnd Tk Tryz.func8 rfl (fun _ => ?_) (fun h => absurd h (by decide)) | refine g_know Tk Tryz.func8 rfl (fun _ => ?_) (fun h => absurd h (by decide)) | refine s_know Tk (fun _ => ?_) (fun h => absurd h (by decide)) | refine g_cnd Tk Tryz.func8 rfl (fun h => absurd h (by decide)) (fun _ => ?_) | refine g_know Tk Tryz.func8 rfl (fun h => absurd h (by decide)) (fun _ => ?_) | refine s_know Tk (fun h => absurd h (by decide)) (fun _ => ?_) | refine g_cnd Tk Tryz.func8 rfl (fun _ => ?_) (fun h => absurd (show true = false from h) (by decide)) | refine g_know Tk Tryz.func8 rfl (fun _ => ?_) (fun h => absurd (show true = false from h) (by decide)) | refine s_know Tk (fun _ => ?_) (fun h => absurd (show true = false from h) (by decide)) | refine g_cnd Tk Tryz.func8 rfl (fun h => absurd (show false = true from h) (by decide)) (fun _ => ?_) | refine g_know Tk Tryz.func8 rfl (fun h => absurd (show false = true from h) (by decide)) (fun _ => ?_) | refine s_know Tk (fun h => absurd (show false = true from h) (by decide)) (fun _ => ?_))
  first | refine g_cnd Tk Tryz.func8 rfl (fun c1 => ?_) (fun c1 => ?_) | refine g_know Tk Tryz.func8 rfl (fun c1 => ?_) (fun c1 => ?_) | refine s_know Tk (fun c1 => ?_) (fun c1 => ?_)
  · have c1 : G = true := c1
    subst c1
    first | refine g_call Tk Tryz.func8 (has30 _ kp ev hkl) rfl rfl rfl rfl rfl ?_ | refine s_callq Tk (fun _ => has30 _ kp ev hkl) rfl rfl rfl ?_
    first | refine g_cnd Tk Tryz.func8 rfl (fun c2 => ?_) (fun c2 => ?_) | refine g_know Tk Tryz.func8 rfl (fun c2 => ?_) (fun c2 => ?_) | refine s_know Tk (fun c2 => ?_) (fun c2 => ?_)
    · rw [show decide (ev ∈ kp) = true from c2] at qcd
      first | refine g_call Tk Tryz.func8 (has30 _ un ev hul) rfl rfl rfl rfl rfl ?_ | refine s_callq Tk (fun _ => has30 _ un ev hul) rfl rfl rfl ?_
      first | refine g_cnd Tk Tryz.func8 rfl (fun c3 => ?_) (fun c3 => ?_) | refine g_know Tk Tryz.func8 rfl (fun c3 => ?_) (fun c3 => ?_) | refine s_know Tk (fun c3 => ?_) (fun c3 => ?_)
      · rw [show decide (ev ∈ un) = true from c3] at qcd
        first | refine g_call Tk Tryz.func8 (hcd _) rfl rfl rfl rfl rfl ?_ | refine s_callq Tk (fun _ => hcd _) rfl rfl rfl ?_
        refine g_ret Tk (r := bb (CD == CT)) rfl rfl rfl trivial rfl rfl ?_
        rw [qcd]
        simp
      · rw [show decide (ev ∈ un) = false from c3] at qcd
        repeat (first | refine g_cnd Tk Tryz.func8 rfl (fun _ => ?_) (fun h => absurd h (by decide)) | refine g_know Tk Tryz.func8 rfl (fun _ => ?_) (fun h => absurd h (by decide)) | refine s_know Tk (fun _ => ?_) (fun h => absurd h (by decide)) | refine g_cnd Tk Tryz.func8 rfl (fun h => absurd h (by decide)) (fun _ => ?_) | refine g_know Tk Tryz.func8 rfl (fun h => absurd h (by decide)) (fun _ => ?_) | refine s_know Tk (fun h => absurd h (by decide)) (fun _ => ?_) | refine g_cnd Tk Tryz.func8 rfl (fun _ => ?_) (fun h => absurd (show true = false from h) (by decide)) | refine g_know Tk Tryz.func8 rfl (fun _ => ?_) (fun h => absurd (show true = false from h) (by decide)) | refine s_know Tk (fun _ => ?_) (fun h => absurd (show true = false from h) (by decide)) | refine g_cnd Tk Tryz.func8 rfl (fun h => absurd (show false = true from h) (by decide)) (fun _ => ?_) | refine g_know Tk Tryz.func8 rfl (fun h => absurd (show false = true from h) (by decide)) (fun _ => ?_) | refine s_know Tk (fun h => absurd (show false = true from h) (by decide)) (fun _ => ?_))
        refine g_ret Tk (r := bb (CD == false)) rfl rfl rfl trivial rfl rfl ?_
        rw [qcd]
        simp
    · rw [show decide (ev ∈ kp) = false from c2] at qcd
      repeat (first | refine g_cnd Tk Tryz.func8 rfl (fun _ => ?_) (fun h => absurd h (by decide)) | refine g_know Tk Tryz.func8 rfl (fun _ => ?_) (fun h => absurd h (by decide)) | refine s_know Tk (fun _ => ?_) (fun h => absurd h (by decide)) | refine g_cnd Tk Tryz.func8 rfl (fun h => absurd h (by decide)) (fun _ => ?_) | refine g_know Tk Tryz.func8 rfl (fun h => absurd h (by decide)) (fun _ => ?_) | refine s_know Tk (fun h => absurd h (by decide)) (fun _ => ?_) | refine g_cnd Tk Tryz.func8 rfl (fun _ => ?_) (fun h => absurd (show true = false from h) (by decide)) | refine g_know Tk Tryz.func8 rfl (fun _ => ?_) (fun h => absurd (show true = false from h) (by decide)) | refine s_know Tk (fun _ => ?_) (fun h => absurd (show true = false from h) (by decide)) | refine g_cnd Tk Tryz.func8 rfl (fun h => absurd (show false = true from h) (by decide)) (fun _ => ?_) | refine g_know Tk Tryz.func8 rfl (fun h => absurd (show false = true from h) (by decide)) (fun _ => ?_) | refine s_know Tk (fun h => absurd (show false = true from h) (by decide)) (fun _ => ?_))
      refine g_ret Tk (r := bb (CD == false)) rfl rfl rfl trivial rfl rfl ?_
      rw [qcd]
      simp
  · have c1 : G = false := c1
    subst c1
    repeat (first | refine g_cnd Tk Tryz.func8 rfl (fun _ => ?_) (fun h => absurd h (by decide)) | refine g_know Tk Tryz.func8 rfl (fun _ => ?_) (fun h => absurd h (by decide)) | refine s_know Tk (fun _ => ?_) (fun h => absurd h (by decide)) | refine g_cnd Tk Tryz.func8 rfl (fun h => absurd h (by decide)) (fun _ => ?_) | refine g_know Tk Tryz.func8 rfl (fun h => absurd h (by decide)) (fun _ => ?_) | refine s_know Tk (fun h => absurd h (by decide)) (fun _ => ?_) | refine g_cnd Tk Tryz.func8 rfl (fun _ => ?_) (fun h => absurd (show true = false from h) (by decide)) | refine g_know Tk Tryz.func8 rfl (fun _ => ?_) (fun h => absurd (show true = false from h) (by decide)) | refine s_know Tk (fun _ => ?_) (fun h => absurd (show true = false from h) (by decide)) | refine g_cnd Tk Tryz.func8 rfl (fun h => absurd (show false = true from h) (by decide)) (fun _ => ?_) | refine g_know Tk Tryz.func8 rfl (fun h => absurd (show false = true from h) (by decide)) (fun _ => ?_) | refine s_know Tk (fun h => absurd (show false = true from h) (by decide)) (fun _ => ?_))
    refine g_ret Tk (r := bb (CD == false)) rfl rfl rfl trivial rfl rfl ?_
    rw [qcd]
    simp
end Go.AI


/- Two lists of ints as an argument: data. -/
namespace Go.Proofs.YtmhllkmceipdcaaGreatDoor
open Go.ChangeShapes Go.WideShapes Go.ChangeAt Go.RowKit Go.Deep Go.WideElems
set_option maxRecDepth 100000
section
variable {H : Type} {enc : TypeId × Value → H} {W : World}
theorem open_two {r : Reach} {b0 : Nat} {v : Value} {d : DataW H} {p : List MemPlace} (hv : Value.okWide Tryz.prog W r b0 60 v) (h : DataW.Trod enc Tryz.prog W 0 (fun _ => true) true 60 v d p) :
    ∃ w : List Int × List Int, (w.1.length ≤ AI.max63 ∧ w.2.length ≤ AI.max63) ∧ ∀ ρ sh, AI.RepD (KW W) ρ sh v (.agg [AI.ints w.1, AI.ints w.2]) := by
  obtain ⟨cs, rfl⟩ := okWide_array Tryz.underlying60 hv
  obtain ⟨n, hn⟩ := h
  obtain ⟨is, hr, xs, hl, rfl, hx⟩ := opn_arrayG Tryz.underlying60 (z := 1) (by kernel_rfl) (by kernel_rfl) opn_ints n _ _ hn
  match xs, hl with
  | [a, b], _ =>
    obtain ⟨x, hx1, hx2⟩ := hx a (by simp)
    obtain ⟨y, hy1, hy2⟩ := hx b (by simp)
    subst hx1
    subst hy1
    refine ⟨(x, y), ⟨hx2, hy2⟩, fun ρ sh => ?_⟩
    have := AI.RepD.agg (AI.RepDL.ofL (ρ := ρ) (sh := sh) hr)
    simpa [Value.cells] using this
end
end Go.Proofs.YtmhllkmceipdcaaGreatDoor
