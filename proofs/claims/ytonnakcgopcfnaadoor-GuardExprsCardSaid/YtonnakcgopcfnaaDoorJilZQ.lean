/- The layer of abstract runs, part 43. -/
import Derived.Test.YtonnakcgopcfnaaDoorJilZP
import Derived.KernelRfl
set_option linter.unusedSimpArgs false
set_option linter.unusedVariables false
set_option linter.all false

/- Boxes checked; the literals of a box. -/
namespace Go.AI
open Go.Proofs
set_option maxRecDepth 20000
def chkV : List Vr → List Int → List Int → Int
  | v :: r, lo :: ls, hi :: hs => if lo < v.low ∨ hi > v.high ∨ lo > hi then 2 else chkV r ls hs
  | _, _, _ => 0
def chkBx (l : List Vr) (b : Bx) : Int := if b.low.length ≠ l.length ∨ b.high.length ≠ l.length then 4 else chkV l b.low b.high
def chkBs (l : List Vr) : List Bx → Int
  | [] => 0
  | b :: r => if chkBx l b ≠ 0 then chkBx l b else chkBs l r
def checkBoxesR (l : List Vr) (boxes : List Bx) : Int := if (allG l).2 ≠ 0 then (allG l).2 else chkBs l boxes
set_option maxHeartbeats 4000000 in
theorem checkBoxes89 (O : List Heap) (l : List Vr) (boxes : List Bx) (hl : l.length ≤ max63) (hn : ∀ v ∈ l, v.name.size ≤ max63) (hbl : boxes.length ≤ max63) : ASpec Tryd.prog 89 [vrs l, bxs boxes] O (ii (checkBoxesR l boxes)) [] O := by
  have ha := fun O => allG30 O l hl hn
  have hgok := @allG_ok l
  generalize hR : checkBoxesR l boxes = R
  unfold checkBoxesR at hR
  generalize allG l = A at *
  obtain ⟨dom, e⟩ := A
  simp only at ha hR hgok
  refine aspec_intro Tk Tryd.func89 rfl Tryd.call89 Tryd.ntmps89 (Nat.le_of_ble_eq_true rfl) fun E => ?_
  refine g_run Tk Tryd.func89 ?_
  first | refine g_call Tk Tryd.func89 (ha _) rfl rfl rfl rfl rfl ?_ | refine s_callq Tk (fun _ => ha _) rfl rfl rfl ?_
  first | refine g_cnd Tk Tryd.func89 rfl (fun h1 => ?_) (fun h1 => ?_) | refine g_know Tk Tryd.func89 rfl (fun h1 => ?_) (fun h1 => ?_) | refine s_know Tk (fun h1 => ?_) (fun h1 => ?_)
  · have h1 := bneT h1
    rw [if_pos h1] at hR
    subst hR
    refine g_ret Tk (r := ii e) rfl rfl rfl trivial rfl rfl ?_
    rfl
  have h1 := bneF h1
  rw [if_neg (by simpa using h1)] at hR
  have hd := (hgok h1).1
  have hl16 := hd.len
  clear hgok h1 ha
  refine g_loop ?_
  refine rch_loop2 (fun i : Nat => [(0, vrs l), (19, bxs boxes), (20, ii boxes.length), (21, ii i)]) (fun _ => []) (fun _ => O) 79
    (fun i => i ≤ boxes.length ∧ chkBs l (boxes.drop i) = R) (fun i => boxes.length - i) 0 ⟨Nat.zero_le _, hR⟩ ⟨rfl, rfl, rfl, rfl, trivial⟩ rfl trivial rfl rfl ?_
  clear hR
  rintro i ⟨hi, hno⟩ ih
  refine g_run Tk Tryd.func89 ?_
  first | refine g_cnd Tk Tryd.func89 rfl (fun g1 => ?_) (fun g1 => ?_) | refine g_know Tk Tryd.func89 rfl (fun g1 => ?_) (fun g1 => ?_) | refine s_know Tk (fun g1 => ?_) (fun g1 => ?_)
  · have h1 : i < boxes.length := by simpa using g1
    clear g1
    have gb : (boxes.map bxI)[(i : Int).toNat]? = some (bxI boxes[i]) := get_mapZ h1
    have db : boxes.drop i = boxes[i] :: boxes.drop (i + 1) := List.drop_eq_getElem_cons h1
    rw [db] at hno
    simp only [chkBs] at hno
    clear db
    generalize boxes[i] = b at *
    obtain ⟨lo, hi2⟩ := b
    have e4 : (lo.length ≠ l.length ∨ hi2.length ≠ l.length) → chkBx l ⟨lo, hi2⟩ = 4 := fun h => if_pos h
    have e0 : ¬ (lo.length ≠ l.length ∨ hi2.length ≠ l.length) → chkBx l ⟨lo, hi2⟩ = chkV l lo hi2 := fun h => if_neg h
    generalize chkBx l ⟨lo, hi2⟩ = K at *
    first | refine g_need Tk Tryd.func89 (by exact ⟨by omega, by show (i : Int) < (boxes.length : Int); omega⟩) ?_ | refine s_need Tk (by exact ⟨by omega, by show (i : Int) < (boxes.length : Int); omega⟩) ?_
    first | refine g_elem Tk Tryd.func89 (gb) ?_ | refine s_elem Tk (gb) ?_
    first | refine g_cnd Tk Tryd.func89 rfl (fun h2 => ?_) (fun h2 => ?_) | refine g_know Tk Tryd.func89 rfl (fun h2 => ?_) (fun h2 => ?_) | refine s_know Tk (fun h2 => ?_) (fun h2 => ?_)
    · have h2 : (lo.length : Int) ≠ l.length := bneT h2
      have e := e4 (.inl (by omega))
      rw [e, if_pos (by decide)] at hno
      subst hno
      repeat (first | refine g_cnd Tk Tryd.func89 rfl (fun _ => ?_) (fun h => absurd h (by decide)) | refine g_know Tk Tryd.func89 rfl (fun _ => ?_) (fun h => absurd h (by decide)) | refine s_know Tk (fun _ => ?_) (fun h => absurd h (by decide)) | refine g_cnd Tk Tryd.func89 rfl (fun h => absurd h (by decide)) (fun _ => ?_) | refine g_know Tk Tryd.func89 rfl (fun h => absurd h (by decide)) (fun _ => ?_) | refine s_know Tk (fun h => absurd h (by decide)) (fun _ => ?_) | refine g_cnd Tk Tryd.func89 rfl (fun _ => ?_) (fun h => absurd (show true = false from h) (by decide)) | refine g_know Tk Tryd.func89 rfl (fun _ => ?_) (fun h => absurd (show true = false from h) (by decide)) | refine s_know Tk (fun _ => ?_) (fun h => absurd (show true = false from h) (by decide)) | refine g_cnd Tk Tryd.func89 rfl (fun h => absurd (show false = true from h) (by decide)) (fun _ => ?_) | refine g_know Tk Tryd.func89 rfl (fun h => absurd (show false = true from h) (by decide)) (fun _ => ?_) | refine s_know Tk (fun h => absurd (show false = true from h) (by decide)) (fun _ => ?_))
      refine g_ret Tk (r := ii 4) rfl rfl rfl trivial rfl rfl ?_
      rfl
    have h2 : (lo.length : Int) = l.length := bneF h2
    first | refine g_cnd Tk Tryd.func89 rfl (fun h3 => ?_) (fun h3 => ?_) | refine g_know Tk Tryd.func89 rfl (fun h3 => ?_) (fun h3 => ?_) | refine s_know Tk (fun h3 => ?_) (fun h3 => ?_)
    · have h3 : (hi2.length : Int) ≠ l.length := bneT h3
      have e := e4 (.inr (by omega))
      rw [e, if_pos (by decide)] at hno
      subst hno
      refine g_ret Tk (r := ii 4) rfl rfl rfl trivial rfl rfl ?_
      rfl
    have h3 : (hi2.length : Int) = l.length := bneF h3
    have e := e0 (by omega)
    rw [e] at hno
    clear e e0 e4
    have hc0 : chkV l lo hi2 = chkV (l.drop 0) (lo.drop 0) (hi2.drop 0) := rfl
    generalize chkV l lo hi2 = C at *
    refine g_loop ?_
    refine rch_loop2 (fun j : Nat => [(0, vrs l), (8, .own 0 8 0 0), (19, bxs boxes), (20, ii boxes.length), (21, ii i), (39, vrs l), (40, ii l.length), (41, ii j)]) (fun _ => [(8, .box [ints lo, ints hi2])]) (fun _ => O) 79
      (fun j => j ≤ l.length ∧ C = chkV (l.drop j) (lo.drop j) (hi2.drop j)) (fun j => l.length - j) 0 ⟨Nat.zero_le _, hc0⟩ ⟨rfl, rfl, rfl, rfl, rfl, rfl, rfl, rfl, trivial⟩ rfl ⟨rfl, trivial⟩ rfl rfl ?_
    clear hc0
    rintro j ⟨hj, hcj⟩ ih2
    refine g_run Tk Tryd.func89 ?_
    first | refine g_cnd Tk Tryd.func89 rfl (fun g2 => ?_) (fun g2 => ?_) | refine g_know Tk Tryd.func89 rfl (fun g2 => ?_) (fun g2 => ?_) | refine s_know Tk (fun g2 => ?_) (fun g2 => ?_)
    · have h4 : j < l.length := by simpa using g2
      clear g2
      have gv : (l.map vrI)[(j : Int).toNat]? = some (vrI l[j]) := get_mapZ h4
      have gl : (lo.map fun x => [vi x])[(j : Int).toNat]? = some [vi (lo[j]'(by omega))] := get_mapZ (f := fun x => [vi x]) (by omega)
      have gh : (hi2.map fun x => [vi x])[(j : Int).toNat]? = some [vi (hi2[j]'(by omega))] := get_mapZ (f := fun x => [vi x]) (by omega)
      have dv : l.drop j = l[j] :: l.drop (j + 1) := List.drop_eq_getElem_cons h4
      have dl : lo.drop j = (lo[j]'(by omega)) :: lo.drop (j + 1) := List.drop_eq_getElem_cons (by omega)
      have dh : hi2.drop j = (hi2[j]'(by omega)) :: hi2.drop (j + 1) := List.drop_eq_getElem_cons (by omega)
      rw [dv, dl, dh] at hcj
      simp only [chkV] at hcj
      clear dv dl dh
      generalize l[j] = v at *
      generalize lo[j]'(by omega) = a at *
      generalize hi2[j]'(by omega) = c at *
      have hbl : 0 ≤ (j : Int) ∧ (j : Int) < (lo.length : Int) := by omega
      have hbh : 0 ≤ (j : Int) ∧ (j : Int) < (hi2.length : Int) := by omega
      have bad : (a < v.low ∨ c > v.high ∨ a > c) → R = 2 := fun h => by rw [← hno, hcj, if_pos h, if_pos (by decide)]
      have good : ¬ (a < v.low ∨ c > v.high ∨ a > c) → C = chkV (l.drop (j + 1)) (lo.drop (j + 1)) (hi2.drop (j + 1)) := fun h => by rw [hcj, if_neg h]
      clear hcj
      first | refine g_need Tk Tryd.func89 (by exact ⟨by omega, by show (j : Int) < (l.length : Int); omega⟩) ?_ | refine s_need Tk (by exact ⟨by omega, by show (j : Int) < (l.length : Int); omega⟩) ?_
      first | refine g_elem Tk Tryd.func89 (gv) ?_ | refine s_elem Tk (gv) ?_
      refine g_drawn Tk Tryd.func89 mixedT rfl ?_
      first | refine g_need Tk Tryd.func89 (by exact hbl) ?_ | refine s_need Tk (by exact hbl) ?_
      first | refine g_elem Tk Tryd.func89 (gl) ?_ | refine s_elem Tk (gl) ?_
      first | refine g_cnd Tk Tryd.func89 rfl (fun h5 => ?_) (fun h5 => ?_) | refine g_know Tk Tryd.func89 rfl (fun h5 => ?_) (fun h5 => ?_) | refine s_know Tk (fun h5 => ?_) (fun h5 => ?_)
      · have h5 : a < v.low := of_decide_eq_true h5
        have := bad (.inl h5)
        subst this
        repeat (first | refine g_cnd Tk Tryd.func89 rfl (fun _ => ?_) (fun h => absurd h (by decide)) | refine g_know Tk Tryd.func89 rfl (fun _ => ?_) (fun h => absurd h (by decide)) | refine s_know Tk (fun _ => ?_) (fun h => absurd h (by decide)) | refine g_cnd Tk Tryd.func89 rfl (fun h => absurd h (by decide)) (fun _ => ?_) | refine g_know Tk Tryd.func89 rfl (fun h => absurd h (by decide)) (fun _ => ?_) | refine s_know Tk (fun h => absurd h (by decide)) (fun _ => ?_) | refine g_cnd Tk Tryd.func89 rfl (fun _ => ?_) (fun h => absurd (show true = false from h) (by decide)) | refine g_know Tk Tryd.func89 rfl (fun _ => ?_) (fun h => absurd (show true = false from h) (by decide)) | refine s_know Tk (fun _ => ?_) (fun h => absurd (show true = false from h) (by decide)) | refine g_cnd Tk Tryd.func89 rfl (fun h => absurd (show false = true from h) (by decide)) (fun _ => ?_) | refine g_know Tk Tryd.func89 rfl (fun h => absurd (show false = true from h) (by decide)) (fun _ => ?_) | refine s_know Tk (fun h => absurd (show false = true from h) (by decide)) (fun _ => ?_))
        refine e_done Tk Tryd.func89 (by kernel_rfl) ?_
        repeat (first | refine g_cnd Tk Tryd.func89 rfl (fun _ => ?_) (fun h => absurd h (by decide)) | refine g_know Tk Tryd.func89 rfl (fun _ => ?_) (fun h => absurd h (by decide)) | refine s_know Tk (fun _ => ?_) (fun h => absurd h (by decide)) | refine g_cnd Tk Tryd.func89 rfl (fun h => absurd h (by decide)) (fun _ => ?_) | refine g_know Tk Tryd.func89 rfl (fun h => absurd h (by decide)) (fun _ => ?_) | refine s_know Tk (fun h => absurd h (by decide)) (fun _ => ?_) | refine g_cnd Tk Tryd.func89 rfl (fun _ => ?_) (fun h => absurd (show true = false from h) (by decide)) | refine g_know Tk Tryd.func89 rfl (fun _ => ?_) (fun h => absurd (show true = false from h) (by decide)) | refine s_know Tk (fun _ => ?_) (fun h => absurd (show true = false from h) (by decide)) | refine g_cnd Tk Tryd.func89 rfl (fun h => absurd (show false = true from h) (by decide)) (fun _ => ?_) | refine g_know Tk Tryd.func89 rfl (fun h => absurd (show false = true from h) (by decide)) (fun _ => ?_) | refine s_know Tk (fun h => absurd (show false = true from h) (by decide)) (fun _ => ?_))
        refine g_ret Tk (r := ii 2) rfl rfl rfl trivial rfl rfl ?_
        rfl
      have h5 : ¬ a < v.low := of_decide_eq_false h5
      first | refine g_need Tk Tryd.func89 (by exact hbh) ?_ | refine s_need Tk (by exact hbh) ?_
      first | refine g_elem Tk Tryd.func89 (gh) ?_ | refine s_elem Tk (gh) ?_
      first | refine g_cnd Tk Tryd.func89 rfl (fun h6 => ?_) (fun h6 => ?_) | refine g_know Tk Tryd.func89 rfl (fun h6 => ?_) (fun h6 => ?_) | refine s_know Tk (fun h6 => ?_) (fun h6 => ?_)
      · have h6 : v.high < c := of_decide_eq_true h6
        have := bad (.inr (.inl h6))
        subst this
        repeat (first | refine g_cnd Tk Tryd.func89 rfl (fun _ => ?_) (fun h => absurd h (by decide)) | refine g_know Tk Tryd.func89 rfl (fun _ => ?_) (fun h => absurd h (by decide)) | refine s_know Tk (fun _ => ?_) (fun h => absurd h (by decide)) | refine g_cnd Tk Tryd.func89 rfl (fun h => absurd h (by decide)) (fun _ => ?_) | refine g_know Tk Tryd.func89 rfl (fun h => absurd h (by decide)) (fun _ => ?_) | refine s_know Tk (fun h => absurd h (by decide)) (fun _ => ?_) | refine g_cnd Tk Tryd.func89 rfl (fun _ => ?_) (fun h => absurd (show true = false from h) (by decide)) | refine g_know Tk Tryd.func89 rfl (fun _ => ?_) (fun h => absurd (show true = false from h) (by decide)) | refine s_know Tk (fun _ => ?_) (fun h => absurd (show true = false from h) (by decide)) | refine g_cnd Tk Tryd.func89 rfl (fun h => absurd (show false = true from h) (by decide)) (fun _ => ?_) | refine g_know Tk Tryd.func89 rfl (fun h => absurd (show false = true from h) (by decide)) (fun _ => ?_) | refine s_know Tk (fun h => absurd (show false = true from h) (by decide)) (fun _ => ?_))
        refine e_done Tk Tryd.func89 (by kernel_rfl) ?_
        repeat (first | refine g_cnd Tk Tryd.func89 rfl (fun _ => ?_) (fun h => absurd h (by decide)) | refine g_know Tk Tryd.func89 rfl (fun _ => ?_) (fun h => absurd h (by decide)) | refine s_know Tk (fun _ => ?_) (fun h => absurd h (by decide)) | refine g_cnd Tk Tryd.func89 rfl (fun h => absurd h (by decide)) (fun _ => ?_) | refine g_know Tk Tryd.func89 rfl (fun h => absurd h (by decide)) (fun _ => ?_) | refine s_know Tk (fun h => absurd h (by decide)) (fun _ => ?_) | refine g_cnd Tk Tryd.func89 rfl (fun _ => ?_) (fun h => absurd (show true = false from h) (by decide)) | refine g_know Tk Tryd.func89 rfl (fun _ => ?_) (fun h => absurd (show true = false from h) (by decide)) | refine s_know Tk (fun _ => ?_) (fun h => absurd (show true = false from h) (by decide)) | refine g_cnd Tk Tryd.func89 rfl (fun h => absurd (show false = true from h) (by decide)) (fun _ => ?_) | refine g_know Tk Tryd.func89 rfl (fun h => absurd (show false = true from h) (by decide)) (fun _ => ?_) | refine s_know Tk (fun h => absurd (show false = true from h) (by decide)) (fun _ => ?_))
        refine g_ret Tk (r := ii 2) rfl rfl rfl trivial rfl rfl ?_
        rfl
      have h6 : ¬ v.high < c := of_decide_eq_false h6
      first | refine g_need Tk Tryd.func89 (by exact hbl) ?_ | refine s_need Tk (by exact hbl) ?_
      first | refine g_elem Tk Tryd.func89 (gl) ?_ | refine s_elem Tk (gl) ?_
      first | refine g_need Tk Tryd.func89 (by exact hbh) ?_ | refine s_need Tk (by exact hbh) ?_
      first | refine g_elem Tk Tryd.func89 (gh) ?_ | refine s_elem Tk (gh) ?_
      refine e_done Tk Tryd.func89 (by kernel_rfl) ?_
      first | refine g_cnd Tk Tryd.func89 rfl (fun h7 => ?_) (fun h7 => ?_) | refine g_know Tk Tryd.func89 rfl (fun h7 => ?_) (fun h7 => ?_) | refine s_know Tk (fun h7 => ?_) (fun h7 => ?_)
      · have h7 : c < a := of_decide_eq_true h7
        have := bad (.inr (.inr h7))
        subst this
        refine g_ret Tk (r := ii 2) rfl rfl rfl trivial rfl rfl ?_
        rfl
      have h7 : ¬ c < a := of_decide_eq_false h7
      refine g_loop ?_
      exact ih2 (j + 1) _ _ ⟨h4, good (by omega)⟩ (by omega) ⟨rfl, rfl, rfl, rfl, rfl, rfl, rfl, congrArg ii (wsucc (n := 16) (by omega) (by decide)), trivial⟩ rfl ⟨rfl, trivial⟩ rfl rfl
    · have h4 : l.length ≤ j := by simpa using g2
      rw [List.drop_eq_nil_of_le h4] at hcj
      simp only [chkV] at hcj
      rw [hcj, if_neg (by decide)] at hno
      refine g_loop ?_
      exact ih (i + 1) _ _ ⟨h1, hno⟩ (by omega) ⟨rfl, rfl, rfl, congrArg ii (wsucc h1 hbl), trivial⟩ rfl trivial rfl rfl
  · have h1 : boxes.length ≤ i := by simpa using g1
    rw [List.drop_eq_nil_of_le h1] at hno
    simp only [chkBs] at hno
    subst hno
    refine g_ret Tk (r := ii 0) rfl rfl rfl trivial rfl rfl ?_
    rfl
abbrev litI (x : Lit) : List I := [vi (x.var : Int), vi x.lo, vi x.hi, .v (.bool x.fr), .v (.bool x.to)]
abbrev litD (x : Lit) : D := .agg [ii (x.var : Int), ii x.lo, ii x.hi, bb x.fr, bb x.to]
abbrev litsD (l : List Lit) : D := .i (.sl 5 l.length (l.map litI))
abbrev olits (l : List Lit) : Ob := .arr 176 5 l.length (l.map litI) true
theorem olits_app (l : List Lit) (x : Lit) : Ob.arr 176 5 (l.length + 1) (l.map litI ++ [litI x]) true = olits (l ++ [x]) := by simp
set_option maxHeartbeats 4000000 in
theorem literals91 (O : List Heap) (l : List Vr) (b : Bx) (h1 : b.low.length = l.length) (h2 : b.high.length = l.length) (hl16 : l.length ≤ 16) : ASpec Tryd.prog 91 [bxD b, vrs l] O (litsD (b.lits l)) [] O := by
  obtain ⟨lo, hi⟩ := b
  simp only at h1 h2
  unfold Bx.lits
  simp only
  generalize hR : litsR l 0 lo hi = R
  have hR0 : [] ++ litsR (l.drop 0) 0 (lo.drop 0) (hi.drop 0) = R := hR
  clear hR
  refine aspec_stop [7] Tk Tryd.func91 rfl Tryd.call91 Tryd.ntmps91 (Nat.le_of_ble_eq_true rfl) fun E => ?_
  refine g_run Tk Tryd.func91 ?_
  refine g_loop ?_
  refine rch_wk (wk_nil 5 106 176 5 rfl rfl rfl) ?_
  refine rch_loop2 (fun x : Nat × List Lit => [(2, .own 0 2 0 0), (5, .osl 0 106), (8, vrs l), (9, ii l.length), (10, ii x.1)]) (fun x => [(2, .box [ints lo, ints hi]), (106, olits x.2)]) (fun _ => O) 109
    (fun x => x.1 ≤ l.length ∧ x.2.length ≤ 2 * x.1 ∧ x.2 ++ litsR (l.drop x.1) x.1 (lo.drop x.1) (hi.drop x.1) = R) (fun x => l.length - x.1) (0, []) ⟨Nat.zero_le _, by simp, hR0⟩ ⟨rfl, rfl, rfl, rfl, rfl, trivial⟩ rfl ⟨rfl, rfl, trivial⟩ rfl rfl ?_
  clear hR0
  rintro ⟨i, acc⟩ ⟨hi', hal, hno⟩ ih
  simp only at hi' hal hno
  refine g_run Tk Tryd.func91 ?_
  first | refine g_cnd Tk Tryd.func91 rfl (fun g1 => ?_) (fun g1 => ?_) | refine g_know Tk Tryd.func91 rfl (fun g1 => ?_) (fun g1 => ?_) | refine s_know Tk (fun g1 => ?_) (fun g1 => ?_)
  · have h3 : i < l.length := by simpa using g1
    clear g1
    have gv : (l.map vrI)[(i : Int).toNat]? = some (vrI l[i]) := get_mapZ h3
    have gl : (lo.map fun x => [vi x])[(i : Int).toNat]? = some [vi (lo[i]'(by omega))] := get_mapZ (f := fun x => [vi x]) (by omega)
    have gh : (hi.map fun x => [vi x])[(i : Int).toNat]? = some [vi (hi[i]'(by omega))] := get_mapZ (f := fun x => [vi x]) (by omega)
    have dv : l.drop i = l[i] :: l.drop (i + 1) := List.drop_eq_getElem_cons h3
    have dl : lo.drop i = (lo[i]'(by omega)) :: lo.drop (i + 1) := List.drop_eq_getElem_cons (by omega)
    have dh : hi.drop i = (hi[i]'(by omega)) :: hi.drop (i + 1) := List.drop_eq_getElem_cons (by omega)
    rw [dv, dl, dh] at hno
    simp only [litsR, litsV] at hno
    clear dv dl dh
    generalize l[i] = v at *
    generalize lo[i]'(by omega) = a at *
    generalize hi[i]'(by omega) = c at *
    have hbl : 0 ≤ (i : Int) ∧ (i : Int) < (lo.length : Int) := by omega
    have hbh : 0 ≤ (i : Int) ∧ (i : Int) < (hi.length : Int) := by omega
    have hi1 : ii (IntKind.i64.wrap ((i : Int) + 1)) = ii ((i + 1 : Nat) : Int) := congrArg ii (wsucc (n := 16) (by omega) (by decide))
    have hsz : (acc.length + 1) * 32 ≤ 140737488355328 ∧ acc.length + 1 ≤ 9223372036854775807 := by omega
    have app1 : ∀ (x : Lit) (r : List Lit), acc ++ ([x] ++ r) = acc ++ [x] ++ r := fun x r => by simp
    generalize hrest : litsR (l.drop (i + 1)) (i + 1) (lo.drop (i + 1)) (hi.drop (i + 1)) = rest at hno
    first | refine g_need Tk Tryd.func91 (by exact ⟨by omega, by show (i : Int) < (l.length : Int); omega⟩) ?_ | refine s_need Tk (by exact ⟨by omega, by show (i : Int) < (l.length : Int); omega⟩) ?_
    first | refine g_elem Tk Tryd.func91 (gv) ?_ | refine s_elem Tk (gv) ?_
    refine g_drawn Tk Tryd.func91 mixedT rfl ?_
    first | refine g_need Tk Tryd.func91 (by exact hbl) ?_ | refine s_need Tk (by exact hbl) ?_
    first | refine g_elem Tk Tryd.func91 (gl) ?_ | refine s_elem Tk (gl) ?_
    have fin0 : ∀ (acc' : List Lit), acc' ++ rest = R → acc'.length ≤ 2 * (i + 1) → (i + 1 ≤ l.length ∧ acc'.length ≤ 2 * (i + 1) ∧ acc' ++ litsR (l.drop (i + 1)) (i + 1) (lo.drop (i + 1)) (hi.drop (i + 1)) = R) := fun acc' h1 h2 => ⟨h3, h2, by rw [hrest]; exact h1⟩
    obtain ⟨vn, vl, vh, vj⟩ := v
    simp only at hno
    apply join_q (P := fun A : List Lit => A = acc ++ (if a ≠ vl then [Lit.mk i a c true false] else []) ∧ ¬ (a = vl ∧ c = vh) ∧ a ≠ c) (s6 := fun A => { σ := [(2, .own 0 2 0 0), (5, .osl 0 106), (6, ii i), (7, .own 0 7 0 0), (8, vrs l), (9, ii l.length), (10, ii i)], S := [(2, .box [ints lo, ints hi]), (7, .box [.i (strI vn), ii vl, ii vh, ii vj]), (106, olits A)] :: O, n := 109 })
    · intro J
      first | refine g_cnd Tk Tryd.func91 rfl (fun c1 => ?_) (fun c1 => ?_) | refine g_know Tk Tryd.func91 rfl (fun c1 => ?_) (fun c1 => ?_) | refine s_know Tk (fun c1 => ?_) (fun c1 => ?_)
      · have c1 : a = vl := beqT c1
        first | refine g_need Tk Tryd.func91 (by exact hbh) ?_ | refine s_need Tk (by exact hbh) ?_
        first | refine g_elem Tk Tryd.func91 (gh) ?_ | refine s_elem Tk (gh) ?_
        refine e_done Tk Tryd.func91 (by kernel_rfl) ?_
        first | refine g_cnd Tk Tryd.func91 rfl (fun c2 => ?_) (fun c2 => ?_) | refine g_know Tk Tryd.func91 rfl (fun c2 => ?_) (fun c2 => ?_) | refine s_know Tk (fun c2 => ?_) (fun c2 => ?_)
        · have c2 : c = vh := beqT c2
          rw [if_pos ⟨c1, c2⟩] at hno
          refine g_loop ?_
          exact ih (i + 1, acc) _ _ (fin0 acc hno (by omega)) (by simp only; omega) ⟨rfl, rfl, rfl, rfl, hi1, trivial⟩ rfl ⟨rfl, rfl, trivial⟩ rfl rfl
        have c2 : c ≠ vh := beqF c2
        rw [if_neg (fun h => c2 h.2)] at hno
        refine g_drawn Tk Tryd.func91 mixedT rfl ?_
        first | refine g_need Tk Tryd.func91 (by exact hbl) ?_ | refine s_need Tk (by exact hbl) ?_
        first | refine g_elem Tk Tryd.func91 (gl) ?_ | refine s_elem Tk (gl) ?_
        first | refine g_need Tk Tryd.func91 (by exact hbh) ?_ | refine s_need Tk (by exact hbh) ?_
        first | refine g_elem Tk Tryd.func91 (gh) ?_ | refine s_elem Tk (gh) ?_
        refine e_done Tk Tryd.func91 (by kernel_rfl) ?_
        first | refine g_cnd Tk Tryd.func91 rfl (fun c3 => ?_) (fun c3 => ?_) | refine g_know Tk Tryd.func91 rfl (fun c3 => ?_) (fun c3 => ?_) | refine s_know Tk (fun c3 => ?_) (fun c3 => ?_)
        · have c3 : a = c := beqT c3
          rw [if_pos c3, app1] at hno
          refine g_drawn Tk Tryd.func91 mixedT rfl ?_
          first | refine g_need Tk Tryd.func91 (by exact hbl) ?_ | refine s_need Tk (by exact hbl) ?_
          first | refine g_elem Tk Tryd.func91 (gl) ?_ | refine s_elem Tk (gl) ?_
          first | refine g_need Tk Tryd.func91 (by exact hbh) ?_ | refine s_need Tk (by exact hbh) ?_
          first | refine g_elem Tk Tryd.func91 (gh) ?_ | refine s_elem Tk (gh) ?_
          refine e_tail Tk Tryd.func91 ([14, 15]) (by kernel_rfl) (by kernel_rfl) ?_
          first | refine g_need Tk Tryd.func91 (by exact hsz) ?_ | refine s_need Tk (by exact hsz) ?_
          refine g_loop ?_
          exact ih (i + 1, acc ++ [Lit.mk i a c true true]) _ _ (fin0 _ hno (by simp; omega)) (by simp only; omega) ⟨rfl, rfl, rfl, rfl, hi1, trivial⟩ rfl ⟨rfl, congrArg some (olits_app acc (Lit.mk i a c true true)), trivial⟩ rfl rfl
        have c3 : a ≠ c := beqF c3
        refine g_drawn Tk Tryd.func91 mixedT rfl ?_
        first | refine g_need Tk Tryd.func91 (by exact hbl) ?_ | refine s_need Tk (by exact hbl) ?_
        first | refine g_elem Tk Tryd.func91 (gl) ?_ | refine s_elem Tk (gl) ?_
        refine e_done Tk Tryd.func91 (by kernel_rfl) ?_
        first | refine g_cnd Tk Tryd.func91 rfl (fun c4 => ?_) (fun c4 => ?_) | refine g_know Tk Tryd.func91 rfl (fun c4 => ?_) (fun c4 => ?_) | refine s_know Tk (fun c4 => ?_) (fun c4 => ?_)
        · exact absurd c1 (bneT c4)
        refine g_stop ?_
        refine rch_meet (J acc ⟨by rw [if_neg (by simpa using c1)]; simp, fun h => c2 h.2, c3⟩) ⟨rfl, rfl, rfl, rfl, rfl, rfl, rfl, trivial⟩ rfl ⟨rfl, rfl, rfl, trivial⟩ rfl rfl
      have c1 : a ≠ vl := beqF c1
      rw [if_neg (fun h => c1 h.1)] at hno
      repeat (first | refine g_cnd Tk Tryd.func91 rfl (fun _ => ?_) (fun h => absurd h (by decide)) | refine g_know Tk Tryd.func91 rfl (fun _ => ?_) (fun h => absurd h (by decide)) | refine s_know Tk (fun _ => ?_) (fun h => absurd h (by decide)) | refine g_cnd Tk Tryd.func91 rfl (fun h => absurd h (by decide)) (fun _ => ?_) | refine g_know Tk Tryd.func91 rfl (fun h => absurd h (by decide)) (fun _ => ?_) | refine s_know Tk (fun h => absurd h (by decide)) (fun _ => ?_) | refine g_cnd Tk Tryd.func91 rfl (fun _ => ?_) (fun h => absurd (show true = false from h) (by decide)) | refine g_know Tk Tryd.func91 rfl (fun _ => ?_) (fun h => absurd (show true = false from h) (by decide)) | refine s_know Tk (fun _ => ?_) (fun h => absurd (show true = false from h) (by decide)) | refine g_cnd Tk Tryd.func91 rfl (fun h => absurd (show false = true from h) (by decide)) (fun _ => ?_) | refine g_know Tk Tryd.func91 rfl (fun h => absurd (show false = true from h) (by decide)) (fun _ => ?_) | refine s_know Tk (fun h => absurd (show false = true from h) (by decide)) (fun _ => ?_))
      refine e_done Tk Tryd.func91 (by kernel_rfl) ?_
      repeat (first | refine g_cnd Tk Tryd.func91 rfl (fun _ => ?_) (fun h => absurd h (by decide)) | refine g_know Tk Tryd.func91 rfl (fun _ => ?_) (fun h => absurd h (by decide)) | refine s_know Tk (fun _ => ?_) (fun h => absurd h (by decide)) | refine g_cnd Tk Tryd.func91 rfl (fun h => absurd h (by decide)) (fun _ => ?_) | refine g_know Tk Tryd.func91 rfl (fun h => absurd h (by decide)) (fun _ => ?_) | refine s_know Tk (fun h => absurd h (by decide)) (fun _ => ?_) | refine g_cnd Tk Tryd.func91 rfl (fun _ => ?_) (fun h => absurd (show true = false from h) (by decide)) | refine g_know Tk Tryd.func91 rfl (fun _ => ?_) (fun h => absurd (show true = false from h) (by decide)) | refine s_know Tk (fun _ => ?_) (fun h => absurd (show true = false from h) (by decide)) | refine g_cnd Tk Tryd.func91 rfl (fun h => absurd (show false = true from h) (by decide)) (fun _ => ?_) | refine g_know Tk Tryd.func91 rfl (fun h => absurd (show false = true from h) (by decide)) (fun _ => ?_) | refine s_know Tk (fun h => absurd (show false = true from h) (by decide)) (fun _ => ?_))
      refine g_drawn Tk Tryd.func91 mixedT rfl ?_
      first | refine g_need Tk Tryd.func91 (by exact hbl) ?_ | refine s_need Tk (by exact hbl) ?_
      first | refine g_elem Tk Tryd.func91 (gl) ?_ | refine s_elem Tk (gl) ?_
      first | refine g_need Tk Tryd.func91 (by exact hbh) ?_ | refine s_need Tk (by exact hbh) ?_
      first | refine g_elem Tk Tryd.func91 (gh) ?_ | refine s_elem Tk (gh) ?_
      refine e_done Tk Tryd.func91 (by kernel_rfl) ?_
      first | refine g_cnd Tk Tryd.func91 rfl (fun c3 => ?_) (fun c3 => ?_) | refine g_know Tk Tryd.func91 rfl (fun c3 => ?_) (fun c3 => ?_) | refine s_know Tk (fun c3 => ?_) (fun c3 => ?_)
      · have c3 : a = c := beqT c3
        rw [if_pos c3, app1] at hno
        refine g_drawn Tk Tryd.func91 mixedT rfl ?_
        first | refine g_need Tk Tryd.func91 (by exact hbl) ?_ | refine s_need Tk (by exact hbl) ?_
        first | refine g_elem Tk Tryd.func91 (gl) ?_ | refine s_elem Tk (gl) ?_
        first | refine g_need Tk Tryd.func91 (by exact hbh) ?_ | refine s_need Tk (by exact hbh) ?_
        first | refine g_elem Tk Tryd.func91 (gh) ?_ | refine s_elem Tk (gh) ?_
        refine e_tail Tk Tryd.func91 ([14, 15]) (by kernel_rfl) (by kernel_rfl) ?_
        first | refine g_need Tk Tryd.func91 (by exact hsz) ?_ | refine s_need Tk (by exact hsz) ?_
        refine g_loop ?_
        exact ih (i + 1, acc ++ [Lit.mk i a c true true]) _ _ (fin0 _ hno (by simp; omega)) (by simp only; omega) ⟨rfl, rfl, rfl, rfl, hi1, trivial⟩ rfl ⟨rfl, congrArg some (olits_app acc (Lit.mk i a c true true)), trivial⟩ rfl rfl
      have c3 : a ≠ c := beqF c3
      refine g_drawn Tk Tryd.func91 mixedT rfl ?_
      first | refine g_need Tk Tryd.func91 (by exact hbl) ?_ | refine s_need Tk (by exact hbl) ?_
      first | refine g_elem Tk Tryd.func91 (gl) ?_ | refine s_elem Tk (gl) ?_
      refine e_done Tk Tryd.func91 (by kernel_rfl) ?_
      first | refine g_cnd Tk Tryd.func91 rfl (fun c4 => ?_) (fun c4 => ?_) | refine g_know Tk Tryd.func91 rfl (fun c4 => ?_) (fun c4 => ?_) | refine s_know Tk (fun c4 => ?_) (fun c4 => ?_)
      rotate_left
      · exact absurd (bneF c4) c1
      refine g_drawn Tk Tryd.func91 mixedT rfl ?_
      first | refine g_need Tk Tryd.func91 (by exact hbl) ?_ | refine s_need Tk (by exact hbl) ?_
      first | refine g_elem Tk Tryd.func91 (gl) ?_ | refine s_elem Tk (gl) ?_
      first | refine g_need Tk Tryd.func91 (by exact hbh) ?_ | refine s_need Tk (by exact hbh) ?_
      first | refine g_elem Tk Tryd.func91 (gh) ?_ | refine s_elem Tk (gh) ?_
      refine e_tail Tk Tryd.func91 ([14, 15]) (by kernel_rfl) (by kernel_rfl) ?_
      first | refine g_need Tk Tryd.func91 (by exact hsz) ?_ | refine s_need Tk (by exact hsz) ?_
      refine g_stop ?_
      refine rch_wk (wk_ren 37 106 rfl rfl rfl) ?_
      refine rch_meet (J (acc ++ [Lit.mk i a c true false]) ⟨by rw [if_pos c1], fun h => c1 h.1, c3⟩) ⟨rfl, rfl, rfl, rfl, rfl, rfl, rfl, trivial⟩ rfl ⟨rfl, rfl, congrArg some (olits_app acc (Lit.mk i a c true false)), trivial⟩ rfl rfl
    · rintro A ⟨hA, d1, d2⟩
      rw [if_neg d1, if_neg d2, ← List.append_assoc, ← List.append_assoc, ← hA] at hno
      have hAl : A.length ≤ 2 * i + 1 := by
        rw [hA, List.length_append]
        split <;> simp <;> omega
      have hsz2 : (A.length + 1) * 32 ≤ 140737488355328 ∧ A.length + 1 ≤ 9223372036854775807 := by omega
      refine g_run Tk Tryd.func91 ?_
      refine g_go Tk Tryd.func91 ?_
      refine g_drawn Tk Tryd.func91 mixedT rfl ?_
      first | refine g_need Tk Tryd.func91 (by exact hbh) ?_ | refine s_need Tk (by exact hbh) ?_
      first | refine g_elem Tk Tryd.func91 (gh) ?_ | refine s_elem Tk (gh) ?_
      refine e_done Tk Tryd.func91 (by kernel_rfl) ?_
      first | refine g_cnd Tk Tryd.func91 rfl (fun c5 => ?_) (fun c5 => ?_) | refine g_know Tk Tryd.func91 rfl (fun c5 => ?_) (fun c5 => ?_) | refine s_know Tk (fun c5 => ?_) (fun c5 => ?_)
      · have c5 : c ≠ vh := bneT c5
        rw [if_pos c5] at hno
        refine g_drawn Tk Tryd.func91 mixedT rfl ?_
        first | refine g_need Tk Tryd.func91 (by exact hbl) ?_ | refine s_need Tk (by exact hbl) ?_
        first | refine g_elem Tk Tryd.func91 (gl) ?_ | refine s_elem Tk (gl) ?_
        first | refine g_need Tk Tryd.func91 (by exact hbh) ?_ | refine s_need Tk (by exact hbh) ?_
        first | refine g_elem Tk Tryd.func91 (gh) ?_ | refine s_elem Tk (gh) ?_
        refine e_tail Tk Tryd.func91 ([14, 15]) (by kernel_rfl) (by kernel_rfl) ?_
        first | refine g_need Tk Tryd.func91 (by exact hsz2) ?_ | refine s_need Tk (by exact hsz2) ?_
        refine g_loop ?_
        refine rch_wk (wk_ren 60 106 rfl rfl rfl) ?_
        exact ih (i + 1, A ++ [Lit.mk i a c false true]) _ _ (fin0 _ hno (by simp; omega)) (by simp only; omega) ⟨rfl, rfl, rfl, rfl, hi1, trivial⟩ rfl ⟨rfl, congrArg some (olits_app A (Lit.mk i a c false true)), trivial⟩ rfl rfl
      have c5 : c = vh := bneF c5
      rw [if_neg (by simpa using c5), List.append_nil] at hno
      refine g_loop ?_
      exact ih (i + 1, A) _ _ (fin0 A hno (by omega)) (by simp only; omega) ⟨rfl, rfl, rfl, rfl, hi1, trivial⟩ rfl ⟨rfl, rfl, trivial⟩ rfl rfl
  · have h3 : l.length ≤ i := by simpa using g1
    rw [List.drop_eq_nil_of_le h3] at hno
    simp only [litsR, List.append_nil] at hno
    subst hno
    refine g_rwk (wk_freeze 106 rfl rfl) ?_
    refine g_rwk (wk_imm rfl) ?_
    refine g_ret Tk (r := litsD acc) rfl rfl rfl trivial rfl rfl ?_
    rfl
end Go.AI


/- Expressions of literals, joins. -/
namespace Go.AI
open Go.Proofs
set_option maxRecDepth 20000
theorem false77 (O : List Heap) : ASpec Tryd.prog 77 [] O (exA falseE) [] O := by
  refine aspec_intro Tk Tryd.func77 rfl Tryd.call77 Tryd.ntmps77 (Nat.le_of_ble_eq_true rfl) fun E => ?_
  refine g_run Tk Tryd.func77 ?_
  refine g_ret_co Tk (r := _) rfl rfl rfl trivial rfl rfl ?_
  show CoD _ (.agg [ii 7, ii 0, ii 0, .i (.sl 4 2 [[vi 0, vi 0, vi 0, .sl 4 0 []], [vi 0, vi 0, vi 0, .sl 4 0 []]])])
  repeat' (first | refine coD_tup ?_ | refine coD_agg ?_ | refine coD_i ?_ | refine CoDL.cons ?_ ?_ | exact CoDL.nil | exact coI_nil | refine coI_sl ?_ | refine CoLL.cons ?_ ?_ | exact CoLL.nil | refine CoL.cons ?_ ?_ | exact CoL.nil | exact CoI.refl _ | exact CoL.refl _ | exact CoLL.refl _ | exact CoDL.refl _ | exact CoD.refl _)
theorem expr172 (O : List Heap) (n : Int) : ASpec Tryd.prog 172 [ii n] O (exA (constE n)) [] O := by
  refine aspec_intro Tk Tryd.func172 rfl Tryd.call172 Tryd.ntmps172 (Nat.le_of_ble_eq_true rfl) fun E => ?_
  refine g_run Tk Tryd.func172 ?_
  refine g_ret_co Tk (r := _) rfl rfl rfl trivial rfl rfl ?_
  show CoD _ (.agg [ii 0, ii n, ii 0, .i (.sl 4 0 [])])
  repeat' (first | refine coD_tup ?_ | refine coD_agg ?_ | refine coD_i ?_ | refine CoDL.cons ?_ ?_ | exact CoDL.nil | exact coI_nil | refine coI_sl ?_ | refine CoLL.cons ?_ ?_ | exact CoLL.nil | refine CoL.cons ?_ ?_ | exact CoL.nil | exact CoI.refl _ | exact CoL.refl _ | exact CoLL.refl _ | exact CoDL.refl _ | exact CoD.refl _)
theorem litExpr139 (O : List Heap) (x : Lit) : ASpec Tryd.prog 139 [litD x] O (exA (litX x)) [] O := by
  obtain ⟨v, lo, hi, fr, to⟩ := x
  cases fr with
  | true =>
    cases to with
    | true =>
      refine aspec_intro Tk Tryd.func139 rfl Tryd.call139 Tryd.ntmps139 (Nat.le_of_ble_eq_true rfl) fun E => ?_
      refine g_run Tk Tryd.func139 ?_
      repeat (first | refine g_cnd Tk Tryd.func139 rfl (fun _ => ?_) (fun h => absurd h (by decide)) | refine g_know Tk Tryd.func139 rfl (fun _ => ?_) (fun h => absurd h (by decide)) | refine s_know Tk (fun _ => ?_) (fun h => absurd h (by decide)) | refine g_cnd Tk Tryd.func139 rfl (fun h => absurd h (by decide)) (fun _ => ?_) | refine g_know Tk Tryd.func139 rfl (fun h => absurd h (by decide)) (fun _ => ?_) | refine s_know Tk (fun h => absurd h (by decide)) (fun _ => ?_) | refine g_cnd Tk Tryd.func139 rfl (fun _ => ?_) (fun h => absurd (show true = false from h) (by decide)) | refine g_know Tk Tryd.func139 rfl (fun _ => ?_) (fun h => absurd (show true = false from h) (by decide)) | refine s_know Tk (fun _ => ?_) (fun h => absurd (show true = false from h) (by decide)) | refine g_cnd Tk Tryd.func139 rfl (fun h => absurd (show false = true from h) (by decide)) (fun _ => ?_) | refine g_know Tk Tryd.func139 rfl (fun h => absurd (show false = true from h) (by decide)) (fun _ => ?_) | refine s_know Tk (fun h => absurd (show false = true from h) (by decide)) (fun _ => ?_))
      refine g_drawn Tk Tryd.func139 mixedT rfl ?_
      first | refine g_call Tk Tryd.func139 (expr172 _ lo) rfl rfl rfl rfl rfl ?_ | refine s_callq Tk (fun _ => expr172 _ lo) rfl rfl rfl ?_
      refine s_put Tk rfl rfl rfl ?_
      refine e_done Tk Tryd.func139 (by kernel_rfl) ?_
      refine g_ret_co Tk (r := _) rfl rfl rfl trivial rfl rfl ?_
      show CoD _ (.agg [ii 6, ii 0, ii 0, .i (.sl 4 2 [[vi 1, vi 0, vi (v : Int), .sl 4 0 []], [vi 0, vi lo, vi 0, .sl 4 0 []]])])
      repeat' (first | refine coD_tup ?_ | refine coD_agg ?_ | refine coD_i ?_ | refine CoDL.cons ?_ ?_ | exact CoDL.nil | exact coI_nil | refine coI_sl ?_ | refine CoLL.cons ?_ ?_ | exact CoLL.nil | refine CoL.cons ?_ ?_ | exact CoL.nil | exact CoI.refl _ | exact CoL.refl _ | exact CoLL.refl _ | exact CoDL.refl _ | exact CoD.refl _)
    | false =>
      refine aspec_intro Tk Tryd.func139 rfl Tryd.call139 Tryd.ntmps139 (Nat.le_of_ble_eq_true rfl) fun E => ?_
      refine g_run Tk Tryd.func139 ?_
      repeat (first | refine g_cnd Tk Tryd.func139 rfl (fun _ => ?_) (fun h => absurd h (by decide)) | refine g_know Tk Tryd.func139 rfl (fun _ => ?_) (fun h => absurd h (by decide)) | refine s_know Tk (fun _ => ?_) (fun h => absurd h (by decide)) | refine g_cnd Tk Tryd.func139 rfl (fun h => absurd h (by decide)) (fun _ => ?_) | refine g_know Tk Tryd.func139 rfl (fun h => absurd h (by decide)) (fun _ => ?_) | refine s_know Tk (fun h => absurd h (by decide)) (fun _ => ?_) | refine g_cnd Tk Tryd.func139 rfl (fun _ => ?_) (fun h => absurd (show true = false from h) (by decide)) | refine g_know Tk Tryd.func139 rfl (fun _ => ?_) (fun h => absurd (show true = false from h) (by decide)) | refine s_know Tk (fun _ => ?_) (fun h => absurd (show true = false from h) (by decide)) | refine g_cnd Tk Tryd.func139 rfl (fun h => absurd (show false = true from h) (by decide)) (fun _ => ?_) | refine g_know Tk Tryd.func139 rfl (fun h => absurd (show false = true from h) (by decide)) (fun _ => ?_) | refine s_know Tk (fun h => absurd (show false = true from h) (by decide)) (fun _ => ?_))
      refine g_drawn Tk Tryd.func139 mixedT rfl ?_
      first | refine g_call Tk Tryd.func139 (expr172 _ lo) rfl rfl rfl rfl rfl ?_ | refine s_callq Tk (fun _ => expr172 _ lo) rfl rfl rfl ?_
      refine s_put Tk rfl rfl rfl ?_
      refine e_done Tk Tryd.func139 (by kernel_rfl) ?_
      refine g_ret_co Tk (r := _) rfl rfl rfl trivial rfl rfl ?_
      show CoD _ (.agg [ii 9, ii 0, ii 0, .i (.sl 4 2 [[vi 0, vi lo, vi 0, .sl 4 0 []], [vi 1, vi 0, vi (v : Int), .sl 4 0 []]])])
      repeat' (first | refine coD_tup ?_ | refine coD_agg ?_ | refine coD_i ?_ | refine CoDL.cons ?_ ?_ | exact CoDL.nil | exact coI_nil | refine coI_sl ?_ | refine CoLL.cons ?_ ?_ | exact CoLL.nil | refine CoL.cons ?_ ?_ | exact CoL.nil | exact CoI.refl _ | exact CoL.refl _ | exact CoLL.refl _ | exact CoDL.refl _ | exact CoD.refl _)
  | false =>
    refine aspec_intro Tk Tryd.func139 rfl Tryd.call139 Tryd.ntmps139 (Nat.le_of_ble_eq_true rfl) fun E => ?_
    refine g_run Tk Tryd.func139 ?_
    repeat (first | refine g_cnd Tk Tryd.func139 rfl (fun _ => ?_) (fun h => absurd h (by decide)) | refine g_know Tk Tryd.func139 rfl (fun _ => ?_) (fun h => absurd h (by decide)) | refine s_know Tk (fun _ => ?_) (fun h => absurd h (by decide)) | refine g_cnd Tk Tryd.func139 rfl (fun h => absurd h (by decide)) (fun _ => ?_) | refine g_know Tk Tryd.func139 rfl (fun h => absurd h (by decide)) (fun _ => ?_) | refine s_know Tk (fun h => absurd h (by decide)) (fun _ => ?_) | refine g_cnd Tk Tryd.func139 rfl (fun _ => ?_) (fun h => absurd (show true = false from h) (by decide)) | refine g_know Tk Tryd.func139 rfl (fun _ => ?_) (fun h => absurd (show true = false from h) (by decide)) | refine s_know Tk (fun _ => ?_) (fun h => absurd (show true = false from h) (by decide)) | refine g_cnd Tk Tryd.func139 rfl (fun h => absurd (show false = true from h) (by decide)) (fun _ => ?_) | refine g_know Tk Tryd.func139 rfl (fun h => absurd (show false = true from h) (by decide)) (fun _ => ?_) | refine s_know Tk (fun h => absurd (show false = true from h) (by decide)) (fun _ => ?_))
    refine g_drawn Tk Tryd.func139 mixedT rfl ?_
    first | refine g_call Tk Tryd.func139 (expr172 _ hi) rfl rfl rfl rfl rfl ?_ | refine s_callq Tk (fun _ => expr172 _ hi) rfl rfl rfl ?_
    refine s_put Tk rfl rfl rfl ?_
    refine e_done Tk Tryd.func139 (by kernel_rfl) ?_
    refine g_ret_co Tk (r := _) rfl rfl rfl trivial rfl rfl ?_
    show CoD _ (.agg [ii 9, ii 0, ii 0, .i (.sl 4 2 [[vi 1, vi 0, vi (v : Int), .sl 4 0 []], [vi 0, vi hi, vi 0, .sl 4 0 []]])])
    repeat' (first | refine coD_tup ?_ | refine coD_agg ?_ | refine coD_i ?_ | refine CoDL.cons ?_ ?_ | exact CoDL.nil | exact coI_nil | refine coI_sl ?_ | refine CoLL.cons ?_ ?_ | exact CoLL.nil | refine CoL.cons ?_ ?_ | exact CoL.nil | exact CoI.refl _ | exact CoL.refl _ | exact CoLL.refl _ | exact CoDL.refl _ | exact CoD.refl _)
theorem exIs_take (l : List Ex) (k : Nat) : exIs (l.take k) = (exIs l).take k := by simp [exIs_map, List.map_take]
theorem exIs_drop (l : List Ex) (k : Nat) : exIs (l.drop k) = (exIs l).drop k := by simp [exIs_map, List.map_drop]
theorem joinR140 : ∀ (n : Nat) (l : List Ex) (op : Int) (O : List Heap), 1 ≤ l.length → l.length ≤ n → n ≤ 4096 → ASpec Tryd.prog 140 [ii op, exs l] O (exA (joinF op n l)) [] O := by
  intro n
  induction n with
  | zero => intro l op O h1 h2; omega
  | succ n ih =>
    intro l op O h1 h2 h3
    by_cases h4 : 2 ≤ l.length
    · rw [joinF_two op n h4]
      have ih1 := fun O => ih (l.take (l.length / 2)) op O (by simp; omega) (by simp; omega) (by omega)
      have ih2 := fun O => ih (l.drop (l.length / 2)) op O (by simp; omega) (by simp; omega) (by omega)
      refine aspec_intro Tk Tryd.func140 rfl Tryd.call140 Tryd.ntmps140 (Nat.le_of_ble_eq_true rfl) fun E => ?_
      refine g_run Tk Tryd.func140 ?_
      first | refine g_cnd Tk Tryd.func140 rfl (fun g1 => ?_) (fun g1 => ?_) | refine g_know Tk Tryd.func140 rfl (fun g1 => ?_) (fun g1 => ?_) | refine s_know Tk (fun g1 => ?_) (fun g1 => ?_)
      · have := beqT g1
        omega
      have hq : IntKind.i64.wrap (Int.tdiv (l.length : Int) 2) = ((l.length / 2 : Nat) : Int) := by
        rw [Int.tdiv_eq_ediv_of_nonneg (by omega), w64 (by omega) (by omega)]
        omega
      generalize hk : l.length / 2 = k at *
      have t1 : D.i (.sl 4 (IntKind.i64.wrap (Int.tdiv (l.length : Int) 2)).toNat ((exIs l).take (IntKind.i64.wrap (Int.tdiv (l.length : Int) 2)).toNat)) = exs (l.take k) := by
        rw [hq, Int.toNat_natCast, ← exIs_take]
        show _ = D.i (.sl 4 (l.take k).length (exIs (l.take k)))
        rw [List.length_take, Nat.min_eq_left (by omega)]
      have t2 : D.i (.sl 4 (l.length - (IntKind.i64.wrap (Int.tdiv (l.length : Int) 2)).toNat) ((exIs l).drop (IntKind.i64.wrap (Int.tdiv (l.length : Int) 2)).toNat)) = exs (l.drop k) := by
        rw [hq, Int.toNat_natCast, ← exIs_drop]
        show _ = D.i (.sl 4 (l.drop k).length (exIs (l.drop k)))
        rw [List.length_drop]
      generalize joinF op n (l.take k) = A at *
      generalize joinF op n (l.drop k) = B at *
      rw [← t1] at ih1
      rw [← t2] at ih2
      first | refine g_need Tk Tryd.func140 (by decide) ?_ | refine s_need Tk (by decide) ?_
      refine g_drawn Tk Tryd.func140 mixedT rfl ?_
      first | refine g_need Tk Tryd.func140 (by exact ⟨by rw [hq]; omega, by rw [hq]; show ((k : Nat) : Int) ≤ (l.length : Int); omega⟩) ?_ | refine s_need Tk (by exact ⟨by rw [hq]; omega, by rw [hq]; show ((k : Nat) : Int) ≤ (l.length : Int); omega⟩) ?_
      first | refine g_call Tk Tryd.func140 (ih1 _) rfl rfl rfl rfl rfl ?_ | refine s_callq Tk (fun _ => ih1 _) rfl rfl rfl ?_
      first | refine g_need Tk Tryd.func140 (by exact ⟨by rw [hq]; omega, by rw [hq]; show ((k : Nat) : Int) ≤ (l.length : Int); omega⟩) ?_ | refine s_need Tk (by exact ⟨by rw [hq]; omega, by rw [hq]; show ((k : Nat) : Int) ≤ (l.length : Int); omega⟩) ?_
      first | refine g_call Tk Tryd.func140 (ih2 _) rfl rfl rfl rfl rfl ?_ | refine s_callq Tk (fun _ => ih2 _) rfl rfl rfl ?_
      refine s_put Tk rfl rfl rfl ?_
      refine e_done Tk Tryd.func140 (by kernel_rfl) ?_
      refine g_ret Tk (r := .agg [ii op, ii 0, ii 0, .i (.sl 4 2 [[vi A.op, vi A.vl, vi A.ix, .sl 4 A.args.length (exIs A.args)], [vi B.op, vi B.vl, vi B.ix, .sl 4 B.args.length (exIs B.args)]])]) rfl rfl rfl trivial rfl rfl ?_
      show D.agg [ii op, ii 0, ii 0, .i (.sl 4 2 [[vi A.op, vi A.vl, vi A.ix, .sl 4 A.args.length (exIs A.args)], [vi B.op, vi B.vl, vi B.ix, .sl 4 B.args.length (exIs B.args)]])] = .agg [ii op, ii 0, ii 0, .i (.sl 4 2 [exI A, exI B])]
      rw [exI_eq, exI_eq]
    · obtain ⟨x, rfl⟩ := List.length_eq_one_iff.1 (show l.length = 1 by omega)
      rw [joinF_one]
      obtain ⟨xo, xv, xi, xa⟩ := x
      refine aspec_intro Tk Tryd.func140 rfl Tryd.call140 Tryd.ntmps140 (Nat.le_of_ble_eq_true rfl) fun E => ?_
      refine g_run Tk Tryd.func140 ?_
      repeat (first | refine g_cnd Tk Tryd.func140 rfl (fun _ => ?_) (fun h => absurd h (by decide)) | refine g_know Tk Tryd.func140 rfl (fun _ => ?_) (fun h => absurd h (by decide)) | refine s_know Tk (fun _ => ?_) (fun h => absurd h (by decide)) | refine g_cnd Tk Tryd.func140 rfl (fun h => absurd h (by decide)) (fun _ => ?_) | refine g_know Tk Tryd.func140 rfl (fun h => absurd h (by decide)) (fun _ => ?_) | refine s_know Tk (fun h => absurd h (by decide)) (fun _ => ?_) | refine g_cnd Tk Tryd.func140 rfl (fun _ => ?_) (fun h => absurd (show true = false from h) (by decide)) | refine g_know Tk Tryd.func140 rfl (fun _ => ?_) (fun h => absurd (show true = false from h) (by decide)) | refine s_know Tk (fun _ => ?_) (fun h => absurd (show true = false from h) (by decide)) | refine g_cnd Tk Tryd.func140 rfl (fun h => absurd (show false = true from h) (by decide)) (fun _ => ?_) | refine g_know Tk Tryd.func140 rfl (fun h => absurd (show false = true from h) (by decide)) (fun _ => ?_) | refine s_know Tk (fun h => absurd (show false = true from h) (by decide)) (fun _ => ?_))
      first | refine g_need Tk Tryd.func140 (by exact ⟨by decide, by show (0 : Int) < ((1 : Nat) : Int); decide⟩) ?_ | refine s_need Tk (by exact ⟨by decide, by show (0 : Int) < ((1 : Nat) : Int); decide⟩) ?_
      first | refine g_elem Tk Tryd.func140 (rfl) ?_ | refine s_elem Tk (rfl) ?_
      refine g_ret Tk (r := exA (.mk xo xv xi xa)) rfl rfl rfl trivial rfl rfl ?_
      rfl
end Go.AI


/- The guard of boxes. -/
namespace Go.AI
open Go.Proofs
set_option maxRecDepth 20000
abbrev oexs (l : List Ex) : Ob := .arr 41 4 l.length (exIs l) true
theorem exIs_app (l r : List Ex) : exIs (l ++ r) = exIs l ++ exIs r := by simp [exIs_map]
theorem oexs_app (l : List Ex) (x : Ex) : Ob.arr 41 4 (l.length + 1) (exIs l ++ [[vi x.op, vi x.vl, vi x.ix, .sl 4 x.args.length (exIs x.args)]]) true = oexs (l ++ [x]) := by
  rw [oexs, exIs_app, ← exI_eq]
  simp [exIs]
theorem exOk_joinF {op : Int} : ∀ {n : Nat} {l : List Ex}, (∀ x ∈ l, exOk x) → exOk (joinF op n l)
  | 0, l, _ => ⟨Nat.zero_le _, trivial⟩
  | n + 1, [], h => by
    show exOk (.mk op 0 0 [joinF op n _, joinF op n _])
    exact exOk_two (exOk_joinF (by simp)) (exOk_joinF (by simp))
  | n + 1, [x], h => h x (by simp)
  | n + 1, x :: y :: r, h => by
    show exOk (.mk op 0 0 [joinF op n _, joinF op n _])
    exact exOk_two (exOk_joinF fun z hz => h z (List.mem_of_mem_take hz)) (exOk_joinF fun z hz => h z (List.mem_of_mem_drop hz))
theorem exOk_lit (x : Lit) : exOk (litX x) := by
  unfold litX
  split
  · split
    · exact exOk_two (exOk_leaf _ _ _) (exOk_leaf _ _ _)
    · exact exOk_two (exOk_leaf _ _ _) (exOk_leaf _ _ _)
  · exact exOk_two (exOk_leaf _ _ _) (exOk_leaf _ _ _)
theorem exOk_true : exOk trueE := exOk_two (exOk_leaf _ _ _) (exOk_leaf _ _ _)
theorem exOk_parts (l : List Vr) (b : Bx) : ∀ x ∈ partsR l b, exOk x := by
  intro x hx
  unfold partsR at hx
  split at hx
  · rw [List.mem_singleton.1 hx]; exact exOk_true
  · obtain ⟨y, _, rfl⟩ := List.mem_map.1 hx
    exact exOk_lit y
theorem exOk_whole (l : List Vr) (boxes : List Bx) : exOk (wholeR l boxes) := by
  unfold wholeR
  split
  · exact exOk_two (exOk_leaf _ _ _) (exOk_leaf _ _ _)
  · refine exOk_joinF fun x hx => ?_
    obtain ⟨b, _, rfl⟩ := List.mem_map.1 hx
    exact exOk_joinF (exOk_parts l b)
theorem lits_len : ∀ (l : List Vr) (i : Nat) (ls hs : List Int), (litsR l i ls hs).length ≤ 2 * l.length
  | [], _, _, _ => by simp [litsR]
  | v :: r, i, [], hs => by simp [litsR]
  | v :: r, i, _ :: _, [] => by simp [litsR]
  | v :: r, i, lo :: ls, hi :: hs => by
    have := lits_len r (i + 1) ls hs
    simp only [litsR, List.length_append, List.length_cons]
    have h2 : (litsV i v lo hi).length ≤ 2 := by
      unfold litsV
      split
      · simp
      · split
        · simp
        · rw [List.length_append]
          split <;> split <;> simp
    omega
theorem coZeroE {e : Int} : CoD (.tup [.agg [ii 0, ii 0, ii 0, .i (.v (.slice none 0 0))], ii e]) (.tup [exA zeroE, ii e]) := by
  show CoD _ (.tup [.agg [ii 0, ii 0, ii 0, .i (.sl 4 0 [])], ii e])
  repeat' (first | refine coD_tup ?_ | refine coD_agg ?_ | refine coD_i ?_ | refine CoDL.cons ?_ ?_ | exact CoDL.nil | exact coI_nil | refine coI_sl ?_ | refine CoLL.cons ?_ ?_ | exact CoLL.nil | refine CoL.cons ?_ ?_ | exact CoL.nil | exact CoI.refl _ | exact CoL.refl _ | exact CoLL.refl _ | exact CoDL.refl _ | exact CoD.refl _)
theorem true56A (O : List Heap) : ASpec Tryd.prog 56 [] O (exA trueE) [] O := true42 O
set_option maxHeartbeats 4000000 in
theorem joined76 (O : List Heap) (l : List Vr) (boxes : List Bx) (hl : l.length ≤ 16) (hb : ∀ b ∈ boxes, b.low.length = l.length ∧ b.high.length = l.length) (hbl : boxes.length ≤ 4096) : ASpec Tryd.prog 76 [vrs l, bxs boxes] O (.tup [exA (joinedR l boxes).1, ii (joinedR l boxes).2]) [] O := by
  have hck := fun O => check67A O (wholeR l boxes) l.length (exOk_whole l boxes)
  generalize hR : joinedR l boxes = R
  unfold joinedR at hR
  by_cases he : boxes = []
  · subst he
    have hR : (falseE, (0 : Int)) = R := hR
    subst hR
    refine aspec_intro Tk Tryd.func76 rfl Tryd.call76 Tryd.ntmps76 (Nat.le_of_ble_eq_true rfl) fun E => ?_
    refine g_run Tk Tryd.func76 ?_
    repeat (first | refine g_cnd Tk Tryd.func76 rfl (fun _ => ?_) (fun h => absurd h (by decide)) | refine g_know Tk Tryd.func76 rfl (fun _ => ?_) (fun h => absurd h (by decide)) | refine s_know Tk (fun _ => ?_) (fun h => absurd h (by decide)) | refine g_cnd Tk Tryd.func76 rfl (fun h => absurd h (by decide)) (fun _ => ?_) | refine g_know Tk Tryd.func76 rfl (fun h => absurd h (by decide)) (fun _ => ?_) | refine s_know Tk (fun h => absurd h (by decide)) (fun _ => ?_) | refine g_cnd Tk Tryd.func76 rfl (fun _ => ?_) (fun h => absurd (show true = false from h) (by decide)) | refine g_know Tk Tryd.func76 rfl (fun _ => ?_) (fun h => absurd (show true = false from h) (by decide)) | refine s_know Tk (fun _ => ?_) (fun h => absurd (show true = false from h) (by decide)) | refine g_cnd Tk Tryd.func76 rfl (fun h => absurd (show false = true from h) (by decide)) (fun _ => ?_) | refine g_know Tk Tryd.func76 rfl (fun h => absurd (show false = true from h) (by decide)) (fun _ => ?_) | refine s_know Tk (fun h => absurd (show false = true from h) (by decide)) (fun _ => ?_))
    first | refine g_call Tk Tryd.func76 (false77 _) rfl rfl rfl rfl rfl ?_ | refine s_callq Tk (fun _ => false77 _) rfl rfl rfl ?_
    refine g_ret Tk (r := .tup [exA falseE, ii 0]) rfl rfl rfl trivial rfl rfl ?_
    rfl
  have hpos : 0 < boxes.length := List.length_pos_iff.2 he
  have hie : ¬ boxes.isEmpty = true := by simpa using he
  rw [if_neg hie] at hR
  have hjo := fun O (l' : List Ex) h1 h2 => joinR140 l'.length l' 12 O h1 (Nat.le_refl _) h2
  have hw : wholeR l boxes = joinF 12 (boxes.map fun b => joinR 11 (partsR l b)).length (boxes.map fun b => joinR 11 (partsR l b)) := by unfold wholeR; rw [if_neg hie]; rfl
  generalize wholeR l boxes = W at *
  generalize checkX W l.length = K at *
  obtain ⟨kk, ke⟩ := K
  simp only at hck hR
  refine aspec_stop [15, 17] Tk Tryd.func76 rfl Tryd.call76 Tryd.ntmps76 (Nat.le_of_ble_eq_true rfl) fun E => ?_
  refine g_run Tk Tryd.func76 ?_
  first | refine g_cnd Tk Tryd.func76 rfl (fun g0 => ?_) (fun g0 => ?_) | refine g_know Tk Tryd.func76 rfl (fun g0 => ?_) (fun g0 => ?_) | refine s_know Tk (fun g0 => ?_) (fun g0 => ?_)
  · have := beqT g0
    omega
  clear g0
  refine g_loop ?_
  refine rch_wk (wk_nil 6 50 41 4 rfl rfl rfl) ?_
  refine rch_loop2 (fun i : Nat => [(0, vrs l), (4, .own 0 4 0 0), (6, .osl 0 50), (19, bxs boxes), (20, ii boxes.length), (21, ii i)]) (fun i => [(4, .box [ii 0, ii 0, ii 0, .i (.v (.slice none 0 0))]), (50, oexs ((boxes.take i).map fun b => joinR 11 (partsR l b)))]) (fun _ => O) 66
    (fun i => i ≤ boxes.length) (fun i => boxes.length - i) 0 (Nat.zero_le _) ⟨rfl, rfl, rfl, rfl, rfl, rfl, trivial⟩ rfl ⟨rfl, rfl, trivial⟩ rfl rfl ?_
  intro i hi ih
  refine g_run Tk Tryd.func76 ?_
  first | refine g_cnd Tk Tryd.func76 rfl (fun g1 => ?_) (fun g1 => ?_) | refine g_know Tk Tryd.func76 rfl (fun g1 => ?_) (fun g1 => ?_) | refine s_know Tk (fun g1 => ?_) (fun g1 => ?_)
  · have h1 : i < boxes.length := by simpa using g1
    clear g1
    have gb : (boxes.map bxI)[(i : Int).toNat]? = some (bxI boxes[i]) := get_mapZ h1
    have hbs := hb _ (List.getElem_mem h1)
    have htk : (boxes.take (i + 1)).map (fun b => joinR 11 (partsR l b)) = (boxes.take i).map (fun b => joinR 11 (partsR l b)) ++ [joinR 11 (partsR l boxes[i])] := by rw [List.take_add_one, List.getElem?_eq_getElem h1, List.map_append]; rfl
    have hal : ((boxes.take i).map fun b => joinR 11 (partsR l b)).length = i := by simp; omega
    have hli := fun O => literals91 O l boxes[i] hbs.1 hbs.2 hl
    have hll := lits_len l 0 boxes[i].low boxes[i].high
    have hpa : partsR l boxes[i] = if (boxes[i].lits l).isEmpty then [trueE] else (boxes[i].lits l).map litX := rfl
    have hll : (boxes[i].lits l).length ≤ 2 * l.length := hll
    have hjp := fun O (a1 : 1 ≤ (partsR l boxes[i]).length) (a2 : (partsR l boxes[i]).length ≤ 4096) => joinR140 (partsR l boxes[i]).length (partsR l boxes[i]) 11 O a1 (Nat.le_refl _) a2
    have hjn : joinF 11 (partsR l boxes[i]).length (partsR l boxes[i]) = joinR 11 (partsR l boxes[i]) := rfl
    rw [hjn] at hjp
    generalize (boxes.take i).map (fun b => joinR 11 (partsR l b)) = acc at *
    generalize joinR 11 (partsR l boxes[i]) = X at *
    generalize boxes[i].lits l = L at *
    generalize hP : partsR l boxes[i] = P at *
    generalize boxes[i] = b at *
    obtain ⟨lo, hi2⟩ := b
    have hi1 : ii (IntKind.i64.wrap ((i : Int) + 1)) = ii ((i + 1 : Nat) : Int) := congrArg ii (wsucc (n := 4096) (by omega) (by decide))
    first | refine g_need Tk Tryd.func76 (by exact ⟨by omega, by show (i : Int) < (boxes.length : Int); omega⟩) ?_ | refine s_need Tk (by exact ⟨by omega, by show (i : Int) < (boxes.length : Int); omega⟩) ?_
    first | refine g_elem Tk Tryd.func76 (gb) ?_ | refine s_elem Tk (gb) ?_
    first | refine g_call Tk Tryd.func76 (hli _) rfl rfl rfl rfl rfl ?_ | refine s_callq Tk (fun _ => hli _) rfl rfl rfl ?_
    apply join_p (P := True) (s6 := { σ := [(0, vrs l), (4, .own 0 4 0 0), (6, .osl 0 50), (9, exs P), (19, bxs boxes), (20, ii boxes.length), (21, ii i)], S := [(4, .box [ii 0, ii 0, ii 0, .i (.v (.slice none 0 0))]), (50, oexs acc)] :: O, n := 66 })
    · intro J
      refine g_loop ?_
      refine rch_wk (wk_nil 9 37 41 4 rfl rfl rfl) ?_
      refine rch_loop2 (fun j : Nat => [(0, vrs l), (4, .own 0 4 0 0), (6, .osl 0 50), (9, .osl 0 37), (19, bxs boxes), (20, ii boxes.length), (21, ii i), (27, litsD L), (28, ii L.length), (29, ii j)]) (fun j => [(4, .box [ii 0, ii 0, ii 0, .i (.v (.slice none 0 0))]), (50, oexs acc), (37, oexs ((L.take j).map litX))]) (fun _ => O) 66
        (fun j => j ≤ L.length) (fun j => L.length - j) 0 (Nat.zero_le _) ⟨rfl, rfl, rfl, rfl, rfl, rfl, rfl, rfl, rfl, rfl, trivial⟩ rfl ⟨rfl, rfl, rfl, trivial⟩ rfl rfl ?_
      intro j hj ih2
      refine g_run Tk Tryd.func76 ?_
      first | refine g_cnd Tk Tryd.func76 rfl (fun g2 => ?_) (fun g2 => ?_) | refine g_know Tk Tryd.func76 rfl (fun g2 => ?_) (fun g2 => ?_) | refine s_know Tk (fun g2 => ?_) (fun g2 => ?_)
      · have h2 : j < L.length := by simpa using g2
        clear g2
        have gl : (L.map litI)[(j : Int).toNat]? = some (litI L[j]) := get_mapZ h2
        have htj : (L.take (j + 1)).map litX = (L.take j).map litX ++ [litX L[j]] := by rw [List.take_add_one, List.getElem?_eq_getElem h2, List.map_append]; rfl
        have hjl : ((L.take j).map litX).length = j := by simp; omega
        have hle := fun O => litExpr139 O L[j]
        generalize (L.take j).map litX = M at *
        generalize hY : litX L[j] = Y at *
        generalize L[j] = x at *
        obtain ⟨xv, xlo, xhi, xf, xt⟩ := x
        first | refine g_need Tk Tryd.func76 (by exact ⟨by omega, by show (j : Int) < (L.length : Int); omega⟩) ?_ | refine s_need Tk (by exact ⟨by omega, by show (j : Int) < (L.length : Int); omega⟩) ?_
        first | refine g_elem Tk Tryd.func76 (gl) ?_ | refine s_elem Tk (gl) ?_
        first | refine g_call Tk Tryd.func76 (hle _) rfl rfl rfl rfl rfl ?_ | refine s_callq Tk (fun _ => hle _) rfl rfl rfl ?_
        first | refine g_need Tk Tryd.func76 (by exact ⟨by show (M.length + 1) * 48 ≤ 140737488355328; omega, by show M.length + 1 ≤ 9223372036854775807; omega⟩) ?_ | refine s_need Tk (by exact ⟨by show (M.length + 1) * 48 ≤ 140737488355328; omega, by show M.length + 1 ≤ 9223372036854775807; omega⟩) ?_
        refine g_loop ?_
        exact ih2 (j + 1) _ _ h2 (by omega) ⟨rfl, rfl, rfl, rfl, rfl, rfl, rfl, rfl, rfl, congrArg ii (wsucc (n := 4096) (by omega) (by decide)), trivial⟩ rfl ⟨rfl, rfl, by rw [htj]; exact congrArg some (oexs_app M Y), trivial⟩ rfl rfl
      · have h2 : L.length ≤ j := by simpa using g2
        rw [List.take_of_length_le h2]
        cases hLe : L with
        | nil =>
          subst hLe
          have hP1 : P = [trueE] := by rw [hpa]; rfl
          repeat (first | refine g_cnd Tk Tryd.func76 rfl (fun _ => ?_) (fun h => absurd h (by decide)) | refine g_know Tk Tryd.func76 rfl (fun _ => ?_) (fun h => absurd h (by decide)) | refine s_know Tk (fun _ => ?_) (fun h => absurd h (by decide)) | refine g_cnd Tk Tryd.func76 rfl (fun h => absurd h (by decide)) (fun _ => ?_) | refine g_know Tk Tryd.func76 rfl (fun h => absurd h (by decide)) (fun _ => ?_) | refine s_know Tk (fun h => absurd h (by decide)) (fun _ => ?_) | refine g_cnd Tk Tryd.func76 rfl (fun _ => ?_) (fun h => absurd (show true = false from h) (by decide)) | refine g_know Tk Tryd.func76 rfl (fun _ => ?_) (fun h => absurd (show true = false from h) (by decide)) | refine s_know Tk (fun _ => ?_) (fun h => absurd (show true = false from h) (by decide)) | refine g_cnd Tk Tryd.func76 rfl (fun h => absurd (show false = true from h) (by decide)) (fun _ => ?_) | refine g_know Tk Tryd.func76 rfl (fun h => absurd (show false = true from h) (by decide)) (fun _ => ?_) | refine s_know Tk (fun h => absurd (show false = true from h) (by decide)) (fun _ => ?_))
          first | refine g_call Tk Tryd.func76 (true56A _) rfl rfl rfl rfl rfl ?_ | refine s_callq Tk (fun _ => true56A _) rfl rfl rfl ?_
          first | refine g_need Tk Tryd.func76 (by decide) ?_ | refine s_need Tk (by decide) ?_
          refine g_stop ?_
          refine rch_wk (wk_freeze 45 rfl rfl) ?_
          refine rch_wk (wk_imm rfl) ?_
          refine rch_meet (J trivial) ⟨rfl, rfl, rfl, by rw [hP1]; rfl, rfl, rfl, rfl, trivial⟩ rfl ⟨rfl, rfl, trivial⟩ rfl rfl
        | cons y r =>
          have hP1 : P = L.map litX := by rw [hpa, hLe]; rfl
          rw [← hLe]
          first | refine g_cnd Tk Tryd.func76 rfl (fun g3 => ?_) (fun g3 => ?_) | refine g_know Tk Tryd.func76 rfl (fun g3 => ?_) (fun g3 => ?_) | refine s_know Tk (fun g3 => ?_) (fun g3 => ?_)
          · have := beqT g3
            rw [List.length_map, hLe, List.length_cons] at this
            omega
          refine g_stop ?_
          refine rch_wk (wk_freeze 37 rfl rfl) ?_
          refine rch_wk (wk_imm rfl) ?_
          refine rch_meet (J trivial) ⟨rfl, rfl, rfl, by rw [hP1]; rfl, rfl, rfl, rfl, trivial⟩ rfl ⟨rfl, rfl, trivial⟩ rfl rfl
    · intro _
      have hP0 : 1 ≤ P.length ∧ P.length ≤ 4096 := by
        rw [hpa]
        cases L with
        | nil => exact ⟨by simp, by simp⟩
        | cons y r => simp only [List.isEmpty_cons, List.length_map, List.length_cons] at hll ⊢; simp; omega
      refine g_run Tk Tryd.func76 ?_
      refine g_go Tk Tryd.func76 ?_
      first | refine g_call Tk Tryd.func76 (hjp _ hP0.1 hP0.2) rfl rfl rfl rfl rfl ?_ | refine s_callq Tk (fun _ => hjp _ hP0.1 hP0.2) rfl rfl rfl ?_
      first | refine g_need Tk Tryd.func76 (by exact ⟨by show (acc.length + 1) * 48 ≤ 140737488355328; omega, by show acc.length + 1 ≤ 9223372036854775807; omega⟩) ?_ | refine s_need Tk (by exact ⟨by show (acc.length + 1) * 48 ≤ 140737488355328; omega, by show acc.length + 1 ≤ 9223372036854775807; omega⟩) ?_
      refine g_loop ?_
      exact ih (i + 1) _ _ h1 (by omega) ⟨rfl, rfl, rfl, rfl, rfl, hi1, trivial⟩ rfl ⟨rfl, by rw [htk]; exact congrArg some (oexs_app acc X), trivial⟩ rfl rfl
  · have h1 : boxes.length ≤ i := by simpa using g1
    rw [List.take_of_length_le h1]
    have hal : (boxes.map fun b => joinR 11 (partsR l b)).length = boxes.length := by simp
    generalize boxes.map (fun b => joinR 11 (partsR l b)) = acc at *
    have hjo := fun O => hjo O acc (by omega) (by omega)
    rw [← hw] at hjo
    obtain ⟨wo, wv, wi, wa⟩ := W
    refine g_stop ?_
    refine rch_wk (wk_freeze 50 rfl rfl) ?_
    refine rch_wk (wk_imm rfl) ?_
    refine g_run Tk Tryd.func76 ?_
    refine g_go Tk Tryd.func76 ?_
    first | refine g_call Tk Tryd.func76 (hjo _) rfl rfl rfl rfl rfl ?_ | refine s_callq Tk (fun _ => hjo _) rfl rfl rfl ?_
    first | refine g_call Tk Tryd.func76 (hck _) rfl rfl rfl rfl rfl ?_ | refine s_callq Tk (fun _ => hck _) rfl rfl rfl ?_
    first | refine g_cnd Tk Tryd.func76 rfl (fun g2 => ?_) (fun g2 => ?_) | refine g_know Tk Tryd.func76 rfl (fun g2 => ?_) (fun g2 => ?_) | refine s_know Tk (fun g2 => ?_) (fun g2 => ?_)
    · have g2 := bneT g2
      rw [if_pos g2] at hR
      subst hR
      refine g_ret_co Tk (r := .tup [.agg [ii 0, ii 0, ii 0, .i (.v (.slice none 0 0))], ii ke]) rfl rfl rfl trivial rfl rfl ?_
      exact coZeroE
    have g2 := bneF g2
    rw [if_neg (by simpa using g2)] at hR
    subst hR
    refine g_ret Tk (r := .tup [exA (.mk wo wv wi wa), ii 0]) rfl rfl rfl trivial rfl rfl ?_
    rfl
end Go.AI


/- Literals, Implies, Equivalent, Simplify. -/
namespace Go.AI
open Go.Proofs
set_option maxRecDepth 20000
theorem tabL_len {x : Ex} : ∀ {dom : List (List Int)} {acc : List Bool}, (tabL x dom acc).2 = 0 → (tabL x dom acc).1.length = acc.length + dom.length
  | [], acc, _ => by simp [tabL]
  | v :: r, acc, h => by
    simp only [tabL] at h ⊢
    by_cases hc : (evalX x v).2 ≠ 0
    · rw [if_pos hc] at h; exact absurd h hc
    · rw [if_neg hc] at h ⊢
      rw [tabL_len h]
      simp
      omega
theorem tableR_len {n : Int} {dom : List (List Int)} {x : Ex} (h : (tableR n dom x).2 = 0) : (tableR n dom x).1.length = dom.length := by
  unfold tableR at h ⊢
  by_cases h1 : (checkX x n).2 ≠ 0
  · rw [if_pos h1] at h; exact absurd h h1
  rw [if_neg h1] at h ⊢
  by_cases h2 : (checkX x n).1 ≠ 2
  · rw [if_pos h2] at h; cases h
  rw [if_neg h2] at h ⊢
  rw [tabL_len h]
  simp
def firstB (p : Bool → Bool → Bool) : List (List Int) → List Bool → List Bool → List Int × Bool
  | d :: ds, a :: r, b :: bs => if p a b then (d, false) else firstB p ds r bs
  | _, _, _ => ([], true)
def cmpR (p : Bool → Bool → Bool) (l : List Vr) (x y : Ex) : List Int × Bool × Int :=
  if (allG l).2 ≠ 0 then ([], false, (allG l).2) else
  if (tableR l.length (allG l).1 x).2 ≠ 0 then ([], false, (tableR l.length (allG l).1 x).2) else
  if (tableR l.length (allG l).1 y).2 ≠ 0 then ([], false, (tableR l.length (allG l).1 y).2) else
  ((firstB p (allG l).1 (tableR l.length (allG l).1 x).1 (tableR l.length (allG l).1 y).1).1, (firstB p (allG l).1 (tableR l.length (allG l).1 x).1 (tableR l.length (allG l).1 y).1).2, 0)
theorem coNo3 {b : Bool} {e : Int} : CoD (.tup [.i (.v (.slice none 0 0)), bb b, ii e]) (.tup [ints [], bb b, ii e]) := coD_tup (.cons (coD_i coI_nil) (CoDL.refl _))
set_option maxHeartbeats 4000000 in
theorem compare85 (O : List Heap) (l : List Vr) (x y : Ex) (f : Nat) (p : Bool → Bool → Bool) (hp : ∀ O a b, ASpec Tryd.prog f [bb a, bb b] O (bb (p a b)) [] O) (hl : l.length ≤ max63) (hn : ∀ v ∈ l, v.name.size ≤ max63) (hx : exOk x) (hy : exOk y) :
    ASpec Tryd.prog 85 [vrs l, exA x, exA y, .fn (.func f) [] []] O (.tup [ints (cmpR p l x y).1, bb (cmpR p l x y).2.1, ii (cmpR p l x y).2.2]) [] O := by
  have ha := fun O => allG30 O l hl hn
  have hlen := allG_len l
  generalize hR : cmpR p l x y = R
  unfold cmpR at hR
  generalize allG l = A at *
  obtain ⟨dom, e⟩ := A
  simp only at ha hlen hR
  have ht := fun O => table75 O l dom x hx hlen.1 hlen.2
  have hu := fun O => table75 O l dom y hy hlen.1 hlen.2
  have htl := @tableR_len l.length dom x
  have hul := @tableR_len l.length dom y
  generalize tableR l.length dom x = T at *
  generalize tableR l.length dom y = U at *
  obtain ⟨t, te⟩ := T
  obtain ⟨u, ue⟩ := U
  simp only at ht hu htl hul hR
  have hdl := hlen.1
  obtain ⟨xo, xv, xi, xa⟩ := x
  obtain ⟨yo, yv, yi, ya⟩ := y
  refine aspec_intro Tk Tryd.func85 rfl Tryd.call85 Tryd.ntmps85 (Nat.le_of_ble_eq_true rfl) fun E => ?_
  refine g_run Tk Tryd.func85 ?_
  first | refine g_call Tk Tryd.func85 (ha _) rfl rfl rfl rfl rfl ?_ | refine s_callq Tk (fun _ => ha _) rfl rfl rfl ?_
  first | refine g_cnd Tk Tryd.func85 rfl (fun h1 => ?_) (fun h1 => ?_) | refine g_know Tk Tryd.func85 rfl (fun h1 => ?_) (fun h1 => ?_) | refine s_know Tk (fun h1 => ?_) (fun h1 => ?_)
  · have h1 := bneT h1
    rw [if_pos h1] at hR
    subst hR
    refine g_ret_co Tk (r := _) rfl rfl rfl trivial rfl rfl ?_
    exact coNo3
  have h1 := bneF h1
  rw [if_neg (by simpa using h1)] at hR
  first | refine g_call Tk Tryd.func85 (ht _) rfl rfl rfl rfl rfl ?_ | refine s_callq Tk (fun _ => ht _) rfl rfl rfl ?_
  first | refine g_cnd Tk Tryd.func85 rfl (fun h2 => ?_) (fun h2 => ?_) | refine g_know Tk Tryd.func85 rfl (fun h2 => ?_) (fun h2 => ?_) | refine s_know Tk (fun h2 => ?_) (fun h2 => ?_)
  · have h2 := bneT h2
    rw [if_pos h2] at hR
    subst hR
    refine g_ret_co Tk (r := _) rfl rfl rfl trivial rfl rfl ?_
    exact coNo3
  have h2 := bneF h2
  rw [if_neg (by simpa using h2)] at hR
  first | refine g_call Tk Tryd.func85 (hu _) rfl rfl rfl rfl rfl ?_ | refine s_callq Tk (fun _ => hu _) rfl rfl rfl ?_
  first | refine g_cnd Tk Tryd.func85 rfl (fun h3 => ?_) (fun h3 => ?_) | refine g_know Tk Tryd.func85 rfl (fun h3 => ?_) (fun h3 => ?_) | refine s_know Tk (fun h3 => ?_) (fun h3 => ?_)
  · have h3 := bneT h3
    rw [if_pos h3] at hR
    subst hR
    refine g_ret_co Tk (r := _) rfl rfl rfl trivial rfl rfl ?_
    exact coNo3
  have h3 := bneF h3
  rw [if_neg (by simpa using h3)] at hR
  have htl := htl h2
  have hul := hul h3
  clear ht hu ha hlen
  have hF0 : firstB p dom t u = firstB p (dom.drop 0) (t.drop 0) (u.drop 0) := rfl
  generalize firstB p dom t u = F at *
  refine g_loop ?_
  refine rch_loop2 (fun i : Nat => [(3, .fn (.func f) [] []), (13, bools t), (14, bools u), (45, intss dom), (46, ii dom.length), (47, ii i)]) (fun _ => []) (fun _ => O) 64
    (fun i => i ≤ dom.length ∧ F = firstB p (dom.drop i) (t.drop i) (u.drop i)) (fun i => dom.length - i) 0 ⟨Nat.zero_le _, hF0⟩ ⟨rfl, rfl, rfl, rfl, rfl, rfl, trivial⟩ rfl trivial rfl rfl ?_
  clear hF0
  rintro i ⟨hi, hno⟩ ih
  refine g_run Tk Tryd.func85 ?_
  first | refine g_cnd Tk Tryd.func85 rfl (fun g1 => ?_) (fun g1 => ?_) | refine g_know Tk Tryd.func85 rfl (fun g1 => ?_) (fun g1 => ?_) | refine s_know Tk (fun g1 => ?_) (fun g1 => ?_)
  · have h4 : i < dom.length := by simpa using g1
    have gv : (dom.map fun x => [intsI x])[(i : Int).toNat]? = some [intsI dom[i]] := get_mapZ (f := fun x => [intsI x]) h4
    have gl : (t.map fun x => [I.v (.bool x)])[(i : Int).toNat]? = some [I.v (.bool (t[i]'(by omega)))] := get_mapZ (f := fun x => [I.v (.bool x)]) (by omega)
    have gh : (u.map fun x => [I.v (.bool x)])[(i : Int).toNat]? = some [I.v (.bool (u[i]'(by omega)))] := get_mapZ (f := fun x => [I.v (.bool x)]) (by omega)
    have dv : dom.drop i = dom[i] :: dom.drop (i + 1) := List.drop_eq_getElem_cons h4
    have dl : t.drop i = (t[i]'(by omega)) :: t.drop (i + 1) := List.drop_eq_getElem_cons (by omega)
    have dh : u.drop i = (u[i]'(by omega)) :: u.drop (i + 1) := List.drop_eq_getElem_cons (by omega)
    rw [dv, dl, dh] at hno
    simp only [firstB] at hno
    clear dv dl dh
    generalize dom[i] = v at *
    generalize t[i]'(by omega) = a at *
    generalize u[i]'(by omega) = c at *
    first | refine g_need Tk Tryd.func85 (by exact ⟨by omega, by show (i : Int) < (dom.length : Int); omega⟩) ?_ | refine s_need Tk (by exact ⟨by omega, by show (i : Int) < (dom.length : Int); omega⟩) ?_
    first | refine g_elem Tk Tryd.func85 (gv) ?_ | refine s_elem Tk (gv) ?_
    refine g_drawn Tk Tryd.func85 mixedT rfl ?_
    first | refine g_need Tk Tryd.func85 (by exact ⟨by omega, by show (i : Int) < (t.length : Int); omega⟩) ?_ | refine s_need Tk (by exact ⟨by omega, by show (i : Int) < (t.length : Int); omega⟩) ?_
    first | refine g_elem Tk Tryd.func85 (gl) ?_ | refine s_elem Tk (gl) ?_
    first | refine g_need Tk Tryd.func85 (by exact ⟨by omega, by show (i : Int) < (u.length : Int); omega⟩) ?_ | refine s_need Tk (by exact ⟨by omega, by show (i : Int) < (u.length : Int); omega⟩) ?_
    first | refine g_elem Tk Tryd.func85 (gh) ?_ | refine s_elem Tk (gh) ?_
    first | refine g_call Tk Tryd.func85 (hp _ a c) rfl rfl rfl rfl rfl ?_ | refine s_callq Tk (fun _ => hp _ a c) rfl rfl rfl ?_
    refine e_done Tk Tryd.func85 (by kernel_rfl) ?_
    first | refine g_cnd Tk Tryd.func85 rfl (fun h5 => ?_) (fun h5 => ?_) | refine g_know Tk Tryd.func85 rfl (fun h5 => ?_) (fun h5 => ?_) | refine s_know Tk (fun h5 => ?_) (fun h5 => ?_)
    · rw [if_pos h5] at hno
      subst hno
      subst hR
      refine g_ret Tk (r := .tup [ints v, bb false, ii 0]) rfl rfl rfl trivial rfl rfl ?_
      rfl
    · rw [if_neg (by rw [h5]; simp)] at hno
      refine g_loop ?_
      exact ih (i + 1) _ _ ⟨h4, hno⟩ (by omega) ⟨rfl, rfl, rfl, rfl, rfl, congrArg ii (wsucc (n := 4096) (by omega) (by decide)), trivial⟩ rfl trivial rfl rfl
  · have h4 : dom.length ≤ i := by simpa using g1
    rw [List.drop_eq_nil_of_le h4] at hno
    simp only [firstB] at hno
    subst hno
    subst hR
    refine g_ret_co Tk (r := _) rfl rfl rfl trivial rfl rfl ?_
    exact coNo3
theorem impl86 (O : List Heap) (a b : Bool) : ASpec Tryd.prog 86 [bb a, bb b] O (bb (a && !b)) [] O := by
  cases a
  · refine aspec_intro Tk Tryd.func86 rfl Tryd.call86 Tryd.ntmps86 (Nat.le_of_ble_eq_true rfl) fun E => ?_
    refine g_run Tk Tryd.func86 ?_
    repeat (first | refine g_cnd Tk Tryd.func86 rfl (fun _ => ?_) (fun h => absurd h (by decide)) | refine g_know Tk Tryd.func86 rfl (fun _ => ?_) (fun h => absurd h (by decide)) | refine s_know Tk (fun _ => ?_) (fun h => absurd h (by decide)) | refine g_cnd Tk Tryd.func86 rfl (fun h => absurd h (by decide)) (fun _ => ?_) | refine g_know Tk Tryd.func86 rfl (fun h => absurd h (by decide)) (fun _ => ?_) | refine s_know Tk (fun h => absurd h (by decide)) (fun _ => ?_) | refine g_cnd Tk Tryd.func86 rfl (fun _ => ?_) (fun h => absurd (show true = false from h) (by decide)) | refine g_know Tk Tryd.func86 rfl (fun _ => ?_) (fun h => absurd (show true = false from h) (by decide)) | refine s_know Tk (fun _ => ?_) (fun h => absurd (show true = false from h) (by decide)) | refine g_cnd Tk Tryd.func86 rfl (fun h => absurd (show false = true from h) (by decide)) (fun _ => ?_) | refine g_know Tk Tryd.func86 rfl (fun h => absurd (show false = true from h) (by decide)) (fun _ => ?_) | refine s_know Tk (fun h => absurd (show false = true from h) (by decide)) (fun _ => ?_))
    refine g_ret Tk (r := bb false) rfl rfl rfl trivial rfl rfl ?_
    rfl
  · refine aspec_intro Tk Tryd.func86 rfl Tryd.call86 Tryd.ntmps86 (Nat.le_of_ble_eq_true rfl) fun E => ?_
    refine g_run Tk Tryd.func86 ?_
    repeat (first | refine g_cnd Tk Tryd.func86 rfl (fun _ => ?_) (fun h => absurd h (by decide)) | refine g_know Tk Tryd.func86 rfl (fun _ => ?_) (fun h => absurd h (by decide)) | refine s_know Tk (fun _ => ?_) (fun h => absurd h (by decide)) | refine g_cnd Tk Tryd.func86 rfl (fun h => absurd h (by decide)) (fun _ => ?_) | refine g_know Tk Tryd.func86 rfl (fun h => absurd h (by decide)) (fun _ => ?_) | refine s_know Tk (fun h => absurd h (by decide)) (fun _ => ?_) | refine g_cnd Tk Tryd.func86 rfl (fun _ => ?_) (fun h => absurd (show true = false from h) (by decide)) | refine g_know Tk Tryd.func86 rfl (fun _ => ?_) (fun h => absurd (show true = false from h) (by decide)) | refine s_know Tk (fun _ => ?_) (fun h => absurd (show true = false from h) (by decide)) | refine g_cnd Tk Tryd.func86 rfl (fun h => absurd (show false = true from h) (by decide)) (fun _ => ?_) | refine g_know Tk Tryd.func86 rfl (fun h => absurd (show false = true from h) (by decide)) (fun _ => ?_) | refine s_know Tk (fun h => absurd (show false = true from h) (by decide)) (fun _ => ?_))
    refine g_ret Tk (r := bb (!b)) rfl rfl rfl trivial rfl rfl ?_
    rfl
theorem implies34 (O : List Heap) (l : List Vr) (x y : Ex) (hl : l.length ≤ max63) (hn : ∀ v ∈ l, v.name.size ≤ max63) (hx : exOk x) (hy : exOk y) :
    ASpec Tryd.prog 34 [vrs l, exA x, exA y] O (.tup [ints (cmpR (fun a b => a && !b) l x y).1, bb (cmpR (fun a b => a && !b) l x y).2.1, ii (cmpR (fun a b => a && !b) l x y).2.2]) [] O := by
  have hc := fun O => compare85 O l x y 86 (fun a b => a && !b) (fun O a b => impl86 O a b) hl hn hx hy
  generalize cmpR (fun a b => a && !b) l x y = R at *
  obtain ⟨xo, xv, xi, xa⟩ := x
  obtain ⟨yo, yv, yi, ya⟩ := y
  refine aspec_intro Tk Tryd.func34 rfl Tryd.call34 Tryd.ntmps34 (Nat.le_of_ble_eq_true rfl) fun E => ?_
  refine g_run Tk Tryd.func34 ?_
  first | refine g_call Tk Tryd.func34 (hc _) rfl rfl rfl rfl rfl ?_ | refine s_callq Tk (fun _ => hc _) rfl rfl rfl ?_
  refine g_ret Tk (r := .tup [ints R.1, bb R.2.1, ii R.2.2]) rfl rfl rfl trivial rfl rfl ?_
  rfl
def simplR (l : List Vr) (x care : Ex) : Ex × Int :=
  if (allG l).2 ≠ 0 then (zeroE, (allG l).2) else
  if (tableR l.length (allG l).1 x).2 ≠ 0 then (zeroE, (tableR l.length (allG l).1 x).2) else
  if (tableR l.length (allG l).1 care).2 ≠ 0 then (zeroE, (tableR l.length (allG l).1 care).2) else
  joinedR l (coverR l (allG l).1 (tableR l.length (allG l).1 x).1 (tableR l.length (allG l).1 care).1)
theorem coverR_len (l : List Vr) (dom : List (List Int)) (t c : List Bool) : (coverR l dom t c).length ≤ dom.length := by
  have h1 := thin_len (neededR dom t c) (coverL (freeR (refusedR dom t c)) l (neededR dom t c) []) []
  have h2 := coverL_len (freeR (refusedR dom t c)) l (neededR dom t c) []
  have h3 := neededR_len dom t c
  unfold coverR coversR
  simp only [List.length_nil] at h1 h2
  omega
theorem simplify24 (O : List Heap) (l : List Vr) (x y : Ex) (hl : l.length ≤ max63) (hn : ∀ v ∈ l, v.name.size ≤ max63) (hx : exOk x) (hy : exOk y) :
    ASpec Tryd.prog 24 [vrs l, exA x, exA y] O (.tup [exA (simplR l x y).1, ii (simplR l x y).2]) [] O := by
  have ha := fun O => allG30 O l hl hn
  have hlen := allG_len l
  have hgok := @allG_ok l
  generalize hR : simplR l x y = R
  unfold simplR at hR
  by_cases he : (allG l).2 ≠ 0
  · rw [if_pos he] at hR
    subst hR
    generalize allG l = A at *
    obtain ⟨dom, e⟩ := A
    simp only at ha he
    obtain ⟨xo, xv, xi, xa⟩ := x
    obtain ⟨yo, yv, yi, ya⟩ := y
    refine aspec_intro Tk Tryd.func24 rfl Tryd.call24 Tryd.ntmps24 (Nat.le_of_ble_eq_true rfl) fun E => ?_
    refine g_run Tk Tryd.func24 ?_
    first | refine g_call Tk Tryd.func24 (ha _) rfl rfl rfl rfl rfl ?_ | refine s_callq Tk (fun _ => ha _) rfl rfl rfl ?_
    first | refine g_cnd Tk Tryd.func24 rfl (fun h1 => ?_) (fun h1 => ?_) | refine g_know Tk Tryd.func24 rfl (fun h1 => ?_) (fun h1 => ?_) | refine s_know Tk (fun h1 => ?_) (fun h1 => ?_)
    rotate_left
    · exact absurd (bneF h1) he
    refine g_ret_co Tk (r := .tup [.agg [ii 0, ii 0, ii 0, .i (.v (.slice none 0 0))], ii e]) rfl rfl rfl trivial rfl rfl ?_
    exact coZeroE
  rw [if_neg he] at hR
  obtain ⟨hd, hae⟩ := hgok (by simpa using he)
  have hv := hd.vals
  have hcr := coverR_ok (l := l) (all := allV l) (t := (tableR l.length (allV l) x).1) (c := (tableR l.length (allV l) y).1) (allV_dom l)
  have hcl := coverR_len l (allV l) (tableR l.length (allV l) x).1 (tableR l.length (allV l) y).1
  rw [hae] at ha hR hlen
  simp only at ha hR hlen
  clear hgok he hae
  have hl16 := hd.len
  generalize allV l = dom at *
  have ht := fun O => table75 O l dom x hx hlen.1 hlen.2
  have hu := fun O => table75 O l dom y hy hlen.1 hlen.2
  have htl := @tableR_len l.length dom x
  have hul := @tableR_len l.length dom y
  generalize tableR l.length dom x = T at *
  generalize tableR l.length dom y = U at *
  obtain ⟨t, te⟩ := T
  obtain ⟨u, ue⟩ := U
  simp only at ht hu htl hul hR hcr hcl
  have hdl := hlen.1
  obtain ⟨xo, xv, xi, xa⟩ := x
  obtain ⟨yo, yv, yi, ya⟩ := y
  have hcov := fun O h1 h2 => covered71 O l dom t u hv h1 h2
  have hjn := fun O => joined76 O l (coverR l dom t u) hl16 (fun b hb => ⟨hcr.low b hb, hcr.high b hb⟩) (by omega)
  generalize coverR l dom t u = C at *
  generalize joinedR l C = J at *
  refine aspec_intro Tk Tryd.func24 rfl Tryd.call24 Tryd.ntmps24 (Nat.le_of_ble_eq_true rfl) fun E => ?_
  refine g_run Tk Tryd.func24 ?_
  first | refine g_call Tk Tryd.func24 (ha _) rfl rfl rfl rfl rfl ?_ | refine s_callq Tk (fun _ => ha _) rfl rfl rfl ?_
  repeat (first | refine g_cnd Tk Tryd.func24 rfl (fun _ => ?_) (fun h => absurd h (by decide)) | refine g_know Tk Tryd.func24 rfl (fun _ => ?_) (fun h => absurd h (by decide)) | refine s_know Tk (fun _ => ?_) (fun h => absurd h (by decide)) | refine g_cnd Tk Tryd.func24 rfl (fun h => absurd h (by decide)) (fun _ => ?_) | refine g_know Tk Tryd.func24 rfl (fun h => absurd h (by decide)) (fun _ => ?_) | refine s_know Tk (fun h => absurd h (by decide)) (fun _ => ?_) | refine g_cnd Tk Tryd.func24 rfl (fun _ => ?_) (fun h => absurd (show true = false from h) (by decide)) | refine g_know Tk Tryd.func24 rfl (fun _ => ?_) (fun h => absurd (show true = false from h) (by decide)) | refine s_know Tk (fun _ => ?_) (fun h => absurd (show true = false from h) (by decide)) | refine g_cnd Tk Tryd.func24 rfl (fun h => absurd (show false = true from h) (by decide)) (fun _ => ?_) | refine g_know Tk Tryd.func24 rfl (fun h => absurd (show false = true from h) (by decide)) (fun _ => ?_) | refine s_know Tk (fun h => absurd (show false = true from h) (by decide)) (fun _ => ?_))
  first | refine g_call Tk Tryd.func24 (ht _) rfl rfl rfl rfl rfl ?_ | refine s_callq Tk (fun _ => ht _) rfl rfl rfl ?_
  first | refine g_cnd Tk Tryd.func24 rfl (fun h2 => ?_) (fun h2 => ?_) | refine g_know Tk Tryd.func24 rfl (fun h2 => ?_) (fun h2 => ?_) | refine s_know Tk (fun h2 => ?_) (fun h2 => ?_)
  · have h2 := bneT h2
    rw [if_pos h2] at hR
    subst hR
    refine g_ret_co Tk (r := .tup [.agg [ii 0, ii 0, ii 0, .i (.v (.slice none 0 0))], ii te]) rfl rfl rfl trivial rfl rfl ?_
    exact coZeroE
  have h2 := bneF h2
  rw [if_neg (by simpa using h2)] at hR
  first | refine g_call Tk Tryd.func24 (hu _) rfl rfl rfl rfl rfl ?_ | refine s_callq Tk (fun _ => hu _) rfl rfl rfl ?_
  first | refine g_cnd Tk Tryd.func24 rfl (fun h3 => ?_) (fun h3 => ?_) | refine g_know Tk Tryd.func24 rfl (fun h3 => ?_) (fun h3 => ?_) | refine s_know Tk (fun h3 => ?_) (fun h3 => ?_)
  · have h3 := bneT h3
    rw [if_pos h3] at hR
    subst hR
    refine g_ret_co Tk (r := .tup [.agg [ii 0, ii 0, ii 0, .i (.v (.slice none 0 0))], ii ue]) rfl rfl rfl trivial rfl rfl ?_
    exact coZeroE
  have h3 := bneF h3
  rw [if_neg (by simpa using h3)] at hR
  have htl := htl h2
  have hul := hul h3
  subst hR
  first | refine g_call Tk Tryd.func24 (hcov _ htl hul) rfl rfl rfl rfl rfl ?_ | refine s_callq Tk (fun _ => hcov _ htl hul) rfl rfl rfl ?_
  first | refine g_call Tk Tryd.func24 (hjn _) rfl rfl rfl rfl rfl ?_ | refine s_callq Tk (fun _ => hjn _) rfl rfl rfl ?_
  refine g_ret Tk (r := .tup [exA J.1, ii J.2]) rfl rfl rfl trivial rfl rfl ?_
  rfl
/-- The number of literals. -/
def cntLits (l : List Vr) (boxes : List Bx) : Nat := (boxes.map fun b => (b.lits l).length).foldl (· + ·) 0
def literalsR (l : List Vr) (boxes : List Bx) : Int × Int := if checkBoxesR l boxes ≠ 0 then (0, checkBoxesR l boxes) else (cntLits l boxes, 0)
theorem chkBs_ok {l : List Vr} : ∀ {boxes : List Bx}, chkBs l boxes = 0 → ∀ b ∈ boxes, b.low.length = l.length ∧ b.high.length = l.length ∧ chkV l b.low b.high = 0
  | [], _, b, hb => by simp at hb
  | c :: r, h, b, hb => by
    simp only [chkBs] at h
    by_cases h1 : chkBx l c ≠ 0
    · rw [if_pos h1] at h; exact absurd h h1
    rw [if_neg h1] at h
    rcases List.mem_cons.1 hb with rfl | hb
    · have h1 : chkBx l b = 0 := by simpa using h1
      unfold chkBx at h1
      by_cases h2 : b.low.length ≠ l.length ∨ b.high.length ≠ l.length
      · rw [if_pos h2] at h1; cases h1
      rw [if_neg h2] at h1
      exact ⟨by omega, by omega, h1⟩
    · exact chkBs_ok h b hb
theorem checkBoxes_ok {l : List Vr} {boxes : List Bx} (h : checkBoxesR l boxes = 0) : domOk l ∧ ∀ b ∈ boxes, b.low.length = l.length ∧ b.high.length = l.length ∧ chkV l b.low b.high = 0 := by
  unfold checkBoxesR at h
  by_cases h1 : (allG l).2 ≠ 0
  · rw [if_pos h1] at h; exact absurd h h1
  rw [if_neg h1] at h
  exact ⟨(allG_ok (by simpa using h1)).1, chkBs_ok h⟩
theorem cntLits_succ (l : List Vr) (boxes : List Bx) (b : Bx) : cntLits l (boxes ++ [b]) = cntLits l boxes + (b.lits l).length := by simp [cntLits]
theorem literals41 (O : List Heap) (l : List Vr) (boxes : List Bx) (hl : l.length ≤ max63) (hn : ∀ v ∈ l, v.name.size ≤ max63) (hbl : boxes.length ≤ 4096) : ASpec Tryd.prog 41 [vrs l, bxs boxes] O (.tup [ii (literalsR l boxes).1, ii (literalsR l boxes).2]) [] O := by
  have hck := fun O => checkBoxes89 O l boxes hl hn (by simp only [max63]; omega)
  have hok := @checkBoxes_ok l boxes
  generalize hR : literalsR l boxes = R
  unfold literalsR at hR
  generalize checkBoxesR l boxes = e at *
  refine aspec_intro Tk Tryd.func41 rfl Tryd.call41 Tryd.ntmps41 (Nat.le_of_ble_eq_true rfl) fun E => ?_
  refine g_run Tk Tryd.func41 ?_
  first | refine g_call Tk Tryd.func41 (hck _) rfl rfl rfl rfl rfl ?_ | refine s_callq Tk (fun _ => hck _) rfl rfl rfl ?_
  first | refine g_cnd Tk Tryd.func41 rfl (fun h1 => ?_) (fun h1 => ?_) | refine g_know Tk Tryd.func41 rfl (fun h1 => ?_) (fun h1 => ?_) | refine s_know Tk (fun h1 => ?_) (fun h1 => ?_)
  · have h1 := bneT h1
    rw [if_pos h1] at hR
    subst hR
    refine g_ret Tk (r := .tup [ii 0, ii e]) rfl rfl rfl trivial rfl rfl ?_
    rfl
  have h1 := bneF h1
  rw [if_neg (by simpa using h1)] at hR
  obtain ⟨hd, hb⟩ := hok h1
  have hl16 := hd.len
  subst hR
  refine g_loop ?_
  refine rch_loop2 (fun i : Nat => [(0, vrs l), (7, ii (cntLits l (boxes.take i))), (16, bxs boxes), (17, ii boxes.length), (18, ii i)]) (fun _ => []) (fun _ => O) 30
    (fun i => i ≤ boxes.length ∧ cntLits l (boxes.take i) ≤ 32 * i) (fun i => boxes.length - i) 0 ⟨Nat.zero_le _, by simp [cntLits]⟩ ⟨rfl, rfl, rfl, rfl, rfl, trivial⟩ rfl trivial rfl rfl ?_
  rintro i ⟨hi, hci⟩ ih
  refine g_run Tk Tryd.func41 ?_
  first | refine g_cnd Tk Tryd.func41 rfl (fun g1 => ?_) (fun g1 => ?_) | refine g_know Tk Tryd.func41 rfl (fun g1 => ?_) (fun g1 => ?_) | refine s_know Tk (fun g1 => ?_) (fun g1 => ?_)
  · have h2 : i < boxes.length := by simpa using g1
    have gb : (boxes.map bxI)[(i : Int).toNat]? = some (bxI boxes[i]) := get_mapZ h2
    have hbs := hb _ (List.getElem_mem h2)
    have hs : cntLits l (boxes.take (i + 1)) = cntLits l (boxes.take i) + (boxes[i].lits l).length := by rw [List.take_add_one, List.getElem?_eq_getElem h2]; exact cntLits_succ l _ _
    have hll : (boxes[i].lits l).length ≤ 2 * l.length := lits_len l 0 boxes[i].low boxes[i].high
    have hli := fun O => literals91 O l boxes[i] hbs.1 hbs.2.1 hl16
    generalize boxes[i] = b at *
    generalize b.lits l = L at *
    obtain ⟨lo, hi2⟩ := b
    generalize cntLits l (boxes.take i) = C at *
    first | refine g_need Tk Tryd.func41 (by exact ⟨by omega, by show (i : Int) < (boxes.length : Int); omega⟩) ?_ | refine s_need Tk (by exact ⟨by omega, by show (i : Int) < (boxes.length : Int); omega⟩) ?_
    first | refine g_elem Tk Tryd.func41 (gb) ?_ | refine s_elem Tk (gb) ?_
    first | refine g_call Tk Tryd.func41 (hli _) rfl rfl rfl rfl rfl ?_ | refine s_callq Tk (fun _ => hli _) rfl rfl rfl ?_
    refine g_loop ?_
    refine ih (i + 1) _ _ ⟨h2, by rw [hs]; omega⟩ (by omega) ⟨rfl, ?_, rfl, rfl, congrArg ii (wsucc (n := 4096) (by omega) (by decide)), trivial⟩ rfl trivial rfl rfl
    rw [hs]
    refine congrArg ii ?_
    rw [w64 (by omega) (by omega)]
    omega
  · have h2 : boxes.length ≤ i := by simpa using g1
    rw [List.take_of_length_le h2]
    refine g_ret Tk (r := .tup [ii (cntLits l boxes), ii 0]) rfl rfl rfl trivial rfl rfl ?_
    rfl
end Go.AI


/- A builder begins: a typed variable, its nil row as a row of no bytes. -/
namespace Go.AI
open Go.Proofs
section
variable {P : Program} {T : TT} {E : Env} {K : Kn} {ρ : Nat → Nat → Loc} {S : List Heap} {w : World} {dst : Nat}
theorem new_tb (hw : HInv E K ρ S w) (hf : objAt S 0 dst = none) {cs : List Value} {ds : List D} (hr : RepDL K ρ (shape S) cs ds) (ty : TypeId) :
    ∃ l, Grow K ρ S w [(dst, .tb ty ds)] K (upd ρ dst l) (w.alloc (.cells cs.toArray ty)) ∧ RepD K (upd ρ dst l) (shape (addS S [(dst, .tb ty ds)])) (.pointer (some ⟨w.heap.size, 0, none⟩)) (.own 0 dst 0 0) := by
  have hst := stays_add (K := K) (ρ := ρ) hf (.tb ty ds) ⟨w.heap.size, 0, none⟩
  refine ⟨⟨w.heap.size, 0, none⟩, grow_alloc hw hf (.inl rfl) (fun _ => rfl) ⟨cs.toArray, heap_alloc_new w _, by simpa using hr.stays hst, fun o => hw.K_fresh (Nat.le_refl _)⟩, ?_⟩
  have hsh : shape (addS S [(dst, .tb ty ds)]) 0 dst = some .box := by
    cases S with
    | nil => simp [shape, addS, objAt, look_cons, Ob.sh]
    | cons H O => simp [shape, objAt_addS, look_cons, Ob.sh]
  have := RepD.box (K := K) (ρ := upd ρ dst ⟨w.heap.size, 0, none⟩) (off := 0) hsh
  rwa [upd_same] at this
end
section
variable {c : Cx} {s : St} {k : List Item} {ops : Array Oper} {rest : List Nat} {o : Oper}
/-- At a pause: a variable that keeps its type. -/
theorem g_tb (hT : TOk c.P c.T) (hfn : c.P.funcs[c.f]? = some c.fn) {i t nm : Nat} {ti : TI} {H : Heap} {O : List Heap} (ho : ops[i]? = some o) (hop : o.op = .alloc t) (hd : o.dst = some nm) (hg : o.guard = none) (hn : Nat.ble (nm + 1) s.n = true) (hi : look c.T t = some ti)
    (hS : s.S = H :: O) (hf : look H nm = none) (h : GM c (run c.T c.stop 1000 (.inRegion ops rest :: k) { σ := (nm, .own 0 nm 0 0) :: s.σ, S := ((nm, .tb t (ti.zero.map fun v => .i (.v v))) :: H) :: O, n := s.n })) :
    GM c (.pause ops i rest o s k) := by
  refine ⟨?_⟩
  have hk : RG c ops rest { σ := (nm, .own 0 nm 0 0) :: s.σ, S := ((nm, .tb t (ti.zero.map fun v => .i (.v v))) :: H) :: O, n := s.n } (Rch c k) := run_sound hT hfn 1000 (.inRegion ops rest :: k) _ h.h
  refine rg_op ho (by unfold wantedD; rw [hg]) ?_
  intro K ρ a w hinv next Qe hnext
  have hok := hT _ _ hi
  have hh := hinv.h
  rw [hS] at hh
  obtain ⟨inf, h1, h2, h3, z, h4, h5, -⟩ := hok.info
  have hf' : objAt (H :: O) 0 nm = none := by simpa [objAt] using hf
  obtain ⟨l, g, r⟩ := new_tb (dst := nm) hh hf' (ones_of hok.one) t
  have hz : z.cells = ti.zero.toArray := by rw [← h5]
  have hrun : (execOp a.eval o).run c.P w = .ok (.value (.pointer (some ⟨w.heap.size, 0, none⟩))) (w.alloc (.cells ti.zero.toArray t)) := by
    simp [execOp, hop, Instr.alloc, zeroValue, typeInfo, h1, h4, newVar, newRow, hz]
  simp only [Oper.wp, hrun, Oper.upon]
  obtain ⟨hI, hst⟩ := HInv.grow (S := H :: O) rfl hh (fun _ _ _ e => e) (fun n' h => by
    cases hl : look [(nm, Ob.tb t (ti.zero.map fun v => .i (.v v)))] n' with
    | none => exact absurd hl h
    | some ob => obtain ⟨rfl, rfl⟩ := look_one hl; exact hf) g
  refine hnext _ _ _ _ _ hst.le (fun d n x _ e => ⟨hst.shp _ _ _ (by rw [hS] at e; exact e), hst.loc _ _ _ (by rw [hS] at e; exact e)⟩) ?_ hk
  rw [hd]
  refine inv_set hinv (Nat.le_of_ble_eq_true hn) hI ?_ r
  rw [hS]; exact hst
theorem wk_niltb (b nm e z : Nat) {T : Nat} {x : D} {H : Heap} {O : List Heap} (hS : s.S = H :: O) (hb : look H b = some (.tb T [x, .i (.v (.slice none 0 0))])) (hf : look H nm = none) : Wk c s { σ := s.σ, S := ((b, .tb T [x, .osl 0 nm]) :: (nm, .arr e z 0 [] true) :: H) :: O, n := s.n } := by
  intro K ρ a w hi
  have hh := hi.h
  rw [hS] at hh
  let l0 : Loc := ⟨0, 0, none⟩
  have hown : ∀ ρ' sh', OwnAt K ρ' sh' w l0 (.arr e z 0 [] true) := fun ρ' sh' => ⟨by simp, rfl, Nat.le_refl _, by simp [l0], .inl ⟨rfl, rfl⟩⟩
  have hg : Grow K ρ (H :: O) w [(nm, .arr e z 0 [] true)] K (upd ρ nm l0) w := by
    refine ⟨K.le_refl, fun _ _ _ h => .inl h, Nat.le_refl _, fun _ _ => rfl, ⟨rfl, rfl, rfl⟩, fun d n' h => ?_, hh.holds, fun n' ob e' => ?_, fun n1 o1 n2 o2 e1 e2 b1 b2 _ => ?_⟩
    · refine upd_other _ _ _ (h.imp id fun h e' => ?_)
      subst e'
      simp [look_cons] at h
    · obtain ⟨rfl, rfl⟩ := look_one e'
      rw [upd_same]
      exact ⟨hown _ _, fun hb => absurd rfl hb⟩
    · obtain ⟨rfl, rfl⟩ := look_one e1
      obtain ⟨rfl, rfl⟩ := look_one e2
      rfl
  obtain ⟨hI, hst⟩ := HInv.grow (S := H :: O) rfl hh (fun _ _ _ e => e) (fun n' h => by
    cases hl : look [(nm, Ob.arr e z 0 [] true)] n' with
    | none => exact absurd hl h
    | some ob => obtain ⟨rfl, rfl⟩ := look_one hl; exact hf) hg
  have hbn : nm ≠ b := fun e' => by subst e'; rw [hf] at hb; cases hb
  have hI : HInv c.E K (upd ρ nm l0) (((nm, .arr e z 0 [] true) :: H) :: O) w := hI
  have hob : objAt (((nm, .arr e z 0 [] true) :: H) :: O) 0 b = some (.tb T [x, .i (.v (.slice none 0 0))]) := by
    simp only [objAt, List.getElem?_cons_zero, look_cons, if_neg hbn]; exact hb
  have hwb := hI.own _ _ _ hob
  have e0 : (fun d n => upd ρ nm l0 (0 + d) n) = upd ρ nm l0 := by funext d n; rw [Nat.zero_add]
  have e1 : (fun d n => shape (((nm, Ob.arr e z 0 [] true) :: H) :: O) (0 + d) n) = shape (((nm, Ob.arr e z 0 [] true) :: H) :: O) := by funext d n; rw [Nat.zero_add]
  obtain ⟨cur, hc, hrc, hKb⟩ := hwb
  rw [e0, List.drop_zero] at hrc
  have hnew : RepDL K (fun d n => upd ρ nm l0 (0 + d) n) (fun d n => shape (((nm, Ob.arr e z 0 [] true) :: H) :: O) (0 + d) n) cur.toList [x, .osl 0 nm] := by
    rw [e0, e1]
    generalize cur.toList = L at hrc
    cases hrc with
    | cons h1 h2 => cases h2 with
      | cons h3 h4 =>
        cases h4
        rw [inv_v h3]
        have := RepD.osl (K := K) (ρ := upd ρ nm l0) (sh := shape (((nm, Ob.arr e z 0 [] true) :: H) :: O)) (dep := 0) (nm := nm) (es := z) (len := 0) (by simp [shape, objAt, look_cons, Ob.sh])
        rw [upd_same] at this
        exact .cons h1 (.cons this .nil)
  have hI2 := hI.put (ob' := .tb T [x, .osl 0 nm]) hob rfl trivial trivial (w' := w) rfl (fun _ _ => rfl) ⟨rfl, rfl, rfl⟩ (fun o' x' hx' => by rw [hKb] at hx'; cases hx') ⟨cur, hc, hnew, hKb⟩
  have hsh : shape (setAt (((nm, Ob.arr e z 0 [] true) :: H) :: O) 0 b (.tb T [x, .osl 0 nm])) = shape (((nm, Ob.arr e z 0 [] true) :: H) :: O) := shape_setAt hob rfl
  refine ⟨K, upd ρ nm l0, hI2, hi.defers, hi.size, fun t' d e' => ?_⟩
  have := hi.slots _ _ e'
  rw [hS] at this
  show RepD K _ (shape (((b, .tb T [x, .osl 0 nm]) :: (nm, .arr e z 0 [] true) :: H) :: O)) _ _
  have hsh : shape (((b, .tb T [x, .osl 0 nm]) :: (nm, .arr e z 0 [] true) :: H) :: O) = shape (((nm, Ob.arr e z 0 [] true) :: H) :: O) := hsh
  rw [hsh]
  exact this.stays hst
end
end Go.AI


/- strings.Builder of this program: copyCheck, WriteString, WriteByte, String, told whole. -/
namespace Go.Proofs
open Go.Shelf Go.RowKit
theorem sizeB : (Tryd.prog.info? 168).map (·.size) = some 2 := by kernel_rfl
theorem liesB : liesAt Tryd.prog Tryd.prog.depth 168 (2 / Tryd.prog.cellsOf 168) 0 168 1 = true := by kernel_rfl
set_option maxHeartbeats 1000000 in
set_option maxRecDepth 100000 in
theorem chk_used (b : Nat) (w : World) (h0 : w.cell? ⟨b, 0, none⟩ = some (.pointer (some ⟨b, 0, none⟩))) :
    Calls Tryd.prog 148 #[.pointer (some ⟨b, 0, none⟩)] w fun e w' => e = .returned (.tuple #[]) ∧ w' = w := by
  obtain ⟨j, hj, _⟩ := Option.map_eq_some_iff.1 sizeB
  have u72 := run_underlying Tryd.underlying168
  have u70 := run_underlying Tryd.underlying166
  have u4 := run_underlying Tryd.underlying4
  have u164 := run_underlying Tryd.underlying253
  go_enter Tryd.func148, Tryd.ntmps148
  go_wp2
  rw [Lib.run_neq_ptr_same w _ Tryd.underlying166 hj]
  go_wp2
  go_end0
  exact ⟨rfl, rfl⟩
set_option maxHeartbeats 1000000 in
set_option maxRecDepth 100000 in
theorem chk_fresh (b : Nat) (w : World) (h0 : w.cell? ⟨b, 0, none⟩ = some (.pointer none)) (hsh : w.shape? b = some (168, 2)) (hfz : w.frozen? ⟨b, 0, none⟩ = false) :
    Calls Tryd.prog 148 #[.pointer (some ⟨b, 0, none⟩)] w fun e w' => e = .returned (.tuple #[]) ∧ w' = w.setCell ⟨b, 0, none⟩ (.pointer (some ⟨b, 0, none⟩)) := by
  obtain ⟨j, hj, hjs⟩ := Option.map_eq_some_iff.1 sizeB
  have u72 := run_underlying Tryd.underlying168
  have u70 := run_underlying Tryd.underlying166
  have u4 := run_underlying Tryd.underlying4
  have u164 := run_underlying Tryd.underlying253
  go_enter Tryd.func148, Tryd.ntmps148
  go_wp2
  rw [Lib.run_to_unsafe w ⟨b, 0, none⟩ Tryd.underlying166 Tryd.underlying253 hj (by rw [hjs]; decide) hsh (Nat.zero_lt_succ 1)]
  simp only [Result.andThen]
  rw [Oper.upon_value]
  go_wp2
  rw [run_callFunc_extern Tryd.func174 (by kernel_rfl) (by kernel_rfl) (by kernel_rfl) (e := Extern.AbiNoEscape.same) (by kernel_rfl)]
  rw [Lib.run_noEscape]
  simp only [Result.andThen]
  rw [Oper.upon_value]
  go_wp2
  rw [Lib.run_from_unsafe w ⟨b, 0, none⟩ Tryd.underlying253 Tryd.underlying166 hj hsh liesB]
  simp only [Result.andThen]
  rw [Oper.upon_value]
  go_wp2
  go_end0
  exact ⟨rfl, rfl⟩
/-- copyCheck. -/
theorem bld_check148 (b : Nat) (p v : Value) (bs : List Value) (w : World) (hp : p = .pointer none ∨ p = .pointer (some ⟨b, 0, none⟩)) (hbk : w.heap[b]? = some (.cells #[p, v] 168 (0, 0)))
    (hrow : w.ownsRow 0 5 1 v bs.length bs) (hne : v.ownBlock ≠ some b) :
    Calls Tryd.prog 148 #[.pointer (some ⟨b, 0, none⟩)] w fun e w' => e = .returned (.tuple #[]) ∧ (w'.heap[b]? = some (.cells #[.pointer (some ⟨b, 0, none⟩), v] 168 (0, 0)) ∧ w'.ownsRow 0 5 1 v bs.length bs) ∧
      ((w' = w ∧ p = .pointer (some ⟨b, 0, none⟩)) ∨ (w' = w.setCell ⟨b, 0, none⟩ (.pointer (some ⟨b, 0, none⟩)) ∧ p = .pointer none)) := by
  have hc : w.cell? ⟨b, 0, none⟩ = some p := by rw [Lib.cell_of_heap hbk]; rfl
  rcases hp with rfl | rfl
  · have hsh : w.shape? b = some (168, 2) := by simp [World.shape?, hbk]
    refine (chk_fresh b w hc hsh (Lib.frozen_of_heap hbk 0)).mono ?_
    rintro e w' ⟨rfl, rfl⟩
    exact ⟨rfl, ⟨heap_set0 hbk, ownsRow_at hrow fun k hk => Go.Deep.blk_setCell_other w _ _ k fun e => hne (by rw [hk, e])⟩, .inr ⟨rfl, rfl⟩⟩
  · refine (chk_used b w hc).mono ?_
    rintro e w' ⟨rfl, rfl⟩
    exact ⟨rfl, ⟨hbk, hrow⟩, .inl ⟨rfl, rfl⟩⟩
set_option maxHeartbeats 2000000 in
set_option maxRecDepth 100000 in
/-- WriteString. -/
theorem bld_str90 (b : Nat) (p v0 : Value) (bs : List Value) (s : ByteArray) (w : World) (hp : p = .pointer none ∨ p = .pointer (some ⟨b, 0, none⟩)) (hbk0 : w.heap[b]? = some (.cells #[p, v0] 168 (0, 0)))
    (hrow : w.ownsRow 0 5 1 v0 bs.length bs) (hne : v0.ownBlock ≠ some b) (hlen : bs.length + s.size ≤ 140737488355328) :
    Calls Tryd.prog 90 #[.pointer (some ⟨b, 0, none⟩), .string s] w fun e w' => e = .returned (.tuple #[.int .i64 s.size, .nilIface]) ∧ Wrote 168 5 b p v0 bs (Lib.strCells s) w w' := by
  obtain ⟨i0, hi, hz0, hz1, hz2⟩ := info_parts Tryd.Builder_Extra_169.infoByte
  have u72 := run_underlying Tryd.underlying168
  have u70 := run_underlying Tryd.underlying166
  have u37 := run_underlying Tryd.underlying38
  have u9 := run_underlying Tryd.underlying9
  have u4 := run_underlying Tryd.underlying4
  have u5 := run_underlying Tryd.underlying5
  have u3 := run_underlying Tryd.underlying3
  have e240 : ∀ args w, (callFunc 148 args).run Tryd.prog w = .ok (.enter 148 args) w := Tryd.call148
  go_enter Tryd.func90, Tryd.ntmps90
  go_wp2_with (go_at_fn 148; refine (bld_check148 b p v0 bs _ hp hbk0 hrow hne).mono ?_)
  rintro e w1 ⟨rfl, ⟨hbk, hown⟩, hb1⟩
  have c0 : w1.cell? ⟨b, 0, none⟩ = some (.pointer (some ⟨b, 0, none⟩)) := by rw [Lib.cell_of_heap hbk]; rfl
  have c1 : w1.cell? ⟨b, 1, none⟩ = some v0 := by rw [Lib.cell_of_heap hbk]; rfl
  have hlt : b < w1.heap.size := by
    rcases Nat.lt_or_ge b w1.heap.size with h' | h'
    · exact h'
    · simp [Array.getElem?_eq_none h'] at hbk
  go_wp2_with (at_builtin; refine wpList_app_str _ rfl _ _ 38 9 rfl 5 i0 Tryd.underlying38 Tryd.underlying9 hi hz0 hz1 hz2 _ _ _ rfl hown s rfl ?c3 ?c4 ?_)
  case c3 => unfold maxLen; omega
  case c4 => omega
  intro v' w2 hown' hgrow hat
  have hb2 : w2.heap[b]? = some (.cells #[.pointer (some ⟨b, 0, none⟩), v0] 168 (0, 0)) := by
    rw [hgrow.block b hlt (fun e => hne e.symm)]
    exact hbk
  have d0 : w2.cell? ⟨b, 0, none⟩ = some (.pointer (some ⟨b, 0, none⟩)) := by rw [Lib.cell_of_heap hb2]; rfl
  have d1 : w2.cell? ⟨b, 1, none⟩ = some v0 := by rw [Lib.cell_of_heap hb2]; rfl
  have f1 : w2.frozen? ⟨b, 1, none⟩ = false := Lib.frozen_of_heap hb2 1
  have hfin : Wrote 168 5 b p v0 bs (Lib.strCells s) w (w2.setCell ⟨b, 1, none⟩ v') := ⟨w1, w1, w2, v', hb1, .inl rfl, by simpa [Lib.strCells_length] using hown', hgrow, hat, rfl⟩
  obtain ⟨ao, n', cap, rfl⟩ : ∃ ao n' cap, v' = .slice ao n' cap := by
    rcases hown'.2 with ⟨hv, _⟩ | ⟨g, cap, cur, hv, _⟩
    · exact ⟨_, _, _, hv⟩
    · exact ⟨_, _, _, hv⟩
  go_wp2
  go_ret2
  exact ⟨rfl, hfin⟩
end Go.Proofs
namespace Go.AI
open Go.Proofs
theorem wspec90 (s : ByteArray) : WSpec Tryd.prog 90 168 5 (.tuple #[.int .i64 s.size, .nilIface]) (.string s) (Lib.strCells s) :=
  fun b p v0 bs w hp hbk hrow hne hlen => bld_str90 b p v0 bs s w hp hbk hrow hne (by rw [Lib.strCells_length] at hlen; exact hlen)
theorem sspec93 : SSpec Tryd.prog 93 168 5 := fun b p v l w hbk hown h0 => bld_string Tryd.lays169 Tryd.Builder_Extra_169 b p v l w hbk hown h0
end Go.AI
