/- The layer of abstract runs, part 42. -/
import Derived.Test.YtonnakcgopcfnaaDoorPlumZO
set_option linter.unusedSimpArgs false
set_option linter.unusedVariables false
set_option linter.all false

/- GuardChecks. -/
namespace Go.AI
open Go.Proofs
set_option maxRecDepth 20000
theorem tabL_nil {x : Ex} : ∀ {dom : List (List Int)} {acc : List Bool}, (tabL x dom acc).2 ≠ 0 → (tabL x dom acc).1 = []
  | [], acc, h => absurd rfl h
  | v :: r, acc, h => by
    simp only [tabL] at h ⊢
    split at h
    · rename_i h1
      rw [if_pos h1]
    · rename_i h1
      rw [if_neg h1]
      exact tabL_nil h
theorem tableG_nil {l : List Vr} {x : Ex} (h : (tableG l x).2 ≠ 0) : (tableG l x).1 = [] := by
  unfold tableG tableR at *
  split at h
  · rename_i h1; rw [if_pos h1]
  · rename_i h1
    rw [if_neg h1]
    split at h
    · rename_i h2; rw [if_pos h2]
    · rename_i h2
      rw [if_neg h2]
      split at h
      · rename_i h3; rw [if_pos h3]
      · rename_i h3; rw [if_neg h3]; exact tabL_nil h
set_option maxHeartbeats 4000000 in
theorem guardChecks6 {g : Nat} (hg : IsTab g) {ty : TypeId} {fr : Nat × Nat} (O : List Heap) (l : List Vr) (x y : Ex) (hl : l.length ≤ max63) (hx : exOk x) (hy : exOk y) : ASpecT g (ptab ty fr) Tryd.prog 6 [.agg (rawC l x y)] O (bb true) [] O := by
  have hkn := fun O => known15 hg (ty := ty) (fr := fr) O
  have hsx := fun O => small58A O x hx
  have hsy := fun O => small58A O y hy
  have hgok := @allG_ok l
  have ha := fun hn O => allG30 O l hl hn
  have htb := fun hn O => table31 O l x hl hn hx
  have hck := fun O => check67A O x l.length hx
  have htx := fun hd O => table23 O l x hd hx
  have hsi := fun hn O => simplify24 O l x y hl hn hx hy
  have hix := fun hn O => implies34 O l x y hl hn hx hy
  have heq := fun hn O => equivalent35 O l x y hl hn hx hy
  have hfine := fun hd h => @tableR_over l hd x h
  have hright := @tableR_fine l.length (allV l) x
  have her := fun hn hd hall hxt O => errs33 O l x y hl hn hx hy hd hall hxt
  have hdef : tableR l.length (allV l) x = if (checkX x l.length).2 ≠ 0 then ([], (checkX x l.length).2) else if (checkX x l.length).1 ≠ 2 then ([], 16) else tabL x (allV l) [] := rfl
  unfold simplR at hsi
  unfold cmpR at hix heq
  unfold tableG at htb
  generalize smallX x = bx at *
  generalize smallX y = by' at *
  obtain ⟨xo, xv, xi, xa⟩ := x
  obtain ⟨yo, yv, yi, ya⟩ := y
  refine aspecT_stop [28] Tk Tryd.func6 rfl Tryd.call6 Tryd.ntmps6 (Nat.le_of_ble_eq_true rfl) fun E hE => ?_
  refine g_run Tk Tryd.func6 ?_
  refine g_callT Tk Tryd.func6 hE (hkn _) rfl rfl rfl rfl rfl rfl ?_
  repeat (first | refine g_cnd Tk Tryd.func6 rfl (fun _ => ?_) (fun h => absurd h (by decide)) | refine g_know Tk Tryd.func6 rfl (fun _ => ?_) (fun h => absurd h (by decide)) | refine s_know Tk (fun _ => ?_) (fun h => absurd h (by decide)) | refine g_cnd Tk Tryd.func6 rfl (fun h => absurd h (by decide)) (fun _ => ?_) | refine g_know Tk Tryd.func6 rfl (fun h => absurd h (by decide)) (fun _ => ?_) | refine s_know Tk (fun h => absurd h (by decide)) (fun _ => ?_) | refine g_cnd Tk Tryd.func6 rfl (fun _ => ?_) (fun h => absurd (show true = false from h) (by decide)) | refine g_know Tk Tryd.func6 rfl (fun _ => ?_) (fun h => absurd (show true = false from h) (by decide)) | refine s_know Tk (fun _ => ?_) (fun h => absurd (show true = false from h) (by decide)) | refine g_cnd Tk Tryd.func6 rfl (fun h => absurd (show false = true from h) (by decide)) (fun _ => ?_) | refine g_know Tk Tryd.func6 rfl (fun h => absurd (show false = true from h) (by decide)) (fun _ => ?_) | refine s_know Tk (fun h => absurd (show false = true from h) (by decide)) (fun _ => ?_))
  first | refine g_cnd Tk Tryd.func6 rfl (fun g1 => ?_) (fun g1 => ?_) | refine g_know Tk Tryd.func6 rfl (fun g1 => ?_) (fun g1 => ?_) | refine s_know Tk (fun g1 => ?_) (fun g1 => ?_)
  · repeat (first | refine g_cnd Tk Tryd.func6 rfl (fun _ => ?_) (fun h => absurd h (by decide)) | refine g_know Tk Tryd.func6 rfl (fun _ => ?_) (fun h => absurd h (by decide)) | refine s_know Tk (fun _ => ?_) (fun h => absurd h (by decide)) | refine g_cnd Tk Tryd.func6 rfl (fun h => absurd h (by decide)) (fun _ => ?_) | refine g_know Tk Tryd.func6 rfl (fun h => absurd h (by decide)) (fun _ => ?_) | refine s_know Tk (fun h => absurd h (by decide)) (fun _ => ?_) | refine g_cnd Tk Tryd.func6 rfl (fun _ => ?_) (fun h => absurd (show true = false from h) (by decide)) | refine g_know Tk Tryd.func6 rfl (fun _ => ?_) (fun h => absurd (show true = false from h) (by decide)) | refine s_know Tk (fun _ => ?_) (fun h => absurd (show true = false from h) (by decide)) | refine g_cnd Tk Tryd.func6 rfl (fun h => absurd (show false = true from h) (by decide)) (fun _ => ?_) | refine g_know Tk Tryd.func6 rfl (fun h => absurd (show false = true from h) (by decide)) (fun _ => ?_) | refine s_know Tk (fun h => absurd (show false = true from h) (by decide)) (fun _ => ?_))
    refine g_callT Tk Tryd.func6 hE (hkn _) rfl rfl rfl rfl rfl rfl ?_
    refine g_ret Tk (r := bb true) rfl rfl rfl trivial rfl rfl ?_
    rfl
  have hl4 : l.length ≤ 4 := by have := of_decide_eq_false g1; omega
  clear g1
  first | refine g_call Tk Tryd.func6 (hsx _) rfl rfl rfl rfl rfl ?_ | refine s_callq Tk (fun _ => hsx _) rfl rfl rfl ?_
  cases bx with
  | false =>
    repeat (first | refine g_cnd Tk Tryd.func6 rfl (fun _ => ?_) (fun h => absurd h (by decide)) | refine g_know Tk Tryd.func6 rfl (fun _ => ?_) (fun h => absurd h (by decide)) | refine s_know Tk (fun _ => ?_) (fun h => absurd h (by decide)) | refine g_cnd Tk Tryd.func6 rfl (fun h => absurd h (by decide)) (fun _ => ?_) | refine g_know Tk Tryd.func6 rfl (fun h => absurd h (by decide)) (fun _ => ?_) | refine s_know Tk (fun h => absurd h (by decide)) (fun _ => ?_) | refine g_cnd Tk Tryd.func6 rfl (fun _ => ?_) (fun h => absurd (show true = false from h) (by decide)) | refine g_know Tk Tryd.func6 rfl (fun _ => ?_) (fun h => absurd (show true = false from h) (by decide)) | refine s_know Tk (fun _ => ?_) (fun h => absurd (show true = false from h) (by decide)) | refine g_cnd Tk Tryd.func6 rfl (fun h => absurd (show false = true from h) (by decide)) (fun _ => ?_) | refine g_know Tk Tryd.func6 rfl (fun h => absurd (show false = true from h) (by decide)) (fun _ => ?_) | refine s_know Tk (fun h => absurd (show false = true from h) (by decide)) (fun _ => ?_))
    refine g_callT Tk Tryd.func6 hE (hkn _) rfl rfl rfl rfl rfl rfl ?_
    refine g_ret Tk (r := bb true) rfl rfl rfl trivial rfl rfl ?_
    rfl
  | true =>
  repeat (first | refine g_cnd Tk Tryd.func6 rfl (fun _ => ?_) (fun h => absurd h (by decide)) | refine g_know Tk Tryd.func6 rfl (fun _ => ?_) (fun h => absurd h (by decide)) | refine s_know Tk (fun _ => ?_) (fun h => absurd h (by decide)) | refine g_cnd Tk Tryd.func6 rfl (fun h => absurd h (by decide)) (fun _ => ?_) | refine g_know Tk Tryd.func6 rfl (fun h => absurd h (by decide)) (fun _ => ?_) | refine s_know Tk (fun h => absurd h (by decide)) (fun _ => ?_) | refine g_cnd Tk Tryd.func6 rfl (fun _ => ?_) (fun h => absurd (show true = false from h) (by decide)) | refine g_know Tk Tryd.func6 rfl (fun _ => ?_) (fun h => absurd (show true = false from h) (by decide)) | refine s_know Tk (fun _ => ?_) (fun h => absurd (show true = false from h) (by decide)) | refine g_cnd Tk Tryd.func6 rfl (fun h => absurd (show false = true from h) (by decide)) (fun _ => ?_) | refine g_know Tk Tryd.func6 rfl (fun h => absurd (show false = true from h) (by decide)) (fun _ => ?_) | refine s_know Tk (fun h => absurd (show false = true from h) (by decide)) (fun _ => ?_))
  first | refine g_call Tk Tryd.func6 (hsy _) rfl rfl rfl rfl rfl ?_ | refine s_callq Tk (fun _ => hsy _) rfl rfl rfl ?_
  cases by' with
  | false =>
    repeat (first | refine g_cnd Tk Tryd.func6 rfl (fun _ => ?_) (fun h => absurd h (by decide)) | refine g_know Tk Tryd.func6 rfl (fun _ => ?_) (fun h => absurd h (by decide)) | refine s_know Tk (fun _ => ?_) (fun h => absurd h (by decide)) | refine g_cnd Tk Tryd.func6 rfl (fun h => absurd h (by decide)) (fun _ => ?_) | refine g_know Tk Tryd.func6 rfl (fun h => absurd h (by decide)) (fun _ => ?_) | refine s_know Tk (fun h => absurd h (by decide)) (fun _ => ?_) | refine g_cnd Tk Tryd.func6 rfl (fun _ => ?_) (fun h => absurd (show true = false from h) (by decide)) | refine g_know Tk Tryd.func6 rfl (fun _ => ?_) (fun h => absurd (show true = false from h) (by decide)) | refine s_know Tk (fun _ => ?_) (fun h => absurd (show true = false from h) (by decide)) | refine g_cnd Tk Tryd.func6 rfl (fun h => absurd (show false = true from h) (by decide)) (fun _ => ?_) | refine g_know Tk Tryd.func6 rfl (fun h => absurd (show false = true from h) (by decide)) (fun _ => ?_) | refine s_know Tk (fun h => absurd (show false = true from h) (by decide)) (fun _ => ?_))
    refine g_callT Tk Tryd.func6 hE (hkn _) rfl rfl rfl rfl rfl rfl ?_
    refine g_ret Tk (r := bb true) rfl rfl rfl trivial rfl rfl ?_
    rfl
  | true =>
  repeat (first | refine g_cnd Tk Tryd.func6 rfl (fun _ => ?_) (fun h => absurd h (by decide)) | refine g_know Tk Tryd.func6 rfl (fun _ => ?_) (fun h => absurd h (by decide)) | refine s_know Tk (fun _ => ?_) (fun h => absurd h (by decide)) | refine g_cnd Tk Tryd.func6 rfl (fun h => absurd h (by decide)) (fun _ => ?_) | refine g_know Tk Tryd.func6 rfl (fun h => absurd h (by decide)) (fun _ => ?_) | refine s_know Tk (fun h => absurd h (by decide)) (fun _ => ?_) | refine g_cnd Tk Tryd.func6 rfl (fun _ => ?_) (fun h => absurd (show true = false from h) (by decide)) | refine g_know Tk Tryd.func6 rfl (fun _ => ?_) (fun h => absurd (show true = false from h) (by decide)) | refine s_know Tk (fun _ => ?_) (fun h => absurd (show true = false from h) (by decide)) | refine g_cnd Tk Tryd.func6 rfl (fun h => absurd (show false = true from h) (by decide)) (fun _ => ?_) | refine g_know Tk Tryd.func6 rfl (fun h => absurd (show false = true from h) (by decide)) (fun _ => ?_) | refine s_know Tk (fun h => absurd (show false = true from h) (by decide)) (fun _ => ?_))
  refine g_loop ?_
  refine rch_loop2 (fun z : Nat × Int => [(1, .own 0 1 0 0), (3, ii z.2), (4, ii z.1)]) (fun _ => [(1, .box (rawC l (Ex.mk xo xv xi xa) (Ex.mk yo yv yi ya)))]) (fun _ => O) 220
    (fun z => z.1 ≤ l.length ∧ ∀ v ∈ l.take z.1, v.name.size ≤ 40) (fun z => l.length - z.1) (0, 1) ⟨Nat.zero_le _, by simp⟩ ⟨rfl, rfl, rfl, trivial⟩ rfl ⟨rfl, trivial⟩ rfl rfl ?_
  rintro ⟨i, s⟩ ⟨hi, hnm⟩ ih
  simp only at hi hnm
  refine g_run Tk Tryd.func6 ?_
  first | refine g_cnd Tk Tryd.func6 rfl (fun g1 => ?_) (fun g1 => ?_) | refine g_know Tk Tryd.func6 rfl (fun g1 => ?_) (fun g1 => ?_) | refine s_know Tk (fun g1 => ?_) (fun g1 => ?_)
  · have h1 : i < l.length := by simpa using g1
    clear g1
    have gv : (l.map vrI)[(i : Int).toNat]? = some (vrI l[i]) := get_mapZ h1
    have hst : (l[i].name.size ≤ 40) → ∀ v ∈ l.take (i + 1), v.name.size ≤ 40 := fun h v hv => by
      rw [List.take_add_one, List.getElem?_eq_getElem h1] at hv
      rcases List.mem_append.1 hv with hv | hv
      · exact hnm v hv
      · have hv : v = l[i] := by simpa using hv
        rw [hv]; exact h
    have hi1 : ii (IntKind.i64.wrap ((i : Int) + 1)) = ii ((i + 1 : Nat) : Int) := congrArg ii (wsucc (n := 16) (by omega) (by decide))
    generalize l[i] = v at *
    obtain ⟨vn, vl, vh, vj⟩ := v
    first | refine g_need Tk Tryd.func6 (by exact ⟨by omega, by show (i : Int) < (l.length : Int); omega⟩) ?_ | refine s_need Tk (by exact ⟨by omega, by show (i : Int) < (l.length : Int); omega⟩) ?_
    first | refine g_elem Tk Tryd.func6 (gv) ?_ | refine s_elem Tk (gv) ?_
    first | refine g_cnd Tk Tryd.func6 rfl (fun g2 => ?_) (fun g2 => ?_) | refine g_know Tk Tryd.func6 rfl (fun g2 => ?_) (fun g2 => ?_) | refine s_know Tk (fun g2 => ?_) (fun g2 => ?_)
    · refine g_ret Tk (r := bb true) rfl rfl rfl trivial rfl rfl ?_
      rfl
    have hsz40 : vn.size ≤ 40 := by
      have h : ¬ ((vn.size : Int) > 40) := of_decide_eq_false g2
      omega
    have hst := hst hsz40
    first | refine g_cnd Tk Tryd.func6 rfl (fun g3 => ?_) (fun g3 => ?_) | refine g_know Tk Tryd.func6 rfl (fun g3 => ?_) (fun g3 => ?_) | refine s_know Tk (fun g3 => ?_) (fun g3 => ?_)
    · first | refine g_cnd Tk Tryd.func6 rfl (fun g4 => ?_) (fun g4 => ?_) | refine g_know Tk Tryd.func6 rfl (fun g4 => ?_) (fun g4 => ?_) | refine s_know Tk (fun g4 => ?_) (fun g4 => ?_)
      · first | refine g_cnd Tk Tryd.func6 rfl (fun g5 => ?_) (fun g5 => ?_) | refine g_know Tk Tryd.func6 rfl (fun g5 => ?_) (fun g5 => ?_) | refine s_know Tk (fun g5 => ?_) (fun g5 => ?_)
        · refine g_loop ?_
          exact ih (i + 1, _) _ _ ⟨h1, hst⟩ (by simp only; omega) ⟨rfl, rfl, hi1, trivial⟩ rfl ⟨rfl, trivial⟩ rfl rfl
        · refine g_loop ?_
          exact ih (i + 1, s) _ _ ⟨h1, hst⟩ (by simp only; omega) ⟨rfl, rfl, hi1, trivial⟩ rfl ⟨rfl, trivial⟩ rfl rfl
      · repeat (first | refine g_cnd Tk Tryd.func6 rfl (fun _ => ?_) (fun h => absurd h (by decide)) | refine g_know Tk Tryd.func6 rfl (fun _ => ?_) (fun h => absurd h (by decide)) | refine s_know Tk (fun _ => ?_) (fun h => absurd h (by decide)) | refine g_cnd Tk Tryd.func6 rfl (fun h => absurd h (by decide)) (fun _ => ?_) | refine g_know Tk Tryd.func6 rfl (fun h => absurd h (by decide)) (fun _ => ?_) | refine s_know Tk (fun h => absurd h (by decide)) (fun _ => ?_) | refine g_cnd Tk Tryd.func6 rfl (fun _ => ?_) (fun h => absurd (show true = false from h) (by decide)) | refine g_know Tk Tryd.func6 rfl (fun _ => ?_) (fun h => absurd (show true = false from h) (by decide)) | refine s_know Tk (fun _ => ?_) (fun h => absurd (show true = false from h) (by decide)) | refine g_cnd Tk Tryd.func6 rfl (fun h => absurd (show false = true from h) (by decide)) (fun _ => ?_) | refine g_know Tk Tryd.func6 rfl (fun h => absurd (show false = true from h) (by decide)) (fun _ => ?_) | refine s_know Tk (fun h => absurd (show false = true from h) (by decide)) (fun _ => ?_))
        refine g_loop ?_
        exact ih (i + 1, s) _ _ ⟨h1, hst⟩ (by simp only; omega) ⟨rfl, rfl, hi1, trivial⟩ rfl ⟨rfl, trivial⟩ rfl rfl
    · repeat (first | refine g_cnd Tk Tryd.func6 rfl (fun _ => ?_) (fun h => absurd h (by decide)) | refine g_know Tk Tryd.func6 rfl (fun _ => ?_) (fun h => absurd h (by decide)) | refine s_know Tk (fun _ => ?_) (fun h => absurd h (by decide)) | refine g_cnd Tk Tryd.func6 rfl (fun h => absurd h (by decide)) (fun _ => ?_) | refine g_know Tk Tryd.func6 rfl (fun h => absurd h (by decide)) (fun _ => ?_) | refine s_know Tk (fun h => absurd h (by decide)) (fun _ => ?_) | refine g_cnd Tk Tryd.func6 rfl (fun _ => ?_) (fun h => absurd (show true = false from h) (by decide)) | refine g_know Tk Tryd.func6 rfl (fun _ => ?_) (fun h => absurd (show true = false from h) (by decide)) | refine s_know Tk (fun _ => ?_) (fun h => absurd (show true = false from h) (by decide)) | refine g_cnd Tk Tryd.func6 rfl (fun h => absurd (show false = true from h) (by decide)) (fun _ => ?_) | refine g_know Tk Tryd.func6 rfl (fun h => absurd (show false = true from h) (by decide)) (fun _ => ?_) | refine s_know Tk (fun h => absurd (show false = true from h) (by decide)) (fun _ => ?_))
      refine g_loop ?_
      exact ih (i + 1, s) _ _ ⟨h1, hst⟩ (by simp only; omega) ⟨rfl, rfl, hi1, trivial⟩ rfl ⟨rfl, trivial⟩ rfl rfl
  · have h1 : l.length ≤ i := by simpa using g1
    rw [List.take_of_length_le h1] at hnm
    have hn : ∀ v ∈ l, v.name.size ≤ max63 := fun v hv => Nat.le_trans (hnm v hv) (by decide)
    have ha := ha hn
    have htb := htb hn
    have hsi := hsi hn
    have hix := hix hn
    have heq := heq hn
    have her := her hn
    clear ih hnm g1
    have hTG : tableG l (Ex.mk xo xv xi xa) = if (allG l).2 ≠ 0 then ([], (allG l).2) else tableR l.length (allG l).1 (Ex.mk xo xv xi xa) := rfl
    rw [← hTG] at htb
    have fin : (tableG l (Ex.mk xo xv xi xa)).2 ≠ 0 → (∀ O, ASpec Tryd.prog 24 [vrs l, exA (Ex.mk xo xv xi xa), exA (Ex.mk yo yv yi ya)] O (.tup [exA zeroE, ii (tableG l (Ex.mk xo xv xi xa)).2]) [] O) ∧ (∀ O, ASpec Tryd.prog 34 [vrs l, exA (Ex.mk xo xv xi xa), exA (Ex.mk yo yv yi ya)] O (.tup [ints [], bb false, ii (tableG l (Ex.mk xo xv xi xa)).2]) [] O) ∧ ∀ O, ASpec Tryd.prog 35 [vrs l, exA (Ex.mk xo xv xi xa), exA (Ex.mk yo yv yi ya)] O (.tup [ints [], bb false, ii (tableG l (Ex.mk xo xv xi xa)).2]) [] O := fun h => by
      rw [hTG] at h ⊢
      by_cases he : (allG l).2 ≠ 0
      · simp only [if_pos he] at hsi hix heq ⊢
        exact ⟨hsi, hix, heq⟩
      · simp only [if_neg he] at hsi hix heq h ⊢
        simp only [if_pos h] at hsi hix heq
        exact ⟨hsi, hix, heq⟩
    clear hsi hix heq
    have hnil := @tableG_nil l (Ex.mk xo xv xi xa)
    apply join_p (P := (tableG l (Ex.mk xo xv xi xa)).2 ≠ 0) (s6 := { σ := [(1, .own 0 1 0 0), (7, ii (tableG l (Ex.mk xo xv xi xa)).2), (8, bools (tableG l (Ex.mk xo xv xi xa)).1), (9, ii (tableG l (Ex.mk xo xv xi xa)).2)], S := [(1, .box (rawC l (Ex.mk xo xv xi xa) (Ex.mk yo yv yi ya)))] :: O, n := 220 })
    · intro J
      by_cases he : (allG l).2 ≠ 0
      · have hT1 : (tableG l (Ex.mk xo xv xi xa)).1 = [] := by rw [hTG, if_pos he]
        have hT2 : (tableG l (Ex.mk xo xv xi xa)).2 = (allG l).2 := by rw [hTG, if_pos he]
        first | refine g_call Tk Tryd.func6 (ha _) rfl rfl rfl rfl rfl ?_ | refine s_callq Tk (fun _ => ha _) rfl rfl rfl ?_
        first | refine g_cnd Tk Tryd.func6 rfl (fun g2 => ?_) (fun g2 => ?_) | refine g_know Tk Tryd.func6 rfl (fun g2 => ?_) (fun g2 => ?_) | refine s_know Tk (fun g2 => ?_) (fun g2 => ?_)
        · exact absurd (beqT g2) he
        repeat (first | refine g_cnd Tk Tryd.func6 rfl (fun _ => ?_) (fun h => absurd h (by decide)) | refine g_know Tk Tryd.func6 rfl (fun _ => ?_) (fun h => absurd h (by decide)) | refine s_know Tk (fun _ => ?_) (fun h => absurd h (by decide)) | refine g_cnd Tk Tryd.func6 rfl (fun h => absurd h (by decide)) (fun _ => ?_) | refine g_know Tk Tryd.func6 rfl (fun h => absurd h (by decide)) (fun _ => ?_) | refine s_know Tk (fun h => absurd h (by decide)) (fun _ => ?_) | refine g_cnd Tk Tryd.func6 rfl (fun _ => ?_) (fun h => absurd (show true = false from h) (by decide)) | refine g_know Tk Tryd.func6 rfl (fun _ => ?_) (fun h => absurd (show true = false from h) (by decide)) | refine s_know Tk (fun _ => ?_) (fun h => absurd (show true = false from h) (by decide)) | refine g_cnd Tk Tryd.func6 rfl (fun h => absurd (show false = true from h) (by decide)) (fun _ => ?_) | refine g_know Tk Tryd.func6 rfl (fun h => absurd (show false = true from h) (by decide)) (fun _ => ?_) | refine s_know Tk (fun h => absurd (show false = true from h) (by decide)) (fun _ => ?_))
        first | refine g_call Tk Tryd.func6 (htb _) rfl rfl rfl rfl rfl ?_ | refine s_callq Tk (fun _ => htb _) rfl rfl rfl ?_
        first | refine g_cnd Tk Tryd.func6 rfl (fun g3 => ?_) (fun g3 => ?_) | refine g_know Tk Tryd.func6 rfl (fun g3 => ?_) (fun g3 => ?_) | refine s_know Tk (fun g3 => ?_) (fun g3 => ?_)
        · exact absurd (beqT g3) he
        refine g_stop ?_
        refine rch_meet (J (by rw [hT2]; exact he)) ⟨rfl, congrArg ii hT2.symm, rfl, rfl, trivial⟩ rfl ⟨rfl, trivial⟩ rfl rfl
      · have he : (allG l).2 = 0 := by simpa using he
        obtain ⟨hd, hA2⟩ := hgok he
        have hT3 : tableG l (Ex.mk xo xv xi xa) = tableR l.length (allV l) (Ex.mk xo xv xi xa) := by rw [hTG, hA2, if_neg (by simp)]
        have ha : ∀ O, ASpec Tryd.prog 30 [vrs l] O (.tup [intss (allV l), ii 0]) [] O := fun O => by have := ha O; rwa [hA2] at this
        have htx := htx hd
        have hfine := hfine hd
        have her := fun h => her hd hA2 h
        have hdl := hd.all
        have hln := @tblL_len (Ex.mk xo xv xi xa) (allV l) []
        generalize tblL (Ex.mk xo xv xi xa) (allV l) [] = B at *
        obtain ⟨bt, bf⟩ := B
        generalize checkX (Ex.mk xo xv xi xa) l.length = K at *
        obtain ⟨kk, ke⟩ := K
        simp only at hck htx hfine hright hdef hln
        first | refine g_call Tk Tryd.func6 (ha _) rfl rfl rfl rfl rfl ?_ | refine s_callq Tk (fun _ => ha _) rfl rfl rfl ?_
        repeat (first | refine g_cnd Tk Tryd.func6 rfl (fun _ => ?_) (fun h => absurd h (by decide)) | refine g_know Tk Tryd.func6 rfl (fun _ => ?_) (fun h => absurd h (by decide)) | refine s_know Tk (fun _ => ?_) (fun h => absurd h (by decide)) | refine g_cnd Tk Tryd.func6 rfl (fun h => absurd h (by decide)) (fun _ => ?_) | refine g_know Tk Tryd.func6 rfl (fun h => absurd h (by decide)) (fun _ => ?_) | refine s_know Tk (fun h => absurd h (by decide)) (fun _ => ?_) | refine g_cnd Tk Tryd.func6 rfl (fun _ => ?_) (fun h => absurd (show true = false from h) (by decide)) | refine g_know Tk Tryd.func6 rfl (fun _ => ?_) (fun h => absurd (show true = false from h) (by decide)) | refine s_know Tk (fun _ => ?_) (fun h => absurd (show true = false from h) (by decide)) | refine g_cnd Tk Tryd.func6 rfl (fun h => absurd (show false = true from h) (by decide)) (fun _ => ?_) | refine g_know Tk Tryd.func6 rfl (fun h => absurd (show false = true from h) (by decide)) (fun _ => ?_) | refine s_know Tk (fun h => absurd (show false = true from h) (by decide)) (fun _ => ?_))
        first | refine g_cnd Tk Tryd.func6 rfl (fun g2 => ?_) (fun g2 => ?_) | refine g_know Tk Tryd.func6 rfl (fun g2 => ?_) (fun g2 => ?_) | refine s_know Tk (fun g2 => ?_) (fun g2 => ?_)
        · refine g_ret Tk (r := bb true) rfl rfl rfl trivial rfl rfl ?_
          rfl
        first | refine g_call Tk Tryd.func6 (htb _) rfl rfl rfl rfl rfl ?_ | refine s_callq Tk (fun _ => htb _) rfl rfl rfl ?_
        repeat (first | refine g_cnd Tk Tryd.func6 rfl (fun _ => ?_) (fun h => absurd h (by decide)) | refine g_know Tk Tryd.func6 rfl (fun _ => ?_) (fun h => absurd h (by decide)) | refine s_know Tk (fun _ => ?_) (fun h => absurd h (by decide)) | refine g_cnd Tk Tryd.func6 rfl (fun h => absurd h (by decide)) (fun _ => ?_) | refine g_know Tk Tryd.func6 rfl (fun h => absurd h (by decide)) (fun _ => ?_) | refine s_know Tk (fun h => absurd h (by decide)) (fun _ => ?_) | refine g_cnd Tk Tryd.func6 rfl (fun _ => ?_) (fun h => absurd (show true = false from h) (by decide)) | refine g_know Tk Tryd.func6 rfl (fun _ => ?_) (fun h => absurd (show true = false from h) (by decide)) | refine s_know Tk (fun _ => ?_) (fun h => absurd (show true = false from h) (by decide)) | refine g_cnd Tk Tryd.func6 rfl (fun h => absurd (show false = true from h) (by decide)) (fun _ => ?_) | refine g_know Tk Tryd.func6 rfl (fun h => absurd (show false = true from h) (by decide)) (fun _ => ?_) | refine s_know Tk (fun h => absurd (show false = true from h) (by decide)) (fun _ => ?_))
        first | refine g_call Tk Tryd.func6 (hck _) rfl rfl rfl rfl rfl ?_ | refine s_callq Tk (fun _ => hck _) rfl rfl rfl ?_
        first | refine g_cnd Tk Tryd.func6 rfl (fun g3 => ?_) (fun g3 => ?_) | refine g_know Tk Tryd.func6 rfl (fun g3 => ?_) (fun g3 => ?_) | refine s_know Tk (fun g3 => ?_) (fun g3 => ?_)
        · have g3 : ke = 0 := beqT g3
          subst g3
          first | refine g_cnd Tk Tryd.func6 rfl (fun g4 => ?_) (fun g4 => ?_) | refine g_know Tk Tryd.func6 rfl (fun g4 => ?_) (fun g4 => ?_) | refine s_know Tk (fun g4 => ?_) (fun g4 => ?_)
          · have g4 : kk ≠ 2 := bneT g4
            have e2 : tableG l (Ex.mk xo xv xi xa) = ([], 16) := by rw [hT3, hdef, if_neg (by simp), if_pos g4]
            repeat (first | refine g_cnd Tk Tryd.func6 rfl (fun _ => ?_) (fun h => absurd h (by decide)) | refine g_know Tk Tryd.func6 rfl (fun _ => ?_) (fun h => absurd h (by decide)) | refine s_know Tk (fun _ => ?_) (fun h => absurd h (by decide)) | refine g_cnd Tk Tryd.func6 rfl (fun h => absurd h (by decide)) (fun _ => ?_) | refine g_know Tk Tryd.func6 rfl (fun h => absurd h (by decide)) (fun _ => ?_) | refine s_know Tk (fun h => absurd h (by decide)) (fun _ => ?_) | refine g_cnd Tk Tryd.func6 rfl (fun _ => ?_) (fun h => absurd (show true = false from h) (by decide)) | refine g_know Tk Tryd.func6 rfl (fun _ => ?_) (fun h => absurd (show true = false from h) (by decide)) | refine s_know Tk (fun _ => ?_) (fun h => absurd (show true = false from h) (by decide)) | refine g_cnd Tk Tryd.func6 rfl (fun h => absurd (show false = true from h) (by decide)) (fun _ => ?_) | refine g_know Tk Tryd.func6 rfl (fun h => absurd (show false = true from h) (by decide)) (fun _ => ?_) | refine s_know Tk (fun h => absurd (show false = true from h) (by decide)) (fun _ => ?_))
            refine g_stop ?_
            refine rch_meet (J (by rw [e2]; decide)) ⟨rfl, by rw [e2]; rfl, rfl, rfl, trivial⟩ rfl ⟨rfl, trivial⟩ rfl rfl
          · have g4 : kk = 2 := bneF g4
            subst g4
            repeat (first | refine g_cnd Tk Tryd.func6 rfl (fun _ => ?_) (fun h => absurd h (by decide)) | refine g_know Tk Tryd.func6 rfl (fun _ => ?_) (fun h => absurd h (by decide)) | refine s_know Tk (fun _ => ?_) (fun h => absurd h (by decide)) | refine g_cnd Tk Tryd.func6 rfl (fun h => absurd h (by decide)) (fun _ => ?_) | refine g_know Tk Tryd.func6 rfl (fun h => absurd h (by decide)) (fun _ => ?_) | refine s_know Tk (fun h => absurd h (by decide)) (fun _ => ?_) | refine g_cnd Tk Tryd.func6 rfl (fun _ => ?_) (fun h => absurd (show true = false from h) (by decide)) | refine g_know Tk Tryd.func6 rfl (fun _ => ?_) (fun h => absurd (show true = false from h) (by decide)) | refine s_know Tk (fun _ => ?_) (fun h => absurd (show true = false from h) (by decide)) | refine g_cnd Tk Tryd.func6 rfl (fun h => absurd (show false = true from h) (by decide)) (fun _ => ?_) | refine g_know Tk Tryd.func6 rfl (fun h => absurd (show false = true from h) (by decide)) (fun _ => ?_) | refine s_know Tk (fun h => absurd (show false = true from h) (by decide)) (fun _ => ?_))
            first | refine g_call Tk Tryd.func6 (htx _) rfl rfl rfl rfl rfl ?_ | refine s_callq Tk (fun _ => htx _) rfl rfl rfl ?_
            cases bf with
            | true =>
              have e2 := hright rfl rfl
              have e3 : tableG l (Ex.mk xo xv xi xa) = (bt, 0) := by rw [hT3, e2]
              have hsm := fun O => sameTable32 O bt bt (by have := hln rfl; simp only [List.length_nil] at this; simp only [max63]; omega)
              rw [decide_eq_true rfl] at hsm
              have her := her (by rw [e2])
              rw [e3]
              repeat (first | refine g_cnd Tk Tryd.func6 rfl (fun _ => ?_) (fun h => absurd h (by decide)) | refine g_know Tk Tryd.func6 rfl (fun _ => ?_) (fun h => absurd h (by decide)) | refine s_know Tk (fun _ => ?_) (fun h => absurd h (by decide)) | refine g_cnd Tk Tryd.func6 rfl (fun h => absurd h (by decide)) (fun _ => ?_) | refine g_know Tk Tryd.func6 rfl (fun h => absurd h (by decide)) (fun _ => ?_) | refine s_know Tk (fun h => absurd h (by decide)) (fun _ => ?_) | refine g_cnd Tk Tryd.func6 rfl (fun _ => ?_) (fun h => absurd (show true = false from h) (by decide)) | refine g_know Tk Tryd.func6 rfl (fun _ => ?_) (fun h => absurd (show true = false from h) (by decide)) | refine s_know Tk (fun _ => ?_) (fun h => absurd (show true = false from h) (by decide)) | refine g_cnd Tk Tryd.func6 rfl (fun h => absurd (show false = true from h) (by decide)) (fun _ => ?_) | refine g_know Tk Tryd.func6 rfl (fun h => absurd (show false = true from h) (by decide)) (fun _ => ?_) | refine s_know Tk (fun h => absurd (show false = true from h) (by decide)) (fun _ => ?_))
              first | refine g_call Tk Tryd.func6 (hsm _) rfl rfl rfl rfl rfl ?_ | refine s_callq Tk (fun _ => hsm _) rfl rfl rfl ?_
              repeat (first | refine g_cnd Tk Tryd.func6 rfl (fun _ => ?_) (fun h => absurd h (by decide)) | refine g_know Tk Tryd.func6 rfl (fun _ => ?_) (fun h => absurd h (by decide)) | refine s_know Tk (fun _ => ?_) (fun h => absurd h (by decide)) | refine g_cnd Tk Tryd.func6 rfl (fun h => absurd h (by decide)) (fun _ => ?_) | refine g_know Tk Tryd.func6 rfl (fun h => absurd h (by decide)) (fun _ => ?_) | refine s_know Tk (fun h => absurd h (by decide)) (fun _ => ?_) | refine g_cnd Tk Tryd.func6 rfl (fun _ => ?_) (fun h => absurd (show true = false from h) (by decide)) | refine g_know Tk Tryd.func6 rfl (fun _ => ?_) (fun h => absurd (show true = false from h) (by decide)) | refine s_know Tk (fun _ => ?_) (fun h => absurd (show true = false from h) (by decide)) | refine g_cnd Tk Tryd.func6 rfl (fun h => absurd (show false = true from h) (by decide)) (fun _ => ?_) | refine g_know Tk Tryd.func6 rfl (fun h => absurd (show false = true from h) (by decide)) (fun _ => ?_) | refine s_know Tk (fun h => absurd (show false = true from h) (by decide)) (fun _ => ?_))
              first | refine g_call Tk Tryd.func6 (her _) rfl rfl rfl rfl rfl ?_ | refine s_callq Tk (fun _ => her _) rfl rfl rfl ?_
              refine g_ret Tk (r := bb true) rfl rfl rfl trivial rfl rfl ?_
              rfl
            | false =>
              have e2 : (tableG l (Ex.mk xo xv xi xa)).2 = 17 := by rw [hT3]; exact hfine rfl rfl
              repeat (first | refine g_cnd Tk Tryd.func6 rfl (fun _ => ?_) (fun h => absurd h (by decide)) | refine g_know Tk Tryd.func6 rfl (fun _ => ?_) (fun h => absurd h (by decide)) | refine s_know Tk (fun _ => ?_) (fun h => absurd h (by decide)) | refine g_cnd Tk Tryd.func6 rfl (fun h => absurd h (by decide)) (fun _ => ?_) | refine g_know Tk Tryd.func6 rfl (fun h => absurd h (by decide)) (fun _ => ?_) | refine s_know Tk (fun h => absurd h (by decide)) (fun _ => ?_) | refine g_cnd Tk Tryd.func6 rfl (fun _ => ?_) (fun h => absurd (show true = false from h) (by decide)) | refine g_know Tk Tryd.func6 rfl (fun _ => ?_) (fun h => absurd (show true = false from h) (by decide)) | refine s_know Tk (fun _ => ?_) (fun h => absurd (show true = false from h) (by decide)) | refine g_cnd Tk Tryd.func6 rfl (fun h => absurd (show false = true from h) (by decide)) (fun _ => ?_) | refine g_know Tk Tryd.func6 rfl (fun h => absurd (show false = true from h) (by decide)) (fun _ => ?_) | refine s_know Tk (fun h => absurd (show false = true from h) (by decide)) (fun _ => ?_))
              refine g_stop ?_
              refine rch_meet (J (by rw [e2]; decide)) ⟨rfl, congrArg ii e2.symm, rfl, rfl, trivial⟩ rfl ⟨rfl, trivial⟩ rfl rfl
        · have g3 : ke ≠ 0 := beqF g3
          have e2 : tableG l (Ex.mk xo xv xi xa) = ([], ke) := by rw [hT3, hdef, if_pos g3]
          repeat (first | refine g_cnd Tk Tryd.func6 rfl (fun _ => ?_) (fun h => absurd h (by decide)) | refine g_know Tk Tryd.func6 rfl (fun _ => ?_) (fun h => absurd h (by decide)) | refine s_know Tk (fun _ => ?_) (fun h => absurd h (by decide)) | refine g_cnd Tk Tryd.func6 rfl (fun h => absurd h (by decide)) (fun _ => ?_) | refine g_know Tk Tryd.func6 rfl (fun h => absurd h (by decide)) (fun _ => ?_) | refine s_know Tk (fun h => absurd h (by decide)) (fun _ => ?_) | refine g_cnd Tk Tryd.func6 rfl (fun _ => ?_) (fun h => absurd (show true = false from h) (by decide)) | refine g_know Tk Tryd.func6 rfl (fun _ => ?_) (fun h => absurd (show true = false from h) (by decide)) | refine s_know Tk (fun _ => ?_) (fun h => absurd (show true = false from h) (by decide)) | refine g_cnd Tk Tryd.func6 rfl (fun h => absurd (show false = true from h) (by decide)) (fun _ => ?_) | refine g_know Tk Tryd.func6 rfl (fun h => absurd (show false = true from h) (by decide)) (fun _ => ?_) | refine s_know Tk (fun h => absurd (show false = true from h) (by decide)) (fun _ => ?_))
          first | refine g_cnd Tk Tryd.func6 rfl (fun g5 => ?_) (fun g5 => ?_) | refine g_know Tk Tryd.func6 rfl (fun g5 => ?_) (fun g5 => ?_) | refine s_know Tk (fun g5 => ?_) (fun g5 => ?_)
          · exact absurd (beqT g5) g3
          refine g_stop ?_
          refine rch_meet (J (by rw [e2]; exact g3)) ⟨rfl, by rw [e2]; rfl, rfl, rfl, trivial⟩ rfl ⟨rfl, trivial⟩ rfl rfl
    · intro hW
      have hn0 := hnil hW
      have fin := fin hW
      rw [hn0]
      generalize (tableG l (Ex.mk xo xv xi xa)).2 = W at *
      refine g_run Tk Tryd.func6 ?_
      refine g_go Tk Tryd.func6 ?_
      first | refine g_call Tk Tryd.func6 (fin.1 _) rfl rfl rfl rfl rfl ?_ | refine s_callq Tk (fun _ => fin.1 _) rfl rfl rfl ?_
      first | refine g_call Tk Tryd.func6 (fin.2.1 _) rfl rfl rfl rfl rfl ?_ | refine s_callq Tk (fun _ => fin.2.1 _) rfl rfl rfl ?_
      first | refine g_call Tk Tryd.func6 (fin.2.2 _) rfl rfl rfl rfl rfl ?_ | refine s_callq Tk (fun _ => fin.2.2 _) rfl rfl rfl ?_
      repeat (first | refine g_cnd Tk Tryd.func6 rfl (fun _ => ?_) (fun h => absurd h (by decide)) | refine g_know Tk Tryd.func6 rfl (fun _ => ?_) (fun h => absurd h (by decide)) | refine s_know Tk (fun _ => ?_) (fun h => absurd h (by decide)) | refine g_cnd Tk Tryd.func6 rfl (fun h => absurd h (by decide)) (fun _ => ?_) | refine g_know Tk Tryd.func6 rfl (fun h => absurd h (by decide)) (fun _ => ?_) | refine s_know Tk (fun h => absurd h (by decide)) (fun _ => ?_) | refine g_cnd Tk Tryd.func6 rfl (fun _ => ?_) (fun h => absurd (show true = false from h) (by decide)) | refine g_know Tk Tryd.func6 rfl (fun _ => ?_) (fun h => absurd (show true = false from h) (by decide)) | refine s_know Tk (fun _ => ?_) (fun h => absurd (show true = false from h) (by decide)) | refine g_cnd Tk Tryd.func6 rfl (fun h => absurd (show false = true from h) (by decide)) (fun _ => ?_) | refine g_know Tk Tryd.func6 rfl (fun h => absurd (show false = true from h) (by decide)) (fun _ => ?_) | refine s_know Tk (fun h => absurd (show false = true from h) (by decide)) (fun _ => ?_))
      first | refine g_cnd Tk Tryd.func6 rfl (fun g2 => ?_) (fun g2 => ?_) | refine g_know Tk Tryd.func6 rfl (fun g2 => ?_) (fun g2 => ?_) | refine s_know Tk (fun g2 => ?_) (fun g2 => ?_)
      rotate_left
      · exact absurd rfl (beqF g2)
      first | refine g_call Tk Tryd.func6 (eqZero _) rfl rfl rfl rfl rfl ?_ | refine s_callq Tk (fun _ => eqZero _) rfl rfl rfl ?_
      repeat (first | refine g_cnd Tk Tryd.func6 rfl (fun _ => ?_) (fun h => absurd h (by decide)) | refine g_know Tk Tryd.func6 rfl (fun _ => ?_) (fun h => absurd h (by decide)) | refine s_know Tk (fun _ => ?_) (fun h => absurd h (by decide)) | refine g_cnd Tk Tryd.func6 rfl (fun h => absurd h (by decide)) (fun _ => ?_) | refine g_know Tk Tryd.func6 rfl (fun h => absurd h (by decide)) (fun _ => ?_) | refine s_know Tk (fun h => absurd h (by decide)) (fun _ => ?_) | refine g_cnd Tk Tryd.func6 rfl (fun _ => ?_) (fun h => absurd (show true = false from h) (by decide)) | refine g_know Tk Tryd.func6 rfl (fun _ => ?_) (fun h => absurd (show true = false from h) (by decide)) | refine s_know Tk (fun _ => ?_) (fun h => absurd (show true = false from h) (by decide)) | refine g_cnd Tk Tryd.func6 rfl (fun h => absurd (show false = true from h) (by decide)) (fun _ => ?_) | refine g_know Tk Tryd.func6 rfl (fun h => absurd (show false = true from h) (by decide)) (fun _ => ?_) | refine s_know Tk (fun h => absurd (show false = true from h) (by decide)) (fun _ => ?_))
      first | refine g_cnd Tk Tryd.func6 rfl (fun g3 => ?_) (fun g3 => ?_) | refine g_know Tk Tryd.func6 rfl (fun g3 => ?_) (fun g3 => ?_) | refine s_know Tk (fun g3 => ?_) (fun g3 => ?_)
      rotate_left
      · exact absurd rfl (beqF g3)
      repeat (first | refine g_cnd Tk Tryd.func6 rfl (fun _ => ?_) (fun h => absurd h (by decide)) | refine g_know Tk Tryd.func6 rfl (fun _ => ?_) (fun h => absurd h (by decide)) | refine s_know Tk (fun _ => ?_) (fun h => absurd h (by decide)) | refine g_cnd Tk Tryd.func6 rfl (fun h => absurd h (by decide)) (fun _ => ?_) | refine g_know Tk Tryd.func6 rfl (fun h => absurd h (by decide)) (fun _ => ?_) | refine s_know Tk (fun h => absurd h (by decide)) (fun _ => ?_) | refine g_cnd Tk Tryd.func6 rfl (fun _ => ?_) (fun h => absurd (show true = false from h) (by decide)) | refine g_know Tk Tryd.func6 rfl (fun _ => ?_) (fun h => absurd (show true = false from h) (by decide)) | refine s_know Tk (fun _ => ?_) (fun h => absurd (show true = false from h) (by decide)) | refine g_cnd Tk Tryd.func6 rfl (fun h => absurd (show false = true from h) (by decide)) (fun _ => ?_) | refine g_know Tk Tryd.func6 rfl (fun h => absurd (show false = true from h) (by decide)) (fun _ => ?_) | refine s_know Tk (fun h => absurd (show false = true from h) (by decide)) (fun _ => ?_))
      first | refine g_cnd Tk Tryd.func6 rfl (fun g4 => ?_) (fun g4 => ?_) | refine g_know Tk Tryd.func6 rfl (fun g4 => ?_) (fun g4 => ?_) | refine s_know Tk (fun g4 => ?_) (fun g4 => ?_)
      rotate_left
      · exact absurd rfl (beqF g4)
      repeat (first | refine g_cnd Tk Tryd.func6 rfl (fun _ => ?_) (fun h => absurd h (by decide)) | refine g_know Tk Tryd.func6 rfl (fun _ => ?_) (fun h => absurd h (by decide)) | refine s_know Tk (fun _ => ?_) (fun h => absurd h (by decide)) | refine g_cnd Tk Tryd.func6 rfl (fun h => absurd h (by decide)) (fun _ => ?_) | refine g_know Tk Tryd.func6 rfl (fun h => absurd h (by decide)) (fun _ => ?_) | refine s_know Tk (fun h => absurd h (by decide)) (fun _ => ?_) | refine g_cnd Tk Tryd.func6 rfl (fun _ => ?_) (fun h => absurd (show true = false from h) (by decide)) | refine g_know Tk Tryd.func6 rfl (fun _ => ?_) (fun h => absurd (show true = false from h) (by decide)) | refine s_know Tk (fun _ => ?_) (fun h => absurd (show true = false from h) (by decide)) | refine g_cnd Tk Tryd.func6 rfl (fun h => absurd (show false = true from h) (by decide)) (fun _ => ?_) | refine g_know Tk Tryd.func6 rfl (fun h => absurd (show false = true from h) (by decide)) (fun _ => ?_) | refine s_know Tk (fun h => absurd (show false = true from h) (by decide)) (fun _ => ?_))
      refine g_ret Tk (r := bb (W == W)) rfl rfl rfl trivial rfl rfl ?_
      simp
end Go.AI
