/- The layer of abstract runs, part 49. -/
import Derived.Test.YtmhllkmceipdcaaGreatDoorIvyZV
set_option linter.unusedSimpArgs false
set_option linter.unusedVariables false
set_option linter.all false

/- The law's own missing. -/
namespace Go.AI
open Go.Proofs
set_option maxRecDepth 20000
abbrev otwos (l : List (PS × List Int)) : Ob := .arr 144 3 l.length (l.map bothI) true
theorem otwos_app (l : List (PS × List Int)) (z : PS × List Int) : Ob.arr 144 3 (l.length + 1) (l.map bothI ++ [bothI z]) true = otwos (l ++ [z]) := by simp
def okX (y : PS) : Bool := decide (y.1.length > 0)
def misR (a : Aut) (on : List Int) (n : Nat) (A B : List Int) : Option (PS × List Int) :=
  bsr (stepP a.edges (lowP on [] false) n) okX (fun _ => keptR a on) (fun y => badM a y.1 y.2) 4096 0 [((A, B), [])]
theorem nil_arr3 (K : Kn) (vs : List Value) (A B : List Int) (h : RepL K vs [intsI A, intsI B, .v (.slice none 0 0)]) : RepL K vs [intsI A, intsI B, .sl 1 0 []] := by
  cases h with
  | cons h1 h => cases h with
    | cons h2 h => cases h with
      | cons h3 h =>
        cases h
        refine .cons h1 (.cons h2 (.cons ?_ .nil))
        cases h3
        exact .nil
set_option maxHeartbeats 16000000 in
theorem missing69 (O : List Heap) (a : Aut) (on A B : List Int) (n : Nat) (h : gAut a n) (hn : n ≤ 5) (hon : on.length ≤ max63) (hA : A ∈ subs n) (hB : B ∈ subs n) :
    ASpec Tryz.prog 69 [autD a, ints on, ints A, ints B] O (difD (misR a on n A B)) [] O := by
  have hal := h.sm.al
  have hmk : a.marked.length ≤ max63 := by have := h.sm.mkd; simp only [max63]; omega
  have hkept : ∀ O, ASpec Tryz.prog 29 [autD a, ints on] O (ints (keptR a on)) [] O := fun O => kept29 O a on hal hon
  have hnext := fun x (hx : x ∈ subs n) ev O => next34 O a on x ev n h (by omega) (Nat.le_trans (mem_subs hx).1 (by simp only [max63]; omega)) hon
  have hmar := fun x (hx : x ∈ subs n) O => marked19 O a x hmk (Nat.le_trans (mem_subs hx).1 (by simp only [max63]; omega))
  have hsam := fun x (hx : x ∈ subs n) y O => sameInts36 O x y (Nat.le_trans (mem_subs hx).1 (by simp only [max63]; omega))
  have hst : ∀ x ev, (nxt a.edges (lowP on [] false) n x.1 ev, nxt a.edges (lowP on [] false) n x.2 ev) = stepP a.edges (lowP on [] false) n x ev := fun _ _ => rfl
  have hsi := stepP_in a.edges (lowP on [] false) n
  have hVl := pairsV_len hn
  have hns : ∀ x ev, nxt a.edges (lowP on [] false) n x ev ∈ subs n := fun x ev => sorted_subs _ _
  have hbm : ∀ x y, badM a x y = ((x.any fun x => decide (x ∈ a.marked)) && !(y.any fun x => decide (x ∈ a.marked))) := fun _ _ => rfl
  unfold misR
  generalize hK : bsr (stepP a.edges (lowP on [] false) n) okX (fun _ => keptR a on) (fun y => badM a y.1 y.2) 4096 0 [((A, B), [])] = KK
  have hB0 : bOk (pairsV n) [((A, B), ([] : List Int))] := bOk_one (mem_pairsV.2 ⟨hA, hB⟩)
  have hkr : (keptR a on).length ≤ 1000000 := Nat.le_trans (List.length_filter_le _ _) hal
  generalize keptR a on = kp at *
  refine aspec_stop [8, 12, 17] Tk Tryz.func69 rfl Tryz.call69 Tryz.ntmps69 (Nat.le_of_ble_eq_true rfl) fun E => ?_
  refine g_run Tk Tryz.func69 ?_
  first | refine g_call Tk Tryz.func69 (hkept _) rfl rfl rfl rfl rfl ?_ | refine s_callq Tk (fun _ => hkept _) rfl rfl rfl ?_
  refine g_loop ?_
  refine rch_wk (wk_ren 23 133 rfl rfl rfl) ?_
  refine rch_wk (wk_arrco 133 (ys := [bothI ((A, B), [])]) rfl rfl rfl (by simp; rfl) fun K vs h => nil_arr3 K vs A B h) ?_
  refine rch_loop2 (fun x : Nat × Nat × List (PS × List Int) => [(1, ints on), (4, .own 0 4 0 0), (10, ints kp), (11, .osl 0 133), (12, ii x.1)])
    (fun x => [(4, .box (autC a)), (133, otwos x.2.2)]) (fun _ => O) 134
    (fun x => x.1 ≤ x.2.2.length ∧ bOk (pairsV n) x.2.2 ∧ x.2.1 + x.1 = 4096 ∧ bsr (stepP a.edges (lowP on [] false) n) okX (fun _ => kp) (fun y => badM a y.1 y.2) x.2.1 x.1 x.2.2 = KK) (fun x => x.2.1) (0, 4096, [((A, B), [])])
    ⟨Nat.zero_le _, hB0, rfl, hK⟩ ⟨rfl, rfl, rfl, rfl, rfl, trivial⟩ rfl ⟨rfl, rfl, trivial⟩ rfl rfl ?_
  clear hB0 hK
  rintro ⟨i, fu, l⟩ ⟨hi, hb, hf, hno⟩ ih
  simp only at hi hb hf hno
  have hll := bOk_len hb
  refine g_run Tk Tryz.func69 ?_
  first | refine g_cnd Tk Tryz.func69 rfl (fun g1 => ?_) (fun g1 => ?_) | refine g_know Tk Tryz.func69 rfl (fun g1 => ?_) (fun g1 => ?_) | refine s_know Tk (fun g1 => ?_) (fun g1 => ?_)
  · have h1 : i < l.length := by simpa using g1
    clear g1
    obtain ⟨fu, rfl⟩ : ∃ f', fu = f' + 1 := ⟨fu - 1, by omega⟩
    have hgi : l[i]? = some l[i] := List.getElem?_eq_getElem h1
    have gl : (l.map bothI)[(i : Int).toNat]? = some (bothI l[i]) := get_mapZ h1
    have hzV := mem_pairsV.1 (hb.el _ (List.getElem_mem h1))
    simp only [bsr, hgi] at hno
    have hzw := hb.wl i _ hgi
    generalize l[i] = z at *
    obtain ⟨⟨za, zb⟩, zw⟩ := z
    simp only at hno hzV hzw
    have hm1 := hmar za hzV.1
    have hm2 := hmar zb hzV.2
    rw [hbm] at hno
    generalize (za.any fun x => decide (x ∈ a.marked)) = m1 at *
    generalize (zb.any fun x => decide (x ∈ a.marked)) = m2 at *
    apply join_p (P := (m1 && !m2) = false) (s6 := { σ := [(1, ints on), (4, .own 0 4 0 0), (10, ints kp), (11, .osl 0 133), (12, ii i)], S := [(4, .box (autC a)), (133, otwos l)] :: O, n := 134 })
    · intro J
      refine g_drawn Tk Tryz.func69 mixedT rfl ?_
      first | refine g_need Tk Tryz.func69 (by exact ⟨by omega, by show (i : Int) < (l.length : Int); omega⟩) ?_ | refine s_need Tk (by exact ⟨by omega, by show (i : Int) < (l.length : Int); omega⟩) ?_
      first | refine g_elem Tk Tryz.func69 (gl) ?_ | refine s_elem Tk (gl) ?_
      first | refine g_call Tk Tryz.func69 (hm1 _) rfl rfl rfl rfl rfl ?_ | refine s_callq Tk (fun _ => hm1 _) rfl rfl rfl ?_
      first | refine g_cnd Tk Tryz.func69 rfl (fun c1 => ?_) (fun c1 => ?_) | refine g_know Tk Tryz.func69 rfl (fun c1 => ?_) (fun c1 => ?_) | refine s_know Tk (fun c1 => ?_) (fun c1 => ?_)
      · have c1 : m1 = true := c1
        subst c1
        first | refine g_need Tk Tryz.func69 (by exact ⟨by omega, by show (i : Int) < (l.length : Int); omega⟩) ?_ | refine s_need Tk (by exact ⟨by omega, by show (i : Int) < (l.length : Int); omega⟩) ?_
        first | refine g_elem Tk Tryz.func69 (gl) ?_ | refine s_elem Tk (gl) ?_
        first | refine g_call Tk Tryz.func69 (hm2 _) rfl rfl rfl rfl rfl ?_ | refine s_callq Tk (fun _ => hm2 _) rfl rfl rfl ?_
        refine e_done Tk Tryz.func69 (by kernel_rfl) ?_
        first | refine g_cnd Tk Tryz.func69 rfl (fun c2 => ?_) (fun c2 => ?_) | refine g_know Tk Tryz.func69 rfl (fun c2 => ?_) (fun c2 => ?_) | refine s_know Tk (fun c2 => ?_) (fun c2 => ?_)
        · have c2 : m2 = false := notT c2
          subst c2
          rw [if_pos (show (true && !false) = true from rfl)] at hno
          subst hno
          first | refine g_need Tk Tryz.func69 (by exact ⟨by omega, by show (i : Int) < (l.length : Int); omega⟩) ?_ | refine s_need Tk (by exact ⟨by omega, by show (i : Int) < (l.length : Int); omega⟩) ?_
          first | refine g_elem Tk Tryz.func69 (gl) ?_ | refine s_elem Tk (gl) ?_
          refine g_ret Tk (r := .tup [ints zw, bb true]) rfl rfl rfl trivial rfl rfl ?_
          rfl
        · have c2 : m2 = true := notF c2
          subst c2
          refine g_stop ?_
          refine rch_meet (J rfl) ⟨rfl, rfl, rfl, rfl, rfl, trivial⟩ rfl ⟨rfl, rfl, trivial⟩ rfl rfl
      · have c1 : m1 = false := c1
        subst c1
        refine e_done Tk Tryz.func69 (by kernel_rfl) ?_
        repeat (first | refine g_cnd Tk Tryz.func69 rfl (fun _ => ?_) (fun h => absurd h (by decide)) | refine g_know Tk Tryz.func69 rfl (fun _ => ?_) (fun h => absurd h (by decide)) | refine s_know Tk (fun _ => ?_) (fun h => absurd h (by decide)) | refine g_cnd Tk Tryz.func69 rfl (fun h => absurd h (by decide)) (fun _ => ?_) | refine g_know Tk Tryz.func69 rfl (fun h => absurd h (by decide)) (fun _ => ?_) | refine s_know Tk (fun h => absurd h (by decide)) (fun _ => ?_) | refine g_cnd Tk Tryz.func69 rfl (fun _ => ?_) (fun h => absurd (show true = false from h) (by decide)) | refine g_know Tk Tryz.func69 rfl (fun _ => ?_) (fun h => absurd (show true = false from h) (by decide)) | refine s_know Tk (fun _ => ?_) (fun h => absurd (show true = false from h) (by decide)) | refine g_cnd Tk Tryz.func69 rfl (fun h => absurd (show false = true from h) (by decide)) (fun _ => ?_) | refine g_know Tk Tryz.func69 rfl (fun h => absurd (show false = true from h) (by decide)) (fun _ => ?_) | refine s_know Tk (fun h => absurd (show false = true from h) (by decide)) (fun _ => ?_))
        refine g_stop ?_
        refine rch_meet (J rfl) ⟨rfl, rfl, rfl, rfl, rfl, trivial⟩ rfl ⟨rfl, rfl, trivial⟩ rfl rfl
    intro hm
    rw [if_neg (by rw [hm]; simp)] at hno
    clear hm1 hm2 hm
    clear m1 m2
    refine g_run Tk Tryz.func69 ?_
    refine g_go Tk Tryz.func69 ?_
    refine g_loop ?_
    refine rch_loop2 (fun x : Nat × List (PS × List Int) => [(1, ints on), (4, .own 0 4 0 0), (10, ints kp), (11, .osl 0 133), (12, ii i), (13, ii x.1)])
      (fun x => [(4, .box (autC a)), (133, otwos x.2)]) (fun _ => O) 134
      (fun x => x.1 ≤ kp.length ∧ bOk (pairsV n) x.2 ∧ i < x.2.length ∧ x.2[i]? = some ((za, zb), zw) ∧ bsr (stepP a.edges (lowP on [] false) n) okX (fun _ => kp) (fun y => badM a y.1 y.2) fu (i + 1) (bvis (stepP a.edges (lowP on [] false) n) okX ((za, zb), zw) (kp.drop x.1) x.2) = KK) (fun x => kp.length - x.1) (0, l)
      ⟨Nat.zero_le _, hb, h1, hgi, by simpa using hno⟩ ⟨rfl, rfl, rfl, rfl, rfl, rfl, trivial⟩ rfl ⟨rfl, rfl, trivial⟩ rfl rfl ?_
    clear hb hno hgi gl h1 hll hi
    rintro ⟨j, l⟩ ⟨hj, hb, h1, hgi, hno⟩ ih2
    simp only at hj hb h1 hgi hno
    have hll := bOk_len hb
    have hj1 : ii (IntKind.i64.wrap ((j : Int) + 1)) = ii ((j + 1 : Nat) : Int) := congrArg ii (wsucc (n := 1000001) (by omega) (by decide))
    have gl : (l.map bothI)[(i : Int).toNat]? = some (bothI ((za, zb), zw)) := by rw [Int.toNat_natCast, List.getElem?_map, hgi]; rfl
    refine g_run Tk Tryz.func69 ?_
    first | refine g_cnd Tk Tryz.func69 rfl (fun g2 => ?_) (fun g2 => ?_) | refine g_know Tk Tryz.func69 rfl (fun g2 => ?_) (fun g2 => ?_) | refine s_know Tk (fun g2 => ?_) (fun g2 => ?_)
    · have h2 : j < kp.length := by simpa using g2
      clear g2
      have gk : (kp.map fun x => [vi x])[(j : Int).toNat]? = some [vi kp[j]] := get_mapZ (f := fun x => [vi x]) h2
      rw [List.drop_eq_getElem_cons h2] at hno
      simp only [bvis] at hno
      generalize kp[j] = ev at *
      have hna := hnext za hzV.1 ev
      have hnb := hnext zb hzV.2 ev
      have hsv := hsi (za, zb) ev
      rw [← hst] at hno hsv
      have hsa := hsam _ (hns za ev)
      simp only at hno hsv
      generalize nxt a.edges (lowP on [] false) n za ev = na at *
      generalize nxt a.edges (lowP on [] false) n zb ev = nb at *
      refine g_drawn Tk Tryz.func69 mixedT rfl ?_
      first | refine g_need Tk Tryz.func69 (by exact ⟨by omega, by show (i : Int) < (l.length : Int); omega⟩) ?_ | refine s_need Tk (by exact ⟨by omega, by show (i : Int) < (l.length : Int); omega⟩) ?_
      first | refine g_elem Tk Tryz.func69 (gl) ?_ | refine s_elem Tk (gl) ?_
      first | refine g_need Tk Tryz.func69 (by exact ⟨by omega, by show (j : Int) < (kp.length : Int); omega⟩) ?_ | refine s_need Tk (by exact ⟨by omega, by show (j : Int) < (kp.length : Int); omega⟩) ?_
      first | refine g_elem Tk Tryz.func69 (gk) ?_ | refine s_elem Tk (gk) ?_
      first | refine g_call Tk Tryz.func69 (hna _) rfl rfl rfl rfl rfl ?_ | refine s_callq Tk (fun _ => hna _) rfl rfl rfl ?_
      first | refine g_need Tk Tryz.func69 (by exact ⟨by omega, by show (i : Int) < (l.length : Int); omega⟩) ?_ | refine s_need Tk (by exact ⟨by omega, by show (i : Int) < (l.length : Int); omega⟩) ?_
      first | refine g_elem Tk Tryz.func69 (gl) ?_ | refine s_elem Tk (gl) ?_
      first | refine g_need Tk Tryz.func69 (by exact ⟨by omega, by show (j : Int) < (kp.length : Int); omega⟩) ?_ | refine s_need Tk (by exact ⟨by omega, by show (j : Int) < (kp.length : Int); omega⟩) ?_
      first | refine g_elem Tk Tryz.func69 (gk) ?_ | refine s_elem Tk (gk) ?_
      first | refine g_call Tk Tryz.func69 (hnb _) rfl rfl rfl rfl rfl ?_ | refine s_callq Tk (fun _ => hnb _) rfl rfl rfl ?_
      first | refine g_need Tk Tryz.func69 (by exact ⟨by omega, by show (i : Int) < (l.length : Int); omega⟩) ?_ | refine s_need Tk (by exact ⟨by omega, by show (i : Int) < (l.length : Int); omega⟩) ?_
      first | refine g_elem Tk Tryz.func69 (gl) ?_ | refine s_elem Tk (gl) ?_
      refine s_old Tk ?_
      refine d_need Tk (by exact ⟨by show (0 + zw.length) * 8 ≤ 140737488355328; omega, by show 0 + zw.length ≤ 9223372036854775807; omega⟩) ?_
      refine d_mod Tk (p := ⟨[(88, .osl 0 88), (82, .dead)], [(88, .arr 3 1 (0 + zw.length) ([] ++ zw.map fun x => [vi x]) true)], some 82⟩) rfl rfl rfl ?_
      refine d_need Tk (by exact ⟨by omega, by show (j : Int) < (kp.length : Int); omega⟩) ?_
      refine d_elem Tk gk ?_
      refine d_need Tk (by exact ⟨by show (0 + zw.length + 1) * 8 ≤ 140737488355328; omega, by show 0 + zw.length + 1 ≤ 9223372036854775807; omega⟩) ?_
      refine d_mod Tk (p := ⟨[(94, .osl 0 94), (88, .dead)], [(94, .arr 3 1 (0 + zw.length + 1) (([] ++ zw.map fun x => [vi x]) ++ [[vi ev]]) true)], some 88⟩) rfl rfl rfl ?_
      refine d_mod Tk (p := ⟨[], [(14, .box [ints na, ints nb, .osl 0 94])], none⟩) rfl rfl rfl ?_
      refine d_done Tk Tryz.func69 (by kernel_rfl) (GM.h ?_)
      have e94 : Ob.box [ints na, ints nb, .i (.sl 1 (0 + zw.length + 1) (([] ++ zw.map fun x => [vi x]) ++ [[vi ev]]))] = .box [ints na, ints nb, ints (zw ++ [ev])] := by simp
      refine g_stop ?_
      refine rch_wk (wk_freeze 94 rfl rfl) ?_
      refine rch_wk (wk_imm rfl) ?_
      refine rch_wk (wk_cut (l := [(1, ints on), (4, .own 0 4 0 0), (10, ints kp), (11, .osl 0 133), (12, ii i), (13, ii j), (14, .own 0 14 0 0)])
        (Hv := [(4, .box (autC a)), (133, otwos l), (14, .box [ints na, ints nb, ints (zw ++ [ev])])]) ⟨rfl, rfl, rfl, rfl, rfl, rfl, rfl, trivial⟩ rfl ⟨rfl, rfl, congrArg some e94, trivial⟩ rfl rfl) ?_
      have hnl := (mem_subs (mem_pairsV.1 hsv).1).1
      have hml := (mem_subs (mem_pairsV.1 hsv).2).1
      simp only at hnl hml
      have hzl : (zw ++ [ev]).length = zw.length + 1 := by simp
      have hbo : (∀ z ∈ l, z.1 ≠ (na, nb)) → bOk (pairsV n) (l ++ [((na, nb), zw ++ [ev])]) := fun h => bOk_app hb hgi hsv h ev
      generalize zw ++ [ev] = zw2 at *
      refine g_run Tk Tryz.func69 ?_
      refine g_go Tk Tryz.func69 ?_
      refine g_loop ?_
      refine rch_loop2 (fun x : Nat × Bool => [(1, ints on), (4, .own 0 4 0 0), (10, ints kp), (11, .osl 0 133), (12, ii i), (13, ii j), (14, .own 0 14 0 0), (15, bb x.2), (16, ii x.1)])
        (fun x => [(4, .box (autC a)), (133, otwos l), (14, .box [ints na, ints nb, ints zw2])]) (fun _ => O) 134
        (fun x => x.1 ≤ l.length ∧ (x.2 = true → na = [] ∨ ∃ z ∈ l, z.1 = (na, nb)) ∧ (x.2 = false → na ≠ [] ∧ ∀ z ∈ l.take x.1, z.1 ≠ (na, nb))) (fun x => l.length - x.1) (0, decide ((na.length : Int) = 0))
        ⟨Nat.zero_le _, fun e => .inl (List.eq_nil_of_length_eq_zero (by have := of_decide_eq_true e; omega)), fun e => ⟨fun e2 => of_decide_eq_false e (by rw [e2]; rfl), by simp⟩⟩ ⟨rfl, rfl, rfl, rfl, rfl, rfl, rfl, rfl, rfl, trivial⟩ rfl ⟨rfl, rfl, rfl, trivial⟩ rfl rfl ?_
      rintro ⟨k, sn⟩ ⟨hk, hs1, hs2⟩ ih3
      simp only at hk hs1 hs2
      have hfin : (sn = true ∨ l.length ≤ k) → sn = false → (na ≠ [] ∧ ∀ z ∈ l, z.1 ≠ (na, nb)) := fun h1 h2 => by
        rcases h1 with h1 | h1
        · rw [h1] at h2; cases h2
        · have := hs2 h2
          rw [List.take_of_length_le h1] at this
          exact this
      apply join_p (P := sn = true ∨ l.length ≤ k) (s6 := { σ := [(1, ints on), (4, .own 0 4 0 0), (10, ints kp), (11, .osl 0 133), (12, ii i), (13, ii j), (14, .own 0 14 0 0), (15, bb sn)], S := [(4, .box (autC a)), (133, otwos l), (14, .box [ints na, ints nb, ints zw2])] :: O, n := 134 })
      · intro J
        refine g_run Tk Tryz.func69 ?_
        first | refine g_cnd Tk Tryz.func69 rfl (fun c3 => ?_) (fun c3 => ?_) | refine g_know Tk Tryz.func69 rfl (fun c3 => ?_) (fun c3 => ?_) | refine s_know Tk (fun c3 => ?_) (fun c3 => ?_)
        · have h3 : k < l.length := by simpa using c3
          first | refine g_cnd Tk Tryz.func69 rfl (fun c4 => ?_) (fun c4 => ?_) | refine g_know Tk Tryz.func69 rfl (fun c4 => ?_) (fun c4 => ?_) | refine s_know Tk (fun c4 => ?_) (fun c4 => ?_)
          · have c4 : sn = false := notT c4
            obtain ⟨hne, htk⟩ := hs2 c4
            have gk2 : (l.map bothI)[(k : Int).toNat]? = some (bothI l[k]) := get_mapZ h3
            have hkV := mem_pairsV.1 (hb.el _ (List.getElem_mem h3))
            have htk1 : ∀ (e : l[k].1 ≠ (na, nb)), ∀ z ∈ l.take (k + 1), z.1 ≠ (na, nb) := fun e z hz => by
              rw [List.take_add_one, List.getElem?_eq_getElem h3, List.mem_append] at hz
              rcases hz with hz | hz
              · exact htk z hz
              · simp only [Option.toList_some, List.mem_singleton] at hz
                rw [hz]; exact e
            have hin : l[k].1 = (na, nb) → ∃ z ∈ l, z.1 = (na, nb) := fun e => ⟨_, List.getElem_mem h3, e⟩
            have s1 := fun O => hsam l[k].1.1 hkV.1 na O
            have s2 := fun O => hsam l[k].1.2 hkV.2 nb O
            generalize l[k] = q at *
            obtain ⟨⟨qa, qb⟩, qw⟩ := q
            simp only at htk1 hin s1 s2
            refine g_drawn Tk Tryz.func69 mixedT rfl ?_
            first | refine g_need Tk Tryz.func69 (by exact ⟨by omega, by show (k : Int) < (l.length : Int); omega⟩) ?_ | refine s_need Tk (by exact ⟨by omega, by show (k : Int) < (l.length : Int); omega⟩) ?_
            first | refine g_elem Tk Tryz.func69 (gk2) ?_ | refine s_elem Tk (gk2) ?_
            first | refine g_call Tk Tryz.func69 (s1 _) rfl rfl rfl rfl rfl ?_ | refine s_callq Tk (fun _ => s1 _) rfl rfl rfl ?_
            first | refine g_cnd Tk Tryz.func69 rfl (fun c5 => ?_) (fun c5 => ?_) | refine g_know Tk Tryz.func69 rfl (fun c5 => ?_) (fun c5 => ?_) | refine s_know Tk (fun c5 => ?_) (fun c5 => ?_)
            · have c5 : qa = na := of_decide_eq_true c5
              first | refine g_need Tk Tryz.func69 (by exact ⟨by omega, by show (k : Int) < (l.length : Int); omega⟩) ?_ | refine s_need Tk (by exact ⟨by omega, by show (k : Int) < (l.length : Int); omega⟩) ?_
              first | refine g_elem Tk Tryz.func69 (gk2) ?_ | refine s_elem Tk (gk2) ?_
              first | refine g_call Tk Tryz.func69 (s2 _) rfl rfl rfl rfl rfl ?_ | refine s_callq Tk (fun _ => s2 _) rfl rfl rfl ?_
              refine e_done Tk Tryz.func69 (by kernel_rfl) ?_
              refine g_loop ?_
              refine ih3 (k + 1, decide (qb = nb)) _ _ ⟨h3, fun e => .inr (hin (by rw [c5, of_decide_eq_true e])), fun e => ⟨hne, htk1 fun e2 => of_decide_eq_false e (Prod.mk.inj e2).2⟩⟩ (by simp only; omega) ⟨rfl, rfl, rfl, rfl, rfl, rfl, rfl, rfl, congrArg ii (wsucc (n := 1000001) (by omega) (by decide)), trivial⟩ rfl ⟨rfl, rfl, rfl, trivial⟩ rfl rfl
            · have c5 : qa ≠ na := of_decide_eq_false c5
              refine e_done Tk Tryz.func69 (by kernel_rfl) ?_
              refine g_loop ?_
              refine ih3 (k + 1, false) _ _ ⟨h3, (fun e => by cases e), fun e => ⟨hne, htk1 fun e2 => c5 (Prod.mk.inj e2).1⟩⟩ (by simp only; omega) ⟨rfl, rfl, rfl, rfl, rfl, rfl, rfl, rfl, congrArg ii (wsucc (n := 1000001) (by omega) (by decide)), trivial⟩ rfl ⟨rfl, rfl, rfl, trivial⟩ rfl rfl
          · have c4 : sn = true := notF c4
            refine g_stop ?_
            refine rch_meet (J (.inl c4)) ⟨rfl, rfl, rfl, rfl, rfl, rfl, rfl, rfl, trivial⟩ rfl ⟨rfl, rfl, rfl, trivial⟩ rfl rfl
        · have h3 : l.length ≤ k := by simpa using c3
          repeat (first | refine g_cnd Tk Tryz.func69 rfl (fun _ => ?_) (fun h => absurd h (by decide)) | refine g_know Tk Tryz.func69 rfl (fun _ => ?_) (fun h => absurd h (by decide)) | refine s_know Tk (fun _ => ?_) (fun h => absurd h (by decide)) | refine g_cnd Tk Tryz.func69 rfl (fun h => absurd h (by decide)) (fun _ => ?_) | refine g_know Tk Tryz.func69 rfl (fun h => absurd h (by decide)) (fun _ => ?_) | refine s_know Tk (fun h => absurd h (by decide)) (fun _ => ?_) | refine g_cnd Tk Tryz.func69 rfl (fun _ => ?_) (fun h => absurd (show true = false from h) (by decide)) | refine g_know Tk Tryz.func69 rfl (fun _ => ?_) (fun h => absurd (show true = false from h) (by decide)) | refine s_know Tk (fun _ => ?_) (fun h => absurd (show true = false from h) (by decide)) | refine g_cnd Tk Tryz.func69 rfl (fun h => absurd (show false = true from h) (by decide)) (fun _ => ?_) | refine g_know Tk Tryz.func69 rfl (fun h => absurd (show false = true from h) (by decide)) (fun _ => ?_) | refine s_know Tk (fun h => absurd (show false = true from h) (by decide)) (fun _ => ?_))
          refine g_stop ?_
          refine rch_meet (J (.inr h3)) ⟨rfl, rfl, rfl, rfl, rfl, rfl, rfl, rfl, trivial⟩ rfl ⟨rfl, rfl, rfl, trivial⟩ rfl rfl
      intro hsk
      have hfin := hfin hsk
      refine g_run Tk Tryz.func69 ?_
      refine g_go Tk Tryz.func69 ?_
      first | refine g_cnd Tk Tryz.func69 rfl (fun c5 => ?_) (fun c5 => ?_) | refine g_know Tk Tryz.func69 rfl (fun c5 => ?_) (fun c5 => ?_) | refine s_know Tk (fun c5 => ?_) (fun c5 => ?_)
      · have c5 : sn = false := notT c5
        obtain ⟨f1, f2⟩ := hfin c5
        rw [if_pos ⟨decide_eq_true (by cases na with | nil => exact absurd rfl f1 | cons x r => simp), f2⟩] at hno
        first | refine g_need Tk Tryz.func69 (by exact ⟨by show (l.length + 1) * 72 ≤ 140737488355328; omega, by show l.length + 1 ≤ 9223372036854775807; omega⟩) ?_ | refine s_need Tk (by exact ⟨by show (l.length + 1) * 72 ≤ 140737488355328; omega, by show l.length + 1 ≤ 9223372036854775807; omega⟩) ?_
        refine g_loop ?_
        refine ih2 (j + 1, l ++ [((na, nb), zw2)]) _ _ ⟨h2, hbo f2, by rw [List.length_append]; omega, by rw [List.getElem?_append_left h1]; exact hgi, hno⟩ (by simp only; omega) ⟨rfl, rfl, rfl, rfl, rfl, hj1, trivial⟩ rfl ⟨rfl, congrArg some (otwos_app l ((na, nb), zw2)), trivial⟩ rfl rfl
      · have c5 : sn = true := notF c5
        rw [if_neg (fun h => by
          rcases hs1 c5 with h3 | ⟨z, hz, h3⟩
          · have := of_decide_eq_true h.1
            rw [h3] at this
            simp at this
          · exact h.2 z hz h3)] at hno
        refine g_loop ?_
        exact ih2 (j + 1, l) _ _ ⟨h2, hb, h1, hgi, hno⟩ (by simp only; omega) ⟨rfl, rfl, rfl, rfl, rfl, hj1, trivial⟩ rfl ⟨rfl, rfl, trivial⟩ rfl rfl
    · have h2 : kp.length ≤ j := by simpa using g2
      rw [List.drop_eq_nil_of_le h2] at hno
      refine g_loop ?_
      exact ih (i + 1, fu, l) _ _ ⟨h1, hb, by simp only; omega, hno⟩ (by simp only; omega) ⟨rfl, rfl, rfl, rfl, congrArg ii (wsucc (n := 1000001) (by omega) (by decide)), trivial⟩ rfl ⟨rfl, rfl, trivial⟩ rfl rfl
  · have h1 : l.length ≤ i := by simpa using g1
    obtain ⟨fu, rfl⟩ : ∃ f', fu = f' + 1 := ⟨fu - 1, by omega⟩
    simp only [bsr, List.getElem?_eq_none h1] at hno
    subst hno
    refine g_ret_co Tk (r := .tup [.i (.v (.slice none 0 0)), bb false]) rfl rfl rfl trivial rfl rfl ?_
    repeat' (first | refine coD_tup ?_ | refine coD_agg ?_ | refine coD_i ?_ | refine CoDL.cons ?_ ?_ | exact CoDL.nil | exact coI_nil | refine coI_sl ?_ | refine CoLL.cons ?_ ?_ | exact CoLL.nil | refine CoL.cons ?_ ?_ | exact CoL.nil | exact CoI.refl _ | exact CoL.refl _ | exact CoLL.refl _ | exact CoDL.refl _ | exact CoD.refl _)
end Go.AI


/- The law's own pairs. -/
namespace Go.AI
open Go.Proofs
set_option maxRecDepth 20000
section
variable {S : Type} [DecidableEq S]
/-- The search, without a test: all nodes. -/
def bfull (nx : S → Int → S) (ok : S → Bool) (evs : S → List Int) : Nat → Nat → List (S × List Int) → List (S × List Int)
  | 0, _, l => l
  | f + 1, i, l => match l[i]? with
    | none => l
    | some x => bfull nx ok evs f (i + 1) (bvis nx ok x (evs x.1) l)
end
def okO (y : OS) : Bool := decide (0 ≤ y.1)
def prsR (a : Aut) (on : List Int) (n : Nat) : List (OS × List Int) := if n = 0 then [] else bfull (nxO a.edges on [] n) okO (fun _ => a.alpha) 4096 0 [((0, clo a.edges (lowP on [] false) n [0]), [])]
abbrev oprs (l : List (OS × List Int)) : Ob := .arr 106 3 l.length (l.map plI) true
theorem oprs_app (l : List (OS × List Int)) (z : OS × List Int) : Ob.arr 106 3 (l.length + 1) (l.map plI ++ [plI z]) true = oprs (l ++ [z]) := by simp
theorem nil_arr4 (K : Kn) (vs : List Value) (A : Int) (B : List Int) (h : RepL K vs [vi A, intsI B, .v (.slice none 0 0)]) : RepL K vs [vi A, intsI B, .sl 1 0 []] := by
  cases h with
  | cons h1 h => cases h with
    | cons h2 h => cases h with
      | cons h3 h =>
        cases h
        refine .cons h1 (.cons h2 (.cons ?_ .nil))
        cases h3
        exact .nil
abbrev prsD (l : List (OS × List Int)) : D := .i (.sl 3 l.length (l.map plI))
set_option maxHeartbeats 16000000 in
theorem pairs66 (O : List Heap) (a : Aut) (on : List Int) (n : Nat) (h : gAut a n) (hn : n ≤ 5) (hon : on.length ≤ max63) :
    ASpec Tryz.prog 66 [autD a, ints on] O (prsD (prsR a on n)) [] O := by
  have hal := h.sm.al
  have hst := h.st
  have hbeg := fun O => begin73 O a on n h (by omega) hon
  have hnext := fun x (hx : x ∈ subs n) ev O => next34 O a on x ev n h (by omega) (Nat.le_trans (mem_subs hx).1 (by simp only [max63]; omega)) hon
  have hstep := fun s ev O => step121 O a s ev (by have := h.sm.ed; simp only [max63]; omega)
  have hsb := fun s ev => stp3_b (n := (n : Int)) (es := a.edges) (s := s) (ev := ev) h.to
  have hsam := fun x (hx : x ∈ subs n) y O => sameInts36 O x y (Nat.le_trans (mem_subs hx).1 (by simp only [max63]; omega))
  have hVl := statesV_len hn
  have hns : ∀ x ev, nxt a.edges (lowP on [] false) n x ev ∈ subs n := fun x ev => sorted_subs _ _
  have hc0 : clo a.edges (lowP on [] false) n [0] ∈ subs n := sorted_subs _ _
  unfold begR at hbeg
  unfold prsR
  refine aspec_stop [200015, 12, 15, 20] Tk Tryz.func66 rfl Tryz.call66 Tryz.ntmps66 (Nat.le_of_ble_eq_true rfl) fun E => ?_
  refine g_run Tk Tryz.func66 ?_
  first | refine g_cnd Tk Tryz.func66 rfl (fun g0 => ?_) (fun g0 => ?_) | refine g_know Tk Tryz.func66 rfl (fun g0 => ?_) (fun g0 => ?_) | refine s_know Tk (fun g0 => ?_) (fun g0 => ?_)
  rotate_left
  · have g0 : ¬ a.states > 0 := of_decide_eq_false g0
    have hn0 : n = 0 := by omega
    rw [if_pos hn0]
    refine g_loop ?_
    refine g_run Tk Tryz.func66 ?_
    repeat (first | refine g_cnd Tk Tryz.func66 rfl (fun _ => ?_) (fun h => absurd h (by decide)) | refine g_know Tk Tryz.func66 rfl (fun _ => ?_) (fun h => absurd h (by decide)) | refine s_know Tk (fun _ => ?_) (fun h => absurd h (by decide)) | refine g_cnd Tk Tryz.func66 rfl (fun h => absurd h (by decide)) (fun _ => ?_) | refine g_know Tk Tryz.func66 rfl (fun h => absurd h (by decide)) (fun _ => ?_) | refine s_know Tk (fun h => absurd h (by decide)) (fun _ => ?_) | refine g_cnd Tk Tryz.func66 rfl (fun _ => ?_) (fun h => absurd (show true = false from h) (by decide)) | refine g_know Tk Tryz.func66 rfl (fun _ => ?_) (fun h => absurd (show true = false from h) (by decide)) | refine s_know Tk (fun _ => ?_) (fun h => absurd (show true = false from h) (by decide)) | refine g_cnd Tk Tryz.func66 rfl (fun h => absurd (show false = true from h) (by decide)) (fun _ => ?_) | refine g_know Tk Tryz.func66 rfl (fun h => absurd (show false = true from h) (by decide)) (fun _ => ?_) | refine s_know Tk (fun h => absurd (show false = true from h) (by decide)) (fun _ => ?_))
    refine g_ret_co Tk (r := .i (.v (.slice none 0 0))) rfl rfl rfl trivial rfl rfl ?_
    repeat' (first | refine coD_tup ?_ | refine coD_agg ?_ | refine coD_i ?_ | refine CoDL.cons ?_ ?_ | exact CoDL.nil | exact coI_nil | refine coI_sl ?_ | refine CoLL.cons ?_ ?_ | exact CoLL.nil | refine CoL.cons ?_ ?_ | exact CoL.nil | exact CoI.refl _ | exact CoL.refl _ | exact CoLL.refl _ | exact CoDL.refl _ | exact CoD.refl _)
  have g0 : a.states > 0 := of_decide_eq_true g0
  have hn0 : n ≠ 0 := by omega
  rw [if_neg hn0]
  simp only [if_neg hn0] at hbeg
  have hV0 : ((0, clo a.edges (lowP on [] false) n [0]) : OS) ∈ statesV n := mem_statesV.2 ⟨by simp only; omega, hc0⟩
  generalize clo a.edges (lowP on [] false) n [0] = c0 at *
  generalize hK : bfull (nxO a.edges on [] n) okO (fun _ => a.alpha) 4096 0 [((0, c0), [])] = KK
  have hB0 : bOk (statesV n) [((0, c0), ([] : List Int))] := bOk_one hV0
  refine g_pause Tk Tryz.func66 rfl rfl (wk_nil 5 21 106 3 rfl rfl rfl) ?_
  first | refine g_call Tk Tryz.func66 (hbeg _) rfl rfl rfl rfl rfl ?_ | refine s_callq Tk (fun _ => hbeg _) rfl rfl rfl ?_
  first | refine g_need Tk Tryz.func66 (by exact ⟨by decide, by decide⟩) ?_ | refine s_need Tk (by exact ⟨by decide, by decide⟩) ?_
  refine g_loop ?_
  refine rch_wk (wk_ren 21 113 rfl rfl rfl) ?_
  refine rch_wk (wk_arrco 113 (ys := [plI ((0, c0), [])]) rfl rfl rfl (by simp; rfl) fun K vs h => nil_arr4 K vs 0 c0 h) ?_
  refine rch_loop2 (fun x : Nat × Nat × List (OS × List Int) => [(1, ints on), (2, .own 0 2 0 0), (5, .osl 0 113), (6, ii x.1)])
    (fun x => [(2, .box (autC a)), (113, oprs x.2.2)]) (fun _ => O) 115
    (fun x => x.1 ≤ x.2.2.length ∧ bOk (statesV n) x.2.2 ∧ x.2.1 + x.1 = 4096 ∧ bfull (nxO a.edges on [] n) okO (fun _ => a.alpha) x.2.1 x.1 x.2.2 = KK) (fun x => x.2.1) (0, 4096, [((0, c0), [])])
    ⟨Nat.zero_le _, hB0, rfl, hK⟩ ⟨rfl, rfl, rfl, rfl, trivial⟩ rfl ⟨rfl, rfl, trivial⟩ rfl rfl ?_
  clear hB0 hK hV0 hc0 hbeg
  rintro ⟨i, fu, l⟩ ⟨hi, hb, hf, hno⟩ ih
  simp only at hi hb hf hno
  have hll := bOk_len hb
  refine g_run Tk Tryz.func66 ?_
  first | refine g_cnd Tk Tryz.func66 rfl (fun g1 => ?_) (fun g1 => ?_) | refine g_know Tk Tryz.func66 rfl (fun g1 => ?_) (fun g1 => ?_) | refine s_know Tk (fun g1 => ?_) (fun g1 => ?_)
  · have h1 : i < l.length := by simpa using g1
    clear g1
    obtain ⟨fu, rfl⟩ : ∃ f', fu = f' + 1 := ⟨fu - 1, by omega⟩
    have hgi : l[i]? = some l[i] := List.getElem?_eq_getElem h1
    have hzV := mem_statesV.1 (hb.el _ (List.getElem_mem h1))
    simp only [bfull, hgi] at hno
    have hzw := hb.wl i _ hgi
    generalize l[i] = z at *
    obtain ⟨⟨zs, ze⟩, zw⟩ := z
    simp only at hno hzV hzw
    refine g_loop ?_
    refine rch_loop2 (fun x : Nat × List (OS × List Int) => [(1, ints on), (2, .own 0 2 0 0), (5, .osl 0 113), (6, ii i), (7, ii x.1)])
      (fun x => [(2, .box (autC a)), (113, oprs x.2)]) (fun _ => O) 115
      (fun x => x.1 ≤ a.alpha.length ∧ bOk (statesV n) x.2 ∧ i < x.2.length ∧ x.2[i]? = some ((zs, ze), zw) ∧ bfull (nxO a.edges on [] n) okO (fun _ => a.alpha) fu (i + 1) (bvis (nxO a.edges on [] n) okO ((zs, ze), zw) (a.alpha.drop x.1) x.2) = KK) (fun x => a.alpha.length - x.1) (0, l)
      ⟨Nat.zero_le _, hb, h1, hgi, by simpa using hno⟩ ⟨rfl, rfl, rfl, rfl, rfl, trivial⟩ rfl ⟨rfl, rfl, trivial⟩ rfl rfl ?_
    clear hb hno hgi h1 hll hi
    rintro ⟨j, l⟩ ⟨hj, hb, h1, hgi, hno⟩ ih2
    simp only at hj hb h1 hgi hno
    have hll := bOk_len hb
    have hj1 : ii (IntKind.i64.wrap ((j : Int) + 1)) = ii ((j + 1 : Nat) : Int) := congrArg ii (wsucc (n := 1000001) (by omega) (by decide))
    have gl : (l.map plI)[(i : Int).toNat]? = some (plI ((zs, ze), zw)) := by rw [Int.toNat_natCast, List.getElem?_map, hgi]; rfl
    refine g_run Tk Tryz.func66 ?_
    first | refine g_cnd Tk Tryz.func66 rfl (fun g2 => ?_) (fun g2 => ?_) | refine g_know Tk Tryz.func66 rfl (fun g2 => ?_) (fun g2 => ?_) | refine s_know Tk (fun g2 => ?_) (fun g2 => ?_)
    · have h2 : j < a.alpha.length := by simpa using g2
      clear g2
      have gk : (a.alpha.map fun x => [vi x])[(j : Int).toNat]? = some [vi a.alpha[j]] := get_mapZ (f := fun x => [vi x]) h2
      rw [List.drop_eq_getElem_cons h2] at hno
      simp only [bvis] at hno
      generalize a.alpha[j] = ev at *
      have hs1 := hstep zs ev
      have hs2 := hsb zs ev
      have hn1 := hnext ze hzV.2 ev
      have hnx : nxO a.edges on [] n (zs, ze) ev = (stp3 a.edges zs ev, if ev ∈ on then nxt a.edges (lowP on [] false) n ze ev else ze) := rfl
      have hnS : (if ev ∈ on then nxt a.edges (lowP on [] false) n ze ev else ze) ∈ subs n := by
        split
        · exact hns _ _
        · exact hzV.2
      obtain ⟨ne, hne⟩ : ∃ ne, (if ev ∈ on then nxt a.edges (lowP on [] false) n ze ev else ze) = ne := ⟨_, rfl⟩
      rw [hnx, hne] at hno
      rw [hne] at hnS
      generalize stp3 a.edges zs ev = st at *
      first | refine g_need Tk Tryz.func66 (by exact ⟨by omega, by show (j : Int) < (a.alpha.length : Int); omega⟩) ?_ | refine s_need Tk (by exact ⟨by omega, by show (j : Int) < (a.alpha.length : Int); omega⟩) ?_
      first | refine g_elem Tk Tryz.func66 (gk) ?_ | refine s_elem Tk (gk) ?_
      refine g_drawn Tk Tryz.func66 mixedT rfl ?_
      first | refine g_need Tk Tryz.func66 (by exact ⟨by omega, by show (i : Int) < (l.length : Int); omega⟩) ?_ | refine s_need Tk (by exact ⟨by omega, by show (i : Int) < (l.length : Int); omega⟩) ?_
      first | refine g_elem Tk Tryz.func66 (gl) ?_ | refine s_elem Tk (gl) ?_
      first | refine g_call Tk Tryz.func66 (hs1 _) rfl rfl rfl rfl rfl ?_ | refine s_callq Tk (fun _ => hs1 _) rfl rfl rfl ?_
      first | refine g_need Tk Tryz.func66 (by exact ⟨by omega, by show (i : Int) < (l.length : Int); omega⟩) ?_ | refine s_need Tk (by exact ⟨by omega, by show (i : Int) < (l.length : Int); omega⟩) ?_
      first | refine g_elem Tk Tryz.func66 (gl) ?_ | refine s_elem Tk (gl) ?_
      first | refine g_need Tk Tryz.func66 (by exact ⟨by omega, by show (i : Int) < (l.length : Int); omega⟩) ?_ | refine s_need Tk (by exact ⟨by omega, by show (i : Int) < (l.length : Int); omega⟩) ?_
      first | refine g_elem Tk Tryz.func66 (gl) ?_ | refine s_elem Tk (gl) ?_
      refine s_old Tk ?_
      refine d_need Tk (by exact ⟨by show (0 + zw.length) * 8 ≤ 140737488355328; omega, by show 0 + zw.length ≤ 9223372036854775807; omega⟩) ?_
      refine d_mod Tk (p := ⟨[(59, .osl 0 59), (53, .dead)], [(59, .arr 3 1 (0 + zw.length) ([] ++ zw.map fun x => [vi x]) true)], some 53⟩) rfl rfl rfl ?_
      refine d_need Tk (by exact ⟨by show (0 + zw.length + 1) * 8 ≤ 140737488355328; omega, by show 0 + zw.length + 1 ≤ 9223372036854775807; omega⟩) ?_
      refine d_mod Tk (p := ⟨[(62, .osl 0 62), (59, .dead)], [(62, .arr 3 1 (0 + zw.length + 1) (([] ++ zw.map fun x => [vi x]) ++ [[vi ev]]) true)], some 59⟩) rfl rfl rfl ?_
      refine d_mod Tk (p := ⟨[], [(9, .box [ii st, ints ze, .osl 0 62])], none⟩) rfl rfl rfl ?_
      refine d_done Tk Tryz.func66 (by kernel_rfl) (GM.h ?_)
      have e94 : Ob.box [ii st, ints ze, .i (.sl 1 (0 + zw.length + 1) (([] ++ zw.map fun x => [vi x]) ++ [[vi ev]]))] = .box [ii st, ints ze, ints (zw ++ [ev])] := by simp
      refine g_stop ?_
      refine rch_wk (wk_freeze 62 rfl rfl) ?_
      refine rch_wk (wk_imm rfl) ?_
      refine rch_wk (wk_cut (l := [(1, ints on), (2, .own 0 2 0 0), (5, .osl 0 113), (6, ii i), (7, ii j), (8, ii ev), (9, .own 0 9 0 0)])
        (Hv := [(2, .box (autC a)), (113, oprs l), (9, .box [ii st, ints ze, ints (zw ++ [ev])])]) ⟨rfl, rfl, rfl, rfl, rfl, rfl, rfl, trivial⟩ rfl ⟨rfl, rfl, congrArg some e94, trivial⟩ rfl rfl) ?_
      have hzl : (zw ++ [ev]).length = zw.length + 1 := by simp
      have hbo : (0 ≤ st) → (∀ z ∈ l, z.1 ≠ (st, ne)) → bOk (statesV n) (l ++ [((st, ne), zw ++ [ev])]) := fun h0 h => bOk_app hb hgi (mem_statesV.2 ⟨by simp only; omega, hnS⟩) h ev
      generalize zw ++ [ev] = zw2 at *
      have hhas := fun O => has30 O on ev hon
      refine g_run Tk Tryz.func66 ?_
      refine g_go Tk Tryz.func66 ?_
      first | refine g_cnd Tk Tryz.func66 rfl (fun c2 => ?_) (fun c2 => ?_) | refine g_know Tk Tryz.func66 rfl (fun c2 => ?_) (fun c2 => ?_) | refine s_know Tk (fun c2 => ?_) (fun c2 => ?_)
      · have c2 : st < 0 := of_decide_eq_true c2
        rw [if_neg (fun h => by have := of_decide_eq_true h.1; simp only at this; omega)] at hno
        refine g_loop ?_
        exact ih2 (j + 1, l) _ _ ⟨h2, hb, h1, hgi, hno⟩ (by simp only; omega) ⟨rfl, rfl, rfl, rfl, hj1, trivial⟩ rfl ⟨rfl, rfl, trivial⟩ rfl rfl
      have c2 : 0 ≤ st := by have := of_decide_eq_false c2; omega
      apply join_p (P := True) (s6 := { σ := [(1, ints on), (2, .own 0 2 0 0), (5, .osl 0 113), (6, ii i), (7, ii j), (9, .own 0 9 0 0)], S := [(2, .box (autC a)), (113, oprs l), (9, .box [ii st, ints ne, ints zw2])] :: O, n := 115 })
      · intro J
        first | refine g_call Tk Tryz.func66 (hhas _) rfl rfl rfl rfl rfl ?_ | refine s_callq Tk (fun _ => hhas _) rfl rfl rfl ?_
        first | refine g_cnd Tk Tryz.func66 rfl (fun c3 => ?_) (fun c3 => ?_) | refine g_know Tk Tryz.func66 rfl (fun c3 => ?_) (fun c3 => ?_) | refine s_know Tk (fun c3 => ?_) (fun c3 => ?_)
        · have c3 : ev ∈ on := of_decide_eq_true c3
          rw [if_pos c3] at hne
          rw [hne] at hn1
          refine g_drawn Tk Tryz.func66 mixedT rfl ?_
          first | refine g_need Tk Tryz.func66 (by exact ⟨by omega, by show (i : Int) < (l.length : Int); omega⟩) ?_ | refine s_need Tk (by exact ⟨by omega, by show (i : Int) < (l.length : Int); omega⟩) ?_
          first | refine g_elem Tk Tryz.func66 (gl) ?_ | refine s_elem Tk (gl) ?_
          first | refine g_call Tk Tryz.func66 (hn1 _) rfl rfl rfl rfl rfl ?_ | refine s_callq Tk (fun _ => hn1 _) rfl rfl rfl ?_
          refine s_old Tk ?_
          refine d_mod Tk (p := ⟨[], [(9, .box [ii st, ints ne, ints zw2])], none⟩) rfl rfl rfl ?_
          refine d_done Tk Tryz.func66 (by kernel_rfl) (GM.h ?_)
          refine g_stop ?_
          refine rch_meet (J trivial) ⟨rfl, rfl, rfl, rfl, rfl, rfl, trivial⟩ rfl ⟨rfl, rfl, rfl, trivial⟩ rfl rfl
        · have c3 : ev ∉ on := of_decide_eq_false c3
          rw [if_neg c3] at hne
          subst hne
          refine g_stop ?_
          refine rch_meet (J trivial) ⟨rfl, rfl, rfl, rfl, rfl, rfl, trivial⟩ rfl ⟨rfl, rfl, rfl, trivial⟩ rfl rfl
      intro _
      clear hn1 hne hhas hs1
      refine g_run Tk Tryz.func66 ?_
      refine g_go Tk Tryz.func66 ?_
      refine g_loop ?_
      refine rch_loop2 (fun x : Nat × Bool => [(1, ints on), (2, .own 0 2 0 0), (5, .osl 0 113), (6, ii i), (7, ii j), (9, .own 0 9 0 0), (10, bb x.2), (11, ii x.1)])
        (fun x => [(2, .box (autC a)), (113, oprs l), (9, .box [ii st, ints ne, ints zw2])]) (fun _ => O) 115
        (fun x => x.1 ≤ l.length ∧ (x.2 = true → ∃ z ∈ l, z.1 = (st, ne)) ∧ (x.2 = false → ∀ z ∈ l.take x.1, z.1 ≠ (st, ne))) (fun x => l.length - x.1) (0, false)
        ⟨Nat.zero_le _, (fun e => by cases e), fun _ => by simp⟩ ⟨rfl, rfl, rfl, rfl, rfl, rfl, rfl, rfl, trivial⟩ rfl ⟨rfl, rfl, rfl, trivial⟩ rfl rfl ?_
      rintro ⟨k, sn⟩ ⟨hk, hs1, hs2⟩ ih3
      simp only at hk hs1 hs2
      have hfin : (sn = true ∨ l.length ≤ k) → sn = false → (∀ z ∈ l, z.1 ≠ (st, ne)) := fun h1 h2 => by
        rcases h1 with h1 | h1
        · rw [h1] at h2; cases h2
        · have := hs2 h2
          rw [List.take_of_length_le h1] at this
          exact this
      apply join_p (P := sn = true ∨ l.length ≤ k) (s6 := { σ := [(1, ints on), (2, .own 0 2 0 0), (5, .osl 0 113), (6, ii i), (7, ii j), (9, .own 0 9 0 0), (10, bb sn)], S := [(2, .box (autC a)), (113, oprs l), (9, .box [ii st, ints ne, ints zw2])] :: O, n := 115 })
      · intro J
        refine g_run Tk Tryz.func66 ?_
        first | refine g_cnd Tk Tryz.func66 rfl (fun c3 => ?_) (fun c3 => ?_) | refine g_know Tk Tryz.func66 rfl (fun c3 => ?_) (fun c3 => ?_) | refine s_know Tk (fun c3 => ?_) (fun c3 => ?_)
        · have h3 : k < l.length := by simpa using c3
          first | refine g_cnd Tk Tryz.func66 rfl (fun c4 => ?_) (fun c4 => ?_) | refine g_know Tk Tryz.func66 rfl (fun c4 => ?_) (fun c4 => ?_) | refine s_know Tk (fun c4 => ?_) (fun c4 => ?_)
          · have c4 : sn = false := notT c4
            have htk := hs2 c4
            have gk2 : (l.map plI)[(k : Int).toNat]? = some (plI l[k]) := get_mapZ h3
            have hkV := mem_statesV.1 (hb.el _ (List.getElem_mem h3))
            have htk1 : ∀ (e : l[k].1 ≠ (st, ne)), ∀ z ∈ l.take (k + 1), z.1 ≠ (st, ne) := fun e z hz => by
              rw [List.take_add_one, List.getElem?_eq_getElem h3, List.mem_append] at hz
              rcases hz with hz | hz
              · exact htk z hz
              · simp only [Option.toList_some, List.mem_singleton] at hz
                rw [hz]; exact e
            have hin : l[k].1 = (st, ne) → ∃ z ∈ l, z.1 = (st, ne) := fun e => ⟨_, List.getElem_mem h3, e⟩
            have s2 := fun O => hsam l[k].1.2 hkV.2 ne O
            generalize l[k] = q at *
            obtain ⟨⟨qa, qb⟩, qw⟩ := q
            simp only at htk1 hin s2
            refine g_drawn Tk Tryz.func66 mixedT rfl ?_
            first | refine g_need Tk Tryz.func66 (by exact ⟨by omega, by show (k : Int) < (l.length : Int); omega⟩) ?_ | refine s_need Tk (by exact ⟨by omega, by show (k : Int) < (l.length : Int); omega⟩) ?_
            first | refine g_elem Tk Tryz.func66 (gk2) ?_ | refine s_elem Tk (gk2) ?_
            first | refine g_cnd Tk Tryz.func66 rfl (fun c5 => ?_) (fun c5 => ?_) | refine g_know Tk Tryz.func66 rfl (fun c5 => ?_) (fun c5 => ?_) | refine s_know Tk (fun c5 => ?_) (fun c5 => ?_)
            · have c5 : qa = st := beqT c5
              first | refine g_need Tk Tryz.func66 (by exact ⟨by omega, by show (k : Int) < (l.length : Int); omega⟩) ?_ | refine s_need Tk (by exact ⟨by omega, by show (k : Int) < (l.length : Int); omega⟩) ?_
              first | refine g_elem Tk Tryz.func66 (gk2) ?_ | refine s_elem Tk (gk2) ?_
              first | refine g_call Tk Tryz.func66 (s2 _) rfl rfl rfl rfl rfl ?_ | refine s_callq Tk (fun _ => s2 _) rfl rfl rfl ?_
              refine e_done Tk Tryz.func66 (by kernel_rfl) ?_
              refine g_loop ?_
              refine ih3 (k + 1, decide (qb = ne)) _ _ ⟨h3, fun e => hin (by rw [c5, of_decide_eq_true e]), fun e => htk1 fun e2 => of_decide_eq_false e (Prod.mk.inj e2).2⟩ (by simp only; omega) ⟨rfl, rfl, rfl, rfl, rfl, rfl, rfl, congrArg ii (wsucc (n := 1000001) (by omega) (by decide)), trivial⟩ rfl ⟨rfl, rfl, rfl, trivial⟩ rfl rfl
            · have c5 : qa ≠ st := beqF c5
              refine e_done Tk Tryz.func66 (by kernel_rfl) ?_
              refine g_loop ?_
              refine ih3 (k + 1, false) _ _ ⟨h3, (fun e => by cases e), fun e => htk1 fun e2 => c5 (Prod.mk.inj e2).1⟩ (by simp only; omega) ⟨rfl, rfl, rfl, rfl, rfl, rfl, rfl, congrArg ii (wsucc (n := 1000001) (by omega) (by decide)), trivial⟩ rfl ⟨rfl, rfl, rfl, trivial⟩ rfl rfl
          · have c4 : sn = true := notF c4
            refine g_stop ?_
            refine rch_meet (J (.inl c4)) ⟨rfl, rfl, rfl, rfl, rfl, rfl, rfl, trivial⟩ rfl ⟨rfl, rfl, rfl, trivial⟩ rfl rfl
        · have h3 : l.length ≤ k := by simpa using c3
          repeat (first | refine g_cnd Tk Tryz.func66 rfl (fun _ => ?_) (fun h => absurd h (by decide)) | refine g_know Tk Tryz.func66 rfl (fun _ => ?_) (fun h => absurd h (by decide)) | refine s_know Tk (fun _ => ?_) (fun h => absurd h (by decide)) | refine g_cnd Tk Tryz.func66 rfl (fun h => absurd h (by decide)) (fun _ => ?_) | refine g_know Tk Tryz.func66 rfl (fun h => absurd h (by decide)) (fun _ => ?_) | refine s_know Tk (fun h => absurd h (by decide)) (fun _ => ?_) | refine g_cnd Tk Tryz.func66 rfl (fun _ => ?_) (fun h => absurd (show true = false from h) (by decide)) | refine g_know Tk Tryz.func66 rfl (fun _ => ?_) (fun h => absurd (show true = false from h) (by decide)) | refine s_know Tk (fun _ => ?_) (fun h => absurd (show true = false from h) (by decide)) | refine g_cnd Tk Tryz.func66 rfl (fun h => absurd (show false = true from h) (by decide)) (fun _ => ?_) | refine g_know Tk Tryz.func66 rfl (fun h => absurd (show false = true from h) (by decide)) (fun _ => ?_) | refine s_know Tk (fun h => absurd (show false = true from h) (by decide)) (fun _ => ?_))
          refine g_stop ?_
          refine rch_meet (J (.inr h3)) ⟨rfl, rfl, rfl, rfl, rfl, rfl, rfl, trivial⟩ rfl ⟨rfl, rfl, rfl, trivial⟩ rfl rfl
      intro hsk
      have hfin := hfin hsk
      refine g_run Tk Tryz.func66 ?_
      refine g_go Tk Tryz.func66 ?_
      first | refine g_cnd Tk Tryz.func66 rfl (fun c5 => ?_) (fun c5 => ?_) | refine g_know Tk Tryz.func66 rfl (fun c5 => ?_) (fun c5 => ?_) | refine s_know Tk (fun c5 => ?_) (fun c5 => ?_)
      · have c5 : sn = false := notT c5
        have f2 := hfin c5
        rw [if_pos ⟨decide_eq_true c2, f2⟩] at hno
        first | refine g_need Tk Tryz.func66 (by exact ⟨by show (l.length + 1) * 56 ≤ 140737488355328; omega, by show l.length + 1 ≤ 9223372036854775807; omega⟩) ?_ | refine s_need Tk (by exact ⟨by show (l.length + 1) * 56 ≤ 140737488355328; omega, by show l.length + 1 ≤ 9223372036854775807; omega⟩) ?_
        refine g_loop ?_
        refine ih2 (j + 1, l ++ [((st, ne), zw2)]) _ _ ⟨h2, hbo c2 f2, by rw [List.length_append]; omega, by rw [List.getElem?_append_left h1]; exact hgi, hno⟩ (by simp only; omega) ⟨rfl, rfl, rfl, rfl, hj1, trivial⟩ rfl ⟨rfl, congrArg some (oprs_app l ((st, ne), zw2)), trivial⟩ rfl rfl
      · have c5 : sn = true := notF c5
        rw [if_neg (fun h => by
          obtain ⟨z, hz, h3⟩ := hs1 c5
          exact h.2 z hz h3)] at hno
        refine g_loop ?_
        exact ih2 (j + 1, l) _ _ ⟨h2, hb, h1, hgi, hno⟩ (by simp only; omega) ⟨rfl, rfl, rfl, rfl, hj1, trivial⟩ rfl ⟨rfl, rfl, trivial⟩ rfl rfl
    · have h2 : a.alpha.length ≤ j := by simpa using g2
      rw [List.drop_eq_nil_of_le h2] at hno
      refine g_loop ?_
      exact ih (i + 1, fu, l) _ _ ⟨h1, hb, by simp only; omega, hno⟩ (by simp only; omega) ⟨rfl, rfl, rfl, congrArg ii (wsucc (n := 1000001) (by omega) (by decide)), trivial⟩ rfl ⟨rfl, rfl, trivial⟩ rfl rfl
  · have h1 : l.length ≤ i := by simpa using g1
    obtain ⟨fu, rfl⟩ : ∃ f', fu = f' + 1 := ⟨fu - 1, by omega⟩
    simp only [bfull, List.getElem?_eq_none h1] at hno
    subst hno
    refine g_rwk (wk_freeze 113 rfl rfl) ?_
    refine g_ret Tk (r := prsD l) rfl rfl rfl trivial rfl rfl ?_
    rfl
end Go.AI


/- Plain: the search and its list; searches that are images of one another. -/
namespace Go.AI
section
variable {S : Type} [DecidableEq S]
theorem bvis_pre (nx : S → Int → S) (ok : S → Bool) (x : S × List Int) : ∀ (es : List Int) (l : List (S × List Int)), l <+: bvis nx ok x es l
  | [], l => List.prefix_refl l
  | ev :: r, l => by
    simp only [bvis]
    split
    · exact (List.prefix_append _ _).trans (bvis_pre nx ok x r _)
    · exact bvis_pre nx ok x r l
theorem bfull_pre (nx : S → Int → S) (ok : S → Bool) (evs : S → List Int) : ∀ (f i : Nat) (l : List (S × List Int)), l <+: bfull nx ok evs f i l
  | 0, _, l => List.prefix_refl l
  | f + 1, i, l => by
    simp only [bfull]
    split
    · exact List.prefix_refl l
    · exact (bvis_pre nx ok _ _ l).trans (bfull_pre nx ok evs f (i + 1) _)
theorem bvis_ok {V : List S} {nx : S → Int → S} {ok : S → Bool} {x : S × List Int} {i : Nat} : ∀ {es : List Int} {l : List (S × List Int)}, (∀ ev ∈ es, ok (nx x.1 ev) = true → nx x.1 ev ∈ V) → bOk V l → l[i]? = some x → bOk V (bvis nx ok x es l)
  | [], l, _, h, _ => h
  | ev :: r, l, hv, h, hi => by
    have hv2 : ∀ ev ∈ r, ok (nx x.1 ev) = true → nx x.1 ev ∈ V := fun e he => hv e (by simp [he])
    simp only [bvis]
    split
    · rename_i hc
      refine bvis_ok (i := i) hv2 (bOk_app h hi (hv ev (by simp) hc.1) hc.2 ev) ?_
      have : i < l.length := (List.getElem?_eq_some_iff.1 hi).1
      rw [List.getElem?_append_left this]
      exact hi
    · exact bvis_ok hv2 h hi
theorem bfull_ok {V : List S} {nx : S → Int → S} {ok : S → Bool} {evs : S → List Int} (hv : ∀ x ∈ V, ∀ ev ∈ evs x, ok (nx x ev) = true → nx x ev ∈ V) : ∀ (f i : Nat) (l : List (S × List Int)), bOk V l → bOk V (bfull nx ok evs f i l)
  | 0, _, l, h => h
  | f + 1, i, l, h => by
    simp only [bfull]
    cases hi : l[i]? with
    | none => exact h
    | some x =>
      have hx : x.1 ∈ V := h.el x (List.mem_of_getElem? hi)
      exact bfull_ok hv f (i + 1) _ (bvis_ok (hv x.1 hx) h hi)
/-- The search finds the first bad node of its list. -/
theorem bsr_find {V : List S} {nx : S → Int → S} {ok : S → Bool} {evs : S → List Int} {bad : S → Bool} (hv : ∀ x ∈ V, ∀ ev ∈ evs x, ok (nx x ev) = true → nx x ev ∈ V) {N : Nat} (hN : V.length < N) : ∀ (f i : Nat) (l : List (S × List Int)), f + i = N → i ≤ l.length → bOk V l → (∀ z ∈ l.take i, bad z.1 = false) →
    bsr nx ok evs bad f i l = (bfull nx ok evs f i l).find? fun z => bad z.1
  | 0, i, l, hf, hi, h, _ => by
    have := bOk_len h
    omega
  | f + 1, i, l, hf, hi, h, hb => by
    simp only [bsr, bfull]
    cases hg : l[i]? with
    | none =>
      have : l.length ≤ i := by
        rcases Nat.lt_or_ge i l.length with h1 | h1
        · rw [List.getElem?_eq_getElem h1] at hg; cases hg
        · exact h1
      rw [List.take_of_length_le this] at hb
      simp only
      symm
      rw [List.find?_eq_none]
      intro z hz
      rw [hb z hz]; simp
    | some x =>
      have hlt : i < l.length := (List.getElem?_eq_some_iff.1 hg).1
      have hx : x.1 ∈ V := h.el x (List.mem_of_getElem? hg)
      have htk : l.take (i + 1) = l.take i ++ [x] := by rw [List.take_add_one, hg]; rfl
      simp only
      by_cases hbx : bad x.1 = true
      · rw [if_pos hbx]
        obtain ⟨r1, hr1⟩ := bvis_pre nx ok x (evs x.1) l
        obtain ⟨r2, hr2⟩ := bfull_pre nx ok evs f (i + 1) (bvis nx ok x (evs x.1) l)
        rw [← hr2, ← hr1]
        have hl : l = l.take i ++ (x :: l.drop (i + 1)) := by
          have h0 := List.take_append_drop (i + 1) l
          rw [htk, List.append_assoc] at h0
          exact h0.symm
        symm
        rw [hl, List.append_assoc, List.append_assoc, List.find?_append, List.find?_eq_none.2 (fun z hz => by rw [hb z hz]; simp), Option.none_or, List.cons_append, List.find?_cons, hbx]
      · rw [if_neg hbx]
        have hp := bvis_pre nx ok x (evs x.1) l
        refine bsr_find hv hN f (i + 1) _ (by omega) (Nat.le_trans hlt hp.length_le) (bvis_ok (hv x.1 hx) h hg) fun z hz => ?_
        have e : (bvis nx ok x (evs x.1) l).take (i + 1) = l.take (i + 1) := by
          obtain ⟨r, hr⟩ := hp
          rw [← hr, List.take_append_of_le_length (by omega)]
        rw [e, htk, List.mem_append, List.mem_singleton] at hz
        rcases hz with hz | rfl
        · exact hb z hz
        · simpa using hbx
/-- The events that lead nowhere may be left out. -/
theorem bvis_filter {nx : S → Int → S} {ok : S → Bool} {x : S × List Int} : ∀ {es : List Int} {l : List (S × List Int)}, bvis nx ok x es l = bvis nx (fun _ => true) x (es.filter fun ev => ok (nx x.1 ev)) l
  | [], l => rfl
  | ev :: r, l => by
    rw [List.filter_cons]
    cases hc : ok (nx x.1 ev) with
    | true =>
      simp only [bvis, hc, if_true, true_and]
      exact bvis_filter
    | false =>
      simp only [bvis, hc, Bool.false_eq_true, false_and, if_false]
      exact bvis_filter
theorem bfull_filter {V : List S} {nx : S → Int → S} {ok : S → Bool} {evs evs' : S → List Int} (hv : ∀ x ∈ V, ∀ ev ∈ evs x, ok (nx x ev) = true → nx x ev ∈ V) (he : ∀ x ∈ V, evs' x = (evs x).filter fun ev => ok (nx x ev)) : ∀ (f i : Nat) (l : List (S × List Int)), bOk V l → bfull nx ok evs f i l = bfull nx (fun _ => true) evs' f i l
  | 0, _, l, h => rfl
  | f + 1, i, l, h => by
    simp only [bfull]
    cases hi : l[i]? with
    | none => rfl
    | some x =>
      have hx : x.1 ∈ V := h.el x (List.mem_of_getElem? hi)
      simp only
      rw [he x.1 hx, ← bvis_filter]
      exact bfull_filter hv he f (i + 1) _ (bvis_ok (hv x.1 hx) h hi)
end
section
variable {S : Type} [DecidableEq S]
theorem bvis_has {nx : S → Int → S} {ok : S → Bool} {x : S × List Int} : ∀ {es : List Int} {l : List (S × List Int)} {ev : Int}, ev ∈ es → ok (nx x.1 ev) = true → ∃ w ∈ bvis nx ok x es l, w.1 = nx x.1 ev
  | e :: r, l, ev, h, c => by
    rcases List.mem_cons.1 h with rfl | h
    · simp only [bvis]
      by_cases c2 : ∀ z ∈ l, z.1 ≠ nx x.1 ev
      · rw [if_pos ⟨c, c2⟩]
        exact ⟨(nx x.1 ev, x.2 ++ [ev]), (bvis_pre nx ok x r _).subset (by simp), rfl⟩
      · rw [if_neg (fun h => c2 h.2)]
        by_cases c3 : ∃ z ∈ l, z.1 = nx x.1 ev
        · obtain ⟨z, hz, e⟩ := c3
          exact ⟨z, (bvis_pre nx ok x r l).subset hz, e⟩
        · exact absurd (fun z hz e => c3 ⟨z, hz, e⟩) c2
    · simp only [bvis]
      exact bvis_has h c
end
/- Images. -/
section
variable {S T : Type} [DecidableEq S] [DecidableEq T]
def addF (acc : List (T × List Int)) (z : T × List Int) : List (T × List Int) := if ∀ y ∈ acc, y.1 ≠ z.1 then acc ++ [z] else acc
/-- The nodes' images, each where it comes first. -/
def img (h : S → Option T) (l : List (S × List Int)) : List (T × List Int) := l.foldl (fun acc z => match h z.1 with
  | none => acc
  | some y => addF acc (y, z.2)) []
theorem img_snoc (h : S → Option T) (l : List (S × List Int)) (z : S × List Int) : img h (l ++ [z]) = match h z.1 with
    | none => img h l
    | some y => addF (img h l) (y, z.2) := by
  unfold img
  rw [List.foldl_append]
  rfl
theorem addF_pre (acc : List (T × List Int)) (z : T × List Int) : acc <+: addF acc z := by
  unfold addF
  split
  · exact List.prefix_append _ _
  · exact List.prefix_refl _
theorem img_pre (h : S → Option T) : ∀ (m l : List (S × List Int)), img h l <+: img h (l ++ m)
  | [], l => by rw [List.append_nil]; exact List.prefix_refl _
  | z :: r, l => by
    have e : l ++ z :: r = (l ++ [z]) ++ r := by simp
    rw [e]
    refine List.IsPrefix.trans ?_ (img_pre h r (l ++ [z]))
    rw [img_snoc]
    split
    · exact List.prefix_refl _
    · exact addF_pre _ _
theorem addF_mem (acc : List (T × List Int)) (z : T × List Int) (y : T) : (∃ w ∈ addF acc z, w.1 = y) ↔ (∃ w ∈ acc, w.1 = y) ∨ z.1 = y := by
  unfold addF
  split
  · constructor
    · rintro ⟨w, hw, e⟩
      rcases List.mem_append.1 hw with hw | hw
      · exact .inl ⟨w, hw, e⟩
      · rw [List.mem_singleton] at hw; subst hw; exact .inr e
    · rintro (⟨w, hw, e⟩ | e)
      · exact ⟨w, by simp [hw], e⟩
      · exact ⟨z, by simp, e⟩
  · rename_i hn
    constructor
    · exact .inl
    · rintro (hw | e)
      · exact hw
      · by_cases c : ∃ q ∈ acc, q.1 = z.1
        · obtain ⟨q, hq, e2⟩ := c
          exact ⟨q, hq, e2.trans e⟩
        · exact absurd (fun q hq e => c ⟨q, hq, e⟩) hn
theorem img_memA (h : S → Option T) (y : T) : ∀ (l : List (S × List Int)) (acc : List (T × List Int)), (∃ w ∈ l.foldl (fun acc z => match h z.1 with
  | none => acc
  | some y => addF acc (y, z.2)) acc, w.1 = y) ↔ (∃ w ∈ acc, w.1 = y) ∨ ∃ z ∈ l, h z.1 = some y
  | [], acc => by simp
  | z :: r, acc => by
    rw [List.foldl_cons, img_memA h y r]
    cases hz : h z.1 with
    | none =>
      simp only
      constructor
      · rintro (hw | ⟨w, hw, e⟩)
        · exact .inl hw
        · exact .inr ⟨w, by simp [hw], e⟩
      · rintro (hw | ⟨w, hw, e⟩)
        · exact .inl hw
        · rcases List.mem_cons.1 hw with rfl | hw
          · rw [hz] at e; cases e
          · exact .inr ⟨w, hw, e⟩
    | some u =>
      simp only [addF_mem]
      constructor
      · rintro ((hw | e) | ⟨w, hw, e⟩)
        · exact .inl hw
        · exact .inr ⟨z, by simp, by rw [hz, e]⟩
        · exact .inr ⟨w, by simp [hw], e⟩
      · rintro (hw | ⟨w, hw, e⟩)
        · exact .inl (.inl hw)
        · rcases List.mem_cons.1 hw with rfl | hw
          · rw [hz] at e; exact .inl (.inr (Option.some.inj e))
          · exact .inr ⟨w, hw, e⟩
theorem img_mem (h : S → Option T) (l : List (S × List Int)) (y : T) : (∃ w ∈ img h l, w.1 = y) ↔ ∃ z ∈ l, h z.1 = some y := by
  unfold img
  rw [img_memA]
  simp
/-- The first node with a property of its image. -/
theorem addF_find (p : T → Bool) (acc : List (T × List Int)) (z : T × List Int) : (addF acc z).find? (fun w => p w.1) = (acc ++ [z]).find? (fun w => p w.1) := by
  unfold addF
  split
  · rfl
  · rename_i hn
    rw [List.find?_append]
    cases hf : acc.find? (fun w => p w.1) with
    | some w => rfl
    | none =>
      by_cases c : ∃ q ∈ acc, q.1 = z.1
      · obtain ⟨q, hq, e⟩ := c
        have := List.find?_eq_none.1 hf q hq
        rw [Option.none_or, List.find?_cons]
        have e2 : p z.1 = false := by rw [← e]; simpa using this
        rw [e2]; rfl
      · exact absurd (fun q hq e => c ⟨q, hq, e⟩) hn
def optB {T : Type} (p : T → Bool) : Option T → Bool
  | none => false
  | some y => p y
theorem img_findA (h : S → Option T) (p : T → Bool) : ∀ (l : List (S × List Int)) (acc : List (T × List Int)), (l.foldl (fun acc z => match h z.1 with
  | none => acc
  | some y => addF acc (y, z.2)) acc).find? (fun w => p w.1) = (acc.find? fun w => p w.1).or ((l.find? fun z => optB p (h z.1)).bind fun z => (h z.1).map fun y => (y, z.2))
  | [], acc => by simp
  | z :: r, acc => by
    rw [List.foldl_cons, img_findA h p r, List.find?_cons]
    cases hz : h z.1 with
    | none => simp only [hz, optB]
    | some u =>
      simp only [hz, optB, addF_find, List.find?_append, List.find?_cons]
      cases hp : p u with
      | true =>
        simp only [hz]
        cases acc.find? (fun w => p w.1) with
        | some w => rfl
        | none => simp [hz]
      | false =>
        simp only [List.find?_nil]
        cases acc.find? (fun w => p w.1) with
        | some w => rfl
        | none => rfl
theorem img_find (h : S → Option T) (p : T → Bool) (l : List (S × List Int)) : (img h l).find? (fun w => p w.1) = (l.find? fun z => optB p (h z.1)).bind fun z => (h z.1).map fun y => (y, z.2) := by
  unfold img
  rw [img_findA]
  rfl
/-- One node's visits, seen in the image. -/
theorem bvis_img {nx : S → Int → S} {ok : S → Bool} {nx' : T → Int → T} {ok' : T → Bool} {h : S → Option T} {x : S × List Int} {y : T} (hstep : ∀ ev, (if ok (nx x.1 ev) = true then h (nx x.1 ev) else none) = if ok' (nx' y ev) = true then some (nx' y ev) else none) :
    ∀ (es : List Int) (l : List (S × List Int)), img h (bvis nx ok x es l) = bvis nx' ok' (y, x.2) es (img h l)
  | [], l => rfl
  | ev :: r, l => by
    simp only [bvis]
    rw [bvis_img hstep r]
    congr 1
    have hs := hstep ev
    by_cases c : ok' (nx' y ev) = true
    · rw [if_pos c] at hs
      have c1 : ok (nx x.1 ev) = true := by
        by_cases c1 : ok (nx x.1 ev) = true
        · exact c1
        · rw [if_neg c1] at hs; cases hs
      rw [if_pos c1] at hs
      by_cases c2 : ∀ z ∈ l, z.1 ≠ nx x.1 ev
      · rw [if_pos ⟨c1, c2⟩, img_snoc]
        simp only [hs, addF]
        by_cases c3 : ∀ w ∈ img h l, w.1 ≠ nx' y ev
        · rw [if_pos c3, if_pos ⟨c, c3⟩]
        · rw [if_neg c3, if_neg (fun h => c3 h.2)]
      · rw [if_neg (fun h => c2 h.2)]
        rw [if_neg]
        rintro ⟨_, c3⟩
        apply c2
        intro z hz e
        obtain ⟨w, hw, e2⟩ := (img_mem h l (nx' y ev)).2 ⟨z, hz, by rw [e, hs]⟩
        exact c3 w hw e2
    · rw [if_neg c] at hs
      have rhs : (if ok' (nx' y ev) = true ∧ ∀ z ∈ img h l, z.1 ≠ nx' y ev then img h l ++ [(nx' y ev, x.2 ++ [ev])] else img h l) = img h l := if_neg (fun h => c h.1)
      rw [rhs]
      by_cases c2 : ok (nx x.1 ev) = true ∧ ∀ z ∈ l, z.1 ≠ nx x.1 ev
      · rw [if_pos c2]
        rw [if_pos c2.1] at hs
        rw [img_snoc]
        simp only [hs]
      · rw [if_neg c2]
/-- Visits that the image does not see. -/
theorem bvis_img0 {nx : S → Int → S} {ok : S → Bool} {h : S → Option T} {x : S × List Int} : ∀ (es : List Int) (l : List (S × List Int)), (∀ ev ∈ es, ok (nx x.1 ev) = true → ∀ u, h (nx x.1 ev) = some u → ∃ w ∈ img h l, w.1 = u) → img h (bvis nx ok x es l) = img h l
  | [], l, _ => rfl
  | ev :: r, l, hs => by
    simp only [bvis]
    have e : img h (if ok (nx x.1 ev) = true ∧ ∀ z ∈ l, z.1 ≠ nx x.1 ev then l ++ [(nx x.1 ev, x.2 ++ [ev])] else l) = img h l := by
      split
      · rename_i c
        rw [img_snoc]
        cases hu : h (nx x.1 ev) with
        | none => rfl
        | some u =>
          simp only [addF]
          rw [if_neg]
          intro hn
          obtain ⟨w, hw, e⟩ := hs ev (by simp) c.1 u hu
          exact hn w hw e
      · rfl
    rw [bvis_img0 r _ fun ev he c u hu => by rw [e]; exact hs ev (by simp [he]) c u hu, e]
/-- A SEARCH AND ITS IMAGE. -/
theorem bfull_img {V : List S} {nx : S → Int → S} {ok : S → Bool} {evs : S → List Int} {nx' : T → Int → T} {ok' : T → Bool} {evs' : T → List Int} {h : S → Option T}
    (hv : ∀ x ∈ V, ∀ ev ∈ evs x, ok (nx x ev) = true → nx x ev ∈ V)
    (h0 : ∀ x ∈ V, h x = none → ∀ ev, ok (nx x ev) = true → h (nx x ev) = none)
    (h1 : ∀ x ∈ V, ∀ y, h x = some y → evs x = evs' y ∧ ∀ ev, (if ok (nx x ev) = true then h (nx x ev) else none) = if ok' (nx' y ev) = true then some (nx' y ev) else none)
    {N : Nat} (hN : V.length < N) : ∀ (f i f' : Nat) (l : List (S × List Int)), f + i = N → i ≤ l.length → f ≤ f' → bOk V l →
    (∀ z ∈ l.take i, ∀ y, h z.1 = some y → ∀ ev ∈ evs' y, ok' (nx' y ev) = true → ∃ w ∈ img h l, w.1 = nx' y ev) →
    img h (bfull nx ok evs f i l) = bfull nx' ok' evs' f' (img h (l.take i)).length (img h l)
  | 0, i, f', l, hf, hi, _, hb, _ => by
    have := bOk_len hb
    omega
  | f + 1, i, f', l, hf, hi, hff, hb, hcl => by
    obtain ⟨f', rfl⟩ : ∃ k, f' = k + 1 := ⟨f' - 1, by omega⟩
    cases hg : l[i]? with
    | none =>
      have : l.length ≤ i := by
        rcases Nat.lt_or_ge i l.length with h1 | h1
        · rw [List.getElem?_eq_getElem h1] at hg; cases hg
        · exact h1
      rw [List.take_of_length_le this]
      simp only [bfull, hg, List.getElem?_eq_none (Nat.le_refl _)]
    | some x =>
      have hlt : i < l.length := (List.getElem?_eq_some_iff.1 hg).1
      have hx : x.1 ∈ V := hb.el x (List.mem_of_getElem? hg)
      have htk : l.take (i + 1) = l.take i ++ [x] := by rw [List.take_add_one, hg]; rfl
      have hp := bvis_pre nx ok x (evs x.1) l
      have hb2 := bvis_ok (hv x.1 hx) hb hg
      have e : (bvis nx ok x (evs x.1) l).take (i + 1) = l.take (i + 1) := by
        obtain ⟨r, hr⟩ := hp
        rw [← hr, List.take_append_of_le_length (by omega)]
      have hmono : ∀ u, (∃ w ∈ img h l, w.1 = u) → ∃ w ∈ img h (bvis nx ok x (evs x.1) l), w.1 = u := by
        rintro u ⟨w, hw, e⟩
        obtain ⟨r, hr⟩ := hp
        exact ⟨w, (by rw [← hr]; exact (img_pre h r l).subset hw), e⟩
      have lhs : bfull nx ok evs (f + 1) i l = bfull nx ok evs f (i + 1) (bvis nx ok x (evs x.1) l) := by simp only [bfull, hg]
      rw [lhs]
      have skip : img h (bvis nx ok x (evs x.1) l) = img h l → (∀ y, h x.1 = some y → ∀ ev ∈ evs' y, ok' (nx' y ev) = true → ∃ w ∈ img h l, w.1 = nx' y ev) → img h (l.take (i + 1)) = img h (l.take i) →
          img h (bfull nx ok evs f (i + 1) (bvis nx ok x (evs x.1) l)) = bfull nx' ok' evs' (f' + 1) (img h (l.take i)).length (img h l) := fun e1 e2 e3 => by
        have := bfull_img hv h0 h1 hN f (i + 1) (f' + 1) (bvis nx ok x (evs x.1) l) (by omega) (Nat.le_trans hlt hp.length_le) (by omega) hb2 (fun z hz y hy ev he c => by
          rw [e, htk, List.mem_append, List.mem_singleton] at hz
          rw [e1]
          rcases hz with hz | rfl
          · exact hcl z hz y hy ev he c
          · exact e2 y hy ev he c)
        rw [this, e, e3, e1]
      cases hh : h x.1 with
      | none =>
        refine skip ?_ (fun y hy => by rw [hh] at hy; cases hy) ?_
        · refine bvis_img0 _ _ fun ev _ c u hu => ?_
          rw [h0 x.1 hx hh ev c] at hu
          cases hu
        · rw [htk, img_snoc]; simp only [hh]
      | some y =>
        obtain ⟨he, hst⟩ := h1 x.1 hx y hh
        by_cases c : ∃ w ∈ img h (l.take i), w.1 = y
        · obtain ⟨z, hz, hzy⟩ := (img_mem h (l.take i) y).1 c
          have hz2 := hcl z hz y hzy
          refine skip ?_ (fun y' hy' => by rw [hh] at hy'; cases hy'; exact hz2) ?_
          · refine bvis_img0 _ _ fun ev hev c u hu => ?_
            have hs := hst ev
            rw [if_pos c, hu] at hs
            by_cases c' : ok' (nx' y ev) = true
            · rw [if_pos c'] at hs
              rw [Option.some.inj hs]
              exact hz2 ev (by rw [← he]; exact hev) c'
            · rw [if_neg c'] at hs; cases hs
          · rw [htk, img_snoc]
            simp only [hh, addF]
            rw [if_neg]
            intro hn
            obtain ⟨w, hw, e⟩ := c
            exact hn w hw e
        · have hnew : img h (l.take (i + 1)) = img h (l.take i) ++ [(y, x.2)] := by
            rw [htk, img_snoc]
            simp only [hh, addF]
            rw [if_pos fun w hw e => c ⟨w, hw, e⟩]
          have hget : (img h l)[(img h (l.take i)).length]? = some (y, x.2) := by
            obtain ⟨r, hr⟩ := img_pre h (l.drop (i + 1)) (l.take (i + 1))
            rw [List.take_append_drop] at hr
            rw [← hr, hnew, List.append_assoc, List.getElem?_append_right (Nat.le_refl _), Nat.sub_self]
            rfl
          have e1 : img h (bvis nx ok x (evs x.1) l) = bvis nx' ok' (y, x.2) (evs' y) (img h l) := by
            rw [bvis_img hst, he]
          have := bfull_img hv h0 h1 hN f (i + 1) f' (bvis nx ok x (evs x.1) l) (by omega) (Nat.le_trans hlt hp.length_le) (by omega) hb2 (fun z hz y' hy ev hev c' => by
            rw [e, htk, List.mem_append, List.mem_singleton] at hz
            rcases hz with hz | rfl
            · exact hmono _ (hcl z hz y' hy ev hev c')
            · rw [hh] at hy
              cases hy
              rw [e1]
              exact bvis_has hev c')
          rw [this, e, hnew, e1, List.length_append]
          simp only [bfull, hget, List.length_singleton]
end
end Go.AI


/- The law's own observer, consistent, both, extend. -/
namespace Go.AI
open Go.Proofs
set_option maxRecDepth 20000
theorem nxO_in {a : Aut} {n : Nat} (h : gAut a n) (on : List Int) : ∀ x ∈ statesV n, ∀ (evs : List Int), ∀ ev ∈ evs, okO (nxO a.edges on [] n x ev) = true → nxO a.edges on [] n x ev ∈ statesV n := fun x hx evs ev _ hok => by
  have h0 : 0 ≤ stp3 a.edges x.1 ev := of_decide_eq_true hok
  refine mem_statesV.2 ⟨?_, ?_⟩
  · rcases stp3_b (n := (n : Int)) (es := a.edges) (s := x.1) (ev := ev) h.to with h1 | h1
    · rw [h1] at h0; omega
    · exact h1
  · show (if ev ∈ on then nxt a.edges (lowP on [] false) n x.2 ev else x.2) ∈ subs n
    split
    · exact sorted_subs _ _
    · exact (mem_statesV.1 hx).2
theorem prs_bOk {a : Aut} {n : Nat} (h : gAut a n) (on : List Int) : bOk (statesV n) (prsR a on n) := by
  unfold prsR
  split
  · exact ⟨by simp, by simp, by simp⟩
  · rename_i hn0
    exact bfull_ok (fun x hx ev he => nxO_in h on x hx a.alpha ev he) _ _ _ (bOk_one (mem_statesV.2 ⟨by simp only; omega, sorted_subs _ _⟩))
def obL (a : Aut) (on : List Int) (n : Nat) : List (OS × List Int) → List Int × List Int × Bool
  | [] => ([], [], true)
  | z :: r => match misR a on n z.1.2 (clo a.edges (lowP on [] false) n [z.1.1]) with
    | some t => (z.2, t.2, false)
    | none => obL a on n r
set_option maxHeartbeats 8000000 in
theorem observer26 (O : List Heap) (a : Aut) (on : List Int) (n : Nat) (h : gAut a n) (hn : n ≤ 5) (hon : on.length ≤ max63) :
    ASpec Tryz.prog 26 [autD a, ints on] O (obD (obL a on n (prsR a on n))) [] O := by
  have hp := fun O => pairs66 O a on n h hn hon
  have hr := fun O s => reachS33 O a on s n h (by omega) hon
  have hm := fun O A B hA hB => missing69 O a on A B n h hn hon hA hB
  have hbk := prs_bOk h on
  have hll := bOk_len hbk
  have hVl := statesV_len hn
  have hel : ∀ z ∈ prsR a on n, z.1.2 ∈ subs n := fun z hz => (mem_statesV.1 (hbk.el z hz)).2
  have hrs : ∀ s : Int, clo a.edges (lowP on [] false) n [s] ∈ subs n := fun s => sorted_subs _ _
  generalize prsR a on n = l at *
  generalize hK : obL a on n l = KK
  refine aspec_intro Tk Tryz.func26 rfl Tryz.call26 Tryz.ntmps26 (Nat.le_of_ble_eq_true rfl) fun E => ?_
  refine g_run Tk Tryz.func26 ?_
  first | refine g_call Tk Tryz.func26 (hp _) rfl rfl rfl rfl rfl ?_ | refine s_callq Tk (fun _ => hp _) rfl rfl rfl ?_
  refine g_loop ?_
  refine rch_loop2 (fun i : Nat => [(1, ints on), (2, .own 0 2 0 0), (7, prsD l), (8, ii i)]) (fun _ => [(2, .box (autC a))]) (fun _ => O) 46
    (fun i => i ≤ l.length ∧ obL a on n (l.drop i) = KK) (fun i => l.length - i) 0 ⟨Nat.zero_le _, by simpa using hK⟩ ⟨rfl, rfl, rfl, rfl, trivial⟩ rfl ⟨rfl, trivial⟩ rfl rfl ?_
  clear hK
  rintro i ⟨hi, hno⟩ ih
  refine g_run Tk Tryz.func26 ?_
  first | refine g_cnd Tk Tryz.func26 rfl (fun g1 => ?_) (fun g1 => ?_) | refine g_know Tk Tryz.func26 rfl (fun g1 => ?_) (fun g1 => ?_) | refine s_know Tk (fun g1 => ?_) (fun g1 => ?_)
  · have h1 : i < l.length := by simpa using g1
    have gl : (l.map plI)[(i : Int).toNat]? = some (plI l[i]) := get_mapZ h1
    have hz := hel _ (List.getElem_mem h1)
    rw [List.drop_eq_getElem_cons h1] at hno
    simp only [obL] at hno
    generalize l[i] = z at *
    obtain ⟨⟨zs, ze⟩, zw⟩ := z
    simp only at hno hz
    have hr' := fun O => hr O zs
    have hm' := fun O => hm O ze _ hz (hrs zs)
    generalize clo a.edges (lowP on [] false) n [zs] = C at *
    generalize misR a on n ze C = t at *
    refine g_drawn Tk Tryz.func26 mixedT rfl ?_
    first | refine g_need Tk Tryz.func26 (by exact ⟨by omega, by show (i : Int) < (l.length : Int); omega⟩) ?_ | refine s_need Tk (by exact ⟨by omega, by show (i : Int) < (l.length : Int); omega⟩) ?_
    first | refine g_elem Tk Tryz.func26 (gl) ?_ | refine s_elem Tk (gl) ?_
    first | refine g_need Tk Tryz.func26 (by exact ⟨by omega, by show (i : Int) < (l.length : Int); omega⟩) ?_ | refine s_need Tk (by exact ⟨by omega, by show (i : Int) < (l.length : Int); omega⟩) ?_
    first | refine g_elem Tk Tryz.func26 (gl) ?_ | refine s_elem Tk (gl) ?_
    first | refine g_call Tk Tryz.func26 (hr' _) rfl rfl rfl rfl rfl ?_ | refine s_callq Tk (fun _ => hr' _) rfl rfl rfl ?_
    rcases t with _ | ⟨tz, tw⟩
    · have hm' : ∀ O, ASpec Tryz.prog 69 _ O (.tup [ints [], bb false]) [] O := hm'
      first | refine g_call Tk Tryz.func26 (hm' _) rfl rfl rfl rfl rfl ?_ | refine s_callq Tk (fun _ => hm' _) rfl rfl rfl ?_
      refine e_done Tk Tryz.func26 (by kernel_rfl) ?_
      repeat (first | refine g_cnd Tk Tryz.func26 rfl (fun _ => ?_) (fun h => absurd h (by decide)) | refine g_know Tk Tryz.func26 rfl (fun _ => ?_) (fun h => absurd h (by decide)) | refine s_know Tk (fun _ => ?_) (fun h => absurd h (by decide)) | refine g_cnd Tk Tryz.func26 rfl (fun h => absurd h (by decide)) (fun _ => ?_) | refine g_know Tk Tryz.func26 rfl (fun h => absurd h (by decide)) (fun _ => ?_) | refine s_know Tk (fun h => absurd h (by decide)) (fun _ => ?_) | refine g_cnd Tk Tryz.func26 rfl (fun _ => ?_) (fun h => absurd (show true = false from h) (by decide)) | refine g_know Tk Tryz.func26 rfl (fun _ => ?_) (fun h => absurd (show true = false from h) (by decide)) | refine s_know Tk (fun _ => ?_) (fun h => absurd (show true = false from h) (by decide)) | refine g_cnd Tk Tryz.func26 rfl (fun h => absurd (show false = true from h) (by decide)) (fun _ => ?_) | refine g_know Tk Tryz.func26 rfl (fun h => absurd (show false = true from h) (by decide)) (fun _ => ?_) | refine s_know Tk (fun h => absurd (show false = true from h) (by decide)) (fun _ => ?_))
      refine g_loop ?_
      exact ih (i + 1) _ _ ⟨h1, hno⟩ (by omega) ⟨rfl, rfl, rfl, congrArg ii (wsucc (n := 1000001) (by omega) (by decide)), trivial⟩ rfl ⟨rfl, trivial⟩ rfl rfl
    · have hm' : ∀ O, ASpec Tryz.prog 69 _ O (.tup [ints tw, bb true]) [] O := hm'
      simp only at hno
      subst hno
      first | refine g_call Tk Tryz.func26 (hm' _) rfl rfl rfl rfl rfl ?_ | refine s_callq Tk (fun _ => hm' _) rfl rfl rfl ?_
      refine e_done Tk Tryz.func26 (by kernel_rfl) ?_
      repeat (first | refine g_cnd Tk Tryz.func26 rfl (fun _ => ?_) (fun h => absurd h (by decide)) | refine g_know Tk Tryz.func26 rfl (fun _ => ?_) (fun h => absurd h (by decide)) | refine s_know Tk (fun _ => ?_) (fun h => absurd h (by decide)) | refine g_cnd Tk Tryz.func26 rfl (fun h => absurd h (by decide)) (fun _ => ?_) | refine g_know Tk Tryz.func26 rfl (fun h => absurd h (by decide)) (fun _ => ?_) | refine s_know Tk (fun h => absurd h (by decide)) (fun _ => ?_) | refine g_cnd Tk Tryz.func26 rfl (fun _ => ?_) (fun h => absurd (show true = false from h) (by decide)) | refine g_know Tk Tryz.func26 rfl (fun _ => ?_) (fun h => absurd (show true = false from h) (by decide)) | refine s_know Tk (fun _ => ?_) (fun h => absurd (show true = false from h) (by decide)) | refine g_cnd Tk Tryz.func26 rfl (fun h => absurd (show false = true from h) (by decide)) (fun _ => ?_) | refine g_know Tk Tryz.func26 rfl (fun h => absurd (show false = true from h) (by decide)) (fun _ => ?_) | refine s_know Tk (fun h => absurd (show false = true from h) (by decide)) (fun _ => ?_))
      first | refine g_need Tk Tryz.func26 (by exact ⟨by omega, by show (i : Int) < (l.length : Int); omega⟩) ?_ | refine s_need Tk (by exact ⟨by omega, by show (i : Int) < (l.length : Int); omega⟩) ?_
      first | refine g_elem Tk Tryz.func26 (gl) ?_ | refine s_elem Tk (gl) ?_
      refine g_ret Tk (r := .tup [ints zw, ints tw, bb false]) rfl rfl rfl trivial rfl rfl ?_
      rfl
  · have h1 : l.length ≤ i := by simpa using g1
    rw [List.drop_eq_nil_of_le h1] at hno
    have hno : (([], [], true) : List Int × List Int × Bool) = KK := hno
    subst hno
    refine g_ret_co Tk (r := .tup [.i (.v (.slice none 0 0)), .i (.v (.slice none 0 0)), bb true]) rfl rfl rfl trivial rfl rfl ?_
    repeat' (first | refine coD_tup ?_ | refine coD_agg ?_ | refine coD_i ?_ | refine CoDL.cons ?_ ?_ | exact CoDL.nil | exact coI_nil | refine coI_sl ?_ | refine CoLL.cons ?_ ?_ | exact CoLL.nil | refine CoL.cons ?_ ?_ | exact CoL.nil | exact CoI.refl _ | exact CoL.refl _ | exact CoLL.refl _ | exact CoDL.refl _ | exact CoD.refl _)
end Go.AI


/- Plain: sets that pass their check. -/
namespace Go.AI
open Go.Proofs
set_option maxRecDepth 20000
theorem checkSet_aux {n : Int} : ∀ {l : List Int} {y : Int}, checkSet n l (some y) = 0 → y + 1 ≤ n → (l.length : Int) ≤ n - 1 - y
  | [], y, _, h => by simp only [List.length_nil]; omega
  | x :: r, y, h, hy => by
    simp only [checkSet] at h
    by_cases h1 : x < 0 ∨ x ≥ n
    · rw [if_pos h1] at h; exact absurd h (by decide)
    rw [if_neg h1] at h
    by_cases h2 : (some y).any (x ≤ ·) = true
    · rw [if_pos h2] at h; exact absurd h (by decide)
    rw [if_neg h2] at h
    have hxy : y < x := by simpa using h2
    have := checkSet_aux h (by omega)
    simp only [List.length_cons]
    omega
theorem checkSet_len {n : Int} (hn : 0 ≤ n) : ∀ {l : List Int}, checkSet n l none = 0 → (l.length : Int) ≤ n
  | [], _ => by simpa using hn
  | x :: r, h => by
    simp only [checkSet] at h
    by_cases h1 : x < 0 ∨ x ≥ n
    · rw [if_pos h1] at h; exact absurd h (by decide)
    rw [if_neg h1] at h
    have h' : checkSet n r (some x) = 0 := by simpa using h
    have := checkSet_aux h' (by omega)
    simp only [List.length_cons]
    omega
theorem checkSet_of {n : Int} : ∀ {l : List Int} {p : Option Int}, l.Pairwise (· < ·) → (∀ x ∈ l, 0 ≤ x ∧ x < n) → (∀ y, p = some y → ∀ x ∈ l, y < x) → checkSet n l p = 0
  | [], _, _, _, _ => rfl
  | x :: r, p, hs, hr, hp => by
    simp only [checkSet]
    have h1 := hr x (by simp)
    rw [if_neg (by omega), if_neg]
    · rw [List.pairwise_cons] at hs
      refine checkSet_of hs.2 (fun y hy => hr y (by simp [hy])) (fun y e z hz => ?_)
      simp only [Option.some.injEq] at e
      subst e
      exact hs.1 z hz
    · cases p with
      | none => simp
      | some y =>
        have := hp y rfl x (by simp)
        simp only [Option.any_some, decide_eq_true_eq]
        omega
end Go.AI


/- overseerref03.Canonical. -/
namespace Go.AI
open Go.Proofs
set_option maxRecDepth 20000
abbrev zBox : Ob := .box [.i (.v (.slice none 0 0)), ii 0, .i (.v (.slice none 0 0)), .i (.v (.slice none 0 0))]
def cOf (es : List Edg) (F : List Int) (k : Nat) (s ev : Int) : Option Edg := if 0 ≤ stp3 es s ev then some ((k : Int), ev, idxI (stp3 es s ev) F 0) else none
def cMk (F marked : List Int) (i : Nat) : List Int := ((List.range i).filter fun k => match F[k]? with
  | none => false
  | some s => decide (s ∈ marked)).map fun (k : Nat) => (k : Int)
def cEd (es : List Edg) (F al : List Int) (i : Nat) : List Edg := (List.range i).flatMap fun k => match F[k]? with
  | none => []
  | some s => al.filterMap (cOf es F k s)
def canR (a : Aut) (F : List Int) : Aut := ⟨a.alpha, F.length, cMk F a.marked F.length, cEd a.edges F a.alpha F.length⟩
theorem cMk_succ {F marked : List Int} {i : Nat} {s : Int} (h : F[i]? = some s) : cMk F marked (i + 1) = cMk F marked i ++ (if s ∈ marked then [(i : Int)] else []) := by
  unfold cMk
  rw [List.range_succ, List.filter_append, List.map_append]
  congr 1
  simp only [List.filter_cons, List.filter_nil, h]
  by_cases hm : s ∈ marked <;> simp [hm]
theorem cEd_succ {es : List Edg} {F al : List Int} {i : Nat} {s : Int} (h : F[i]? = some s) : cEd es F al (i + 1) = cEd es F al i ++ al.filterMap (cOf es F i s) := by
  unfold cEd
  rw [List.range_succ, List.flatMap_append]
  simp only [List.flatMap_cons, List.flatMap_nil, List.append_nil, h]
theorem flat_lenN {α β : Type} {f : α → List β} {N : Nat} : ∀ {l : List α}, (∀ x ∈ l, (f x).length ≤ N) → (l.flatMap f).length ≤ N * l.length
  | [], _ => by simp
  | x :: r, h => by
    have h1 := h x (by simp)
    have h2 := flat_lenN (l := r) fun y hy => h y (by simp [hy])
    simp only [List.flatMap_cons, List.length_append, List.length_cons, Nat.mul_succ]
    omega
theorem cEd_len {es : List Edg} {F al : List Int} {i : Nat} (h : al.length ≤ 32) : (cEd es F al i).length ≤ 32 * i := by
  unfold cEd
  refine Nat.le_trans (flat_lenN (N := 32) fun k _ => ?_) (by rw [List.length_range]; exact Nat.le_refl _)
  split
  · simp
  · exact Nat.le_trans (List.length_filterMap_le _ _) h
theorem cMk_len {F marked : List Int} {i : Nat} : (cMk F marked i).length ≤ i := by
  unfold cMk
  rw [List.length_map]
  exact Nat.le_trans (List.length_filter_le _ _) (by simp)
set_option maxHeartbeats 4000000 in
theorem canonical58 (O : List Heap) (a : Aut) (ha : autOk a) (h1 : 1 ≤ a.states) (F : List Int) (hF : foundR a = F) (hFl : F.length ≤ 4096) : ASpec Tryz.prog 41 [autD a] O (autD (canR a F)) [] O := by
  obtain ⟨c1, c2, c3, c4⟩ := chk_parts ha.chk
  have hed := ha.ed
  have hmk := ha.mkd
  have hal := checkSet_len (by decide) c1
  have hal : a.alpha.length ≤ 32 := by omega
  have hst := fun O s ev => step121 O a s ev (by simp only [max63]; omega)
  have hfo := fun O => found119 O a ha h1
  rw [hF] at hfo
  have hem := fun O => empty120 O a.alpha (by omega)
  have hho := fun O x => has118 O a.marked x (by simp only [max63]; omega)
  have hix := fun O x => index122 O F x (by simp only [max63]; omega)
  have hR : canR a F = ⟨a.alpha, F.length, cMk F a.marked F.length, cEd a.edges F a.alpha F.length⟩ := rfl
  rw [hR]
  clear hR c1 c2 c3 c4 hF
  obtain ⟨al, n, mk, es⟩ := a
  simp only at *
  refine aspec_stop [9, 14] Tk Tryz.func41 rfl Tryz.call41 Tryz.ntmps41 (Nat.le_of_ble_eq_true rfl) fun E => ?_
  refine g_run Tk Tryz.func41 ?_
  first | refine g_call Tk Tryz.func41 (hfo _) rfl rfl rfl rfl rfl ?_ | refine s_callq Tk (fun _ => hfo _) rfl rfl rfl ?_
  first | refine g_call Tk Tryz.func41 (hem _) rfl rfl rfl rfl rfl ?_ | refine s_callq Tk (fun _ => hem _) rfl rfl rfl ?_
  refine g_loop ?_
  refine rch_wk (wk_nilbox2 4 33 3 1 (pre := [ints al, ii F.length]) (post := [.i (.v (.slice none 0 0))]) rfl rfl rfl) ?_
  refine rch_wk (wk_nilbox2 4 68 79 3 (pre := [ints al, ii F.length, .osl 0 33]) (post := []) rfl rfl rfl) ?_
  refine rch_loop2 (fun i : Nat => [(1, .own 0 1 0 0), (2, .own 0 2 0 0), (3, ints F), (4, .own 0 4 0 0), (5, ii i)]) (fun i => [(1, .box [ints al, ii n, ints mk, edgs es]), (2, zBox), (4, .box [ints al, ii F.length, .osl 0 33, .osl 0 68]), (33, oints (cMk F mk i)), (68, oedgs (cEd es F al i))]) (fun _ => O) 71
    (fun i => i ≤ F.length) (fun i => F.length - i) 0 (Nat.zero_le _) ⟨rfl, rfl, rfl, rfl, rfl, trivial⟩ rfl ⟨rfl, rfl, rfl, rfl, rfl, trivial⟩ rfl rfl ?_
  intro i hi ih
  refine g_run Tk Tryz.func41 ?_
  first | refine g_cnd Tk Tryz.func41 rfl (fun g1 => ?_) (fun g1 => ?_) | refine g_know Tk Tryz.func41 rfl (fun g1 => ?_) (fun g1 => ?_) | refine s_know Tk (fun g1 => ?_) (fun g1 => ?_)
  · have h2 : i < F.length := by simpa using g1
    clear g1
    have hs0 : F[i]? = some F[i] := List.getElem?_eq_getElem h2
    have gs : (F.map fun x => [vi x])[(i : Int).toNat]? = some [vi F[i]] := get_mapZ (f := fun x => [vi x]) h2
    generalize F[i] = s at *
    have hm3 := cMk_succ (marked := mk) hs0
    have hml := cMk_len (F := F) (marked := mk) (i := i)
    have n1 : 0 ≤ (i : Int) ∧ (i : Int) < (F.length : Int) := by omega
    have hh1 := fun O => hho O s
    refine g_drawn Tk Tryz.func41 mixedT rfl ?_
    first | refine g_need Tk Tryz.func41 (by exact n1) ?_ | refine s_need Tk (by exact n1) ?_
    first | refine g_elem Tk Tryz.func41 (gs) ?_ | refine s_elem Tk (gs) ?_
    first | refine g_call Tk Tryz.func41 (hh1 _) rfl rfl rfl rfl rfl ?_ | refine s_callq Tk (fun _ => hh1 _) rfl rfl rfl ?_
    refine e_done Tk Tryz.func41 (by kernel_rfl) ?_
    apply join_p (P := True) (s6 := { σ := [(1, .own 0 1 0 0), (2, .own 0 2 0 0), (3, ints F), (4, .own 0 4 0 0), (5, ii i)], S := [(1, .box [ints al, ii n, ints mk, edgs es]), (2, zBox), (4, .box [ints al, ii F.length, .osl 0 33, .osl 0 68]), (33, oints (cMk F mk (i + 1))), (68, oedgs (cEd es F al i))] :: O, n := 71 })
    · intro J
      first | refine g_cnd Tk Tryz.func41 rfl (fun d1 => ?_) (fun d1 => ?_) | refine g_know Tk Tryz.func41 rfl (fun d1 => ?_) (fun d1 => ?_) | refine s_know Tk (fun d1 => ?_) (fun d1 => ?_)
      · have d1 : s ∈ mk := of_decide_eq_true d1
        rw [if_pos d1] at hm3
        first | refine g_need Tk Tryz.func41 (by exact ⟨by show ((cMk F mk i).length + 1) * 8 ≤ 140737488355328; omega, by show (cMk F mk i).length + 1 ≤ 9223372036854775807; omega⟩) ?_ | refine s_need Tk (by exact ⟨by show ((cMk F mk i).length + 1) * 8 ≤ 140737488355328; omega, by show (cMk F mk i).length + 1 ≤ 9223372036854775807; omega⟩) ?_
        refine g_stop ?_
        refine rch_meet (J trivial) ⟨rfl, rfl, rfl, rfl, rfl, trivial⟩ rfl ⟨rfl, rfl, rfl, ?_, rfl, trivial⟩ rfl rfl
        rw [hm3]
        exact congrArg some (oints_app (cMk F mk i) (i : Int))
      · have d1 : s ∉ mk := of_decide_eq_false d1
        rw [if_neg d1, List.append_nil] at hm3
        refine g_stop ?_
        refine rch_meet (J trivial) ⟨rfl, rfl, rfl, rfl, rfl, trivial⟩ rfl ⟨rfl, rfl, rfl, by rw [hm3]; rfl, rfl, trivial⟩ rfl rfl
    · intro _
      clear hm3 hml hh1
      have hE := cEd_succ (es := es) (al := al) hs0
      have hEl := cEd_len (es := es) (F := F) (i := i) hal
      have hst1 := fun O ev => hst O s ev
      refine g_run Tk Tryz.func41 ?_
      refine g_go Tk Tryz.func41 ?_
      refine g_loop ?_
      refine rch_loop2 (fun j : Nat => [(1, .own 0 1 0 0), (2, .own 0 2 0 0), (3, ints F), (4, .own 0 4 0 0), (5, ii i), (6, ii j)]) (fun j => [(1, .box [ints al, ii n, ints mk, edgs es]), (2, zBox), (4, .box [ints al, ii F.length, .osl 0 33, .osl 0 68]), (33, oints (cMk F mk (i + 1))), (68, oedgs (cEd es F al i ++ (al.take j).filterMap (cOf es F i s)))]) (fun _ => O) 71
        (fun j => j ≤ al.length) (fun j => al.length - j) 0 (Nat.zero_le _) ⟨rfl, rfl, rfl, rfl, rfl, rfl, trivial⟩ rfl ⟨rfl, rfl, rfl, rfl, by show some (oedgs (cEd es F al i)) = some (oedgs (cEd es F al i ++ [])); rw [List.append_nil], trivial⟩ rfl rfl ?_
      intro j hj ih2
      refine g_run Tk Tryz.func41 ?_
      first | refine g_cnd Tk Tryz.func41 rfl (fun g2 => ?_) (fun g2 => ?_) | refine g_know Tk Tryz.func41 rfl (fun g2 => ?_) (fun g2 => ?_) | refine s_know Tk (fun g2 => ?_) (fun g2 => ?_)
      · have h3 : j < al.length := by simpa using g2
        clear g2
        have ga : (al.map fun x => [vi x])[(j : Int).toNat]? = some [vi al[j]] := get_mapZ (f := fun x => [vi x]) h3
        have htk : (al.take (j + 1)).filterMap (cOf es F i s) = (al.take j).filterMap (cOf es F i s) ++ [al[j]].filterMap (cOf es F i s) := by
          rw [List.take_succ_eq_append_getElem h3, List.filterMap_append]
        have hpl : ((al.take j).filterMap (cOf es F i s)).length ≤ 32 := Nat.le_trans (List.length_filterMap_le _ _) (by rw [List.length_take]; omega)
        have n2 : 0 ≤ (j : Int) ∧ (j : Int) < (al.length : Int) := by omega
        have hj1 : ii (IntKind.i64.wrap ((j : Int) + 1)) = ii ((j + 1 : Nat) : Int) := congrArg ii (wsucc (n := 1000001) (by omega) (by decide))
        generalize al[j] = ev at *
        have hst2 := fun O => hst1 O ev
        have hco : [ev].filterMap (cOf es F i s) = if 0 ≤ stp3 es s ev then [((i : Int), ev, idxI (stp3 es s ev) F 0)] else [] := by
          unfold cOf
          by_cases h : 0 ≤ stp3 es s ev <;> simp [h]
        rw [hco] at htk
        clear hco
        have hix1 := fun O => hix O (stp3 es s ev)
        generalize stp3 es s ev = t at *
        refine g_drawn Tk Tryz.func41 mixedT rfl ?_
        first | refine g_need Tk Tryz.func41 (by exact n1) ?_ | refine s_need Tk (by exact n1) ?_
        first | refine g_elem Tk Tryz.func41 (gs) ?_ | refine s_elem Tk (gs) ?_
        first | refine g_need Tk Tryz.func41 (by exact n2) ?_ | refine s_need Tk (by exact n2) ?_
        first | refine g_elem Tk Tryz.func41 (ga) ?_ | refine s_elem Tk (ga) ?_
        first | refine g_call Tk Tryz.func41 (hst2 _) rfl rfl rfl rfl rfl ?_ | refine s_callq Tk (fun _ => hst2 _) rfl rfl rfl ?_
        refine e_done Tk Tryz.func41 (by kernel_rfl) ?_
        first | refine g_cnd Tk Tryz.func41 rfl (fun d1 => ?_) (fun d1 => ?_) | refine g_know Tk Tryz.func41 rfl (fun d1 => ?_) (fun d1 => ?_) | refine s_know Tk (fun d1 => ?_) (fun d1 => ?_)
        · have d1 : t ≥ 0 := of_decide_eq_true d1
          rw [if_pos d1] at htk
          refine g_stop ?_
          refine g_run Tk Tryz.func41 ?_
          refine g_go Tk Tryz.func41 ?_
          refine g_drawn Tk Tryz.func41 mixedT rfl ?_
          first | refine g_need Tk Tryz.func41 (by exact n2) ?_ | refine s_need Tk (by exact n2) ?_
          first | refine g_elem Tk Tryz.func41 (ga) ?_ | refine s_elem Tk (ga) ?_
          first | refine g_call Tk Tryz.func41 (hix1 _) rfl rfl rfl rfl rfl ?_ | refine s_callq Tk (fun _ => hix1 _) rfl rfl rfl ?_
          refine e_tail Tk Tryz.func41 ([13, 14, 15]) (by kernel_rfl) (by kernel_rfl) ?_
          first | refine g_need Tk Tryz.func41 (by exact ⟨by show ((cEd es F al i ++ (al.take j).filterMap (cOf es F i s)).length + 1) * 24 ≤ 140737488355328; rw [List.length_append]; omega, by show (cEd es F al i ++ (al.take j).filterMap (cOf es F i s)).length + 1 ≤ 9223372036854775807; rw [List.length_append]; omega⟩) ?_ | refine s_need Tk (by exact ⟨by show ((cEd es F al i ++ (al.take j).filterMap (cOf es F i s)).length + 1) * 24 ≤ 140737488355328; rw [List.length_append]; omega, by show (cEd es F al i ++ (al.take j).filterMap (cOf es F i s)).length + 1 ≤ 9223372036854775807; rw [List.length_append]; omega⟩) ?_
          refine g_loop ?_
          refine ih2 (j + 1) _ _ h3 (by omega) ⟨rfl, rfl, rfl, rfl, rfl, hj1, trivial⟩ rfl ⟨rfl, rfl, rfl, rfl, ?_, trivial⟩ rfl rfl
          rw [htk, ← List.append_assoc]
          exact congrArg some (oedgs_app (cEd es F al i ++ (al.take j).filterMap (cOf es F i s)) ((i : Int), ev, idxI t F 0))
        · have d1 : ¬ t ≥ 0 := of_decide_eq_false d1
          rw [if_neg d1, List.append_nil] at htk
          refine g_loop ?_
          refine ih2 (j + 1) _ _ h3 (by omega) ⟨rfl, rfl, rfl, rfl, rfl, hj1, trivial⟩ rfl ⟨rfl, rfl, rfl, rfl, by rw [htk]; rfl, trivial⟩ rfl rfl
      · have h3 : al.length ≤ j := by simpa using g2
        refine g_loop ?_
        refine ih (i + 1) _ _ h2 (by omega) ⟨rfl, rfl, rfl, rfl, congrArg ii (wsucc (n := 5000) (by omega) (by decide)), trivial⟩ rfl ⟨rfl, rfl, rfl, rfl, ?_, trivial⟩ rfl rfl
        show some (oedgs (cEd es F al i ++ (al.take j).filterMap (cOf es F i s))) = _
        rw [List.take_of_length_le h3, hE]
  · have h2 : F.length ≤ i := by simpa using g1
    obtain rfl : i = F.length := by omega
    refine g_rwk (wk_freeze 33 rfl rfl) ?_
    refine g_rwk (wk_freeze 68 rfl rfl) ?_
    refine g_rwk (wk_imm rfl) ?_
    refine g_ret Tk (r := autD ⟨al, F.length, cMk F mk F.length, cEd es F al F.length⟩) rfl rfl rfl trivial rfl rfl ?_
    rfl
end Go.AI
