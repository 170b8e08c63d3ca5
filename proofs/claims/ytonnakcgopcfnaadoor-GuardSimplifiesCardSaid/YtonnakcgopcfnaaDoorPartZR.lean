/- The layer of abstract runs, part 44. -/
import Derived.Test.YtonnakcgopcfnaaDoorPartZQ
set_option linter.unusedSimpArgs false
set_option linter.unusedVariables false
set_option linter.all false

/- The guard of boxes, with its text. -/
namespace Go.AI
open Go.Proofs
set_option maxRecDepth 20000
abbrev strD (s : ByteArray) : D := .i (.v (.string s))
abbrev byB (T : List UInt8) : ByteArray := ⟨T.toArray⟩
theorem bcat (T : List UInt8) (s : ByteArray) : byB T ++ s = byB (T ++ s.data.toList) := by
  apply ByteArray.ext
  rw [ByteArray.data_append]
  simp
theorem byB_size (T : List UInt8) : (byB T).size = T.length := by
  show T.toArray.size = _
  simp
theorem lits_in : ∀ (l : List Vr) (i : Nat) (ls hs : List Int), ∀ x ∈ litsR l i ls hs, x.var < i + l.length ∧ x.lo ∈ ls ∧ x.hi ∈ hs
  | [], _, _, _ => fun x hx => by simp [litsR] at hx
  | v :: r, i, [], hs => fun x hx => by simp [litsR] at hx
  | v :: r, i, _ :: _, [] => fun x hx => by simp [litsR] at hx
  | v :: r, i, lo :: ls, hi :: hs => fun x hx => by
    simp only [litsR, List.mem_append] at hx
    rcases hx with hx | hx
    · have hx' : x.var = i ∧ x.lo = lo ∧ x.hi = hi := by
        unfold litsV at hx
        split at hx
        · simp at hx
        · split at hx
          · rw [List.mem_singleton.1 hx]; exact ⟨rfl, rfl, rfl⟩
          · rw [List.mem_append] at hx
            rcases hx with hx | hx
            · split at hx
              · rw [List.mem_singleton.1 hx]; exact ⟨rfl, rfl, rfl⟩
              · simp at hx
            · split at hx
              · rw [List.mem_singleton.1 hx]; exact ⟨rfl, rfl, rfl⟩
              · simp at hx
      obtain ⟨e1, e2, e3⟩ := hx'
      simp only [List.length_cons]
      exact ⟨by omega, by simp [e2], by simp [e3]⟩
    · have := lits_in r (i + 1) ls hs x hx
      simp only [List.length_cons]
      exact ⟨by omega, by simp [this.2.1], by simp [this.2.2]⟩
def bText (l : List Vr) (boxes : List Bx) : ByteArray := if boxes.isEmpty then ⟨#[102, 97, 108, 115, 101]⟩ else ⟨(boxesBy l boxes 0 []).toArray⟩
set_option maxHeartbeats 4000000 in
theorem whole25 (O : List Heap) (l : List Vr) (boxes : List Bx) (hl : l.length ≤ 16) (hnm : ∀ v ∈ l, v.name.size ≤ 1000) (hb : ∀ b ∈ boxes, (b.low.length = l.length ∧ b.high.length = l.length) ∧ (∀ x ∈ b.low, -1000 ≤ x ∧ x ≤ 1000) ∧ ∀ x ∈ b.high, -1000 ≤ x ∧ x ≤ 1000) (hbl : boxes.length ≤ 4096) :
    ASpec Tryd.prog 25 [vrs l, bxs boxes] O (.tup [exA (wholeR l boxes), strD (bText l boxes)]) [] O := by
  by_cases he : boxes = []
  · subst he
    have e : wholeR l [] = falseE := rfl
    have e2 : bText l [] = ⟨#[102, 97, 108, 115, 101]⟩ := rfl
    rw [e, e2]
    refine aspec_intro Tk Tryd.func25 rfl Tryd.call25 Tryd.ntmps25 (Nat.le_of_ble_eq_true rfl) fun E => ?_
    refine g_run Tk Tryd.func25 ?_
    repeat (first | refine g_cnd Tk Tryd.func25 rfl (fun _ => ?_) (fun h => absurd h (by decide)) | refine g_know Tk Tryd.func25 rfl (fun _ => ?_) (fun h => absurd h (by decide)) | refine s_know Tk (fun _ => ?_) (fun h => absurd h (by decide)) | refine g_cnd Tk Tryd.func25 rfl (fun h => absurd h (by decide)) (fun _ => ?_) | refine g_know Tk Tryd.func25 rfl (fun h => absurd h (by decide)) (fun _ => ?_) | refine s_know Tk (fun h => absurd h (by decide)) (fun _ => ?_) | refine g_cnd Tk Tryd.func25 rfl (fun _ => ?_) (fun h => absurd (show true = false from h) (by decide)) | refine g_know Tk Tryd.func25 rfl (fun _ => ?_) (fun h => absurd (show true = false from h) (by decide)) | refine s_know Tk (fun _ => ?_) (fun h => absurd (show true = false from h) (by decide)) | refine g_cnd Tk Tryd.func25 rfl (fun h => absurd (show false = true from h) (by decide)) (fun _ => ?_) | refine g_know Tk Tryd.func25 rfl (fun h => absurd (show false = true from h) (by decide)) (fun _ => ?_) | refine s_know Tk (fun h => absurd (show false = true from h) (by decide)) (fun _ => ?_))
    first | refine g_call Tk Tryd.func25 (false77 _) rfl rfl rfl rfl rfl ?_ | refine s_callq Tk (fun _ => false77 _) rfl rfl rfl ?_
    refine g_ret Tk (r := .tup [exA falseE, strD ⟨#[102, 97, 108, 115, 101]⟩]) rfl rfl rfl trivial rfl rfl ?_
    rfl
  have hpos : 0 < boxes.length := List.length_pos_iff.2 he
  have hie : ¬ boxes.isEmpty = true := by simpa using he
  have hT : bText l boxes = ⟨(boxesBy l boxes 0 []).toArray⟩ := if_neg hie
  rw [hT]
  clear hT
  have hjo := fun O (l' : List Ex) h1 h2 => join78 l'.length l' 12 O h1 (Nat.le_refl _) h2
  have hw : wholeR l boxes = joinF 12 (boxes.map fun b => joinR 11 (partsR l b)).length (boxes.map fun b => joinR 11 (partsR l b)) := by unfold wholeR; rw [if_neg hie]; rfl
  generalize wholeR l boxes = W at *
  have hT0 : boxesBy l boxes 0 [] = boxesBy l (boxes.drop 0) 0 [] := rfl
  generalize boxesBy l boxes 0 [] = TX at *
  refine aspec_stop [10, 19, 20] Tk Tryd.func25 rfl Tryd.call25 Tryd.ntmps25 (Nat.le_of_ble_eq_true rfl) fun E => ?_
  refine g_run Tk Tryd.func25 ?_
  first | refine g_cnd Tk Tryd.func25 rfl (fun g0 => ?_) (fun g0 => ?_) | refine g_know Tk Tryd.func25 rfl (fun g0 => ?_) (fun g0 => ?_) | refine s_know Tk (fun g0 => ?_) (fun g0 => ?_)
  · have := beqT g0
    omega
  clear g0
  refine g_loop ?_
  refine rch_wk (wk_nil 6 48 41 4 rfl rfl rfl) ?_
  refine rch_loop2 (fun x : Nat × List UInt8 => [(0, vrs l), (1, bxs boxes), (4, .own 0 4 0 0), (6, .osl 0 48), (7, strD (byB x.2)), (8, ii x.1)]) (fun x => [(4, .box [ii 0, ii 0, ii 0, .i nilI]), (48, oexs ((boxes.take x.1).map fun b => joinR 11 (partsR l b)))]) (fun _ => O) 68
    (fun x => x.1 ≤ boxes.length ∧ x.2.length ≤ 40000 * x.1 ∧ boxesBy l (boxes.drop x.1) x.1 x.2 = TX) (fun x => boxes.length - x.1) (0, []) ⟨Nat.zero_le _, by simp, hT0.symm⟩ ⟨rfl, rfl, rfl, rfl, rfl, rfl, trivial⟩ rfl ⟨rfl, rfl, trivial⟩ rfl rfl ?_
  clear hT0
  rintro ⟨i, T⟩ ⟨hi, hTl, hno⟩ ih
  simp only at hi hTl hno
  refine g_run Tk Tryd.func25 ?_
  first | refine g_cnd Tk Tryd.func25 rfl (fun g1 => ?_) (fun g1 => ?_) | refine g_know Tk Tryd.func25 rfl (fun g1 => ?_) (fun g1 => ?_) | refine s_know Tk (fun g1 => ?_) (fun g1 => ?_)
  · have h1 : i < boxes.length := by simpa using g1
    clear g1
    have gb : (boxes.map bxI)[(i : Int).toNat]? = some (bxI boxes[i]) := get_mapZ h1
    have db : boxes.drop i = boxes[i] :: boxes.drop (i + 1) := List.drop_eq_getElem_cons h1
    have hbs := hb _ (List.getElem_mem h1)
    rw [db] at hno
    simp only [boxesBy, boxBy] at hno
    clear db
    have htk : (boxes.take (i + 1)).map (fun b => joinR 11 (partsR l b)) = (boxes.take i).map (fun b => joinR 11 (partsR l b)) ++ [joinR 11 (partsR l boxes[i])] := by rw [List.take_add_one, List.getElem?_eq_getElem h1, List.map_append]; rfl
    have hal : ((boxes.take i).map fun b => joinR 11 (partsR l b)).length = i := by simp; omega
    have hli := fun O => literals38 O l boxes[i] hbs.1.1 hbs.1.2 hl hnm hbs.2.1 hbs.2.2
    have hll : (boxes[i].lits l).length ≤ 2 * l.length := lits_len l 0 boxes[i].low boxes[i].high
    have hlx := lits_in l 0 boxes[i].low boxes[i].high
    have hly : ∀ x ∈ boxes[i].lits l, x.var < l.length ∧ (-1000 ≤ x.lo ∧ x.lo ≤ 1000) ∧ -1000 ≤ x.hi ∧ x.hi ≤ 1000 := fun x hx => by
      have := hlx x hx
      exact ⟨by omega, hbs.2.1 _ this.2.1, hbs.2.2 _ this.2.2⟩
    clear hlx
    have hpa : partsR l boxes[i] = if (boxes[i].lits l).isEmpty then [trueE] else (boxes[i].lits l).map litX := rfl
    have hjp := fun O (a1 : 1 ≤ (partsR l boxes[i]).length) (a2 : (partsR l boxes[i]).length ≤ 4096) => join78 (partsR l boxes[i]).length (partsR l boxes[i]) 11 O a1 (Nat.le_refl _) a2
    have hjn : joinF 11 (partsR l boxes[i]).length (partsR l boxes[i]) = joinR 11 (partsR l boxes[i]) := rfl
    rw [hjn] at hjp
    generalize (boxes.take i).map (fun b => joinR 11 (partsR l b)) = acc at *
    generalize hX : joinR 11 (partsR l boxes[i]) = X at *
    generalize boxes[i].lits l = L at *
    generalize partsR l boxes[i] = P at *
    generalize boxes[i] = b at *
    obtain ⟨lo, hi2⟩ := b
    have hi1 : ii (IntKind.i64.wrap ((i : Int) + 1)) = ii ((i + 1 : Nat) : Int) := congrArg ii (wsucc (n := 4096) (by omega) (by decide))
    generalize hT1 : T ++ (if i > 0 then orB else []) = T1 at *
    have hT1l : T1.length ≤ T.length + 4 := by
      rw [← hT1, List.length_append]
      split <;> simp [orB]
    apply join_p (P := True) (s6 := { σ := [(0, vrs l), (1, bxs boxes), (4, .own 0 4 0 0), (6, .osl 0 48), (7, strD (byB T1)), (8, ii i)], S := [(4, .box [ii 0, ii 0, ii 0, .i nilI]), (48, oexs acc)] :: O, n := 68 })
    · intro J
      first | refine g_cnd Tk Tryd.func25 rfl (fun c1 => ?_) (fun c1 => ?_) | refine g_know Tk Tryd.func25 rfl (fun c1 => ?_) (fun c1 => ?_) | refine s_know Tk (fun c1 => ?_) (fun c1 => ?_)
      · have c1 : 0 < i := by have := of_decide_eq_true c1; omega
        rw [if_pos c1] at hT1
        first | refine g_need Tk Tryd.func25 (by show (byB T).size + 4 ≤ 9223372036854775807; rw [byB_size]; omega) ?_ | refine s_need Tk (by show (byB T).size + 4 ≤ 9223372036854775807; rw [byB_size]; omega) ?_
        refine g_stop ?_
        refine rch_meet (J trivial) ⟨rfl, rfl, rfl, rfl, congrArg strD ((bcat T ⟨#[32, 111, 114, 32]⟩).trans (congrArg byB hT1)), rfl, trivial⟩ rfl ⟨rfl, rfl, trivial⟩ rfl rfl
      · have c1 : ¬ 0 < i := by have := of_decide_eq_false c1; omega
        rw [if_neg c1, List.append_nil] at hT1
        subst hT1
        refine g_stop ?_
        refine rch_meet (J trivial) ⟨rfl, rfl, rfl, rfl, rfl, rfl, trivial⟩ rfl ⟨rfl, rfl, trivial⟩ rfl rfl
    · intro _
      refine g_run Tk Tryd.func25 ?_
      refine g_go Tk Tryd.func25 ?_
      first | refine g_need Tk Tryd.func25 (by exact ⟨by omega, by show (i : Int) < (boxes.length : Int); omega⟩) ?_ | refine s_need Tk (by exact ⟨by omega, by show (i : Int) < (boxes.length : Int); omega⟩) ?_
      first | refine g_elem Tk Tryd.func25 (gb) ?_ | refine s_elem Tk (gb) ?_
      first | refine g_call Tk Tryd.func25 (hli _) rfl rfl rfl rfl rfl ?_ | refine s_callq Tk (fun _ => hli _) rfl rfl rfl ?_
      cases hL : L with
      | nil =>
        rw [hL] at hno hpa
        simp only [List.isEmpty_nil, if_true] at hno hpa
        have hXt : X = trueE := by rw [← hX, hpa]; rfl
        subst hXt
        repeat (first | refine g_cnd Tk Tryd.func25 rfl (fun _ => ?_) (fun h => absurd h (by decide)) | refine g_know Tk Tryd.func25 rfl (fun _ => ?_) (fun h => absurd h (by decide)) | refine s_know Tk (fun _ => ?_) (fun h => absurd h (by decide)) | refine g_cnd Tk Tryd.func25 rfl (fun h => absurd h (by decide)) (fun _ => ?_) | refine g_know Tk Tryd.func25 rfl (fun h => absurd h (by decide)) (fun _ => ?_) | refine s_know Tk (fun h => absurd h (by decide)) (fun _ => ?_) | refine g_cnd Tk Tryd.func25 rfl (fun _ => ?_) (fun h => absurd (show true = false from h) (by decide)) | refine g_know Tk Tryd.func25 rfl (fun _ => ?_) (fun h => absurd (show true = false from h) (by decide)) | refine s_know Tk (fun _ => ?_) (fun h => absurd (show true = false from h) (by decide)) | refine g_cnd Tk Tryd.func25 rfl (fun h => absurd (show false = true from h) (by decide)) (fun _ => ?_) | refine g_know Tk Tryd.func25 rfl (fun h => absurd (show false = true from h) (by decide)) (fun _ => ?_) | refine s_know Tk (fun h => absurd (show false = true from h) (by decide)) (fun _ => ?_))
        first | refine g_call Tk Tryd.func25 (true56A _) rfl rfl rfl rfl rfl ?_ | refine s_callq Tk (fun _ => true56A _) rfl rfl rfl ?_
        first | refine g_need Tk Tryd.func25 (by exact ⟨by show (acc.length + 1) * 48 ≤ 140737488355328; omega, by show acc.length + 1 ≤ 9223372036854775807; omega⟩) ?_ | refine s_need Tk (by exact ⟨by show (acc.length + 1) * 48 ≤ 140737488355328; omega, by show acc.length + 1 ≤ 9223372036854775807; omega⟩) ?_
        first | refine g_need Tk Tryd.func25 (by show (byB T1).size + 4 ≤ 9223372036854775807; rw [byB_size]; omega) ?_ | refine s_need Tk (by show (byB T1).size + 4 ≤ 9223372036854775807; rw [byB_size]; omega) ?_
        refine g_loop ?_
        refine rch_wk (wk_ren 41 48 rfl rfl rfl) ?_
        exact ih (i + 1, T1 ++ trueB) _ _ ⟨h1, by simp only [List.length_append]; show T1.length + 4 ≤ _; omega, hno⟩ (by simp only; omega) ⟨rfl, rfl, rfl, rfl, congrArg strD (bcat T1 ⟨#[116, 114, 117, 101]⟩), hi1, trivial⟩ rfl ⟨rfl, by rw [htk]; exact congrArg some (oexs_app acc trueE), trivial⟩ rfl rfl
      | cons x0 r0 =>
        have hne : L ≠ [] := by rw [hL]; simp
        have hie : ¬ L.isEmpty = true := by rw [hL]; simp
        rw [if_neg hie] at hno hpa
        rw [← hL]
        have hpos2 : 0 < L.length := List.length_pos_iff.2 hne
        clear hL
        have hjp := fun O => hjp O (by rw [hpa, List.length_map]; omega) (by rw [hpa, List.length_map]; omega)
        rw [hpa] at hjp
        first | refine g_cnd Tk Tryd.func25 rfl (fun c2 => ?_) (fun c2 => ?_) | refine g_know Tk Tryd.func25 rfl (fun c2 => ?_) (fun c2 => ?_) | refine s_know Tk (fun c2 => ?_) (fun c2 => ?_)
        · have := beqT c2
          rw [List.length_map] at this
          omega
        clear c2
        first | refine g_call Tk Tryd.func25 (hjp _) rfl rfl rfl rfl rfl ?_ | refine s_callq Tk (fun _ => hjp _) rfl rfl rfl ?_
        first | refine g_need Tk Tryd.func25 (by exact ⟨by show (acc.length + 1) * 48 ≤ 140737488355328; omega, by show acc.length + 1 ≤ 9223372036854775807; omega⟩) ?_ | refine s_need Tk (by exact ⟨by show (acc.length + 1) * 48 ≤ 140737488355328; omega, by show acc.length + 1 ≤ 9223372036854775807; omega⟩) ?_
        have hF0 : litsBy l L 0 T1 = litsBy l (L.drop 0) 0 T1 := rfl
        generalize litsBy l L 0 T1 = F at *
        refine g_loop ?_
        refine rch_loop2 (fun x : Nat × List UInt8 => [(0, vrs l), (1, bxs boxes), (4, .own 0 4 0 0), (6, .osl 0 48), (7, strD (byB x.2)), (8, ii i), (10, strs (L.map (litTx l))), (11, ii x.1)]) (fun x => [(4, .box [ii 0, ii 0, ii 0, .i nilI]), (48, oexs (acc ++ [X]))]) (fun _ => O) 68
          (fun x => x.1 ≤ L.length ∧ x.2.length ≤ T1.length + 1100 * x.1 ∧ F = litsBy l (L.drop x.1) x.1 x.2) (fun x => L.length - x.1) (0, T1)
          ⟨Nat.zero_le _, by simp, hF0⟩ ⟨rfl, rfl, rfl, rfl, rfl, rfl, rfl, rfl, trivial⟩ rfl ⟨rfl, congrArg some (oexs_app acc X), trivial⟩ rfl rfl ?_
        clear hF0
        rintro ⟨k, U⟩ ⟨hk, hUl, hF⟩ ih2
        simp only at hk hUl hF
        refine g_run Tk Tryd.func25 ?_
        first | refine g_cnd Tk Tryd.func25 rfl (fun g2 => ?_) (fun g2 => ?_) | refine g_know Tk Tryd.func25 rfl (fun g2 => ?_) (fun g2 => ?_) | refine s_know Tk (fun g2 => ?_) (fun g2 => ?_)
        · have h3 : k < L.length := by simpa using g2
          clear g2
          have gl : ((L.map (litTx l)).map fun s => [I.v (.string s)])[(k : Int).toNat]? = some [I.v (.string (litTx l L[k]))] := by
            rw [get_mapZ (f := fun s => [I.v (.string s)]) (show k < (L.map (litTx l)).length by rw [List.length_map]; exact h3)]
            simp
          have dl : L.drop k = L[k] :: L.drop (k + 1) := List.drop_eq_getElem_cons h3
          have hx := hly _ (List.getElem_mem h3)
          rw [dl] at hF
          simp only [litsBy] at hF
          clear dl
          generalize L[k] = x at *
          have hxs := litTx_size hx.1 hnm ⟨by omega, by omega⟩ ⟨by omega, by omega⟩
          generalize litTx l x = W2 at *
          have hk1 : ii (IntKind.i64.wrap ((k : Int) + 1)) = ii ((k + 1 : Nat) : Int) := congrArg ii (wsucc (n := 4096) (by omega) (by decide))
          generalize hU1 : U ++ (if k > 0 then andB else []) = U1 at *
          have hU1l : U1.length ≤ U.length + 5 := by
            rw [← hU1, List.length_append]
            split <;> simp [andB]
          apply join_p (P := True) (s6 := { σ := [(0, vrs l), (1, bxs boxes), (4, .own 0 4 0 0), (6, .osl 0 48), (7, strD (byB U1)), (8, ii i), (10, strs (L.map (litTx l))), (11, ii k)], S := [(4, .box [ii 0, ii 0, ii 0, .i nilI]), (48, oexs (acc ++ [X]))] :: O, n := 68 })
          · intro J
            first | refine g_cnd Tk Tryd.func25 rfl (fun c1 => ?_) (fun c1 => ?_) | refine g_know Tk Tryd.func25 rfl (fun c1 => ?_) (fun c1 => ?_) | refine s_know Tk (fun c1 => ?_) (fun c1 => ?_)
            · have c1 : 0 < k := by have := of_decide_eq_true c1; omega
              rw [if_pos c1] at hU1
              first | refine g_need Tk Tryd.func25 (by show (byB U).size + 5 ≤ 9223372036854775807; rw [byB_size]; omega) ?_ | refine s_need Tk (by show (byB U).size + 5 ≤ 9223372036854775807; rw [byB_size]; omega) ?_
              refine g_stop ?_
              refine rch_meet (J trivial) ⟨rfl, rfl, rfl, rfl, congrArg strD ((bcat U ⟨#[32, 97, 110, 100, 32]⟩).trans (congrArg byB hU1)), rfl, rfl, rfl, trivial⟩ rfl ⟨rfl, rfl, trivial⟩ rfl rfl
            · have c1 : ¬ 0 < k := by have := of_decide_eq_false c1; omega
              rw [if_neg c1, List.append_nil] at hU1
              subst hU1
              refine g_stop ?_
              refine rch_meet (J trivial) ⟨rfl, rfl, rfl, rfl, rfl, rfl, rfl, rfl, trivial⟩ rfl ⟨rfl, rfl, trivial⟩ rfl rfl
          · intro _
            refine g_run Tk Tryd.func25 ?_
            refine g_go Tk Tryd.func25 ?_
            first | refine g_need Tk Tryd.func25 (by exact ⟨by omega, by show (k : Int) < ((L.map (litTx l)).length : Int); rw [List.length_map]; omega⟩) ?_ | refine s_need Tk (by exact ⟨by omega, by show (k : Int) < ((L.map (litTx l)).length : Int); rw [List.length_map]; omega⟩) ?_
            first | refine g_elem Tk Tryd.func25 (gl) ?_ | refine s_elem Tk (gl) ?_
            first | refine g_need Tk Tryd.func25 (by show (byB U1).size + W2.size ≤ 9223372036854775807; rw [byB_size]; omega) ?_ | refine s_need Tk (by show (byB U1).size + W2.size ≤ 9223372036854775807; rw [byB_size]; omega) ?_
            refine g_loop ?_
            exact ih2 (k + 1, U1 ++ W2.data.toList) _ _ ⟨h3, by simp only [List.length_append, size_list]; omega, hF⟩ (by simp only; omega) ⟨rfl, rfl, rfl, rfl, congrArg strD (bcat U1 W2), rfl, rfl, hk1, trivial⟩ rfl ⟨rfl, rfl, trivial⟩ rfl rfl
        · have h3 : L.length ≤ k := by simpa using g2
          rw [List.drop_eq_nil_of_le h3] at hF
          simp only [litsBy] at hF
          rw [hF] at hno
          refine g_loop ?_
          exact ih (i + 1, U) _ _ ⟨h1, by simp only; omega, hno⟩ (by simp only; omega) ⟨rfl, rfl, rfl, rfl, rfl, hi1, trivial⟩ rfl ⟨rfl, congrArg (fun z => some (oexs z)) htk.symm, trivial⟩ rfl rfl
  · have h1 : boxes.length ≤ i := by simpa using g1
    rw [List.drop_eq_nil_of_le h1] at hno
    simp only [boxesBy] at hno
    subst hno
    rw [List.take_of_length_le h1]
    have hal : (boxes.map fun b => joinR 11 (partsR l b)).length = boxes.length := by simp
    generalize boxes.map (fun b => joinR 11 (partsR l b)) = acc at *
    have hjo := fun O => hjo O acc (by omega) (by omega)
    rw [← hw] at hjo
    obtain ⟨wo, wv, wi, wa⟩ := W
    refine g_stop ?_
    refine rch_wk (wk_freeze 48 rfl rfl) ?_
    refine rch_wk (wk_imm rfl) ?_
    refine g_run Tk Tryd.func25 ?_
    refine g_go Tk Tryd.func25 ?_
    first | refine g_call Tk Tryd.func25 (hjo _) rfl rfl rfl rfl rfl ?_ | refine s_callq Tk (fun _ => hjo _) rfl rfl rfl ?_
    refine g_ret Tk (r := .tup [exA (.mk wo wv wi wa), strD (byB T)]) rfl rfl rfl trivial rfl rfl ?_
    rfl
end Go.AI


/- GuardSimplifies. -/
namespace Go.AI
open Go.Proofs
set_option maxRecDepth 20000
def bd (l : List Int) : Prop := ∀ x ∈ l, -1000 ≤ x ∧ x ≤ 1000
def Bx.bd (b : Bx) : Prop := AI.bd b.low ∧ AI.bd b.high
theorem bd_getD {l : List Int} (h : bd l) (i : Nat) : -1000 ≤ l.getD i 0 ∧ l.getD i 0 ≤ 1000 := by
  rw [List.getD_eq_getElem?_getD]
  cases e : l[i]? with
  | none => simp
  | some x => exact h x (List.mem_of_getElem? e)
theorem bd_set {l : List Int} (h : bd l) (i : Nat) {y : Int} (hy : -1000 ≤ y ∧ y ≤ 1000) : bd (l.set i y) := fun x hx => by
  rcases List.mem_or_eq_of_mem_set hx with h1 | h1
  · exact h x h1
  · subst h1; exact hy
theorem down_bd (free : Bx → Bool) (i : Nat) {lo : Int} (hlo : -1000 ≤ lo) : ∀ (n : Nat) (b : Bx), b.bd → (downR free i lo n b).bd
  | 0, b, h => h
  | n + 1, b, h => by
    simp only [downR]
    have hg := bd_getD h.1 i
    split
    · split
      · exact down_bd free i hlo n _ ⟨bd_set h.1 i (by omega), h.2⟩
      · exact h
    · exact h
theorem up_bd (free : Bx → Bool) (i : Nat) {hi : Int} (hhi : hi ≤ 1000) : ∀ (n : Nat) (b : Bx), b.bd → (upR free i hi n b).bd
  | 0, b, h => h
  | n + 1, b, h => by
    simp only [upR]
    have hg := bd_getD h.2 i
    split
    · split
      · exact up_bd free i hhi n _ ⟨h.1, bd_set h.2 i (by omega)⟩
      · exact h
    · exact h
theorem growVs_bd (free : Bx → Bool) : ∀ (l : List Vr) (i : Nat) (b : Bx), (∀ v ∈ l, -1000 ≤ v.low ∧ v.high ≤ 1000) → b.bd → (growVs free l i b).bd
  | [], _, b, _, h => h
  | v :: r, i, b, hv, h => growVs_bd free r (i + 1) _ (fun w hw => hv w (by simp [hw])) (up_bd free i (hv v (by simp)).2 _ _ (down_bd free i (hv v (by simp)).1 _ _ h))
theorem coverL_bd (free : Bx → Bool) {vars : List Vr} (hv : ∀ v ∈ vars, -1000 ≤ v.low ∧ v.high ≤ 1000) : ∀ (needed : List (List Int)) (l : List Bx), (∀ v ∈ needed, bd v) → (∀ b ∈ l, b.bd) → ∀ b ∈ coverL free vars needed l, b.bd
  | [], l, _, h => h
  | v :: r, l, hn, h => by
    simp only [coverL]
    refine coverL_bd free hv r _ (fun w hw => hn w (by simp [hw])) ?_
    split
    · exact h
    · intro b hb
      rcases List.mem_append.1 hb with hb | hb
      · exact h b hb
      · rw [List.mem_singleton.1 hb]
        exact growVs_bd free vars 0 _ hv ⟨hn v (by simp), hn v (by simp)⟩
theorem thin_mem (needed : List (List Int)) : ∀ (kept rest : List Bx), ∀ b ∈ thin needed kept rest, b ∈ kept ++ rest
  | kept, [], b, h => by simpa [thin] using h
  | kept, x :: rest, b, h => by
    simp only [thin] at h
    split at h
    · have := thin_mem needed _ rest b h
      simpa using this
    · have := thin_mem needed kept rest b h
      simp only [List.mem_append, List.mem_cons] at this ⊢
      rcases this with h | h
      · exact .inl h
      · exact .inr (.inr h)
theorem inV_bd : ∀ {l : List Vr} {v : List Int}, (∀ x ∈ l, -1000 ≤ x.low ∧ x.high ≤ 1000) → inV l v → bd v
  | [], [], _, _ => fun x hx => by cases hx
  | [], _ :: _, _, h => h.elim
  | _ :: _, [], _, h => h.elim
  | a :: l, x :: v, hl, h => fun y hy => by
    have ha := hl a (by simp)
    rcases List.mem_cons.1 hy with rfl | hy
    · have := h.1; omega
    · exact inV_bd (fun w hw => hl w (by simp [hw])) h.2 y hy
theorem small.bd {l : List Vr} (h : small l) : ∀ v ∈ l, -1000 ≤ v.low ∧ v.high ≤ 1000 := fun v hv => by
  have := (h.v v hv).lo
  have := (h.v v hv).hi
  omega
theorem cover_bd {l : List Vr} (h : small l) (t c : List Bool) : ∀ b ∈ coverR l (allV l) t c, b.bd := by
  intro b hb
  have hm := thin_mem _ _ _ b hb
  rw [List.nil_append] at hm
  refine coverL_bd _ h.bd _ [] (fun v hv => ?_) (by simp) b hm
  obtain ⟨i, h1, _, _⟩ := neededR_mem hv
  exact inV_bd h.bd ((allV_dom l).mem v |>.1 (List.mem_of_getElem? h1))
mutual
theorem exEq_refl : ∀ x : Ex, exEq x x = true
  | .mk o v i a => by simp [exEq, exEqs_refl a]
theorem exEqs_refl : ∀ l : List Ex, exEqs l l = true
  | [] => by simp [exEqs]
  | x :: r => by simp [exEqs, exEq_refl x, exEqs_refl r]
end
theorem equalSame (O : List Heap) (x : Ex) (h : exOk x) : ASpec Tryd.prog 27 [exA x, exA x] O (bb true) [] O := by
  have := equal41 (SizeOf.sizeOf x + 1) x x (Nat.lt_succ_self _) h O
  rwa [exEq_refl, exD_eq] at this
theorem evalX_whole {l : List Vr} {boxes : List Bx} {v : List Int} (hb : ∀ b ∈ boxes, b.low.length = l.length ∧ b.high.length = l.length) (hv : inV l v) (hr : ∀ x ∈ l, -1000 ≤ x.low ∧ x.high ≤ 1000) (hc : (checkX (wholeR l boxes) l.length).2 = 0) : evalX (wholeR l boxes) v = (tr (inBs boxes v = true), 0) := by
  have he := ev_whole hb hv
  have hbd := inV_bd hr hv
  unfold evB at he
  unfold evalX
  rw [inV_len hv, if_neg (by simpa using hc), if_neg, he, if_neg (by simp)]
  simp only [List.any_eq_true, not_exists, not_and]
  intro x hx
  have := hbd x hx
  unfold largeB
  simp
  omega
theorem tblL_whole {l : List Vr} {boxes : List Bx} (hb : ∀ b ∈ boxes, b.low.length = l.length ∧ b.high.length = l.length) (hr : ∀ x ∈ l, -1000 ≤ x.low ∧ x.high ≤ 1000) (hc : (checkX (wholeR l boxes) l.length).2 = 0) : ∀ (dom : List (List Int)) (acc : List Bool), (∀ v ∈ dom, inV l v) → tblL (wholeR l boxes) dom acc = (acc ++ dom.map (inBs boxes), true)
  | [], acc, _ => by simp [tblL]
  | v :: r, acc, h => by
    simp only [tblL]
    rw [evalX_whole hb (h v (by simp)) hr hc, if_neg (by simp), tblL_whole hb hr hc r _ fun w hw => h w (by simp [hw])]
    have e : (tr (inBs boxes v = true) == 1) = inBs boxes v := by
      cases inBs boxes v <;> decide
    simp [e]
theorem check_false {n : Nat} (h : n ≤ 16) : (checkX falseE n).2 = 0 := by
  unfold checkX
  rw [if_neg (by omega)]
  rfl
theorem joined_bad {l : List Vr} {C : List Bx} (hl : l.length ≤ 16) (h : (checkX (wholeR l C) l.length).2 ≠ 0) : joinedR l C = (zeroE, (checkX (wholeR l C) l.length).2) := by
  unfold joinedR
  by_cases he : C.isEmpty = true
  · have e : wholeR l C = falseE := by unfold wholeR; rw [if_pos he]
    rw [e] at h
    exact absurd (check_false hl) h
  · rw [if_neg he, if_pos h]
theorem joined_good {l : List Vr} {C : List Bx} (h : (checkX (wholeR l C) l.length).2 = 0) : joinedR l C = (wholeR l C, 0) := by
  unfold joinedR
  by_cases he : C.isEmpty = true
  · have e : wholeR l C = falseE := by unfold wholeR; rw [if_pos he]
    rw [if_pos he, e]
  · rw [if_neg he, if_neg (by simpa using h)]
theorem coZr : CoD (.agg [ii 0, ii 0, ii 0, .i (.v (.slice none 0 0))]) (exA zeroE) := by
  show CoD _ (.agg [ii 0, ii 0, ii 0, .i (.sl 4 0 [])])
  repeat' (first | refine coD_tup ?_ | refine coD_agg ?_ | refine coD_i ?_ | refine CoDL.cons ?_ ?_ | exact CoDL.nil | exact coI_nil | refine coI_sl ?_ | refine CoLL.cons ?_ ?_ | exact CoLL.nil | refine CoL.cons ?_ ?_ | exact CoL.nil | exact CoI.refl _ | exact CoL.refl _ | exact CoLL.refl _ | exact CoDL.refl _ | exact CoD.refl _)
theorem eqZero (O : List Heap) : ASpec Tryd.prog 27 [exA zeroE, .agg [ii 0, ii 0, ii 0, .i (.v (.slice none 0 0))]] O (bb true) [] O :=
  (equalSame O zeroE (exOk_leaf _ _ _)).co (.cons (CoD.refl _) (.cons coZr .nil))
set_option maxHeartbeats 4000000 in
theorem guardSimplifies4 {g : Nat} (hg : IsTab g) {ty : TypeId} {fr : Nat × Nat} (O : List Heap) (r : List (Int × Int)) (a b : List Int) (hr : r.length ≤ max63) (hp : ∀ p ∈ r, pairOk p) (ha : byteOk a) (hal : a.length ≤ max63) (hb : byteOk b) (hbl : b.length ≤ max63) : ASpecT g (ptab ty fr) Tryd.prog 4 [r8s r, byts a, byts b] O (bb true) [] O := by
  have hkn := fun O => known15 hg (ty := ty) (fr := fr) O
  have hrg := fun O => ranges45 O r hr hp
  have hs := rngs_small hp
  generalize rngsR r = l at *
  have hl3 := hs.len
  have hmx := hs.max
  have hnm : ∀ v ∈ l, v.name.size ≤ 1000 := fun v hv => by rw [(hs.v v hv).nm]; decide
  have hgx := fun O => grow46 O a (l.length : Int) false (by omega) ha hal
  have hgy := fun O => grow46 O b (l.length : Int) false (by omega) hb hbl
  have hxo := (grow_typed (vars := (l.length : Int)) (by omega) (by omega) false ha).2
  have hyo := (grow_typed (vars := (l.length : Int)) (by omega) (by omega) false hb).2
  have hxc := checkX_grown (vars := (l.length : Int)) (by omega) (by omega) ha
  have hyc := checkX_grown (vars := (l.length : Int)) (by omega) (by omega) hb
  generalize growE (l.length : Int) false a = x at *
  generalize growE (l.length : Int) false b = y at *
  have htx := fun O => table23 O l x hs.dom hxo
  have hty := fun O => table23 O l y hs.dom hyo
  have hsi := fun O => simplify24 O l x y hmx.1 hmx.2 hxo hyo
  have hcx := @tableR_fine l.length (allV l) x hxc
  have hcy := @tableR_fine l.length (allV l) y hyc
  have hlx := @tblL_len x (allV l) []
  have hly := @tblL_len y (allV l) []
  have hmost := hs.most
  unfold simplR at hsi
  rw [hs.all] at hsi
  simp only at hsi
  generalize hT : tblL x (allV l) [] = T at *
  generalize hU : tblL y (allV l) [] = U at *
  obtain ⟨t, tf⟩ := T
  obtain ⟨u, uf⟩ := U
  simp only at htx hty hcx hcy hlx hly
  obtain ⟨xo, xv, xi, xa⟩ := x
  obtain ⟨yo, yv, yi, ya⟩ := y
  by_cases hff : ¬ (tf = true ∧ uf = true)
  · refine aspecT_stop [] Tk Tryd.func4 rfl Tryd.call4 Tryd.ntmps4 (Nat.le_of_ble_eq_true rfl) fun E hE => ?_
    refine g_run Tk Tryd.func4 ?_
    refine g_callT Tk Tryd.func4 hE (hkn _) rfl rfl rfl rfl rfl rfl ?_
    repeat (first | refine g_cnd Tk Tryd.func4 rfl (fun _ => ?_) (fun h => absurd h (by decide)) | refine g_know Tk Tryd.func4 rfl (fun _ => ?_) (fun h => absurd h (by decide)) | refine s_know Tk (fun _ => ?_) (fun h => absurd h (by decide)) | refine g_cnd Tk Tryd.func4 rfl (fun h => absurd h (by decide)) (fun _ => ?_) | refine g_know Tk Tryd.func4 rfl (fun h => absurd h (by decide)) (fun _ => ?_) | refine s_know Tk (fun h => absurd h (by decide)) (fun _ => ?_) | refine g_cnd Tk Tryd.func4 rfl (fun _ => ?_) (fun h => absurd (show true = false from h) (by decide)) | refine g_know Tk Tryd.func4 rfl (fun _ => ?_) (fun h => absurd (show true = false from h) (by decide)) | refine s_know Tk (fun _ => ?_) (fun h => absurd (show true = false from h) (by decide)) | refine g_cnd Tk Tryd.func4 rfl (fun h => absurd (show false = true from h) (by decide)) (fun _ => ?_) | refine g_know Tk Tryd.func4 rfl (fun h => absurd (show false = true from h) (by decide)) (fun _ => ?_) | refine s_know Tk (fun h => absurd (show false = true from h) (by decide)) (fun _ => ?_))
    first | refine g_call Tk Tryd.func4 (hrg _) rfl rfl rfl rfl rfl ?_ | refine s_callq Tk (fun _ => hrg _) rfl rfl rfl ?_
    first | refine g_call Tk Tryd.func4 (hgx _) rfl rfl rfl rfl rfl ?_ | refine s_callq Tk (fun _ => hgx _) rfl rfl rfl ?_
    first | refine g_call Tk Tryd.func4 (hgy _) rfl rfl rfl rfl rfl ?_ | refine s_callq Tk (fun _ => hgy _) rfl rfl rfl ?_
    first | refine g_call Tk Tryd.func4 (htx _) rfl rfl rfl rfl rfl ?_ | refine s_callq Tk (fun _ => htx _) rfl rfl rfl ?_
    first | refine g_call Tk Tryd.func4 (hty _) rfl rfl rfl rfl rfl ?_ | refine s_callq Tk (fun _ => hty _) rfl rfl rfl ?_
    cases tf with
    | false =>
      repeat (first | refine g_cnd Tk Tryd.func4 rfl (fun _ => ?_) (fun h => absurd h (by decide)) | refine g_know Tk Tryd.func4 rfl (fun _ => ?_) (fun h => absurd h (by decide)) | refine s_know Tk (fun _ => ?_) (fun h => absurd h (by decide)) | refine g_cnd Tk Tryd.func4 rfl (fun h => absurd h (by decide)) (fun _ => ?_) | refine g_know Tk Tryd.func4 rfl (fun h => absurd h (by decide)) (fun _ => ?_) | refine s_know Tk (fun h => absurd h (by decide)) (fun _ => ?_) | refine g_cnd Tk Tryd.func4 rfl (fun _ => ?_) (fun h => absurd (show true = false from h) (by decide)) | refine g_know Tk Tryd.func4 rfl (fun _ => ?_) (fun h => absurd (show true = false from h) (by decide)) | refine s_know Tk (fun _ => ?_) (fun h => absurd (show true = false from h) (by decide)) | refine g_cnd Tk Tryd.func4 rfl (fun h => absurd (show false = true from h) (by decide)) (fun _ => ?_) | refine g_know Tk Tryd.func4 rfl (fun h => absurd (show false = true from h) (by decide)) (fun _ => ?_) | refine s_know Tk (fun h => absurd (show false = true from h) (by decide)) (fun _ => ?_))
      refine g_ret Tk (r := bb true) rfl rfl rfl trivial rfl rfl ?_
      rfl
    | true =>
      cases uf with
      | true => exact absurd ⟨rfl, rfl⟩ hff
      | false =>
        repeat (first | refine g_cnd Tk Tryd.func4 rfl (fun _ => ?_) (fun h => absurd h (by decide)) | refine g_know Tk Tryd.func4 rfl (fun _ => ?_) (fun h => absurd h (by decide)) | refine s_know Tk (fun _ => ?_) (fun h => absurd h (by decide)) | refine g_cnd Tk Tryd.func4 rfl (fun h => absurd h (by decide)) (fun _ => ?_) | refine g_know Tk Tryd.func4 rfl (fun h => absurd h (by decide)) (fun _ => ?_) | refine s_know Tk (fun h => absurd h (by decide)) (fun _ => ?_) | refine g_cnd Tk Tryd.func4 rfl (fun _ => ?_) (fun h => absurd (show true = false from h) (by decide)) | refine g_know Tk Tryd.func4 rfl (fun _ => ?_) (fun h => absurd (show true = false from h) (by decide)) | refine s_know Tk (fun _ => ?_) (fun h => absurd (show true = false from h) (by decide)) | refine g_cnd Tk Tryd.func4 rfl (fun h => absurd (show false = true from h) (by decide)) (fun _ => ?_) | refine g_know Tk Tryd.func4 rfl (fun h => absurd (show false = true from h) (by decide)) (fun _ => ?_) | refine s_know Tk (fun h => absurd (show false = true from h) (by decide)) (fun _ => ?_))
        refine g_ret Tk (r := bb true) rfl rfl rfl trivial rfl rfl ?_
        rfl
  obtain ⟨rfl, rfl⟩ : tf = true ∧ uf = true := Classical.byContradiction hff
  clear hff
  rw [hcx rfl, hcy rfl] at hsi
  have hlx := hlx rfl
  have hly := hly rfl
  simp only [List.length_nil, Nat.zero_add] at hlx hly
  simp only [ne_eq, not_true_eq_false, if_false] at hsi
  have hcv := fun O => cover21 O l t u hs.dom hlx hly
  have hcr := coverR_ok (l := l) (all := allV l) (t := t) (c := u) (allV_dom l)
  have hbd := cover_bd hs t u
  have hCl := coverR_len l (allV l) t u
  generalize coverR l (allV l) t u = C at *
  have hbl2 : ∀ b ∈ C, b.low.length = l.length ∧ b.high.length = l.length := fun b hb => ⟨hcr.low b hb, hcr.high b hb⟩
  have hwh := fun O => whole25 O l C (by omega) hnm (fun b hb => ⟨hbl2 b hb, hbd b hb⟩) (by omega)
  have hck := fun O => check67A O (wholeR l C) l.length (exOk_whole l C)
  have heqw := fun O => equalSame O (wholeR l C) (exOk_whole l C)
  have htw := fun O => table23 O l (wholeR l C) hs.dom (exOk_whole l C)
  have htb := fun hc => tblL_whole hbl2 hs.bd hc (allV l) [] (fun v hv => (allV_dom l).mem v |>.1 hv)
  have hj1 := @joined_bad l C (by omega)
  have hj2 := @joined_good l C
  have hsay : ∀ (i : Nat) (p q : Bool), t[i]? = some p → u[i]? = some true → ((allV l).map (inBs C))[i]? = some q → q = p := fun i p q h1 h2 h3 => by
    rw [List.getElem?_map] at h3
    cases hv : (allV l)[i]? with
    | none => rw [hv] at h3; cases h3
    | some v =>
      rw [hv] at h3
      rw [← Option.some.inj h3]
      exact hcr.say i v p hv h1 h2
  generalize joinedR l C = J at *
  generalize wholeR l C = W at *
  generalize checkX W l.length = K at *
  obtain ⟨kk, ke⟩ := K
  simp only at hck htb hj1 hj2
  by_cases hke : ke ≠ 0
  · have hj1 := hj1 hke
    subst hj1
    obtain ⟨wo, wv, wi, wa⟩ := W
    refine aspecT_stop [] Tk Tryd.func4 rfl Tryd.call4 Tryd.ntmps4 (Nat.le_of_ble_eq_true rfl) fun E hE => ?_
    refine g_run Tk Tryd.func4 ?_
    refine g_callT Tk Tryd.func4 hE (hkn _) rfl rfl rfl rfl rfl rfl ?_
    repeat (first | refine g_cnd Tk Tryd.func4 rfl (fun _ => ?_) (fun h => absurd h (by decide)) | refine g_know Tk Tryd.func4 rfl (fun _ => ?_) (fun h => absurd h (by decide)) | refine s_know Tk (fun _ => ?_) (fun h => absurd h (by decide)) | refine g_cnd Tk Tryd.func4 rfl (fun h => absurd h (by decide)) (fun _ => ?_) | refine g_know Tk Tryd.func4 rfl (fun h => absurd h (by decide)) (fun _ => ?_) | refine s_know Tk (fun h => absurd h (by decide)) (fun _ => ?_) | refine g_cnd Tk Tryd.func4 rfl (fun _ => ?_) (fun h => absurd (show true = false from h) (by decide)) | refine g_know Tk Tryd.func4 rfl (fun _ => ?_) (fun h => absurd (show true = false from h) (by decide)) | refine s_know Tk (fun _ => ?_) (fun h => absurd (show true = false from h) (by decide)) | refine g_cnd Tk Tryd.func4 rfl (fun h => absurd (show false = true from h) (by decide)) (fun _ => ?_) | refine g_know Tk Tryd.func4 rfl (fun h => absurd (show false = true from h) (by decide)) (fun _ => ?_) | refine s_know Tk (fun h => absurd (show false = true from h) (by decide)) (fun _ => ?_))
    first | refine g_call Tk Tryd.func4 (hrg _) rfl rfl rfl rfl rfl ?_ | refine s_callq Tk (fun _ => hrg _) rfl rfl rfl ?_
    first | refine g_call Tk Tryd.func4 (hgx _) rfl rfl rfl rfl rfl ?_ | refine s_callq Tk (fun _ => hgx _) rfl rfl rfl ?_
    first | refine g_call Tk Tryd.func4 (hgy _) rfl rfl rfl rfl rfl ?_ | refine s_callq Tk (fun _ => hgy _) rfl rfl rfl ?_
    first | refine g_call Tk Tryd.func4 (htx _) rfl rfl rfl rfl rfl ?_ | refine s_callq Tk (fun _ => htx _) rfl rfl rfl ?_
    first | refine g_call Tk Tryd.func4 (hty _) rfl rfl rfl rfl rfl ?_ | refine s_callq Tk (fun _ => hty _) rfl rfl rfl ?_
    repeat (first | refine g_cnd Tk Tryd.func4 rfl (fun _ => ?_) (fun h => absurd h (by decide)) | refine g_know Tk Tryd.func4 rfl (fun _ => ?_) (fun h => absurd h (by decide)) | refine s_know Tk (fun _ => ?_) (fun h => absurd h (by decide)) | refine g_cnd Tk Tryd.func4 rfl (fun h => absurd h (by decide)) (fun _ => ?_) | refine g_know Tk Tryd.func4 rfl (fun h => absurd h (by decide)) (fun _ => ?_) | refine s_know Tk (fun h => absurd h (by decide)) (fun _ => ?_) | refine g_cnd Tk Tryd.func4 rfl (fun _ => ?_) (fun h => absurd (show true = false from h) (by decide)) | refine g_know Tk Tryd.func4 rfl (fun _ => ?_) (fun h => absurd (show true = false from h) (by decide)) | refine s_know Tk (fun _ => ?_) (fun h => absurd (show true = false from h) (by decide)) | refine g_cnd Tk Tryd.func4 rfl (fun h => absurd (show false = true from h) (by decide)) (fun _ => ?_) | refine g_know Tk Tryd.func4 rfl (fun h => absurd (show false = true from h) (by decide)) (fun _ => ?_) | refine s_know Tk (fun h => absurd (show false = true from h) (by decide)) (fun _ => ?_))
    first | refine g_call Tk Tryd.func4 (hsi _) rfl rfl rfl rfl rfl ?_ | refine s_callq Tk (fun _ => hsi _) rfl rfl rfl ?_
    first | refine g_call Tk Tryd.func4 (hcv _) rfl rfl rfl rfl rfl ?_ | refine s_callq Tk (fun _ => hcv _) rfl rfl rfl ?_
    first | refine g_call Tk Tryd.func4 (hwh _) rfl rfl rfl rfl rfl ?_ | refine s_callq Tk (fun _ => hwh _) rfl rfl rfl ?_
    first | refine g_call Tk Tryd.func4 (hck _) rfl rfl rfl rfl rfl ?_ | refine s_callq Tk (fun _ => hck _) rfl rfl rfl ?_
    first | refine g_cnd Tk Tryd.func4 rfl (fun g1 => ?_) (fun g1 => ?_) | refine g_know Tk Tryd.func4 rfl (fun g1 => ?_) (fun g1 => ?_) | refine s_know Tk (fun g1 => ?_) (fun g1 => ?_)
    rotate_left
    · exact absurd (bneF g1) hke
    first | refine g_call Tk Tryd.func4 (eqZero _) rfl rfl rfl rfl rfl ?_ | refine s_callq Tk (fun _ => eqZero _) rfl rfl rfl ?_
    repeat (first | refine g_cnd Tk Tryd.func4 rfl (fun _ => ?_) (fun h => absurd h (by decide)) | refine g_know Tk Tryd.func4 rfl (fun _ => ?_) (fun h => absurd h (by decide)) | refine s_know Tk (fun _ => ?_) (fun h => absurd h (by decide)) | refine g_cnd Tk Tryd.func4 rfl (fun h => absurd h (by decide)) (fun _ => ?_) | refine g_know Tk Tryd.func4 rfl (fun h => absurd h (by decide)) (fun _ => ?_) | refine s_know Tk (fun h => absurd h (by decide)) (fun _ => ?_) | refine g_cnd Tk Tryd.func4 rfl (fun _ => ?_) (fun h => absurd (show true = false from h) (by decide)) | refine g_know Tk Tryd.func4 rfl (fun _ => ?_) (fun h => absurd (show true = false from h) (by decide)) | refine s_know Tk (fun _ => ?_) (fun h => absurd (show true = false from h) (by decide)) | refine g_cnd Tk Tryd.func4 rfl (fun h => absurd (show false = true from h) (by decide)) (fun _ => ?_) | refine g_know Tk Tryd.func4 rfl (fun h => absurd (show false = true from h) (by decide)) (fun _ => ?_) | refine s_know Tk (fun h => absurd (show false = true from h) (by decide)) (fun _ => ?_))
    refine g_ret Tk (r := bb (ke == ke)) rfl rfl rfl trivial rfl rfl ?_
    simp
  have hke : ke = 0 := Classical.byContradiction hke
  subst hke
  have htb := htb rfl
  rw [htb] at htw
  have hj2 := hj2 rfl
  subst hj2
  simp only [List.nil_append] at htw
  generalize hV : (allV l).map (inBs C) = V at *
  have hVl : V.length = (allV l).length := by rw [← hV, List.length_map]
  generalize allV l = dom at *
  obtain ⟨wo, wv, wi, wa⟩ := W
  refine aspecT_stop [] Tk Tryd.func4 rfl Tryd.call4 Tryd.ntmps4 (Nat.le_of_ble_eq_true rfl) fun E hE => ?_
  refine g_run Tk Tryd.func4 ?_
  refine g_callT Tk Tryd.func4 hE (hkn _) rfl rfl rfl rfl rfl rfl ?_
  repeat (first | refine g_cnd Tk Tryd.func4 rfl (fun _ => ?_) (fun h => absurd h (by decide)) | refine g_know Tk Tryd.func4 rfl (fun _ => ?_) (fun h => absurd h (by decide)) | refine s_know Tk (fun _ => ?_) (fun h => absurd h (by decide)) | refine g_cnd Tk Tryd.func4 rfl (fun h => absurd h (by decide)) (fun _ => ?_) | refine g_know Tk Tryd.func4 rfl (fun h => absurd h (by decide)) (fun _ => ?_) | refine s_know Tk (fun h => absurd h (by decide)) (fun _ => ?_) | refine g_cnd Tk Tryd.func4 rfl (fun _ => ?_) (fun h => absurd (show true = false from h) (by decide)) | refine g_know Tk Tryd.func4 rfl (fun _ => ?_) (fun h => absurd (show true = false from h) (by decide)) | refine s_know Tk (fun _ => ?_) (fun h => absurd (show true = false from h) (by decide)) | refine g_cnd Tk Tryd.func4 rfl (fun h => absurd (show false = true from h) (by decide)) (fun _ => ?_) | refine g_know Tk Tryd.func4 rfl (fun h => absurd (show false = true from h) (by decide)) (fun _ => ?_) | refine s_know Tk (fun h => absurd (show false = true from h) (by decide)) (fun _ => ?_))
  first | refine g_call Tk Tryd.func4 (hrg _) rfl rfl rfl rfl rfl ?_ | refine s_callq Tk (fun _ => hrg _) rfl rfl rfl ?_
  first | refine g_call Tk Tryd.func4 (hgx _) rfl rfl rfl rfl rfl ?_ | refine s_callq Tk (fun _ => hgx _) rfl rfl rfl ?_
  first | refine g_call Tk Tryd.func4 (hgy _) rfl rfl rfl rfl rfl ?_ | refine s_callq Tk (fun _ => hgy _) rfl rfl rfl ?_
  first | refine g_call Tk Tryd.func4 (htx _) rfl rfl rfl rfl rfl ?_ | refine s_callq Tk (fun _ => htx _) rfl rfl rfl ?_
  first | refine g_call Tk Tryd.func4 (hty _) rfl rfl rfl rfl rfl ?_ | refine s_callq Tk (fun _ => hty _) rfl rfl rfl ?_
  repeat (first | refine g_cnd Tk Tryd.func4 rfl (fun _ => ?_) (fun h => absurd h (by decide)) | refine g_know Tk Tryd.func4 rfl (fun _ => ?_) (fun h => absurd h (by decide)) | refine s_know Tk (fun _ => ?_) (fun h => absurd h (by decide)) | refine g_cnd Tk Tryd.func4 rfl (fun h => absurd h (by decide)) (fun _ => ?_) | refine g_know Tk Tryd.func4 rfl (fun h => absurd h (by decide)) (fun _ => ?_) | refine s_know Tk (fun h => absurd h (by decide)) (fun _ => ?_) | refine g_cnd Tk Tryd.func4 rfl (fun _ => ?_) (fun h => absurd (show true = false from h) (by decide)) | refine g_know Tk Tryd.func4 rfl (fun _ => ?_) (fun h => absurd (show true = false from h) (by decide)) | refine s_know Tk (fun _ => ?_) (fun h => absurd (show true = false from h) (by decide)) | refine g_cnd Tk Tryd.func4 rfl (fun h => absurd (show false = true from h) (by decide)) (fun _ => ?_) | refine g_know Tk Tryd.func4 rfl (fun h => absurd (show false = true from h) (by decide)) (fun _ => ?_) | refine s_know Tk (fun h => absurd (show false = true from h) (by decide)) (fun _ => ?_))
  first | refine g_call Tk Tryd.func4 (hsi _) rfl rfl rfl rfl rfl ?_ | refine s_callq Tk (fun _ => hsi _) rfl rfl rfl ?_
  first | refine g_call Tk Tryd.func4 (hcv _) rfl rfl rfl rfl rfl ?_ | refine s_callq Tk (fun _ => hcv _) rfl rfl rfl ?_
  first | refine g_call Tk Tryd.func4 (hwh _) rfl rfl rfl rfl rfl ?_ | refine s_callq Tk (fun _ => hwh _) rfl rfl rfl ?_
  first | refine g_call Tk Tryd.func4 (hck _) rfl rfl rfl rfl rfl ?_ | refine s_callq Tk (fun _ => hck _) rfl rfl rfl ?_
  repeat (first | refine g_cnd Tk Tryd.func4 rfl (fun _ => ?_) (fun h => absurd h (by decide)) | refine g_know Tk Tryd.func4 rfl (fun _ => ?_) (fun h => absurd h (by decide)) | refine s_know Tk (fun _ => ?_) (fun h => absurd h (by decide)) | refine g_cnd Tk Tryd.func4 rfl (fun h => absurd h (by decide)) (fun _ => ?_) | refine g_know Tk Tryd.func4 rfl (fun h => absurd h (by decide)) (fun _ => ?_) | refine s_know Tk (fun h => absurd h (by decide)) (fun _ => ?_) | refine g_cnd Tk Tryd.func4 rfl (fun _ => ?_) (fun h => absurd (show true = false from h) (by decide)) | refine g_know Tk Tryd.func4 rfl (fun _ => ?_) (fun h => absurd (show true = false from h) (by decide)) | refine s_know Tk (fun _ => ?_) (fun h => absurd (show true = false from h) (by decide)) | refine g_cnd Tk Tryd.func4 rfl (fun h => absurd (show false = true from h) (by decide)) (fun _ => ?_) | refine g_know Tk Tryd.func4 rfl (fun h => absurd (show false = true from h) (by decide)) (fun _ => ?_) | refine s_know Tk (fun h => absurd (show false = true from h) (by decide)) (fun _ => ?_))
  first | refine g_call Tk Tryd.func4 (htw _) rfl rfl rfl rfl rfl ?_ | refine s_callq Tk (fun _ => htw _) rfl rfl rfl ?_
  first | refine g_call Tk Tryd.func4 (heqw _) rfl rfl rfl rfl rfl ?_ | refine s_callq Tk (fun _ => heqw _) rfl rfl rfl ?_
  repeat (first | refine g_cnd Tk Tryd.func4 rfl (fun _ => ?_) (fun h => absurd h (by decide)) | refine g_know Tk Tryd.func4 rfl (fun _ => ?_) (fun h => absurd h (by decide)) | refine s_know Tk (fun _ => ?_) (fun h => absurd h (by decide)) | refine g_cnd Tk Tryd.func4 rfl (fun h => absurd h (by decide)) (fun _ => ?_) | refine g_know Tk Tryd.func4 rfl (fun h => absurd h (by decide)) (fun _ => ?_) | refine s_know Tk (fun h => absurd h (by decide)) (fun _ => ?_) | refine g_cnd Tk Tryd.func4 rfl (fun _ => ?_) (fun h => absurd (show true = false from h) (by decide)) | refine g_know Tk Tryd.func4 rfl (fun _ => ?_) (fun h => absurd (show true = false from h) (by decide)) | refine s_know Tk (fun _ => ?_) (fun h => absurd (show true = false from h) (by decide)) | refine g_cnd Tk Tryd.func4 rfl (fun h => absurd (show false = true from h) (by decide)) (fun _ => ?_) | refine g_know Tk Tryd.func4 rfl (fun h => absurd (show false = true from h) (by decide)) (fun _ => ?_) | refine s_know Tk (fun h => absurd (show false = true from h) (by decide)) (fun _ => ?_))
  refine g_loop ?_
  refine rch_loop2 (fun i : Nat => [(10, bools t), (12, bools u), (20, bools V), (22, ii i)]) (fun _ => []) (fun _ => O) 125
    (fun i => i ≤ t.length) (fun i => t.length - i) 0 (Nat.zero_le _) ⟨rfl, rfl, rfl, rfl, trivial⟩ rfl trivial rfl rfl ?_
  intro i hi ih
  refine g_run Tk Tryd.func4 ?_
  first | refine g_cnd Tk Tryd.func4 rfl (fun g1 => ?_) (fun g1 => ?_) | refine g_know Tk Tryd.func4 rfl (fun g1 => ?_) (fun g1 => ?_) | refine s_know Tk (fun g1 => ?_) (fun g1 => ?_)
  · have h1 : i < t.length := by simpa using g1
    clear g1
    have gt : (t.map fun x => [I.v (.bool x)])[(i : Int).toNat]? = some [I.v (.bool (t[i]'(by omega)))] := get_mapZ (f := fun x => [I.v (.bool x)]) (by omega)
    have gu : (u.map fun x => [I.v (.bool x)])[(i : Int).toNat]? = some [I.v (.bool (u[i]'(by omega)))] := get_mapZ (f := fun x => [I.v (.bool x)]) (by omega)
    have gV : (V.map fun x => [I.v (.bool x)])[(i : Int).toNat]? = some [I.v (.bool (V[i]'(by omega)))] := get_mapZ (f := fun x => [I.v (.bool x)]) (by omega)
    have hsi : (u[i]'(by omega)) = true → (V[i]'(by omega)) = (t[i]'(by omega)) := fun h => hsay i _ _ (List.getElem?_eq_getElem (by omega)) (by rw [List.getElem?_eq_getElem (show i < u.length by omega), h]) (List.getElem?_eq_getElem (by omega))
    have hi1 : ii (IntKind.i64.wrap ((i : Int) + 1)) = ii ((i + 1 : Nat) : Int) := congrArg ii (wsucc (n := 4096) (by omega) (by decide))
    generalize t[i]'(by omega) = ct at *
    generalize u[i]'(by omega) = cu at *
    generalize V[i]'(by omega) = cV at *
    refine g_drawn Tk Tryd.func4 mixedT rfl ?_
    first | refine g_need Tk Tryd.func4 (by exact ⟨by omega, by show (i : Int) < (u.length : Int); omega⟩) ?_ | refine s_need Tk (by exact ⟨by omega, by show (i : Int) < (u.length : Int); omega⟩) ?_
    first | refine g_elem Tk Tryd.func4 (gu) ?_ | refine s_elem Tk (gu) ?_
    cases cu with
    | false =>
      repeat (first | refine g_cnd Tk Tryd.func4 rfl (fun _ => ?_) (fun h => absurd h (by decide)) | refine g_know Tk Tryd.func4 rfl (fun _ => ?_) (fun h => absurd h (by decide)) | refine s_know Tk (fun _ => ?_) (fun h => absurd h (by decide)) | refine g_cnd Tk Tryd.func4 rfl (fun h => absurd h (by decide)) (fun _ => ?_) | refine g_know Tk Tryd.func4 rfl (fun h => absurd h (by decide)) (fun _ => ?_) | refine s_know Tk (fun h => absurd h (by decide)) (fun _ => ?_) | refine g_cnd Tk Tryd.func4 rfl (fun _ => ?_) (fun h => absurd (show true = false from h) (by decide)) | refine g_know Tk Tryd.func4 rfl (fun _ => ?_) (fun h => absurd (show true = false from h) (by decide)) | refine s_know Tk (fun _ => ?_) (fun h => absurd (show true = false from h) (by decide)) | refine g_cnd Tk Tryd.func4 rfl (fun h => absurd (show false = true from h) (by decide)) (fun _ => ?_) | refine g_know Tk Tryd.func4 rfl (fun h => absurd (show false = true from h) (by decide)) (fun _ => ?_) | refine s_know Tk (fun h => absurd (show false = true from h) (by decide)) (fun _ => ?_))
      refine e_done Tk Tryd.func4 (by kernel_rfl) ?_
      repeat (first | refine g_cnd Tk Tryd.func4 rfl (fun _ => ?_) (fun h => absurd h (by decide)) | refine g_know Tk Tryd.func4 rfl (fun _ => ?_) (fun h => absurd h (by decide)) | refine s_know Tk (fun _ => ?_) (fun h => absurd h (by decide)) | refine g_cnd Tk Tryd.func4 rfl (fun h => absurd h (by decide)) (fun _ => ?_) | refine g_know Tk Tryd.func4 rfl (fun h => absurd h (by decide)) (fun _ => ?_) | refine s_know Tk (fun h => absurd h (by decide)) (fun _ => ?_) | refine g_cnd Tk Tryd.func4 rfl (fun _ => ?_) (fun h => absurd (show true = false from h) (by decide)) | refine g_know Tk Tryd.func4 rfl (fun _ => ?_) (fun h => absurd (show true = false from h) (by decide)) | refine s_know Tk (fun _ => ?_) (fun h => absurd (show true = false from h) (by decide)) | refine g_cnd Tk Tryd.func4 rfl (fun h => absurd (show false = true from h) (by decide)) (fun _ => ?_) | refine g_know Tk Tryd.func4 rfl (fun h => absurd (show false = true from h) (by decide)) (fun _ => ?_) | refine s_know Tk (fun h => absurd (show false = true from h) (by decide)) (fun _ => ?_))
      refine g_loop ?_
      exact ih (i + 1) _ _ h1 (by omega) ⟨rfl, rfl, rfl, hi1, trivial⟩ rfl trivial rfl rfl
    | true =>
      have hsi := hsi rfl
      subst hsi
      repeat (first | refine g_cnd Tk Tryd.func4 rfl (fun _ => ?_) (fun h => absurd h (by decide)) | refine g_know Tk Tryd.func4 rfl (fun _ => ?_) (fun h => absurd h (by decide)) | refine s_know Tk (fun _ => ?_) (fun h => absurd h (by decide)) | refine g_cnd Tk Tryd.func4 rfl (fun h => absurd h (by decide)) (fun _ => ?_) | refine g_know Tk Tryd.func4 rfl (fun h => absurd h (by decide)) (fun _ => ?_) | refine s_know Tk (fun h => absurd h (by decide)) (fun _ => ?_) | refine g_cnd Tk Tryd.func4 rfl (fun _ => ?_) (fun h => absurd (show true = false from h) (by decide)) | refine g_know Tk Tryd.func4 rfl (fun _ => ?_) (fun h => absurd (show true = false from h) (by decide)) | refine s_know Tk (fun _ => ?_) (fun h => absurd (show true = false from h) (by decide)) | refine g_cnd Tk Tryd.func4 rfl (fun h => absurd (show false = true from h) (by decide)) (fun _ => ?_) | refine g_know Tk Tryd.func4 rfl (fun h => absurd (show false = true from h) (by decide)) (fun _ => ?_) | refine s_know Tk (fun h => absurd (show false = true from h) (by decide)) (fun _ => ?_))
      first | refine g_need Tk Tryd.func4 (by exact ⟨by omega, by show (i : Int) < (V.length : Int); omega⟩) ?_ | refine s_need Tk (by exact ⟨by omega, by show (i : Int) < (V.length : Int); omega⟩) ?_
      first | refine g_elem Tk Tryd.func4 (gV) ?_ | refine s_elem Tk (gV) ?_
      first | refine g_need Tk Tryd.func4 (by exact ⟨by omega, by show (i : Int) < (t.length : Int); omega⟩) ?_ | refine s_need Tk (by exact ⟨by omega, by show (i : Int) < (t.length : Int); omega⟩) ?_
      first | refine g_elem Tk Tryd.func4 (gt) ?_ | refine s_elem Tk (gt) ?_
      refine e_done Tk Tryd.func4 (by kernel_rfl) ?_
      cases cV with
      | false =>
        repeat (first | refine g_cnd Tk Tryd.func4 rfl (fun _ => ?_) (fun h => absurd h (by decide)) | refine g_know Tk Tryd.func4 rfl (fun _ => ?_) (fun h => absurd h (by decide)) | refine s_know Tk (fun _ => ?_) (fun h => absurd h (by decide)) | refine g_cnd Tk Tryd.func4 rfl (fun h => absurd h (by decide)) (fun _ => ?_) | refine g_know Tk Tryd.func4 rfl (fun h => absurd h (by decide)) (fun _ => ?_) | refine s_know Tk (fun h => absurd h (by decide)) (fun _ => ?_) | refine g_cnd Tk Tryd.func4 rfl (fun _ => ?_) (fun h => absurd (show true = false from h) (by decide)) | refine g_know Tk Tryd.func4 rfl (fun _ => ?_) (fun h => absurd (show true = false from h) (by decide)) | refine s_know Tk (fun _ => ?_) (fun h => absurd (show true = false from h) (by decide)) | refine g_cnd Tk Tryd.func4 rfl (fun h => absurd (show false = true from h) (by decide)) (fun _ => ?_) | refine g_know Tk Tryd.func4 rfl (fun h => absurd (show false = true from h) (by decide)) (fun _ => ?_) | refine s_know Tk (fun h => absurd (show false = true from h) (by decide)) (fun _ => ?_))
        refine g_loop ?_
        exact ih (i + 1) _ _ h1 (by omega) ⟨rfl, rfl, rfl, hi1, trivial⟩ rfl trivial rfl rfl
      | true =>
        repeat (first | refine g_cnd Tk Tryd.func4 rfl (fun _ => ?_) (fun h => absurd h (by decide)) | refine g_know Tk Tryd.func4 rfl (fun _ => ?_) (fun h => absurd h (by decide)) | refine s_know Tk (fun _ => ?_) (fun h => absurd h (by decide)) | refine g_cnd Tk Tryd.func4 rfl (fun h => absurd h (by decide)) (fun _ => ?_) | refine g_know Tk Tryd.func4 rfl (fun h => absurd h (by decide)) (fun _ => ?_) | refine s_know Tk (fun h => absurd h (by decide)) (fun _ => ?_) | refine g_cnd Tk Tryd.func4 rfl (fun _ => ?_) (fun h => absurd (show true = false from h) (by decide)) | refine g_know Tk Tryd.func4 rfl (fun _ => ?_) (fun h => absurd (show true = false from h) (by decide)) | refine s_know Tk (fun _ => ?_) (fun h => absurd (show true = false from h) (by decide)) | refine g_cnd Tk Tryd.func4 rfl (fun h => absurd (show false = true from h) (by decide)) (fun _ => ?_) | refine g_know Tk Tryd.func4 rfl (fun h => absurd (show false = true from h) (by decide)) (fun _ => ?_) | refine s_know Tk (fun h => absurd (show false = true from h) (by decide)) (fun _ => ?_))
        refine g_loop ?_
        exact ih (i + 1) _ _ h1 (by omega) ⟨rfl, rfl, rfl, hi1, trivial⟩ rfl trivial rfl rfl
  · refine g_ret Tk (r := bb true) rfl rfl rfl trivial rfl rfl ?_
    rfl
end Go.AI
