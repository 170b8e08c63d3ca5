/- The layer of abstract runs, part 27. -/
import Derived.Test.YtlcekmemdnjjbaaGreatDoorOakZ
set_option linter.unusedSimpArgs false
set_option linter.unusedVariables false
set_option linter.all false

namespace Go.AI
open Go.Proofs
set_option maxRecDepth 20000
def tkeyB (l : List Int) : ByteArray := ⟨(keyL [] l).toArray⟩
theorem tkey_inj {a b : List Int} (ha : ∀ x ∈ a, 0 ≤ x ∧ x < 64) (hb : ∀ x ∈ b, 0 ≤ x ∧ x < 64) (h : tkeyB a = tkeyB b) : a = b := by
  unfold tkeyB at h
  rw [keyL_enc, keyL_enc] at h
  simp only [ByteArray.mk.injEq, List.nil_append] at h
  have h : encL a = encL b := by
    have := congrArg Array.toList h
    simpa using this
  exact (enc_split ha hb (u := []) (v := []) (by rw [h])).1
set_option maxHeartbeats 4000000 in
theorem key81 {g : Nat} (hg : IsTab g) {ty : TypeId} {fr : Nat × Nat} (O : List Heap) (l : List Int) (h0 : l ≠ []) (hn : l.length ≤ 4096) (hl : ∀ v ∈ l, 0 ≤ v ∧ v < 64) :
    ASpecT g (ptab ty fr) Tryz.prog 81 [ints l] O (.i (.v (.string (tkeyB l)))) [] O := by
  have hno : tkeyB l = ⟨(keyL [] (l.drop 0)).toArray⟩ := rfl
  have hpos : 0 < l.length := List.length_pos_iff.2 h0
  generalize tkeyB l = R at *
  refine aspecT_stop [200003, 200014, 200015, 200017] Tk Tryz.func81 rfl Tryz.call81 Tryz.ntmps81 (Nat.le_of_ble_eq_true rfl) fun E hE => ?_
  refine g_run Tk Tryz.func81 ?_
  refine g_tb Tk Tryz.func81 rfl rfl rfl rfl rfl rfl rfl rfl ?_
  refine g_loop ?_
  refine rch_wk (wk_niltb 3 60 5 1 rfl rfl rfl) ?_
  refine rch_loop2 (fun x : Nat × List UInt8 × Bool => [(3, .own 0 3 0 0), (6, ints l), (7, ii l.length), (8, ii x.1)]) (fun x => [(3, .tb 217 [dp3 x.2.2, .osl 0 60]), (60, oby x.2.1)]) (fun _ => O) 18
    (fun x => x.1 ≤ l.length ∧ x.2.1.length ≤ 22 * x.1 ∧ (x.1 = 0 ∨ x.2.1 ≠ []) ∧ R = ⟨(keyL x.2.1 (l.drop x.1)).toArray⟩) (fun x => l.length - x.1) (0, [], false)
    ⟨Nat.zero_le _, by simp, .inl rfl, hno⟩ ⟨rfl, rfl, rfl, rfl, trivial⟩ rfl ⟨rfl, rfl, trivial⟩ rfl rfl ?_
  clear hno
  rintro ⟨k, U, q⟩ ⟨hk, hUl, hT0, hF⟩ ih2
  simp only at hk hUl hT0 hF
  refine g_run Tk Tryz.func81 ?_
  first | refine g_cnd Tk Tryz.func81 rfl (fun g2 => ?_) (fun g2 => ?_) | refine g_know Tk Tryz.func81 rfl (fun g2 => ?_) (fun g2 => ?_) | refine s_know Tk (fun g2 => ?_) (fun g2 => ?_)
  · have h3 : k < l.length := by simpa using g2
    clear g2
    have gl : (l.map fun x => [vi x])[(k : Int).toNat]? = some [vi l[k]] := get_mapZ (f := fun x => [vi x]) h3
    have dl : l.drop k = l[k] :: l.drop (k + 1) := List.drop_eq_getElem_cons h3
    have hv := hl _ (List.getElem_mem h3)
    rw [dl] at hF
    simp only [keyL] at hF
    clear dl
    generalize l[k] = n at *
    have hz := itoaB_size (n := n) (by omega) (by omega)
    have hk1 : ii (IntKind.i64.wrap ((k : Int) + 1)) = ii ((k + 1 : Nat) : Int) := congrArg ii (wsucc (n := 4096) (by omega) (by decide))
    first | refine g_need Tk Tryz.func81 (by exact ⟨by omega, by show (k : Int) < (l.length : Int); omega⟩) ?_ | refine s_need Tk (by exact ⟨by omega, by show (k : Int) < (l.length : Int); omega⟩) ?_
    first | refine g_elem Tk Tryz.func81 (gl) ?_ | refine s_elem Tk (gl) ?_
    refine g_callT Tk Tryz.func81 hE (itoa79 hg _ n (by omega) (by omega)) rfl rfl rfl rfl rfl rfl ?_
    generalize itoaB n = W at *
    refine g_callP Tk Tryz.func81 rfl rfl rfl rfl (does_ws rfl W U (dp3_or q) (by omega) rfl (show 14 < 18 by decide) rfl rfl rfl (by decide)) ?_
    refine g_callP Tk Tryz.func81 rfl rfl rfl rfl (does_wb rfl 32 (U ++ W.data.toList) (.inr rfl) (by rw [List.length_append, size_list]; omega) rfl (show 15 < 18 by decide) rfl rfl rfl (by decide)) ?_
    refine g_loop ?_
    refine ih2 (k + 1, U ++ W.data.toList ++ [32], true) _ _ ⟨h3, by simp only [List.length_append, size_list, List.length_singleton]; omega, .inr (by simp), hF⟩ (by simp only; omega) ⟨rfl, rfl, rfl, hk1, trivial⟩ rfl ⟨rfl, rfl, trivial⟩ rfl rfl
  · have h3 : l.length ≤ k := by simpa using g2
    rw [List.drop_eq_nil_of_le h3] at hF
    simp only [keyL] at hF
    subst hF
    have hT0 : U ≠ [] := hT0.resolve_left (by omega)
    refine g_callP Tk Tryz.func81 rfl rfl rfl rfl (does_bs rfl hT0 rfl (show 17 < 18 by decide) rfl rfl rfl) ?_
    refine g_ret Tk (r := .i (.v (.string ⟨U.toArray⟩))) rfl rfl rfl trivial rfl rfl ?_
    rfl
abbrev Tb := Nat × Obj
abbrev tbM (bs : List Tb) : List (List I) := bs.map fun b => [I.v (.map (some b.1))]
structure tbOk (l : List Aut) (bs : List Tb) : Prop where
  len : bs.length = l.length
  is : ∀ (i : Nat) a b, l[i]? = some a → bs[i]? = some b → MapIs b.2 (.i .i64 (tabOf a.edges))
set_option maxHeartbeats 4000000 in
theorem step83 (O : List Heap) (l : List Aut) (ev : List Int) (bs : List Tb) (t : List Int) (e : Int) (hl : l.length ≤ 12) (ht : t.length = l.length) (hc : ∀ a ∈ l, chkA a = 0) (hbs : tbOk l bs) :
    ASpecB bs Tryz.prog 83 [machD l ev (tbM bs), ints t, ii e] O (.tup [(match tupS l t e with | some n => ints n | none => .i (.v (.slice none 0 0))), bb (tupS l t e).isSome]) [] O := by
  have hR : tupS l t e = (tupS (l.drop 0) (t.drop 0) e).map (([] : List Int) ++ ·) := by simp
  obtain ⟨R, hRR⟩ : ∃ R, R = tupS l t e := ⟨_, rfl⟩
  rw [← hRR] at hR ⊢
  clear hRR
  have hcl := fun O => clone57 14 O t (by simp only [big]; omega)
  have hbl := hbs.len
  refine aspecB_stop [11] Tk Tryz.func83 rfl Tryz.call83 Tryz.ntmps83 (Nat.le_of_ble_eq_true rfl) fun E hE => ?_
  refine g_run Tk Tryz.func83 ?_
  first | refine g_call Tk Tryz.func83 (hcl _) rfl rfl rfl rfl rfl ?_ | refine s_callq Tk (fun _ => hcl _) rfl rfl rfl ?_
  refine g_loop ?_
  refine rch_loop2 (fun x : Nat × List Int => [(1, ints t), (2, ii e), (3, .own 0 3 0 0), (8, .osl 0 14), (16, auts l), (17, ii l.length), (18, ii x.1)])
    (fun x => [(3, .box [auts l, ints ev, .i (.sl 1 (tbM bs).length (tbM bs))]), (14, oints (x.2 ++ t.drop x.1))]) (fun _ => O) 51
    (fun x => x.1 ≤ l.length ∧ x.2.length = x.1 ∧ R = (tupS (l.drop x.1) (t.drop x.1) e).map (x.2 ++ ·)) (fun x => l.length - x.1) (0, []) ⟨Nat.zero_le _, rfl, hR⟩ ⟨rfl, rfl, rfl, rfl, rfl, rfl, rfl, trivial⟩ rfl ⟨rfl, rfl, trivial⟩ rfl rfl ?_
  clear hR
  rintro ⟨i, pre⟩ ⟨hi, hp, hno⟩ ih
  simp only at hi hp hno
  have hj1 : ii (IntKind.i64.wrap ((i : Int) + 1)) = ii ((i + 1 : Nat) : Int) := congrArg ii (wsucc (n := 4096) (by omega) (by decide))
  refine g_run Tk Tryz.func83 ?_
  first | refine g_cnd Tk Tryz.func83 rfl (fun g1 => ?_) (fun g1 => ?_) | refine g_know Tk Tryz.func83 rfl (fun g1 => ?_) (fun g1 => ?_) | refine s_know Tk (fun g1 => ?_) (fun g1 => ?_)
  · have h2 : i < l.length := by simpa using g1
    have h3 : i < t.length := by omega
    have h4 : i < bs.length := by omega
    have gl := get_aut h2
    have gt : (t.map fun x => [vi x])[(i : Int).toNat]? = some [vi t[i]] := get_mapZ (f := fun x => [vi x]) h3
    have gb : (tbM bs)[(i : Int).toNat]? = some [I.v (.map (some bs[i].1))] := get_mapZ (f := fun b : Tb => [I.v (.map (some b.1))]) h4
    have hm := hbs.is i _ _ (List.getElem?_eq_getElem h2) (List.getElem?_eq_getElem h4)
    have htb := hE _ (List.getElem_mem h4)
    have dl : l.drop i = l[i] :: l.drop (i + 1) := List.drop_eq_getElem_cons h2
    have dt : t.drop i = t[i] :: t.drop (i + 1) := List.drop_eq_getElem_cons h3
    have ha := hc _ (List.getElem_mem h2)
    rw [dt]
    rw [dl, dt] at hno
    simp only [tupS] at hno
    clear dl dt
    generalize l[i] = a at *
    generalize t[i] = x at *
    generalize bs[i] = b at *
    obtain ⟨b1, b2⟩ := b
    obtain ⟨c1, _, _, c4⟩ := chk_parts ha
    have hal := checkSet_len (by decide) c1
    have h1 := fun O => contains49 O a.alpha e (by simp only [max63]; omega) (checkSet_sorted c1).1
    obtain ⟨hlk, hlg⟩ := tab_look (chkEds_sorted c4).1 (fun x hx => ((chk_rng ha).2.1 x hx).1) x e
    obtain ⟨al, st, mk, es⟩ := a
    simp only at hlk hlg h1 hno hm
    generalize stp3 es x e = s at *
    first | refine g_need Tk Tryz.func83 (by exact ⟨by omega, by show (i : Int) < (l.length : Int); omega⟩) ?_ | refine s_need Tk (by exact ⟨by omega, by show (i : Int) < (l.length : Int); omega⟩) ?_
    first | refine g_elem Tk Tryz.func83 (gl) ?_ | refine s_elem Tk (gl) ?_
    first | refine g_call Tk Tryz.func83 (h1 _) rfl rfl rfl rfl rfl ?_ | refine s_callq Tk (fun _ => h1 _) rfl rfl rfl ?_
    have happ : ∀ y, oints ((pre ++ [y]) ++ t.drop (i + 1)) = oints (pre ++ y :: t.drop (i + 1)) := fun y => by rw [List.append_assoc]; rfl
    first | refine g_cnd Tk Tryz.func83 rfl (fun d1 => ?_) (fun d1 => ?_) | refine g_know Tk Tryz.func83 rfl (fun d1 => ?_) (fun d1 => ?_) | refine s_know Tk (fun d1 => ?_) (fun d1 => ?_)
    · have d1 : e ∉ al := of_decide_eq_false (notT d1)
      rw [if_neg d1, Option.map_map] at hno
      refine g_loop ?_
      refine ih (i + 1, pre ++ [x]) _ _ ⟨h2, by simp [hp], ?_⟩ (by simp only; omega) ⟨rfl, rfl, rfl, rfl, rfl, rfl, hj1, trivial⟩ rfl ⟨rfl, congrArg some (happ x).symm, trivial⟩ rfl rfl
      rw [hno]
      congr 1
      funext z
      simp
    have d1 : e ∈ al := of_decide_eq_true (notF d1)
    rw [if_pos d1] at hno
    refine g_drawnSeg Tk 11 mixedT rfl (by decide) ?_
    first | refine g_need Tk Tryz.func83 (by exact ⟨by omega, by show (i : Int) < ((bs.map fun b => [I.v (.map (some b.1))]).length : Int); rw [List.length_map]; omega⟩) ?_ | refine s_need Tk (by exact ⟨by omega, by show (i : Int) < ((bs.map fun b => [I.v (.map (some b.1))]).length : Int); rw [List.length_map]; omega⟩) ?_
    first | refine g_elem Tk Tryz.func83 (gb) ?_ | refine s_elem Tk (gb) ?_
    first | refine g_need Tk Tryz.func83 (by exact ⟨by omega, by show (i : Int) < (t.length : Int); omega⟩) ?_ | refine s_need Tk (by exact ⟨by omega, by show (i : Int) < (t.length : Int); omega⟩) ?_
    first | refine g_elem Tk Tryz.func83 (gt) ?_ | refine s_elem Tk (gt) ?_
    refine e_tab (i := 12) (ti := TryzI214) (ki := TryzI48) (vi := TryzI3) (kk := .pair .i64) (k := .i64) (l := tabOf es) (key := pk x e) Tk htb hm (tab_keys es) rfl rfl rfl rfl rfl rfl rfl rfl rfl rfl rfl rfl rfl rfl rfl rfl ?_
    refine e_done Tk Tryz.func83 (by kernel_rfl) ?_
    first | refine g_cnd Tk Tryz.func83 rfl (fun d2 => ?_) (fun d2 => ?_) | refine g_know Tk Tryz.func83 rfl (fun d2 => ?_) (fun d2 => ?_) | refine s_know Tk (fun d2 => ?_) (fun d2 => ?_)
    · have d2 : mhas (tabOf es) (pk x e) = false := notT d2
      rw [hlk] at d2
      have d2 : ¬ 0 ≤ s := of_decide_eq_false d2
      rw [if_neg d2] at hno
      subst hno
      refine g_ret Tk (r := .tup [.i (.v (.slice none 0 0)), bb false]) rfl rfl rfl trivial rfl rfl ?_
      rfl
    have d2 : mhas (tabOf es) (pk x e) = true := notF d2
    rw [hlk] at d2
    have d2 : 0 ≤ s := of_decide_eq_true d2
    rw [if_pos d2, Option.map_map] at hno
    have hg := hlg d2
    generalize mgetI (tabOf es) (pk x e) = mg at *
    subst hg
    first | refine g_need Tk Tryz.func83 (by exact ⟨by omega, by show (i : Int) < ((pre ++ x :: t.drop (i + 1)).length : Int); rw [List.length_append]; simp; omega⟩) ?_ | refine s_need Tk (by exact ⟨by omega, by show (i : Int) < ((pre ++ x :: t.drop (i + 1)).length : Int); rw [List.length_append]; simp; omega⟩) ?_
    have hset : ((pre ++ x :: t.drop (i + 1)).map fun x => [vi x]).set i [vi mg] = (pre ++ mg :: t.drop (i + 1)).map fun x => [vi x] := by
      rw [List.map_append, List.set_append, if_neg (by rw [List.length_map]; omega), List.length_map, hp, Nat.sub_self]
      simp
    refine g_loop ?_
    refine ih (i + 1, pre ++ [mg]) _ _ ⟨h2, by simp [hp], ?_⟩ (by simp only; omega) ⟨rfl, rfl, rfl, rfl, rfl, rfl, hj1, trivial⟩ rfl ⟨rfl, ?_, trivial⟩ rfl rfl
    · rw [hno]
      congr 1
      funext z
      simp
    · rw [happ mg]
      show some (Ob.arr 3 1 (pre ++ x :: t.drop (i + 1)).length (((pre ++ x :: t.drop (i + 1)).map fun x => [vi x]).set (i : Int).toNat [vi mg]) true) = some (oints (pre ++ mg :: t.drop (i + 1)))
      rw [Int.toNat_natCast, hset]
      have e1 : (pre ++ x :: t.drop (i + 1)).length = (pre ++ mg :: t.drop (i + 1)).length := by simp
      rw [e1]
  · have h2 : l.length ≤ i := by simpa using g1
    rw [List.drop_eq_nil_of_le h2, List.drop_eq_nil_of_le (by omega)] at hno
    rw [List.drop_eq_nil_of_le (by omega), List.append_nil]
    simp only [tupS, Option.map_some, List.append_nil] at hno
    subst hno
    refine g_stop ?_
    refine rch_wk (wk_freeze 14 rfl rfl) ?_
    refine g_run Tk Tryz.func83 ?_
    refine g_go Tk Tryz.func83 ?_
    refine g_ret Tk (r := .tup [ints pre, bb true]) rfl rfl rfl trivial rfl rfl ?_
    rfl
abbrev opmap (m : List (Value × Int)) : Ob := .mp (.pair .i64) (.i .i64 m)
theorem tbOk_app {l : List Aut} {bs : List Tb} {i : Nat} {a : Aut} {b : Tb} (h : tbOk (l.take i) bs) (hi : i < l.length) (ha : l[i]? = some a) (hb : MapIs b.2 (.i .i64 (tabOf a.edges))) : tbOk (l.take (i + 1)) (bs ++ [b]) := by
  have hl := h.len
  rw [List.length_take, Nat.min_eq_left (by omega)] at hl
  refine ⟨by rw [List.length_append, List.length_singleton, hl, List.length_take, Nat.min_eq_left (by omega)], fun k a' b' h1 h2 => ?_⟩
  have hk : k < i + 1 := by
    have := (List.getElem?_eq_some_iff.1 h1).1
    rw [List.length_take] at this
    omega
  rw [List.getElem?_take, if_pos hk] at h1
  by_cases e : k = i
  · subst e
    rw [ha] at h1
    obtain rfl := Option.some.inj h1
    rw [List.getElem?_append_right (by omega), hl, Nat.sub_self] at h2
    obtain rfl := Option.some.inj h2
    exact hb
  · rw [List.getElem?_append_left (by omega)] at h2
    exact h.is k a' b' (by rw [List.getElem?_take, if_pos (by omega)]; exact h1) h2
set_option maxHeartbeats 4000000 in
theorem open79 (O : List Heap) (l : List Aut) (hl : l.length ≤ 12) (hc : ∀ a ∈ l, chkA a = 0) (hs : ∀ a ∈ l, smallA a) : GSpec [] Tryz.prog 79 [auts l] O (tbOk l) (fun bs => machD l (evL l) (tbM bs)) (fun bs => bs) := by
  have h1 := fun O => events132 O l hl hc
  generalize evL l = ev at *
  refine gspec_stop (tbOk l) (fun bs => machD l ev (tbM bs)) (fun bs => bs) [11, 13] Tk Tryz.func79 rfl Tryz.call79 Tryz.ntmps79 (Nat.le_of_ble_eq_true rfl) fun E _ => ?_
  refine g_run Tk Tryz.func79 ?_
  first | refine g_call Tk Tryz.func79 (h1 _) rfl rfl rfl rfl rfl ?_ | refine s_callq Tk (fun _ => h1 _) rfl rfl rfl ?_
  refine g_loop ?_
  refine rch_wk (wk_nilbox2 3 40 214 1 (pre := [auts l, ints ev]) (post := []) rfl rfl rfl) ?_
  refine rch_loopE (fun x : Nat × List Tb => [(2, .own 0 2 0 0), (3, .own 0 3 0 0), (13, auts l), (14, ii l.length), (15, ii x.1)])
    (fun x => [(2, .box [.i (.v (.slice none 0 0)), .i (.v (.slice none 0 0)), .i (.v (.slice none 0 0))]), (3, .box [auts l, ints ev, .osl 0 40]), (40, .arr 214 1 x.2.length (tbM x.2) true)]) (fun _ => O) 44
    (fun E' x => x.1 ≤ l.length ∧ tbOk (l.take x.1) x.2 ∧ Base E E' O ∧ TabsE x.2 E' O ∧ ∀ p ∈ x.2, ¬ E.pr p.1) (fun x => l.length - x.1) (0, [])
    ⟨Nat.zero_le _, ⟨by simp, fun i a b h => by simp at h⟩, Base.refl E O, fun p hp => (List.not_mem_nil hp).elim, fun p hp => (List.not_mem_nil hp).elim⟩ ⟨rfl, rfl, rfl, rfl, rfl, trivial⟩ rfl ⟨rfl, rfl, rfl, trivial⟩ rfl rfl ?_
  rintro E1 ⟨i, bs⟩ ⟨hi, hok, hB, hT, hnp⟩ ih
  simp only at hi hok hB hT hnp
  have hj1 : ii (IntKind.i64.wrap ((i : Int) + 1)) = ii ((i + 1 : Nat) : Int) := congrArg ii (wsucc (n := 4096) (by omega) (by decide))
  refine g_run Tk Tryz.func79 ?_
  first | refine g_cnd Tk Tryz.func79 rfl (fun g1 => ?_) (fun g1 => ?_) | refine g_know Tk Tryz.func79 rfl (fun g1 => ?_) (fun g1 => ?_) | refine s_know Tk (fun g1 => ?_) (fun g1 => ?_)
  · have h2 : i < l.length := by simpa using g1
    have gl := get_aut h2
    have hla : l[i]? = some l[i] := List.getElem?_eq_getElem h2
    have hsm := (hs _ (List.getElem_mem h2)).ed
    generalize l[i] = a at *
    obtain ⟨al, st, mk, es⟩ := a
    simp only at hsm
    first | refine g_need Tk Tryz.func79 (by exact ⟨by omega, by show (i : Int) < (l.length : Int); omega⟩) ?_ | refine s_need Tk (by exact ⟨by omega, by show (i : Int) < (l.length : Int); omega⟩) ?_
    first | refine g_elem Tk Tryz.func79 (gl) ?_ | refine s_elem Tk (gl) ?_
    obtain ⟨TT, hTT⟩ : ∃ TT, TT = (es.drop 0).foldl (fun m e => mset m (pk e.1 e.2.1) e.2.2) [] := ⟨_, rfl⟩
    have hT0 : tabOf es = TT := hTT.symm
    refine g_loop ?_
    refine rch_loop2 (fun x : Nat × List (Value × Int) => [(2, .own 0 2 0 0), (3, .own 0 3 0 0), (13, auts l), (14, ii l.length), (15, ii i), (6, .osl 0 19), (21, edgs es), (22, ii es.length), (23, ii x.1)])
      (fun x => [(2, .box [.i (.v (.slice none 0 0)), .i (.v (.slice none 0 0)), .i (.v (.slice none 0 0))]), (3, .box [auts l, ints ev, .osl 0 40]), (40, .arr 214 1 bs.length (tbM bs) true), (19, opmap x.2)]) (fun _ => O) 44
      (fun x => x.1 ≤ es.length ∧ TT = (es.drop x.1).foldl (fun m e => mset m (pk e.1 e.2.1) e.2.2) x.2) (fun x => es.length - x.1) (0, []) ⟨Nat.zero_le _, hTT⟩ ⟨rfl, rfl, rfl, rfl, rfl, rfl, rfl, rfl, rfl, trivial⟩ rfl ⟨rfl, rfl, rfl, rfl, trivial⟩ rfl rfl ?_
    clear hTT
    rintro ⟨j, m⟩ ⟨hj, hno⟩ ih2
    simp only at hj hno
    refine g_run Tk Tryz.func79 ?_
    first | refine g_cnd Tk Tryz.func79 rfl (fun g2 => ?_) (fun g2 => ?_) | refine g_know Tk Tryz.func79 rfl (fun g2 => ?_) (fun g2 => ?_) | refine s_know Tk (fun g2 => ?_) (fun g2 => ?_)
    · have h3 : j < es.length := by simpa using g2
      have ge : (es.map edgI)[(j : Int).toNat]? = some (edgI es[j]) := get_mapZ h3
      have de : es.drop j = es[j] :: es.drop (j + 1) := List.drop_eq_getElem_cons h3
      rw [de, List.foldl_cons] at hno
      clear de
      generalize es[j] = e at *
      obtain ⟨e1, e2, e3⟩ := e
      first | refine g_need Tk Tryz.func79 (by exact ⟨by omega, by show (j : Int) < (es.length : Int); omega⟩) ?_ | refine s_need Tk (by exact ⟨by omega, by show (j : Int) < (es.length : Int); omega⟩) ?_
      first | refine g_elem Tk Tryz.func79 (ge) ?_ | refine s_elem Tk (ge) ?_
      refine g_loop ?_
      exact ih2 (j + 1, mset m (pk e1 e2) e3) _ _ ⟨h3, hno⟩ (by simp only; omega) ⟨rfl, rfl, rfl, rfl, rfl, rfl, rfl, rfl, congrArg ii (wsucc (n := 1000001) (by omega) (by decide)), trivial⟩ rfl ⟨rfl, rfl, rfl, rfl, trivial⟩ rfl rfl
    · have h3 : es.length ≤ j := by simpa using g2
      rw [List.drop_eq_nil_of_le h3, List.foldl_nil] at hno
      subst hno
      refine g_stop ?_
      refine rch_giveMap 6 rfl rfl rfl ?_
      intro E2 b ob hB2 hTb hnb hmi
      refine g_run Tk Tryz.func79 ?_
      refine g_go Tk Tryz.func79 ?_
      first | refine g_need Tk Tryz.func79 (by exact ⟨by show (bs.length + 1) * 8 ≤ 140737488355328; have := hok.len; rw [List.length_take] at this; omega, by show bs.length + 1 ≤ 9223372036854775807; have := hok.len; rw [List.length_take] at this; omega⟩) ?_ | refine s_need Tk (by exact ⟨by show (bs.length + 1) * 8 ≤ 140737488355328; have := hok.len; rw [List.length_take] at this; omega, by show bs.length + 1 ≤ 9223372036854775807; have := hok.len; rw [List.length_take] at this; omega⟩) ?_
      refine g_loop ?_
      refine ih E2 (i + 1, bs ++ [(b, ob)]) _ _ ⟨h2, tbOk_app hok h2 hla (by rw [hT0]; exact hmi), hB.trans hB2, ?_, ?_⟩ (by simp only; omega) ⟨rfl, rfl, rfl, rfl, hj1, trivial⟩ rfl ⟨rfl, rfl, ?_, trivial⟩ rfl rfl
      · intro p hp
        rcases List.mem_append.1 hp with hp | hp
        · exact hT.base hB2 p hp
        · rw [List.mem_singleton] at hp; subst hp; exact hTb
      · intro p hp
        rcases List.mem_append.1 hp with hp | hp
        · exact hnp p hp
        · rw [List.mem_singleton] at hp; subst hp; exact fun h => hnb (hB.pr _ h)
      · show some (Ob.arr 214 1 (bs.length + 1) (tbM bs ++ [[I.v (.map (some b))]]) true) = some (Ob.arr 214 1 (bs ++ [(b, ob)]).length (tbM (bs ++ [(b, ob)])) true)
        simp
  · have h2 : l.length ≤ i := by simpa using g1
    rw [List.take_of_length_le h2] at hok
    refine g_stop ?_
    refine rch_wk (wk_freeze 40 rfl rfl) ?_
    refine g_run Tk Tryz.func79 ?_
    refine g_go Tk Tryz.func79 ?_
    refine g_retG Tk (r := .agg [auts l, ints ev, .i (.sl 1 bs.length (tbM bs))]) bs hok hB rfl hT hnp rfl rfl rfl ?_
    have e1 : (tbM bs).length = bs.length := by simp
    show CoD _ (.agg [auts l, ints ev, .i (.sl 1 (tbM bs).length (tbM bs))])
    rw [e1]
    exact CoD.refl _
end Go.AI


namespace Go.AI
open Go.Proofs
set_option maxRecDepth 20000
theorem keyB_str {k : ByteArray} {c : Value} (h : keyB (.string k) c = true) (k' : ByteArray) : keyB (.string k') c = (k' == k) := by
  cases c with
  | string s =>
    have e1 : k = s := (ba_eq _ _).1 h
    rw [e1]; rfl
  | _ => simp [keyB] at h
theorem mlook_msetS {α : Type} (k : ByteArray) (v : α) (k' : ByteArray) : ∀ m : List (Value × α), mlook (mset m (.string k) v) (.string k') = if k' = k then some v else mlook m (.string k')
  | [] => by
    simp only [mset, mlook]
    rw [show keyB (.string k') (.string k) = (k' == k) from rfl]
    by_cases h : k' = k
    · rw [if_pos h, h, ba_refl]; rfl
    · rw [if_neg h]
      have : (k' == k) = false := by
        rw [Bool.eq_false_iff]; exact fun e => h ((ba_eq _ _).1 e)
      rw [this]; rfl
  | (c, y) :: r => by
    simp only [mset]
    cases hk : keyB (.string k) c with
    | true =>
      simp only [cond_true, mlook]
      rw [keyB_str hk, show keyB (.string k') (.string k) = (k' == k) from rfl]
      by_cases h : k' = k
      · rw [if_pos h, h, ba_refl]; rfl
      · rw [if_neg h]
        have : (k' == k) = false := by
          rw [Bool.eq_false_iff]; exact fun e => h ((ba_eq _ _).1 e)
        rw [this]; rfl
    | false =>
      simp only [cond_false, mlook]
      rw [mlook_msetS k v k' r]
      by_cases h : k' = k
      · rw [if_pos h, if_pos h, h, hk]; rfl
      · rw [if_neg h, if_neg h]
def kmOk (P : List Int → Prop) (key : List Int → ByteArray) (km : List (Value × Int)) (sts : List (List Int)) : Prop :=
  ∀ s, P s → mhas km (.string (key s)) = decide (s ∈ sts) ∧ (s ∈ sts → mgetI km (.string (key s)) = ((sts.findIdx (eqB s) : Nat) : Int))
theorem kmOk_app {P : List Int → Prop} {key : List Int → ByteArray} (hinj : ∀ a b, P a → P b → key a = key b → a = b) {km : List (Value × Int)} {sts : List (List Int)} (h : kmOk P key km sts) {n : List Int} (hn : P n) (hno : n ∉ sts) :
    kmOk P key (mset km (.string (key n)) (sts.length : Nat)) (sts ++ [n]) := by
  intro s hs
  obtain ⟨h1, h2⟩ := h s hs
  unfold mhas at h1
  unfold mgetI at h2
  unfold mhas mgetI
  rw [mlook_msetS]
  by_cases e : key s = key n
  · have e := hinj s n hs hn e
    subst e
    rw [if_pos rfl]
    refine ⟨by simp, fun _ => ?_⟩
    have : (sts ++ [s]).findIdx (eqB s) = sts.length := by
      rw [List.findIdx_append, findIdx_none fun x hx => ?_, if_neg (Nat.lt_irrefl _)]
      · simp [eqB]
      · simp only [eqB, decide_eq_false_iff_not]
        rintro rfl
        exact hno hx
    rw [this]; rfl
  · rw [if_neg e]
    have hsn : s ≠ n := fun h => e (by rw [h])
    refine ⟨?_, fun hm => ?_⟩
    · rw [h1]
      simp [hsn]
    · have hm : s ∈ sts := by simpa [hsn] using hm
      rw [findIdx_app [n] ⟨s, hm, by simp [eqB]⟩]
      exact h2 hm
theorem kmOk_one {P : List Int → Prop} {key : List Int → ByteArray} (hinj : ∀ a b, P a → P b → key a = key b → a = b) {n : List Int} (hn : P n) : kmOk P key (mset [] (.string (key n)) 0) [n] :=
  kmOk_app (km := []) (sts := []) hinj (fun s _ => by simp [mhas, mlook]) hn (by simp)
theorem uvisit_ok {σ : Type} [DecidableEq σ] {eq : σ → σ → Bool} {lim : Bool} {step : σ → Int → σ × Bool × Int} {P : σ → Prop} (hF : Fin1 step eq lim P) {i : Nat} {s : σ} {ev : Int} {U V : Unf σ} (hU : UOk P U) (hs : P s) (hi : i < U.sts.length) (h : uvisit eq lim step i s ev U = .ok V) :
    UOk P V ∧ i < V.sts.length ∧ V.sts[i]? = U.sts[i]? := by
  have h1 := uvisit_spec hF (ev := ev) hU hs hi
  split at h1
  · rw [h1] at h; cases h
  · obtain ⟨r, h2, h3, _⟩ := h1
    rw [h2] at h
    simp only [Except.ok.injEq] at h
    subst h
    exact ⟨h3, by simp only [List.length_append]; omega, List.getElem?_append_left hi⟩
abbrev zAutD : D := .agg [.i (.v (.slice none 0 0)), ii 0, .i (.v (.slice none 0 0)), .i (.v (.slice none 0 0))]
theorem chkAll_zero : ∀ {l : List Aut}, (∀ a ∈ l, chkA a = 0) → chkAll l = 0
  | [], _ => rfl
  | a :: l, h => by
    simp only [chkAll]
    rw [h a (by simp), if_neg (by simp)]
    exact chkAll_zero fun b hb => h b (by simp [hb])
set_option maxHeartbeats 8000000 in
theorem sync32n {g : Nat} (hg : IsTab g) {ty : TypeId} {fr : Nat × Nat} (O : List Heap) (l : List Aut) (hl : l.length ≤ 12) (hc : ∀ a ∈ l, chkA a = 0) (hs : ∀ a ∈ l, smallA a) (h0 : ¬ ∀ a ∈ l, a.states ≠ 0) :
    ASpecT g (ptab ty fr) Tryz.prog 32 [auts l] O (.tup [autD ⟨evL l, 0, [], []⟩, .i (.v (.slice none 0 0)), ii 0]) [] O := by
  have h1 := fun O => check78 O l hl hs
  rw [chkAll_zero hc] at h1
  have h2 := fun O => open79 O l hl hc hs
  have h3 := fun O ev M => initial80e O l ev M hl h0
  generalize evL l = ev at *
  refine aspecT_stop [200024] Tk Tryz.func32 rfl Tryz.call32 Tryz.ntmps32 (Nat.le_of_ble_eq_true rfl) fun E hE => ?_
  refine g_run Tk Tryz.func32 ?_
  first | refine g_call Tk Tryz.func32 (h1 _) rfl rfl rfl rfl rfl ?_ | refine s_callq Tk (fun _ => h1 _) rfl rfl rfl ?_
  first | refine gcF Tk Tryz.func32 rfl ?_ | refine gkF Tk Tryz.func32 rfl ?_ | refine skF Tk ?_
  refine g_callG Tk Tryz.func32 (ts := []) (O0 := O) (fun p hp => (List.not_mem_nil hp).elim) rfl rfl rfl rfl rfl rfl rfl (h2 _) ?_
  intro bs E3 hbs hB hTB hnp
  first | refine g_call Tk Tryz.func32 (h3 _ _ _) rfl rfl rfl rfl rfl ?_ | refine s_callq Tk (fun _ => h3 _ _ _) rfl rfl rfl ?_
  repeat (first | refine gcT Tk Tryz.func32 rfl ?_ | refine gkT Tk Tryz.func32 rfl ?_ | refine skT Tk ?_ | refine gcF Tk Tryz.func32 rfl ?_ | refine gkF Tk Tryz.func32 rfl ?_ | refine skF Tk ?_)
  refine g_retEco Tk hB rfl rfl rfl (r := .tup [.agg [ints ev, ii 0, .i (.v (.slice none 0 0)), .i (.v (.slice none 0 0))], .i (.v (.slice none 0 0)), ii 0]) rfl ?_
  repeat' (first | refine coD_tup ?_ | refine coD_agg ?_ | refine coD_i ?_ | refine CoDL.cons ?_ ?_ | exact CoDL.nil | exact coI_nil | refine coI_sl ?_ | refine CoLL.cons ?_ ?_ | exact CoLL.nil | refine CoL.cons ?_ ?_ | exact CoL.nil | exact CoI.refl _ | exact CoL.refl _ | exact CoLL.refl _ | exact CoDL.refl _ | exact CoD.refl _)
theorem tStep_eq (l : List Aut) (t : List Int) (ev : Int) : tStep l t ev = ((tupS l t ev).getD [], (tupS l t ev).isSome, 0) := rfl
set_option maxHeartbeats 16000000 in
theorem sync32 {g : Nat} (hg : IsTab g) {ty : TypeId} {fr : Nat × Nat} (O : List Heap) (l : List Aut) (hl0 : l ≠ []) (hl : l.length ≤ 12) (hc : ∀ a ∈ l, chkA a = 0) (hs : ∀ a ∈ l, smallA a) (h0 : ∀ a ∈ l, 0 < a.states) (h64 : ∀ a ∈ l, a.states ≤ 64) (hV0 : (tupsV l).length ≤ 4095)
    (V : Unf (List Int)) (hV : prodR l = .ok V) :
    ASpecT g (ptab ty fr) Tryz.prog 32 [auts l] O (.tup [autD (unfA (evL l) V), .i (rowsS V.sts), ii 0]) [] O := by
  have h1 := fun O => check78 O l hl hs
  rw [chkAll_zero hc] at h1
  have h2 := fun O => open79 O l hl hc hs
  have h3 := fun O ev M => initial80 O l ev M hl fun a ha => by have := h0 a ha; omega
  have hF := prod_fin hc (show (tupsV l).length < 4096 by omega)
  have hf0 : tOk l (tup0 l) := tup0_ok h0
  have hpne : ∀ t, tOk l t → t ≠ [] := fun t ht e => by have := tOk_len ht; rw [e] at this; exact hl0 (List.eq_nil_of_length_eq_zero this.symm)
  have hinj : ∀ a b, tOk l a → tOk l b → tkeyB a = tkeyB b → a = b := fun a b ha hb h => tkey_inj (tOk_in ha h64) (tOk_in hb h64) h
  have hkey : ∀ O t, tOk l t → ASpecT g (ptab ty fr) Tryz.prog 81 [ints t] O (.i (.v (.string (tkeyB t)))) [] O := fun O t ht => key81 hg O t (hpne t ht) (by have := tOk_len ht; omega) (tOk_in ht h64)
  have hmkd := fun O ev M t (ht : tOk l t) => marked82 O l ev M t hl (tOk_len ht) hc hs
  have hstp := fun O ev bs t e (ht : tOk l t) (hb : tbOk l bs) => step83 O l ev bs t e hl (tOk_len ht) hc hb
  have hfew : ∀ U : Unf (List Int), UOk (tOk l) U → U.sts.length ≤ 4095 := fun U hU => Nat.le_trans (nodup_sub hU.nd fun s hs => mem_tupsV (hU.ok s hs)) hV0
  have hevl := checkSet_len (by decide) (evL_chk hc)
  have hno : (Except.ok V : Except Int (Unf (List Int))) = uloop eqB true (tStep l) (tMk l) (evL l) (4097 - 0) 0 (unf0 (tup0 l)) := hV.symm
  have hU0 : UOk (tOk l) (unf0 (tup0 l)) := ⟨by simpa [unf0] using hf0, by simp [unf0], rfl⟩
  have hk0 := kmOk_one hinj hf0
  have hsts := tStep_eq l
  have hvok := fun i s ev U V' hU hs hi hq => @uvisit_ok (List Int) _ eqB true (tStep l) (tOk l) hF i s ev U V' hU hs hi hq
  unfold unfA
  generalize hR : (Except.ok V : Except Int (Unf (List Int))) = R at *
  generalize evL l = ev at *
  generalize tStep l = ts at *
  generalize tMk l = mr at *
  generalize tup0 l = s0 at *
  clear hV hF
  refine aspecT_stop [200024, 16, 28, 30] Tk Tryz.func32 rfl Tryz.call32 Tryz.ntmps32 (Nat.le_of_ble_eq_true rfl) fun E hE => ?_
  refine g_run Tk Tryz.func32 ?_
  first | refine g_call Tk Tryz.func32 (h1 _) rfl rfl rfl rfl rfl ?_ | refine s_callq Tk (fun _ => h1 _) rfl rfl rfl ?_
  first | refine gcF Tk Tryz.func32 rfl ?_ | refine gkF Tk Tryz.func32 rfl ?_ | refine skF Tk ?_
  refine g_callG Tk Tryz.func32 (ts := []) (O0 := O) (fun p hp => (List.not_mem_nil hp).elim) rfl rfl rfl rfl rfl rfl rfl (h2 _) ?_
  intro bs E3 hbs hB hTB hnp
  have hE3 := hB.eok.tb g (ptab ty fr) O rfl hE
  first | refine g_call Tk Tryz.func32 (h3 _ _ _) rfl rfl rfl rfl rfl ?_ | refine s_callq Tk (fun _ => h3 _ _ _) rfl rfl rfl ?_
  repeat (first | refine gcT Tk Tryz.func32 rfl ?_ | refine gkT Tk Tryz.func32 rfl ?_ | refine skT Tk ?_ | refine gcF Tk Tryz.func32 rfl ?_ | refine gkF Tk Tryz.func32 rfl ?_ | refine skF Tk ?_)
  refine g_callT Tk Tryz.func32 hE3 (hkey _ s0 hf0) rfl rfl rfl rfl rfl rfl ?_
  refine g_loop ?_
  refine rch_wk (wk_ren 37 101 rfl rfl rfl) ?_
  refine rch_wk (wk_nilbox2 2 58 3 1 (pre := [ints ev, ii 0]) (post := [.i (.v (.slice none 0 0))]) rfl rfl rfl) ?_
  refine rch_wk (wk_nilbox2 2 109 117 3 (pre := [ints ev, ii 0, .osl 0 58]) (post := []) rfl rfl rfl) ?_
  refine rch_loop2 (fun x : Nat × Unf (List Int) × List (Value × Int) => [(2, .own 0 2 0 0), (3, .osl 0 101), (6, .own 0 6 0 0), (9, .osl 0 38), (10, ii x.1)])
    (fun x => [(2, .box [ints ev, ii 0, .osl 0 58, .osl 0 109]), (6, .box [auts l, ints ev, .i (.sl 1 (tbM bs).length (tbM bs))]), (101, orows x.2.1.sts), (58, oints x.2.1.mkl), (109, oedgs x.2.1.eds), (38, .mp .str (.i .i64 x.2.2))]) (fun _ => O) 117
    (fun x => x.1 ≤ x.2.1.sts.length ∧ UOk (tOk l) x.2.1 ∧ kmOk (tOk l) tkeyB x.2.2 x.2.1.sts ∧ x.2.1.mkl.length ≤ x.1 ∧ x.2.1.eds.length ≤ 32 * x.1 ∧ R = uloop eqB true ts mr ev (4097 - x.1) x.1 x.2.1) (fun x => 4097 - x.1) (0, unf0 s0, mset [] (.string (tkeyB s0)) 0)
    ⟨Nat.zero_le _, hU0, hk0, Nat.le_refl _, Nat.le_refl _, hno⟩ ⟨rfl, rfl, rfl, rfl, rfl, trivial⟩ rfl ⟨rfl, rfl, rfl, rfl, rfl, rfl, trivial⟩ rfl rfl ?_
  clear hno hU0 hk0 h1 h2 h3 hf0
  rintro ⟨i, U, km⟩ ⟨hi, hgd, hkm, hml, hel, hno⟩ ih
  simp only at hi hgd hkm hml hel hno
  refine g_run Tk Tryz.func32 ?_
  first | refine g_cnd Tk Tryz.func32 rfl (fun g1 => ?_) (fun g1 => ?_) | refine g_know Tk Tryz.func32 rfl (fun g1 => ?_) (fun g1 => ?_) | refine s_know Tk (fun g1 => ?_) (fun g1 => ?_)
  · have h1 : i < U.sts.length := by simpa using g1
    clear g1
    have hle := hfew U hgd
    have hsi : U.sts[i]? = some U.sts[i] := List.getElem?_eq_getElem h1
    have gs : (U.sts.map fun r => [intsI r])[(i : Int).toNat]? = some [intsI U.sts[i]] := get_mapZ (f := fun r => [intsI r]) h1
    have hoks := hgd.ok _ (List.getElem_mem h1)
    generalize U.sts[i] = s at *
    have hmk' := fun O => hmkd O ev (tbM bs) s hoks
    have hno : R = match uvisits eqB true ts i s ev (umark mr i s U) with
        | .error e => .error e
        | .ok U' => uloop eqB true ts mr ev (4097 - (i + 1)) (i + 1) U' := by
      rw [hno, show 4097 - i = (4097 - (i + 1)) + 1 by omega]
      simp only [uloop, hsi]
      cases uvisits eqB true ts i s ev (umark mr i s U) <;> rfl
    obtain ⟨m1, m2⟩ := umark_sts mr i s U
    have hM : UOk (tOk l) (umark mr i s U) := ⟨by rw [m1]; exact hgd.ok, by rw [m1]; exact hgd.nd, by rw [m1, m2]; exact hgd.fr⟩
    have hm3 : (umark mr i s U).mkl = if mr s = true then U.mkl ++ [(i : Int)] else U.mkl := by
      unfold umark
      by_cases h : mr s = true <;> simp [h]
    generalize umark mr i s U = U1 at *
    generalize mr s = B at *
    obtain ⟨sts, mkl, eds⟩ := U
    obtain ⟨sts1, mkl1, eds1⟩ := U1
    simp only at m1 m2 hm3 hsi gs hno h1 hle hel hml hi hkm hgd
    subst m1 m2
    have n1 : 0 ≤ (i : Int) ∧ (i : Int) < (sts1.length : Int) := by omega
    have hml1 : mkl1.length ≤ i + 1 := by rw [hm3]; split; (rw [List.length_append, List.length_singleton]; omega); omega
    refine g_drawn Tk Tryz.func32 mixedT rfl ?_
    first | refine g_need Tk Tryz.func32 (by exact n1) ?_ | refine s_need Tk (by exact n1) ?_
    first | refine g_elem Tk Tryz.func32 (gs) ?_ | refine s_elem Tk (gs) ?_
    first | refine g_call Tk Tryz.func32 (hmk' _) rfl rfl rfl rfl rfl ?_ | refine s_callq Tk (fun _ => hmk' _) rfl rfl rfl ?_
    refine e_done Tk Tryz.func32 (by kernel_rfl) ?_
    apply join_p (P := True) (s6 := { σ := [(2, .own 0 2 0 0), (3, .osl 0 101), (6, .own 0 6 0 0), (9, .osl 0 38), (10, ii i)], S := [(2, .box [ints ev, ii 0, .osl 0 58, .osl 0 109]), (6, .box [auts l, ints ev, .i (.sl 1 (tbM bs).length (tbM bs))]), (101, orows sts1), (58, oints mkl1), (109, oedgs eds1), (38, .mp .str (.i .i64 km))] :: O, n := 117 })
    · intro J
      first | refine g_cnd Tk Tryz.func32 rfl (fun c1 => ?_) (fun c1 => ?_) | refine g_know Tk Tryz.func32 rfl (fun c1 => ?_) (fun c1 => ?_) | refine s_know Tk (fun c1 => ?_) (fun c1 => ?_)
      · have c1 : B = true := c1
        rw [if_pos c1] at hm3
        first | refine g_need Tk Tryz.func32 (by exact ⟨by show (mkl.length + 1) * 8 ≤ 140737488355328; omega, by show mkl.length + 1 ≤ 9223372036854775807; omega⟩) ?_ | refine s_need Tk (by exact ⟨by show (mkl.length + 1) * 8 ≤ 140737488355328; omega, by show mkl.length + 1 ≤ 9223372036854775807; omega⟩) ?_
        refine g_stop ?_
        refine rch_meet (J trivial) ⟨rfl, rfl, rfl, rfl, rfl, trivial⟩ rfl ⟨rfl, rfl, rfl, by rw [hm3]; exact congrArg some (oints_app mkl (i : Int)), rfl, rfl, trivial⟩ rfl rfl
      · have c1 : ¬ B = true := by rw [show B = false from c1]; decide
        rw [if_neg c1] at hm3
        refine g_stop ?_
        refine rch_meet (J trivial) ⟨rfl, rfl, rfl, rfl, rfl, trivial⟩ rfl ⟨rfl, rfl, rfl, by rw [hm3]; rfl, rfl, rfl, trivial⟩ rfl rfl
    intro _
    clear hm3 hml hmk' gs hgd
    have hV0 : uvisits eqB true ts i s ev ⟨sts1, mkl1, eds1⟩ = uvisits eqB true ts i s (ev.drop 0) ⟨sts1, mkl1, eds1⟩ := rfl
    generalize uvisits eqB true ts i s ev ⟨sts1, mkl1, eds1⟩ = VV at *
    refine g_run Tk Tryz.func32 ?_
    refine g_go Tk Tryz.func32 ?_
    refine g_loop ?_
    refine rch_loop2 (fun x : Nat × Unf (List Int) × List (Value × Int) => [(2, .own 0 2 0 0), (3, .osl 0 101), (6, .own 0 6 0 0), (9, .osl 0 38), (10, ii i), (61, ints ev), (62, ii ev.length), (63, ii x.1)])
      (fun x => [(2, .box [ints ev, ii 0, .osl 0 58, .osl 0 109]), (6, .box [auts l, ints ev, .i (.sl 1 (tbM bs).length (tbM bs))]), (101, orows x.2.1.sts), (58, oints x.2.1.mkl), (109, oedgs x.2.1.eds), (38, .mp .str (.i .i64 x.2.2))]) (fun _ => O) 117
      (fun x => x.1 ≤ ev.length ∧ UOk (tOk l) x.2.1 ∧ kmOk (tOk l) tkeyB x.2.2 x.2.1.sts ∧ i < x.2.1.sts.length ∧ x.2.1.mkl = mkl1 ∧ x.2.1.eds.length ≤ 32 * i + x.1 ∧ x.2.1.sts[i]? = some s ∧ VV = uvisits eqB true ts i s (ev.drop x.1) x.2.1) (fun x => ev.length - x.1) (0, ⟨sts1, mkl1, eds1⟩, km)
      ⟨Nat.zero_le _, hM, hkm, h1, rfl, hel, hsi, hV0⟩ ⟨rfl, rfl, rfl, rfl, rfl, rfl, rfl, rfl, trivial⟩ rfl ⟨rfl, rfl, rfl, rfl, rfl, rfl, trivial⟩ rfl rfl ?_
    clear hV0 hsi hel hle hM n1 h1 hkm
    rintro ⟨j, ⟨sts, mk', eds⟩, km⟩ ⟨hj, hgd, hkm, hil, hmke, hel, hsi, hV⟩ ih2
    simp only at hj hgd hkm hil hmke hel hsi hV
    subst hmke
    have hle := hfew _ hgd
    simp only at hle
    have hj1 : ii (IntKind.i64.wrap ((j : Int) + 1)) = ii ((j + 1 : Nat) : Int) := congrArg ii (wsucc (n := 4096) (by omega) (by decide))
    refine g_run Tk Tryz.func32 ?_
    first | refine g_cnd Tk Tryz.func32 rfl (fun g2 => ?_) (fun g2 => ?_) | refine g_know Tk Tryz.func32 rfl (fun g2 => ?_) (fun g2 => ?_) | refine s_know Tk (fun g2 => ?_) (fun g2 => ?_)
    · have h3 : j < ev.length := by simpa using g2
      clear g2
      have ga : (ev.map fun x => [vi x])[(j : Int).toNat]? = some [vi ev[j]] := get_mapZ (f := fun x => [vi x]) h3
      have da : ev.drop j = ev[j] :: ev.drop (j + 1) := List.drop_eq_getElem_cons h3
      rw [da] at hV
      simp only [uvisits] at hV
      clear da
      have hst2 := fun O => hstp O ev bs s ev[j] hoks hbs
      generalize ev[j] = e at *
      have gs : (sts.map fun r => [intsI r])[(i : Int).toNat]? = some [intsI s] := by simp [hsi]
      have hvok := fun V' h => hvok i s e ⟨sts, mk', eds⟩ V' hgd hoks hil h
      have hnxt : ∀ n, tupS l s e = some n → tOk l n := fun n hn => tupS_ok hc hoks hn
      unfold uvisit at hV hvok
      rw [hsts] at hV hvok
      have n3 : 0 ≤ (i : Int) ∧ (i : Int) < (sts.length : Int) := by omega
      first | refine g_need Tk Tryz.func32 (by exact ⟨by omega, by show (j : Int) < (ev.length : Int); omega⟩) ?_ | refine s_need Tk (by exact ⟨by omega, by show (j : Int) < (ev.length : Int); omega⟩) ?_
      first | refine g_elem Tk Tryz.func32 (ga) ?_ | refine s_elem Tk (ga) ?_
      generalize tupS l s e = NX at *
      cases NX with
      | none =>
        simp only [Option.isSome_none, Option.getD_none, ne_eq, not_true, if_false, if_true] at hV hst2
        refine g_drawn Tk Tryz.func32 mixedT rfl ?_
        first | refine g_need Tk Tryz.func32 (by exact n3) ?_ | refine s_need Tk (by exact n3) ?_
        first | refine g_elem Tk Tryz.func32 (gs) ?_ | refine s_elem Tk (gs) ?_
        refine s_callB Tk hTB (hst2 _) rfl rfl rfl rfl ?_
        refine e_done Tk Tryz.func32 (by kernel_rfl) ?_
        repeat (first | refine gcT Tk Tryz.func32 rfl ?_ | refine gkT Tk Tryz.func32 rfl ?_ | refine skT Tk ?_ | refine gcF Tk Tryz.func32 rfl ?_ | refine gkF Tk Tryz.func32 rfl ?_ | refine skF Tk ?_)
        refine g_loop ?_
        exact ih2 (j + 1, ⟨sts, mk', eds⟩, km) _ _ ⟨h3, hgd, hkm, hil, rfl, by simp only; omega, hsi, hV⟩ (by simp only; omega) ⟨rfl, rfl, rfl, rfl, rfl, rfl, rfl, hj1, trivial⟩ rfl ⟨rfl, rfl, rfl, rfl, rfl, rfl, trivial⟩ rfl rfl
      | some nx =>
        simp only [Option.isSome_some, Option.getD_some, ne_eq, not_true, if_false, Bool.true_eq_false] at hV hvok hst2
        have hnx := hnxt nx rfl
        obtain ⟨hkh, hkg⟩ := hkm nx hnx
        refine g_drawn Tk Tryz.func32 mixedT rfl ?_
        first | refine g_need Tk Tryz.func32 (by exact n3) ?_ | refine s_need Tk (by exact n3) ?_
        first | refine g_elem Tk Tryz.func32 (gs) ?_ | refine s_elem Tk (gs) ?_
        refine s_callB Tk hTB (hst2 _) rfl rfl rfl rfl ?_
        refine e_done Tk Tryz.func32 (by kernel_rfl) ?_
        repeat (first | refine gcT Tk Tryz.func32 rfl ?_ | refine gkT Tk Tryz.func32 rfl ?_ | refine skT Tk ?_ | refine gcF Tk Tryz.func32 rfl ?_ | refine gkF Tk Tryz.func32 rfl ?_ | refine skF Tk ?_)
        refine g_callT Tk Tryz.func32 hE3 (hkey _ nx hnx) rfl rfl rfl rfl rfl rfl ?_
        obtain ⟨t, ht⟩ : ∃ t, t = sts.findIdx (eqB nx) := ⟨_, rfl⟩
        rw [← ht] at hV hvok hkg
        obtain ⟨sts2, hst3⟩ : ∃ sts2, sts2 = if nx ∈ sts then sts else sts ++ [nx] := ⟨_, rfl⟩
        obtain ⟨km2, hkm3⟩ : ∃ km2, km2 = if nx ∈ sts then km else mset km (.string (tkeyB nx)) (sts.length : Nat) := ⟨_, rfl⟩
        have hU2 : VV = uvisits eqB true ts i s (ev.drop (j + 1)) ⟨sts2, mk', eds ++ [((i : Int), e, (t : Int))]⟩ ∧ UOk (tOk l) ⟨sts2, mk', eds ++ [((i : Int), e, (t : Int))]⟩ ∧ i < sts2.length ∧ sts2[i]? = some s ∧ kmOk (tOk l) tkeyB km2 sts2 := by
          by_cases hm : nx ∈ sts
          · have hlt : t < sts.length := by rw [ht]; exact findIdx_lt ⟨nx, hm, by simp [eqB]⟩
            rw [if_pos hm] at hst3 hkm3
            rw [if_pos hlt] at hV hvok
            subst hst3 hkm3
            have h := hvok _ rfl
            exact ⟨hV, h.1, h.2.1, h.2.2.trans hsi, hkm⟩
          · have hlt : t = sts.length := by
              rw [ht]
              exact findIdx_none fun x hx => by simp only [eqB, decide_eq_false_iff_not]; rintro rfl; exact hm hx
            rw [if_neg hm] at hst3 hkm3
            rw [if_neg (by omega), if_neg (by omega)] at hV hvok
            have hk2 := kmOk_app hinj hkm hnx hm
            subst hst3 hkm3
            have h := hvok _ rfl
            exact ⟨hV, h.1, h.2.1, h.2.2.trans hsi, hk2⟩
        have htm : nx ∉ sts → t = sts.length := fun hm => by
          rw [ht]
          exact findIdx_none fun x hx => by simp only [eqB, decide_eq_false_iff_not]; rintro rfl; exact hm hx
        clear hV hvok ht
        apply join_p (P := True) (s6 := { σ := [(2, .own 0 2 0 0), (3, .osl 0 101), (6, .own 0 6 0 0), (9, .osl 0 38), (10, ii i), (61, ints ev), (62, ii ev.length), (63, ii j), (12, ii e), (15, ii t)], S := [(2, .box [ints ev, ii 0, .osl 0 58, .osl 0 109]), (6, .box [auts l, ints ev, .i (.sl 1 (tbM bs).length (tbM bs))]), (101, orows sts2), (58, oints mk'), (109, oedgs eds), (38, .mp .str (.i .i64 km2))] :: O, n := 117 })
        · intro J
          first | refine g_cnd Tk Tryz.func32 rfl (fun c1 => ?_) (fun c1 => ?_) | refine g_know Tk Tryz.func32 rfl (fun c1 => ?_) (fun c1 => ?_) | refine s_know Tk (fun c1 => ?_) (fun c1 => ?_)
          · have c1 : mhas km (.string (tkeyB nx)) = false := notT c1
            rw [hkh] at c1
            have c1 : nx ∉ sts := of_decide_eq_false c1
            rw [if_neg c1] at hst3 hkm3
            have htl := htm c1
            first | refine g_cnd Tk Tryz.func32 rfl (fun h => absurd h (by simp; omega)) (fun _ => ?_) | refine g_know Tk Tryz.func32 rfl (fun h => absurd h (by simp; omega)) (fun _ => ?_) | refine s_know Tk (fun h => absurd h (by simp; omega)) (fun _ => ?_)
            refine g_callT Tk Tryz.func32 hE3 (hkey _ nx hnx) rfl rfl rfl rfl rfl rfl ?_
            first | refine g_need Tk Tryz.func32 (by exact ⟨by show (sts.length + 1) * 24 ≤ 140737488355328; omega, by show sts.length + 1 ≤ 9223372036854775807; omega⟩) ?_ | refine s_need Tk (by exact ⟨by show (sts.length + 1) * 24 ≤ 140737488355328; omega, by show sts.length + 1 ≤ 9223372036854775807; omega⟩) ?_
            refine g_stop ?_
            refine rch_meet (J trivial) ⟨rfl, rfl, rfl, rfl, rfl, rfl, rfl, rfl, rfl, by rw [htl]; rfl, trivial⟩ rfl ⟨rfl, rfl, by rw [hst3]; exact congrArg some (orows_app sts nx), rfl, rfl, by rw [hkm3]; rfl, trivial⟩ rfl rfl
          · have c1 : mhas km (.string (tkeyB nx)) = true := notF c1
            rw [hkh] at c1
            have c1 : nx ∈ sts := of_decide_eq_true c1
            rw [if_pos c1] at hst3 hkm3
            have hg := hkg c1
            refine g_stop ?_
            refine rch_meet (J trivial) ⟨rfl, rfl, rfl, rfl, rfl, rfl, rfl, rfl, rfl, congrArg ii hg, trivial⟩ rfl ⟨rfl, rfl, by rw [hst3]; rfl, rfl, rfl, by rw [hkm3]; rfl, trivial⟩ rfl rfl
        intro _
        obtain ⟨hV, hg2, hi2, hs2, hk2⟩ := hU2
        clear hst3 hkm3 htm hkh hkg hst2 hgd hkm hil hsi gs
        refine g_run Tk Tryz.func32 ?_
        refine g_go Tk Tryz.func32 ?_
        first | refine g_need Tk Tryz.func32 (by exact ⟨by show (eds.length + 1) * 24 ≤ 140737488355328; omega, by show eds.length + 1 ≤ 9223372036854775807; omega⟩) ?_ | refine s_need Tk (by exact ⟨by show (eds.length + 1) * 24 ≤ 140737488355328; omega, by show eds.length + 1 ≤ 9223372036854775807; omega⟩) ?_
        refine g_loop ?_
        exact ih2 (j + 1, ⟨sts2, mk', eds ++ [((i : Int), e, (t : Int))]⟩, km2) _ _ ⟨h3, hg2, hk2, hi2, rfl, by simp only [List.length_append, List.length_singleton]; omega, hs2, hV⟩ (by simp only; omega) ⟨rfl, rfl, rfl, rfl, rfl, rfl, rfl, hj1, trivial⟩ rfl ⟨rfl, rfl, rfl, rfl, congrArg some (oedgs_app eds ((i : Int), e, (t : Int))), rfl, trivial⟩ rfl rfl
    · have h3 : ev.length ≤ j := by simpa using g2
      rw [List.drop_eq_nil_of_le h3] at hV
      simp only [uvisits] at hV
      subst hV
      simp only at hno
      refine g_loop ?_
      exact ih (i + 1, ⟨sts, mk', eds⟩, km) _ _ ⟨by simp only; omega, hgd, hkm, hml1, by simp only; omega, hno⟩ (by simp only; omega) ⟨rfl, rfl, rfl, rfl, congrArg ii (wsucc (n := 4096) (by omega) (by decide)), trivial⟩ rfl ⟨rfl, rfl, rfl, rfl, rfl, rfl, trivial⟩ rfl rfl
  · have h1 : U.sts.length ≤ i := by simpa using g1
    rw [uloop_done h1] at hno
    rw [← hR] at hno
    simp only [Except.ok.injEq] at hno
    subst hno
    obtain ⟨sts, mk', eds⟩ := V
    refine g_stop ?_
    refine rch_unbase hB rfl ?_
    refine rch_wk (wk_freeze 101 rfl rfl) ?_
    refine rch_wk (wk_freeze 58 rfl rfl) ?_
    refine rch_wk (wk_freeze 109 rfl rfl) ?_
    refine g_run Tk Tryz.func32 ?_
    refine g_go Tk Tryz.func32 ?_
    refine g_ret Tk (r := .tup [autD ⟨ev, sts.length, mk', eds⟩, .i (rowsS sts), ii 0]) rfl rfl rfl trivial rfl rfl ?_
    rfl
end Go.AI


namespace Go.AI
open Go.Proofs
set_option maxRecDepth 20000
theorem rkey_small : ∀ {l : List Int} {T : List UInt8}, (∀ x ∈ l, 0 ≤ x ∧ x < 64) → rkeyL T l = T ++ l.map fun x => UInt8.ofNat (x + 1).toNat
  | [], T, _ => by simp [rkeyL]
  | x :: r, T, h => by
    have hx := h x (by simp)
    rw [rkeyL, rkey_small fun y hy => h y (by simp [hy])]
    have : runeL (x + 1) = [UInt8.ofNat (x + 1).toNat] := by unfold runeL; rw [if_pos (by omega)]
    rw [this]
    simp
theorem map_inj {α β : Type} {f : α → β} : ∀ {a b : List α}, (∀ x ∈ a, ∀ y ∈ b, f x = f y → x = y) → a.map f = b.map f → a = b
  | [], [], _, _ => rfl
  | [], y :: b, _, h => by simp at h
  | x :: a, [], _, h => by simp at h
  | x :: a, y :: b, hf, h => by
    simp only [List.map_cons, List.cons.injEq] at h
    rw [hf x (by simp) y (by simp) h.1, map_inj (fun u hu v hv => hf u (by simp [hu]) v (by simp [hv])) h.2]
theorem rkey_inj {a b : List Int} (ha : ∀ x ∈ a, 0 ≤ x ∧ x < 64) (hb : ∀ x ∈ b, 0 ≤ x ∧ x < 64) (h : rkeyB a = rkeyB b) : a = b := by
  unfold rkeyB at h
  rw [rkey_small ha, rkey_small hb] at h
  simp only [ByteArray.mk.injEq, List.nil_append] at h
  have h := congrArg Array.toList h
  simp only at h
  refine map_inj (fun x hx y hy e => ?_) h
  have h1 := ha x hx
  have h2 := hb y hy
  have e1 := u8_of (x + 1) (by omega) (by omega)
  have e2 := u8_of (y + 1) (by omega) (by omega)
  rw [e] at e1
  omega
abbrev estP (n : Nat) (s : List Int) : Prop := s ∈ subs n ∧ s ≠ []
theorem estP_in {n : Nat} (hn : n ≤ 64) {s : List Int} (h : estP n s) : ∀ x ∈ s, 0 ≤ x ∧ x < 64 := fun x hx => by
  have := (mem_subs h.1).2 x hx
  omega
theorem prj_fin (a : Aut) (on : List Int) (n : Nat) : Fin1 (pStep a on n) eqB false (estP n) := ⟨fun s ev _ hp => ⟨sorted_subs _ _, fun e => by
    have hp : decide ((nxt a.edges (lowP on [] false) n s ev).length ≠ 0) = true := hp
    have e : nxt a.edges (lowP on [] false) n s ev = [] := e
    rw [e] at hp
    exact absurd hp (by decide)⟩, fun _ _ _ _ => rfl, fun h => by cases h⟩
theorem subs_few {n : Nat} (hn : n ≤ 12) {l : List (List Int)} (h1 : ∀ s ∈ l, estP n s) (h2 : l.Nodup) : l.length ≤ 4096 := by
  have := nodup_sub h2 (fun s hs => (h1 s hs).1)
  rw [subs_len] at this
  have : 2 ^ n ≤ 2 ^ 12 := Nat.pow_le_pow_right (by decide) hn
  omega
theorem clo0_ne {a : Aut} {n : Nat} (h : gAut a n) (hn0 : 0 < n) (on : List Int) : clo a.edges (lowP on [] false) n [0] ≠ [] := by
  have h0 : (0 : Int) ∈ clo a.edges (lowP on [] false) n [0] := (mem_clo h.to).2 ⟨by omega, .base (by simp)⟩
  intro e
  rw [e] at h0
  cases h0
theorem prj_some3 {a : Aut} {n : Nat} (h : gAut a n) (on : List Int) (hn : n ≤ 12) (hn0 : 0 < n) : ∃ V, prjR a on n = .ok V ∧ UAt (marksR a) (keptR a on) (estP n) (pStep a on n) V.sts.length V := by
  rcases unfR_spec (marksR a) (prj_fin a on n) (alpha := keptR a on) (first := clo a.edges (lowP on [] false) n [0]) ⟨sorted_subs _ _, clo0_ne h hn0 on⟩ (B := 4096) (fun l h1 h2 => subs_few hn h1 h2) (by decide) with ⟨e, _, h1, s, _, ev, _, h2⟩ | h
  · exact absurd h2.symm h1
  · exact h
set_option maxHeartbeats 16000000 in
theorem projectX (O : List Heap) (a : Aut) (on : List Int) (n : Nat) (h : gAut a n) (hn : n ≤ 12) (hn0 : 0 < n) (hcs : checkSet 32 on none = 0) (V : Unf (List Int)) (hV : prjR a on n = .ok V) :
    ASpec Tryz.prog 106 [autD a, ints on] O (.tup [autD (unfA (keptR a on) V), .i (rowsS V.sts), ii 0]) [] O := by
  have hed := h.sm.ed
  have hal := h.sm.al
  have hmk := h.sm.mkd
  have hol := checkSet_len (by decide) hcs
  have hon : on.length ≤ max63 := by simp only [max63]; omega
  have hf := h.fr
  have hes := h.to
  have hc := h.c
  have hst := h.st
  have h1 : ∀ O, ASpec Tryz.prog 150 [autD a, ints on] O (ii 0) [] O := fun O => by
    have := pcheck106 O a on (by simp only [max63]; omega) (by simp only [max63]; omega) (by simp only [max63]; omega) hon
    rwa [hc, hcs, if_neg (by decide)] at this
  have h2 := fun O => observe107 O a on (by omega) (by omega) (by rw [hst]; exact hf) hed hal hon
  have hlow := erasR_low h on []
  have hPs : ∀ s ev, pStep a on n s ev = (nxt a.edges (lowP on [] false) n s ev, decide ((nxt a.edges (lowP on [] false) n s ev).length ≠ 0), 0) := fun _ _ => rfl
  have hnlow : ∀ s ev, nxt a.edges (fun x => decide (x ∈ a.alpha.filter fun x => !decide (x ∈ on))) n s ev = nxt a.edges (lowP on [] false) n s ev := fun s ev => hlow _
  have hclow : clo a.edges (fun x => decide (x ∈ a.alpha.filter fun x => !decide (x ∈ on))) n [0] = clo a.edges (lowP on [] false) n [0] := hlow _
  have hF := prj_fin a on n
  have hf0 : estP n (clo a.edges (lowP on [] false) n [0]) := ⟨sorted_subs _ _, clo0_ne h hn0 on⟩
  have hinj : ∀ x y, estP n x → estP n y → rkeyB x = rkeyB y → x = y := fun x y hx hy e => rkey_inj (estP_in (by omega) hx) (estP_in (by omega) hy) e
  have hkey : ∀ O s, estP n s → ASpec Tryz.prog 153 [ints s] O (.i (.v (.string (rkeyB s)))) [] O := fun O s hs => key109 O s hs.2 (by have := (mem_subs hs.1).1; omega) fun x hx => by have := estP_in (by omega) hs x hx; omega
  have hno : (Except.ok V : Except Int (Unf (List Int))) = uloop eqB false (pStep a on n) (marksR a) (keptR a on) (4097 - 0) 0 (unf0 (clo a.edges (lowP on [] false) n [0])) := hV.symm
  have hU0 : UOk (estP n) (unf0 (clo a.edges (lowP on [] false) n [0])) := ⟨by simpa [unf0] using hf0, by simp [unf0], rfl⟩
  have hk0 := kmOk_one hinj hf0
  have hfew : ∀ U : Unf (List Int), UOk (estP n) U → U.sts.length ≤ 4096 := fun U hU => subs_few hn hU.ok hU.nd
  have hvok := fun i s ev U V' hU hs hi hq => @uvisit_ok (List Int) _ eqB false (pStep a on n) (estP n) hF i s ev U V' hU hs hi hq
  unfold unfA
  have hnxl : ∀ s ev, (nxt a.edges (lowP on [] false) n s ev).length ≤ n := fun s ev => clo_len _ _ _ _
  generalize hR : (Except.ok V : Except Int (Unf (List Int))) = R at *
  clear hV hlow
  obtain ⟨al, st, mk, es⟩ := a
  simp only at hst
  subst hst
  simp only [obsD, Int.toNat_natCast] at *
  have hkl : (al.filter fun x => decide (x ∈ on)).length ≤ 1000000 := Nat.le_trans (List.length_filter_le _ _) hal
  have hel0 : (al.filter fun x => !decide (x ∈ on)).length ≤ max63 := Nat.le_trans (List.length_filter_le _ _) (by simp only [max63]; omega)
  have h3 := fun O kp => start108 O es n kp (al.filter fun x => !decide (x ∈ on)) mk (by omega) hn0 hes hed hel0
  rw [hclow] at h3
  have h5 := fun O kp s ev hs => next111 O es n kp (al.filter fun x => !decide (x ∈ on)) mk s ev (by omega) hes hed (mem_subs (n := n) hs).2 (by have := (mem_subs (n := n) hs).1; omega) hel0
  simp only [hnlow] at h5
  rw [show keptR ⟨al, (n : Int), mk, es⟩ on = al.filter fun x => decide (x ∈ on) from rfl] at hno ⊢
  generalize (al.filter fun x => decide (x ∈ on)) = kp at *
  generalize (al.filter fun x => !decide (x ∈ on)) = er at *
  generalize pStep ⟨al, (n : Int), mk, es⟩ on n = ps at *
  have hmr : ∀ s : List Int, marksR ⟨al, (n : Int), mk, es⟩ s = s.any fun x => decide (x ∈ mk) := fun _ => rfl
  generalize marksR ⟨al, (n : Int), mk, es⟩ = mr at *
  generalize clo es (lowP on [] false) n [0] = s0 at *
  generalize lowP on [] false = lp at *
  refine aspec_stop [15, 25, 29] Tk Tryz.func106 rfl Tryz.call106 Tryz.ntmps106 (Nat.le_of_ble_eq_true rfl) fun E => ?_
  refine g_run Tk Tryz.func106 ?_
  first | refine g_call Tk Tryz.func106 (h1 _) rfl rfl rfl rfl rfl ?_ | refine s_callq Tk (fun _ => h1 _) rfl rfl rfl ?_
  repeat (first | refine gcT Tk Tryz.func106 rfl ?_ | refine gkT Tk Tryz.func106 rfl ?_ | refine skT Tk ?_ | refine gcF Tk Tryz.func106 rfl ?_ | refine gkF Tk Tryz.func106 rfl ?_ | refine skF Tk ?_)
  first | refine g_call Tk Tryz.func106 (h2 _) rfl rfl rfl rfl rfl ?_ | refine s_callq Tk (fun _ => h2 _) rfl rfl rfl ?_
  first | refine g_cnd Tk Tryz.func106 rfl (fun h => absurd h (by simp; omega)) (fun _ => ?_) | refine g_know Tk Tryz.func106 rfl (fun h => absurd h (by simp; omega)) (fun _ => ?_) | refine s_know Tk (fun h => absurd h (by simp; omega)) (fun _ => ?_)
  first | refine g_call Tk Tryz.func106 (h3 _ _) rfl rfl rfl rfl rfl ?_ | refine s_callq Tk (fun _ => h3 _ _) rfl rfl rfl ?_
  first | refine g_need Tk Tryz.func106 (by exact ⟨by decide, by decide⟩) ?_ | refine s_need Tk (by exact ⟨by decide, by decide⟩) ?_
  first | refine g_elem Tk Tryz.func106 (rfl) ?_ | refine s_elem Tk (rfl) ?_
  first | refine g_call Tk Tryz.func106 (hkey _ s0 hf0) rfl rfl rfl rfl rfl ?_ | refine s_callq Tk (fun _ => hkey _ s0 hf0) rfl rfl rfl ?_
  refine g_loop ?_
  refine rch_wk (wk_ren 37 97 rfl rfl rfl) ?_
  refine rch_wk (wk_nilbox2 9 60 3 1 (pre := [ints kp, ii 0]) (post := [.i (.v (.slice none 0 0))]) rfl rfl rfl) ?_
  refine rch_wk (wk_nilbox2 9 105 117 3 (pre := [ints kp, ii 0, .osl 0 60]) (post := []) rfl rfl rfl) ?_
  refine rch_loop2 (fun x : Nat × Unf (List Int) × List (Value × Int) => [(4, .own 0 4 0 0), (8, .own 0 8 0 0), (9, .own 0 9 0 0), (10, .osl 0 97), (11, .osl 0 38), (12, ii x.1)])
    (fun x => [(4, .box [.i (.v (.slice none 0 0)), ii 0, .i (.v (.slice none 0 0)), .i (.v (.slice none 0 0))]), (8, .box [.i (rowsI (outOf n es)), ints kp, ints er, ints mk]), (9, .box [ints kp, ii 0, .osl 0 60, .osl 0 105]), (97, orows x.2.1.sts), (60, oints x.2.1.mkl), (105, oedgs x.2.1.eds), (38, .mp .str (.i .i64 x.2.2))]) (fun _ => O) 117
    (fun x => x.1 ≤ x.2.1.sts.length ∧ UOk (estP n) x.2.1 ∧ kmOk (estP n) rkeyB x.2.2 x.2.1.sts ∧ x.2.1.mkl.length ≤ x.1 ∧ x.2.1.eds.length ≤ x.1 * 1000000 ∧ R = uloop eqB false ps mr kp (4097 - x.1) x.1 x.2.1) (fun x => 4097 - x.1) (0, unf0 s0, mset [] (.string (rkeyB s0)) 0)
    ⟨Nat.zero_le _, hU0, hk0, Nat.le_refl _, Nat.zero_le _, hno⟩ ⟨rfl, rfl, rfl, rfl, rfl, rfl, trivial⟩ rfl ⟨rfl, rfl, rfl, rfl, rfl, rfl, rfl, trivial⟩ rfl rfl ?_
  clear hno hU0 hk0 h1 h2 h3 hf0
  rintro ⟨i, U, km⟩ ⟨hi, hgd, hkm, hml, hel, hno⟩ ih
  simp only at hi hgd hkm hml hel hno
  refine g_run Tk Tryz.func106 ?_
  first | refine g_cnd Tk Tryz.func106 rfl (fun g1 => ?_) (fun g1 => ?_) | refine g_know Tk Tryz.func106 rfl (fun g1 => ?_) (fun g1 => ?_) | refine s_know Tk (fun g1 => ?_) (fun g1 => ?_)
  · have h1 : i < U.sts.length := by simpa using g1
    clear g1
    have hle := hfew U hgd
    have hsi : U.sts[i]? = some U.sts[i] := List.getElem?_eq_getElem h1
    have gs : (U.sts.map fun r => [intsI r])[(i : Int).toNat]? = some [intsI U.sts[i]] := get_mapZ (f := fun r => [intsI r]) h1
    have hoks := hgd.ok _ (List.getElem_mem h1)
    generalize U.sts[i] = s at *
    have hsl := (mem_subs hoks.1).1
    have hmk' := fun O => isMarked110 O (outOf n es) kp er mk s (by simp only [max63]; omega) (by simp only [max63]; omega)
    rw [← hmr] at hmk'
    have hno : R = match uvisits eqB false ps i s kp (umark mr i s U) with
        | .error e => .error e
        | .ok U' => uloop eqB false ps mr kp (4097 - (i + 1)) (i + 1) U' := by
      rw [hno, show 4097 - i = (4097 - (i + 1)) + 1 by omega]
      simp only [uloop, hsi]
      cases uvisits eqB false ps i s kp (umark mr i s U) <;> rfl
    obtain ⟨m1, m2⟩ := umark_sts mr i s U
    have hM : UOk (estP n) (umark mr i s U) := ⟨by rw [m1]; exact hgd.ok, by rw [m1]; exact hgd.nd, by rw [m1, m2]; exact hgd.fr⟩
    have hm3 : (umark mr i s U).mkl = if mr s = true then U.mkl ++ [(i : Int)] else U.mkl := by
      unfold umark
      by_cases h : mr s = true <;> simp [h]
    generalize umark mr i s U = U1 at *
    generalize mr s = B at *
    obtain ⟨sts, mkl, eds⟩ := U
    obtain ⟨sts1, mkl1, eds1⟩ := U1
    simp only at m1 m2 hm3 hsi gs hno h1 hle hel hml hi hkm hgd
    subst m1 m2
    have n1 : 0 ≤ (i : Int) ∧ (i : Int) < (sts1.length : Int) := by omega
    have hml1 : mkl1.length ≤ i + 1 := by rw [hm3]; split; (rw [List.length_append, List.length_singleton]; omega); omega
    refine g_drawn Tk Tryz.func106 mixedT rfl ?_
    first | refine g_need Tk Tryz.func106 (by exact n1) ?_ | refine s_need Tk (by exact n1) ?_
    first | refine g_elem Tk Tryz.func106 (gs) ?_ | refine s_elem Tk (gs) ?_
    first | refine g_call Tk Tryz.func106 (hmk' _) rfl rfl rfl rfl rfl ?_ | refine s_callq Tk (fun _ => hmk' _) rfl rfl rfl ?_
    refine e_done Tk Tryz.func106 (by kernel_rfl) ?_
    apply join_p (P := True) (s6 := { σ := [(4, .own 0 4 0 0), (8, .own 0 8 0 0), (9, .own 0 9 0 0), (10, .osl 0 97), (11, .osl 0 38), (12, ii i)], S := [(4, .box [.i (.v (.slice none 0 0)), ii 0, .i (.v (.slice none 0 0)), .i (.v (.slice none 0 0))]), (8, .box [.i (rowsI (outOf n es)), ints kp, ints er, ints mk]), (9, .box [ints kp, ii 0, .osl 0 60, .osl 0 105]), (97, orows sts1), (60, oints mkl1), (105, oedgs eds1), (38, .mp .str (.i .i64 km))] :: O, n := 117 })
    · intro J
      first | refine g_cnd Tk Tryz.func106 rfl (fun c1 => ?_) (fun c1 => ?_) | refine g_know Tk Tryz.func106 rfl (fun c1 => ?_) (fun c1 => ?_) | refine s_know Tk (fun c1 => ?_) (fun c1 => ?_)
      · have c1 : B = true := c1
        rw [if_pos c1] at hm3
        first | refine g_need Tk Tryz.func106 (by exact ⟨by show (mkl.length + 1) * 8 ≤ 140737488355328; omega, by show mkl.length + 1 ≤ 9223372036854775807; omega⟩) ?_ | refine s_need Tk (by exact ⟨by show (mkl.length + 1) * 8 ≤ 140737488355328; omega, by show mkl.length + 1 ≤ 9223372036854775807; omega⟩) ?_
        refine g_stop ?_
        refine rch_meet (J trivial) ⟨rfl, rfl, rfl, rfl, rfl, rfl, trivial⟩ rfl ⟨rfl, rfl, rfl, rfl, by rw [hm3]; exact congrArg some (oints_app mkl (i : Int)), rfl, rfl, trivial⟩ rfl rfl
      · have c1 : ¬ B = true := by rw [show B = false from c1]; decide
        rw [if_neg c1] at hm3
        refine g_stop ?_
        refine rch_meet (J trivial) ⟨rfl, rfl, rfl, rfl, rfl, rfl, trivial⟩ rfl ⟨rfl, rfl, rfl, rfl, by rw [hm3]; rfl, rfl, rfl, trivial⟩ rfl rfl
    intro _
    clear hm3 hml hmk' gs hgd
    have hV0 : uvisits eqB false ps i s kp ⟨sts1, mkl1, eds1⟩ = uvisits eqB false ps i s (kp.drop 0) ⟨sts1, mkl1, eds1⟩ := rfl
    generalize uvisits eqB false ps i s kp ⟨sts1, mkl1, eds1⟩ = VV at *
    refine g_run Tk Tryz.func106 ?_
    refine g_go Tk Tryz.func106 ?_
    refine g_loop ?_
    refine rch_loop2 (fun x : Nat × Unf (List Int) × List (Value × Int) => [(4, .own 0 4 0 0), (8, .own 0 8 0 0), (9, .own 0 9 0 0), (10, .osl 0 97), (11, .osl 0 38), (12, ii i), (63, ints kp), (64, ii kp.length), (65, ii x.1)])
      (fun x => [(4, .box [.i (.v (.slice none 0 0)), ii 0, .i (.v (.slice none 0 0)), .i (.v (.slice none 0 0))]), (8, .box [.i (rowsI (outOf n es)), ints kp, ints er, ints mk]), (9, .box [ints kp, ii 0, .osl 0 60, .osl 0 105]), (97, orows x.2.1.sts), (60, oints x.2.1.mkl), (105, oedgs x.2.1.eds), (38, .mp .str (.i .i64 x.2.2))]) (fun _ => O) 117
      (fun x => x.1 ≤ kp.length ∧ UOk (estP n) x.2.1 ∧ kmOk (estP n) rkeyB x.2.2 x.2.1.sts ∧ i < x.2.1.sts.length ∧ x.2.1.mkl = mkl1 ∧ x.2.1.eds.length ≤ i * 1000000 + x.1 ∧ x.2.1.sts[i]? = some s ∧ VV = uvisits eqB false ps i s (kp.drop x.1) x.2.1) (fun x => kp.length - x.1) (0, ⟨sts1, mkl1, eds1⟩, km)
      ⟨Nat.zero_le _, hM, hkm, h1, rfl, Nat.le_trans hel (Nat.le_add_right _ _), hsi, hV0⟩ ⟨rfl, rfl, rfl, rfl, rfl, rfl, rfl, rfl, rfl, trivial⟩ rfl ⟨rfl, rfl, rfl, rfl, rfl, rfl, rfl, trivial⟩ rfl rfl ?_
    clear hV0 hsi hel hle hM n1 h1 hkm
    rintro ⟨j, ⟨sts, mk', eds⟩, km⟩ ⟨hj, hgd, hkm, hil, hmke, hel, hsi, hV⟩ ih2
    simp only at hj hgd hkm hil hmke hel hsi hV
    subst hmke
    have hle := hfew _ hgd
    simp only at hle
    have hj1 : ii (IntKind.i64.wrap ((j : Int) + 1)) = ii ((j + 1 : Nat) : Int) := congrArg ii (wsucc (n := 1000001) (by omega) (by decide))
    refine g_run Tk Tryz.func106 ?_
    first | refine g_cnd Tk Tryz.func106 rfl (fun g2 => ?_) (fun g2 => ?_) | refine g_know Tk Tryz.func106 rfl (fun g2 => ?_) (fun g2 => ?_) | refine s_know Tk (fun g2 => ?_) (fun g2 => ?_)
    · have h3 : j < kp.length := by simpa using g2
      clear g2
      have ga : (kp.map fun x => [vi x])[(j : Int).toNat]? = some [vi kp[j]] := get_mapZ (f := fun x => [vi x]) h3
      have da : kp.drop j = kp[j] :: kp.drop (j + 1) := List.drop_eq_getElem_cons h3
      rw [da] at hV
      simp only [uvisits] at hV
      clear da
      generalize kp[j] = e at *
      have hst2 := fun O => h5 O kp s e hoks.1
      have gs : (sts.map fun r => [intsI r])[(i : Int).toNat]? = some [intsI s] := by simp [hsi]
      have hvok := fun V' h => hvok i s e ⟨sts, mk', eds⟩ V' hgd hoks hil h
      have hnl := hnxl s e
      have hnP : nxt es lp n s e ≠ [] → estP n (nxt es lp n s e) := fun h => ⟨sorted_subs _ _, h⟩
      unfold uvisit at hV hvok
      rw [hPs] at hV hvok
      simp only at hV hvok
      generalize nxt es lp n s e = nx at *
      have n3 : 0 ≤ (i : Int) ∧ (i : Int) < (sts.length : Int) := by omega
      first | refine g_need Tk Tryz.func106 (by exact ⟨by omega, by show (j : Int) < (kp.length : Int); omega⟩) ?_ | refine s_need Tk (by exact ⟨by omega, by show (j : Int) < (kp.length : Int); omega⟩) ?_
      first | refine g_elem Tk Tryz.func106 (ga) ?_ | refine s_elem Tk (ga) ?_
      refine g_drawn Tk Tryz.func106 mixedT rfl ?_
      first | refine g_need Tk Tryz.func106 (by exact n3) ?_ | refine s_need Tk (by exact n3) ?_
      first | refine g_elem Tk Tryz.func106 (gs) ?_ | refine s_elem Tk (gs) ?_
      first | refine g_call Tk Tryz.func106 (hst2 _) rfl rfl rfl rfl rfl ?_ | refine s_callq Tk (fun _ => hst2 _) rfl rfl rfl ?_
      refine e_done Tk Tryz.func106 (by kernel_rfl) ?_
      first | refine g_cnd Tk Tryz.func106 rfl (fun c3 => ?_) (fun c3 => ?_) | refine g_know Tk Tryz.func106 rfl (fun c3 => ?_) (fun c3 => ?_) | refine s_know Tk (fun c3 => ?_) (fun c3 => ?_)
      · have c3 : (nx.length : Int) = 0 := beqT c3
        simp only [ne_eq, not_true, if_false] at hV
        rw [if_pos (by simp only [decide_eq_false_iff_not]; omega)] at hV
        refine g_loop ?_
        exact ih2 (j + 1, ⟨sts, mk', eds⟩, km) _ _ ⟨h3, hgd, hkm, hil, rfl, by simp only; omega, hsi, hV⟩ (by simp only; omega) ⟨rfl, rfl, rfl, rfl, rfl, rfl, rfl, rfl, hj1, trivial⟩ rfl ⟨rfl, rfl, rfl, rfl, rfl, rfl, rfl, trivial⟩ rfl rfl
      have c3 : ¬ (nx.length : Int) = 0 := beqF c3
      simp only [ne_eq, not_true, if_false] at hV hvok
      rw [if_neg (by simp only [decide_eq_false_iff_not]; omega)] at hV hvok
      have hnx : estP n nx := hnP fun e => c3 (by rw [e]; rfl)
      obtain ⟨hkh, hkg⟩ := hkm nx hnx
      first | refine g_call Tk Tryz.func106 (hkey _ nx hnx) rfl rfl rfl rfl rfl ?_ | refine s_callq Tk (fun _ => hkey _ nx hnx) rfl rfl rfl ?_
      obtain ⟨t, ht⟩ : ∃ t, t = sts.findIdx (eqB nx) := ⟨_, rfl⟩
      rw [← ht] at hV hvok hkg
      obtain ⟨sts2, hst3⟩ : ∃ sts2, sts2 = if nx ∈ sts then sts else sts ++ [nx] := ⟨_, rfl⟩
      obtain ⟨km2, hkm3⟩ : ∃ km2, km2 = if nx ∈ sts then km else mset km (.string (rkeyB nx)) (sts.length : Nat) := ⟨_, rfl⟩
      have hU2 : VV = uvisits eqB false ps i s (kp.drop (j + 1)) ⟨sts2, mk', eds ++ [((i : Int), e, (t : Int))]⟩ ∧ UOk (estP n) ⟨sts2, mk', eds ++ [((i : Int), e, (t : Int))]⟩ ∧ i < sts2.length ∧ sts2[i]? = some s ∧ kmOk (estP n) rkeyB km2 sts2 := by
        by_cases hm : nx ∈ sts
        · have hlt : t < sts.length := by rw [ht]; exact findIdx_lt ⟨nx, hm, by simp [eqB]⟩
          rw [if_pos hm] at hst3 hkm3
          rw [if_pos hlt] at hV hvok
          subst hst3 hkm3
          have h := hvok _ rfl
          exact ⟨hV, h.1, h.2.1, h.2.2.trans hsi, hkm⟩
        · have hlt : t = sts.length := by
            rw [ht]
            exact findIdx_none fun x hx => by simp only [eqB, decide_eq_false_iff_not]; rintro rfl; exact hm hx
          rw [if_neg hm] at hst3 hkm3
          rw [if_neg (by omega), if_neg (by simp)] at hV hvok
          have hk2 := kmOk_app hinj hkm hnx hm
          subst hst3 hkm3
          have h := hvok _ rfl
          exact ⟨hV, h.1, h.2.1, h.2.2.trans hsi, hk2⟩
      have htm : nx ∉ sts → t = sts.length := fun hm => by
        rw [ht]
        exact findIdx_none fun x hx => by simp only [eqB, decide_eq_false_iff_not]; rintro rfl; exact hm hx
      clear hV hvok ht
      apply join_p (P := True) (s6 := { σ := [(4, .own 0 4 0 0), (8, .own 0 8 0 0), (9, .own 0 9 0 0), (10, .osl 0 97), (11, .osl 0 38), (12, ii i), (63, ints kp), (64, ii kp.length), (65, ii j), (14, ii e), (16, ii t)], S := [(4, .box [.i (.v (.slice none 0 0)), ii 0, .i (.v (.slice none 0 0)), .i (.v (.slice none 0 0))]), (8, .box [.i (rowsI (outOf n es)), ints kp, ints er, ints mk]), (9, .box [ints kp, ii 0, .osl 0 60, .osl 0 105]), (97, orows sts2), (60, oints mk'), (105, oedgs eds), (38, .mp .str (.i .i64 km2))] :: O, n := 117 })
      · intro J
        first | refine g_cnd Tk Tryz.func106 rfl (fun c1 => ?_) (fun c1 => ?_) | refine g_know Tk Tryz.func106 rfl (fun c1 => ?_) (fun c1 => ?_) | refine s_know Tk (fun c1 => ?_) (fun c1 => ?_)
        · have c1 : mhas km (.string (rkeyB nx)) = false := notT c1
          rw [hkh] at c1
          have c1 : nx ∉ sts := of_decide_eq_false c1
          rw [if_neg c1] at hst3 hkm3
          have htl := htm c1
          first | refine g_call Tk Tryz.func106 (hkey _ nx hnx) rfl rfl rfl rfl rfl ?_ | refine s_callq Tk (fun _ => hkey _ nx hnx) rfl rfl rfl ?_
          first | refine g_need Tk Tryz.func106 (by exact ⟨by show (sts.length + 1) * 24 ≤ 140737488355328; omega, by show sts.length + 1 ≤ 9223372036854775807; omega⟩) ?_ | refine s_need Tk (by exact ⟨by show (sts.length + 1) * 24 ≤ 140737488355328; omega, by show sts.length + 1 ≤ 9223372036854775807; omega⟩) ?_
          refine g_stop ?_
          refine rch_meet (J trivial) ⟨rfl, rfl, rfl, rfl, rfl, rfl, rfl, rfl, rfl, rfl, by rw [htl]; rfl, trivial⟩ rfl ⟨rfl, rfl, rfl, by rw [hst3]; exact congrArg some (orows_app sts nx), rfl, rfl, by rw [hkm3]; rfl, trivial⟩ rfl rfl
        · have c1 : mhas km (.string (rkeyB nx)) = true := notF c1
          rw [hkh] at c1
          have c1 : nx ∈ sts := of_decide_eq_true c1
          rw [if_pos c1] at hst3 hkm3
          have hg := hkg c1
          refine g_stop ?_
          refine rch_meet (J trivial) ⟨rfl, rfl, rfl, rfl, rfl, rfl, rfl, rfl, rfl, rfl, congrArg ii hg, trivial⟩ rfl ⟨rfl, rfl, rfl, by rw [hst3]; rfl, rfl, rfl, by rw [hkm3]; rfl, trivial⟩ rfl rfl
      intro _
      obtain ⟨hV, hg2, hi2, hs2, hk2⟩ := hU2
      clear hst3 hkm3 htm hkh hkg hst2 hgd hkm hil hsi gs
      refine g_run Tk Tryz.func106 ?_
      refine g_go Tk Tryz.func106 ?_
      first | refine g_need Tk Tryz.func106 (by exact ⟨by show (eds.length + 1) * 24 ≤ 140737488355328; omega, by show eds.length + 1 ≤ 9223372036854775807; omega⟩) ?_ | refine s_need Tk (by exact ⟨by show (eds.length + 1) * 24 ≤ 140737488355328; omega, by show eds.length + 1 ≤ 9223372036854775807; omega⟩) ?_
      refine g_loop ?_
      exact ih2 (j + 1, ⟨sts2, mk', eds ++ [((i : Int), e, (t : Int))]⟩, km2) _ _ ⟨h3, hg2, hk2, hi2, rfl, by simp only [List.length_append, List.length_singleton]; omega, hs2, hV⟩ (by simp only; omega) ⟨rfl, rfl, rfl, rfl, rfl, rfl, rfl, rfl, hj1, trivial⟩ rfl ⟨rfl, rfl, rfl, rfl, rfl, congrArg some (oedgs_app eds ((i : Int), e, (t : Int))), rfl, trivial⟩ rfl rfl
    · have h3 : kp.length ≤ j := by simpa using g2
      rw [List.drop_eq_nil_of_le h3] at hV
      simp only [uvisits] at hV
      subst hV
      simp only at hno
      first | refine g_cnd Tk Tryz.func106 rfl (fun c3 => ?_) (fun c3 => ?_) | refine g_know Tk Tryz.func106 rfl (fun c3 => ?_) (fun c3 => ?_) | refine s_know Tk (fun c3 => ?_) (fun c3 => ?_)
      · have c3 : ((sts.length : Nat) : Int) > 4096 := of_decide_eq_true c3
        omega
      refine g_loop ?_
      exact ih (i + 1, ⟨sts, mk', eds⟩, km) _ _ ⟨by simp only; omega, hgd, hkm, hml1, by simp only; omega, hno⟩ (by simp only; omega) ⟨rfl, rfl, rfl, rfl, rfl, congrArg ii (wsucc (n := 5000) (by omega) (by decide)), trivial⟩ rfl ⟨rfl, rfl, rfl, rfl, rfl, rfl, rfl, trivial⟩ rfl rfl
  · have h1 : U.sts.length ≤ i := by simpa using g1
    rw [uloop_done h1] at hno
    rw [← hR] at hno
    simp only [Except.ok.injEq] at hno
    subst hno
    obtain ⟨sts, mk', eds⟩ := V
    refine g_stop ?_
    refine rch_wk (wk_freeze 60 rfl rfl) ?_
    refine rch_wk (wk_freeze 105 rfl rfl) ?_
    refine g_run Tk Tryz.func106 ?_
    refine g_go Tk Tryz.func106 ?_
    refine g_rwk (wk_freeze 97 rfl rfl) ?_
    refine g_rwk (wk_imm rfl) ?_
    refine g_ret Tk (r := .tup [autD ⟨kp, sts.length, mk', eds⟩, .i (rowsS sts), ii 0]) rfl rfl rfl trivial rfl rfl ?_
    rfl
end Go.AI


namespace Go.AI
structure Sys where
  p : Aut
  s : Aut
  ob : List Int
  ct : List Int
def chkSets (al : List Int) : List (List Int) → Int
  | [] => 0
  | l :: r => if checkSet 32 l none ≠ 0 then checkSet 32 l none else if (mrgR minK l al).length ≠ 0 then 9 else chkSets al r
def chkSys (x : Sys) : Int := if chkA x.p ≠ 0 then chkA x.p else if chkA x.s ≠ 0 then chkA x.s else if x.p.alpha ≠ x.s.alpha then 13 else chkSets x.p.alpha [x.ob, x.ct]
structure gSys (x : Sys) : Prop where
  p : chkA x.p = 0
  s : chkA x.s = 0
  al : x.s.alpha = x.p.alpha
  ob : checkSet 32 x.ob none = 0
  ct : checkSet 32 x.ct none = 0
  obs : ∀ e ∈ x.ob, e ∈ x.p.alpha
  cts : ∀ e ∈ x.ct, e ∈ x.p.alpha
theorem chkSys_of {x : Sys} (h : gSys x) : chkSys x = 0 := by
  have hal := (checkSet_sorted (chk_parts h.p).1).1
  have h5 := (mrg_sub (checkSet_sorted h.ob).1 hal).2 h.obs
  have h7 := (mrg_sub (checkSet_sorted h.ct).1 hal).2 h.cts
  unfold chkSys chkSets
  rw [if_neg (by rw [h.p]; decide), if_neg (by rw [h.s]; decide), if_neg (by rw [h.al]; simp), if_neg (by rw [h.ob]; decide), if_neg (by omega)]
  unfold chkSets
  rw [if_neg (by rw [h.ct]; decide), if_neg (by omega)]
  rfl
def lpStep (x : Sys) (z : Int × Int) (ev : Int) : (Int × Int) × Bool × Int := ((stp3 x.p.edges z.1 ev, stp3 x.s.edges z.2 ev), decide (0 ≤ stp3 x.p.edges z.1 ev) && decide (0 ≤ stp3 x.s.edges z.2 ev), 0)
def lpMk (x : Sys) (z : Int × Int) : Bool := decide (z.1 ∈ x.p.marked) && decide (z.2 ∈ x.s.marked)
def lpU (x : Sys) : Except Int (Unf (Int × Int)) := unfR eqB false (lpStep x) (lpMk x) x.p.alpha (0, 0)
def lpIn (x : Sys) (z : Int × Int) : Prop := (0 ≤ z.1 ∧ z.1 < x.p.states) ∧ 0 ≤ z.2 ∧ z.2 < x.s.states
def tupP (z : Int × Int) : List Int := [z.1, z.2]
def lpV (x : Sys) : List (Int × Int) := (List.range x.p.states.toNat).flatMap fun (i : Nat) => (List.range x.s.states.toNat).map fun (j : Nat) => ((i : Int), (j : Int))
theorem mem_lpV {x : Sys} {z : Int × Int} (h : lpIn x z) : z ∈ lpV x := by
  obtain ⟨h1, h2⟩ := h
  unfold lpV
  refine List.mem_flatMap.2 ⟨z.1.toNat, List.mem_range.2 (by omega), List.mem_map.2 ⟨z.2.toNat, List.mem_range.2 (by omega), ?_⟩⟩
  rw [show ((z.1.toNat : Nat) : Int) = z.1 by omega, show ((z.2.toNat : Nat) : Int) = z.2 by omega]
theorem lpV_len (x : Sys) : (lpV x).length = x.p.states.toNat * x.s.states.toNat := by
  unfold lpV
  have : ∀ n : Nat, ((List.range n).flatMap fun (i : Nat) => (List.range x.s.states.toNat).map fun (j : Nat) => ((i : Int), (j : Int))).length = n * x.s.states.toNat := by
    intro n
    induction n with
    | zero => simp
    | succ n ih =>
      rw [List.range_succ, List.flatMap_append, List.length_append, ih]
      simp [Nat.succ_mul]
  exact this _
theorem lp_fin {x : Sys} (h : gSys x) (b : Bool) (hV : (lpV x).length < 4096) : Fin1 (lpStep x) eqB b (lpIn x) :=
  ⟨fun z ev hz hp => by
    have hp : (decide (0 ≤ stp3 x.p.edges z.1 ev) && decide (0 ≤ stp3 x.s.edges z.2 ev)) = true := hp
    simp only [Bool.and_eq_true, decide_eq_true_eq] at hp
    exact ⟨(chk_rng h.p).2.1 _ (stp3_mem hp.1), (chk_rng h.s).2.1 _ (stp3_mem hp.2)⟩, fun _ _ _ _ => rfl, fun _ m h1 h2 => Nat.lt_of_le_of_lt (nodup_sub h2 fun s hs => mem_lpV (h1 s hs)) hV⟩
theorem lp_some {x : Sys} (h : gSys x) (h0 : 0 < x.p.states ∧ 0 < x.s.states) (hV : (lpV x).length < 4096) : ∃ V, lpU x = .ok V ∧ UAt (lpMk x) x.p.alpha (lpIn x) (lpStep x) V.sts.length V := by
  rcases unfR_spec (lpMk x) (lp_fin h false hV) (alpha := x.p.alpha) (first := (0, 0)) ⟨⟨Int.le_refl _, h0.1⟩, Int.le_refl _, h0.2⟩ (B := (lpV x).length) (fun m h1 h2 => nodup_sub h2 fun s hs => mem_lpV (h1 s hs)) (by omega) with ⟨e, _, h1, s, _, ev, _, h2⟩ | h
  · exact absurd h2.symm h1
  · exact h
theorem lp_sim {x : Sys} (h : gSys x) : Sim eqB eqB (lpStep x) (tStep [x.p, x.s]) (lpMk x) (tMk [x.p, x.s]) (lpIn x) tupP x.p.alpha := by
  refine ⟨fun z ev hz he => ?_, fun a b _ _ => ?_, fun z _ => ?_⟩
  · have he2 : ev ∈ x.s.alpha := by rw [h.al]; exact he
    have e1 : tupS [x.p, x.s] (tupP z) ev = if 0 ≤ stp3 x.p.edges z.1 ev ∧ 0 ≤ stp3 x.s.edges z.2 ev then some [stp3 x.p.edges z.1 ev, stp3 x.s.edges z.2 ev] else none := by
      simp only [tupS, tupP]
      rw [if_pos he, if_pos he2]
      by_cases c1 : 0 ≤ stp3 x.p.edges z.1 ev
      · by_cases c2 : 0 ≤ stp3 x.s.edges z.2 ev
        · rw [if_pos c1, if_pos c2, if_pos ⟨c1, c2⟩]; rfl
        · rw [if_pos c1, if_neg c2, if_neg (fun h => c2 h.2)]; rfl
      · rw [if_neg c1, if_neg (fun h => c1 h.1)]
    have e2 : (lpStep x z ev).2 = (decide (0 ≤ stp3 x.p.edges z.1 ev ∧ 0 ≤ stp3 x.s.edges z.2 ev), 0) := by
      show (decide (0 ≤ stp3 x.p.edges z.1 ev) && decide (0 ≤ stp3 x.s.edges z.2 ev), (0 : Int)) = _
      rw [Bool.decide_and]
    unfold tStep
    rw [e1, e2]
    by_cases c : 0 ≤ stp3 x.p.edges z.1 ev ∧ 0 ≤ stp3 x.s.edges z.2 ev
    · rw [if_pos c, decide_eq_true c]
      exact ⟨rfl, fun _ => ⟨rfl, (chk_rng h.p).2.1 _ (stp3_mem c.1), (chk_rng h.s).2.1 _ (stp3_mem c.2)⟩⟩
    · rw [if_neg c, decide_eq_false c]
      exact ⟨rfl, fun h => by cases h⟩
  · obtain ⟨a1, a2⟩ := a
    obtain ⟨b1, b2⟩ := b
    simp [eqB, tupP]
  · simp [tMk, tupP, lpMk]
theorem tupsV_two (x : Sys) : (tupsV [x.p, x.s]).length = (lpV x).length := by
  rw [lpV_len]
  have h1 : ∀ (l : List (List Int)) (n : Nat), ((List.range n).flatMap fun (i : Nat) => l.map fun t => (i : Int) :: t).length = n * l.length := by
    intro l n
    induction n with
    | zero => simp
    | succ n ih =>
      rw [List.range_succ, List.flatMap_append, List.length_append, ih]
      simp [Nat.succ_mul]
  simp only [tupsV, h1]
  simp
theorem evL_two {x : Sys} (h : gSys x) : evL [x.p, x.s] = x.p.alpha := by
  have hal := (checkSet_sorted (chk_parts h.p).1).1
  unfold evL
  simp only [List.foldl_cons, List.foldl_nil]
  rw [h.al, mrg_nil hal, mrg_same hal]
theorem lp_prod {x : Sys} (h : gSys x) (h0 : 0 < x.p.states ∧ 0 < x.s.states) (hV : (lpV x).length < 4096) {V : Unf (Int × Int)} (hU : lpU x = .ok V) : prodR [x.p, x.s] = .ok (V.map tupP) := by
  have hin : lpIn x (0, 0) := ⟨⟨Int.le_refl _, h0.1⟩, Int.le_refl _, h0.2⟩
  have h1 := unfR_map (lim := true) (lp_sim h) hin
  have h2 := unfR_same (mkd := lpMk x) (lp_fin h true hV) (lp_fin h false hV) (alpha := x.p.alpha) hin
  unfold prodR
  rw [evL_two h]
  have h3 : unfR eqB false (lpStep x) (lpMk x) x.p.alpha (0, 0) = .ok V := hU
  rw [h2, h3] at h1
  exact h1
def lpR (x : Sys) : Aut × List (Int × Int) := if 0 < x.p.states ∧ 0 < x.s.states then (match lpU x with
  | .ok V => (unfA x.p.alpha V, V.sts)
  | .error _ => (⟨x.p.alpha, 0, [], []⟩, [])) else (⟨x.p.alpha, 0, [], []⟩, [])
end Go.AI


namespace Go.AI
open Go.Proofs
section
variable {c : Cx} {s : St} {k : List Item} {ops : Array Oper} {rest : List Nat} {o : Oper}
theorem arr2_rep {K : Kn} {v : Value} {c0 c1 : I} (h : Rep K v (.sl 1 2 [[c0], [c1]])) : ∃ a cap, v = .slice a 2 cap ∧ Rep K (.pointer a) (.ptr 2 [[c0, c1]] 0 0) := by
  cases h with
  | @sl b o cap es n cs xs h1 h2 h3 h4 h5 =>
    refine ⟨_, _, rfl, ?_⟩
    have := Rep.ptr (K := K) (b := b) (o := o) (es := 2) (i := 0) (off := 0) (cs := cs) (xs := [[c0, c1]]) (by simpa using h1) (by simp) h3
    simpa using this
theorem g_arr2 (hT : TOk c.P c.T) (hfn : c.P.funcs[c.f]? = some c.fn) {i t arr e : Nat} {x : Operand} {c0 c1 : I} {H : Heap} {O : List Heap} (ho : ops[i]? = some o) (hop : o.op = .sliceToArrayPointer arr x) (hd : o.dst = some t) (hg : o.guard = none) (hn : Nat.ble (t + 1) s.n = true)
    (hu : c.P.underlying arr = some (.array 2 e)) (hx : evD s x = .i (.sl 1 2 [[c0], [c1]])) (hS : s.S = H :: O)
    (h : GM c (run c.T c.stop 1000 (.inRegion ops rest :: k) { σ := (t, .i (.ptr 2 [[c0, c1]] 0 0)) :: s.σ, S := H :: O, n := s.n })) : GM c (.pause ops i rest o s k) := by
  refine ⟨?_⟩
  have hk : RG c ops rest { σ := (t, .i (.ptr 2 [[c0, c1]] 0 0)) :: s.σ, S := H :: O, n := s.n } k := run_sound hT hfn 1000 (.inRegion ops rest :: k) _ h.h
  refine rg_op ho (by unfold wantedD; rw [hg]) ?_
  intro K ρ a w hinv next Qe hnext
  have hh := hinv.h
  have hr := hinv.ev x
  rw [hx] at hr
  obtain ⟨v, hv0⟩ : ∃ v, v = a.eval x := ⟨_, rfl⟩
  rw [← hv0] at hr
  have hr' : Rep K v (.sl 1 2 [[c0], [c1]]) := by cases hr; assumption
  obtain ⟨p, cap, hv, hp⟩ := arr2_rep hr'
  rw [hv0] at hv
  have hrun : (execOp a.eval o).run c.P w = .ok (.value (.pointer p)) w := by
    simp [execOp, hop, Instr.arrayAt, run_underlying hu, hv]
  simp only [Oper.wp, hrun, Oper.upon]
  refine hnext (.pointer p) w _ K ρ K.le_refl (fun d n x _ e => ⟨by rw [hS] at e; exact e, rfl⟩) ?_ hk
  rw [hS] at hh
  rw [hd]
  refine inv_set hinv (Nat.le_of_ble_eq_true hn) hh ?_ (.i hp)
  rw [hS]
  exact ⟨K.le_refl, fun _ _ _ e => e, fun _ _ _ _ => rfl⟩
end
end Go.AI


namespace Go.AI
open Go.Proofs
section
variable {c : Cx} {s : St} {k : List Item} {ops : Array Oper} {rest : List Nat} {o : Oper}
def idxD (ie : TI) (cs : List D) (j : Nat) : Option D := bif ie.k.agg then some (.agg ((cs.drop (j * ie.size)).take ie.size)) else cs[j * ie.size]?
theorem g_idx (hT : TOk c.P c.T) (hfn : c.P.funcs[c.f]? = some c.fn) {i t ta e m : Nat} {x ix : Operand} {kk : IntKind} (j : Nat) {ie : TI} {cs : List D} (d : D) {H : Heap} {O : List Heap} (ho : ops[i]? = some o) (hop : o.op = .index ta x ix) (hd : o.dst = some t) (hg : o.guard = none) (hn : Nat.ble (t + 1) s.n = true)
    (hu : c.P.underlying ta = some (.array m e)) (hie : look c.T e = some ie) (hx : evD s x = .agg cs) (hix : evD s ix = .i (.v (.int kk (j : Int)))) (hj : j < m) (hres : idxD ie cs j = some d) (hS : s.S = H :: O)
    (h : GM c (run c.T c.stop 1000 (.inRegion ops rest :: k) { σ := (t, d) :: s.σ, S := H :: O, n := s.n })) : GM c (.pause ops i rest o s k) := by
  refine ⟨?_⟩
  have hk : RG c ops rest { σ := (t, d) :: s.σ, S := H :: O, n := s.n } k := run_sound hT hfn 1000 (.inRegion ops rest :: k) _ h.h
  refine rg_op ho (by unfold wantedD; rw [hg]) ?_
  intro K ρ a w hinv next Qe hnext
  have hh := hinv.h
  have hr := hinv.ev x
  have hri := hinv.ev ix
  rw [hx] at hr
  rw [hix] at hri
  obtain ⟨v, hv0⟩ : ∃ v, v = a.eval x := ⟨_, rfl⟩
  obtain ⟨vi, hvi⟩ : ∃ vi, vi = a.eval ix := ⟨_, rfl⟩
  rw [← hv0] at hr
  rw [← hvi] at hri
  have hri := inv_v hri
  obtain ⟨vs, rfl, hvs⟩ : ∃ vs : List Value, v = .agg vs.toArray ∧ RepDL K ρ (shape s.S) vs cs := by
    cases hr with
    | agg r => exact ⟨_, rfl, r⟩
  have hok := hT _ _ hie
  obtain ⟨inf, h1, h2, _⟩ := hok.info
  have hagg := run_isAgg (P := c.P) hok
  obtain ⟨y, hrun, hrep⟩ : ∃ y, (execOp a.eval o).run c.P w = .ok (.value y) w ∧ RepD K ρ (shape s.S) y d := by
    unfold idxD at hres
    cases ha : ie.k.agg with
    | true =>
      rw [ha, cond_true, Option.some.injEq] at hres
      subst hres
      refine ⟨_, ?_, .agg ((hvs.drop _).take _)⟩
      simp [execOp, hop, Instr.index, ← hv0, ← hvi, hri, asIntOf, run_underlying hu, hj, part, hagg, ha, Go.sizeOf, typeInfo, h1, h2]
    | false =>
      rw [ha, cond_false] at hres
      obtain ⟨y, hy, hrep⟩ := hvs.get hres
      refine ⟨y, ?_, hrep⟩
      simp [execOp, hop, Instr.index, ← hv0, ← hvi, hri, asIntOf, run_underlying hu, hj, part, hagg, ha, Go.sizeOf, typeInfo, h1, h2, hy]
  simp only [Oper.wp, hrun, Oper.upon]
  refine hnext y w _ K ρ K.le_refl (fun d n x _ e => ⟨by rw [hS] at e; exact e, rfl⟩) ?_ hk
  rw [hS] at hh
  rw [hd]
  refine inv_set hinv (Nat.le_of_ble_eq_true hn) hh ?_ (by rw [hS] at hrep; exact hrep)
  rw [hS]
  exact ⟨K.le_refl, fun _ _ _ e => e, fun _ _ _ _ => rfl⟩
end
end Go.AI


namespace Go.AI
open Go.Proofs
set_option maxRecDepth 20000
abbrev sysC (x : Sys) : List D := [ints x.p.alpha, ii x.p.states, ints x.p.marked, edgs x.p.edges, ints x.s.alpha, ii x.s.states, ints x.s.marked, edgs x.s.edges, ints x.ob, ints x.ct]
abbrev sysD (x : Sys) : D := .agg (sysC x)
structure smallS (x : Sys) : Prop where
  p : smallA x.p
  s : smallA x.s
  ob : x.ob.length ≤ 1000000
  ct : x.ct.length ≤ 1000000
set_option maxHeartbeats 4000000 in
theorem check26 (O : List Heap) (x : Sys) (h : smallS x) : ASpec Tryz.prog 26 [sysD x] O (ii (chkSys x)) [] O := by
  have hA := fun (a : Aut) (ha : smallA a) O => check116 O a (by have := ha.ed; simp only [max63]; omega) (by have := ha.al; simp only [max63]; omega) (by have := ha.mkd; simp only [max63]; omega)
  have h1 := hA x.p h.p
  have h2 := hA x.s h.s
  have h3 := fun O => equal47 O x.p.alpha x.s.alpha (by have := h.p.al; simp only [max63]; omega)
  have h4 := fun O => checkSet59 O x.ob 32 (by have := h.ob; simp only [max63]; omega)
  have h5 := fun O => checkSet59 O x.ct 32 (by have := h.ct; simp only [max63]; omega)
  have h6 := fun O => subset69 O x.ob x.p.alpha h.ob h.p.al
  have h7 := fun O => subset69 O x.ct x.p.alpha h.ct h.p.al
  generalize hR : chkSys x = R
  unfold chkSys chkSets at hR
  simp only [chkSets] at hR
  generalize chkA x.p = e1 at *
  generalize chkA x.s = e2 at *
  generalize checkSet 32 x.ob none = e4 at *
  generalize checkSet 32 x.ct none = e5 at *
  generalize (mrgR minK x.ob x.p.alpha).length = e6 at *
  generalize (mrgR minK x.ct x.p.alpha).length = e7 at *
  clear h hA
  obtain ⟨⟨al, st, mk, es⟩, ⟨al', st', mk', es'⟩, ob, ct⟩ := x
  simp only at hR h1 h2 h3 h4 h5 h6 h7
  refine aspec_stop [200016, 200038] Tk Tryz.func26 rfl Tryz.call26 Tryz.ntmps26 (Nat.le_of_ble_eq_true rfl) fun E => ?_
  refine g_run Tk Tryz.func26 ?_
  refine g_loop ?_
  refine g_run Tk Tryz.func26 ?_
  first | refine gcT Tk Tryz.func26 rfl ?_ | refine gkT Tk Tryz.func26 rfl ?_ | refine skT Tk ?_
  refine g_idx Tk Tryz.func26 0 (ie := TryzI39) (autD ⟨al, st, mk, es⟩) rfl rfl rfl rfl rfl Tryz.underlying133 rfl rfl rfl (by decide) rfl rfl ?_
  first | refine g_call Tk Tryz.func26 (h1 _) rfl rfl rfl rfl rfl ?_ | refine s_callq Tk (fun _ => h1 _) rfl rfl rfl ?_
  first | refine g_cnd Tk Tryz.func26 rfl (fun c1 => ?_) (fun c1 => ?_) | refine g_know Tk Tryz.func26 rfl (fun c1 => ?_) (fun c1 => ?_) | refine s_know Tk (fun c1 => ?_) (fun c1 => ?_)
  · have c1 : e1 ≠ 0 := bneT c1
    rw [if_pos c1] at hR
    subst hR
    refine g_ret Tk (r := ii e1) rfl rfl rfl trivial rfl rfl ?_
    rfl
  have c1 : e1 = 0 := bneF c1
  rw [if_neg (fun h => h c1)] at hR
  refine g_loop ?_
  refine rch_cut2 (l := [(1, .own 0 1 0 0), (13, .agg [ints al, ii st, ints mk, edgs es, ints al', ii st', ints mk', edgs es']), (14, ii 1)]) (Hv := [(1, .box (sysC ⟨⟨al, st, mk, es⟩, ⟨al', st', mk', es'⟩, ob, ct⟩))]) (O := O) (n := 51) ⟨rfl, rfl, rfl, trivial⟩ rfl ⟨rfl, trivial⟩ rfl rfl ?_
  refine g_run Tk Tryz.func26 ?_
  first | refine gcT Tk Tryz.func26 rfl ?_ | refine gkT Tk Tryz.func26 rfl ?_ | refine skT Tk ?_
  refine g_idx Tk Tryz.func26 1 (ie := TryzI39) (autD ⟨al', st', mk', es'⟩) rfl rfl rfl rfl rfl Tryz.underlying133 rfl rfl rfl (by decide) rfl rfl ?_
  first | refine g_call Tk Tryz.func26 (h2 _) rfl rfl rfl rfl rfl ?_ | refine s_callq Tk (fun _ => h2 _) rfl rfl rfl ?_
  first | refine g_cnd Tk Tryz.func26 rfl (fun c2 => ?_) (fun c2 => ?_) | refine g_know Tk Tryz.func26 rfl (fun c2 => ?_) (fun c2 => ?_) | refine s_know Tk (fun c2 => ?_) (fun c2 => ?_)
  · have c2 : e2 ≠ 0 := bneT c2
    rw [if_pos c2] at hR
    subst hR
    refine g_ret Tk (r := ii e2) rfl rfl rfl trivial rfl rfl ?_
    rfl
  have c2 : e2 = 0 := bneF c2
  rw [if_neg (fun h => h c2)] at hR
  refine g_loop ?_
  refine g_run Tk Tryz.func26 ?_
  first | refine gcF Tk Tryz.func26 rfl ?_ | refine gkF Tk Tryz.func26 rfl ?_ | refine skF Tk ?_
  first | refine g_call Tk Tryz.func26 (h3 _) rfl rfl rfl rfl rfl ?_ | refine s_callq Tk (fun _ => h3 _) rfl rfl rfl ?_
  first | refine g_cnd Tk Tryz.func26 rfl (fun c3 => ?_) (fun c3 => ?_) | refine g_know Tk Tryz.func26 rfl (fun c3 => ?_) (fun c3 => ?_) | refine s_know Tk (fun c3 => ?_) (fun c3 => ?_)
  · have c3 : ¬ al = al' := of_decide_eq_false (notT c3)
    rw [if_pos c3] at hR
    subst hR
    refine g_ret Tk (r := ii 13) rfl rfl rfl trivial rfl rfl ?_
    rfl
  have c3 : al = al' := of_decide_eq_true (notF c3)
  rw [if_neg (fun h => h c3)] at hR
  clear c3
  refine g_loop ?_
  refine g_run Tk Tryz.func26 ?_
  first | refine gcT Tk Tryz.func26 rfl ?_ | refine gkT Tk Tryz.func26 rfl ?_ | refine skT Tk ?_
  refine g_idx Tk Tryz.func26 0 (ie := TryzI31) (ints ob) rfl rfl rfl rfl rfl Tryz.underlying127 rfl rfl rfl (by decide) rfl rfl ?_
  first | refine g_call Tk Tryz.func26 (h4 _) rfl rfl rfl rfl rfl ?_ | refine s_callq Tk (fun _ => h4 _) rfl rfl rfl ?_
  first | refine g_cnd Tk Tryz.func26 rfl (fun c4 => ?_) (fun c4 => ?_) | refine g_know Tk Tryz.func26 rfl (fun c4 => ?_) (fun c4 => ?_) | refine s_know Tk (fun c4 => ?_) (fun c4 => ?_)
  · have c4 : e4 ≠ 0 := bneT c4
    rw [if_pos c4] at hR
    subst hR
    refine g_ret Tk (r := ii e4) rfl rfl rfl trivial rfl rfl ?_
    rfl
  have c4 : e4 = 0 := bneF c4
  rw [if_neg (fun h => h c4)] at hR
  first | refine g_call Tk Tryz.func26 (h6 _) rfl rfl rfl rfl rfl ?_ | refine s_callq Tk (fun _ => h6 _) rfl rfl rfl ?_
  first | refine g_cnd Tk Tryz.func26 rfl (fun c5 => ?_) (fun c5 => ?_) | refine g_know Tk Tryz.func26 rfl (fun c5 => ?_) (fun c5 => ?_) | refine s_know Tk (fun c5 => ?_) (fun c5 => ?_)
  · have c5 : ¬ e6 = 0 := of_decide_eq_false (notT c5)
    rw [if_pos c5] at hR
    subst hR
    refine g_ret Tk (r := ii 9) rfl rfl rfl trivial rfl rfl ?_
    rfl
  have c5 : e6 = 0 := of_decide_eq_true (notF c5)
  rw [if_neg (fun h => h c5)] at hR
  refine g_loop ?_
  refine g_run Tk Tryz.func26 ?_
  first | refine gcT Tk Tryz.func26 rfl ?_ | refine gkT Tk Tryz.func26 rfl ?_ | refine skT Tk ?_
  refine g_idx Tk Tryz.func26 1 (ie := TryzI31) (ints ct) rfl rfl rfl rfl rfl Tryz.underlying127 rfl rfl rfl (by decide) rfl rfl ?_
  first | refine g_call Tk Tryz.func26 (h5 _) rfl rfl rfl rfl rfl ?_ | refine s_callq Tk (fun _ => h5 _) rfl rfl rfl ?_
  first | refine g_cnd Tk Tryz.func26 rfl (fun c6 => ?_) (fun c6 => ?_) | refine g_know Tk Tryz.func26 rfl (fun c6 => ?_) (fun c6 => ?_) | refine s_know Tk (fun c6 => ?_) (fun c6 => ?_)
  · have c6 : e5 ≠ 0 := bneT c6
    rw [if_pos c6] at hR
    subst hR
    refine g_ret Tk (r := ii e5) rfl rfl rfl trivial rfl rfl ?_
    rfl
  have c6 : e5 = 0 := bneF c6
  rw [if_neg (fun h => h c6)] at hR
  first | refine g_call Tk Tryz.func26 (h7 _) rfl rfl rfl rfl rfl ?_ | refine s_callq Tk (fun _ => h7 _) rfl rfl rfl ?_
  first | refine g_cnd Tk Tryz.func26 rfl (fun c7 => ?_) (fun c7 => ?_) | refine g_know Tk Tryz.func26 rfl (fun c7 => ?_) (fun c7 => ?_) | refine s_know Tk (fun c7 => ?_) (fun c7 => ?_)
  · have c7 : ¬ e7 = 0 := of_decide_eq_false (notT c7)
    rw [if_pos c7] at hR
    subst hR
    refine g_ret Tk (r := ii 9) rfl rfl rfl trivial rfl rfl ?_
    rfl
  have c7 : e7 = 0 := of_decide_eq_true (notF c7)
  rw [if_neg (fun h => h c7)] at hR
  subst hR
  refine g_loop ?_
  refine g_run Tk Tryz.func26 ?_
  first | refine gcF Tk Tryz.func26 rfl ?_ | refine gkF Tk Tryz.func26 rfl ?_ | refine skF Tk ?_
  refine g_ret Tk (r := ii 0) rfl rfl rfl trivial rfl rfl ?_
  rfl
abbrev prI (z : Int × Int) : List I := [vi z.1, vi z.2]
abbrev prsI (l : List (Int × Int)) : I := .sl 2 l.length (l.map prI)
abbrev oprs2 (l : List (Int × Int)) : Ob := .arr 48 2 l.length (l.map prI) true
theorem oprs2_app (l : List (Int × Int)) (z : Int × Int) : Ob.arr 48 2 (l.length + 1) (l.map prI ++ [prI z]) true = oprs2 (l ++ [z]) := by simp
theorem two_mem {x : Sys} {Q : Aut → Prop} (h1 : Q x.p) (h2 : Q x.s) : ∀ a ∈ [x.p, x.s], Q a := by
  intro a ha
  rcases List.mem_cons.1 ha with rfl | ha
  · exact h1
  · rw [List.mem_singleton] at ha; subst ha; exact h2
set_option maxHeartbeats 4000000 in
theorem loop16e {g : Nat} {ty : TypeId} {fr : Nat × Nat} (O : List Heap) (x : Sys) (h : smallS x) (he : chkSys x ≠ 0) : ASpecT g (ptab ty fr) Tryz.prog 16 [sysD x] O (.tup [zAutD, .i (.v (.slice none 0 0)), ii (chkSys x)]) [] O := by
  have h1 := fun O => check26 O x h
  generalize chkSys x = e at *
  clear h
  obtain ⟨⟨al, st, mk, es⟩, ⟨al', st', mk', es'⟩, ob, ct⟩ := x
  refine aspecT_stop [] Tk Tryz.func16 rfl Tryz.call16 Tryz.ntmps16 (Nat.le_of_ble_eq_true rfl) fun E hE => ?_
  refine g_run Tk Tryz.func16 ?_
  first | refine g_call Tk Tryz.func16 (h1 _) rfl rfl rfl rfl rfl ?_ | refine s_callq Tk (fun _ => h1 _) rfl rfl rfl ?_
  first | refine g_cnd Tk Tryz.func16 rfl (fun _ => ?_) (fun h => absurd h (by simpa using he)) | refine g_know Tk Tryz.func16 rfl (fun _ => ?_) (fun h => absurd h (by simpa using he)) | refine s_know Tk (fun _ => ?_) (fun h => absurd h (by simpa using he))
  refine g_ret Tk (r := .tup [zAutD, .i (.v (.slice none 0 0)), ii e]) rfl rfl rfl trivial rfl rfl ?_
  rfl
set_option maxHeartbeats 4000000 in
theorem loop16 {g : Nat} (hg : IsTab g) {ty : TypeId} {fr : Nat × Nat} (O : List Heap) (x : Sys) (h : smallS x) (hx : gSys x) (h64 : x.p.states ≤ 64 ∧ x.s.states ≤ 64) (hV : (lpV x).length ≤ 4095) : ASpecT g (ptab ty fr) Tryz.prog 16 [sysD x] O (.tup [autD (lpR x).1, .i (prsI (lpR x).2), ii 0]) [] O := by
  have h1 := fun O => check26 O x h
  rw [chkSys_of hx] at h1
  have hc := two_mem (Q := fun a => chkA a = 0) hx.p hx.s
  have hs := two_mem (Q := smallA) h.p h.s
  by_cases h0 : 0 < x.p.states ∧ 0 < x.s.states
  · obtain ⟨V, hV1, hU⟩ := lp_some hx h0 (by omega)
    have hpr := lp_prod hx h0 (by omega) hV1
    have h2 := fun O => sync32 hg (ty := ty) (fr := fr) O [x.p, x.s] (by simp) (by simp) hc hs (two_mem (Q := fun a => 0 < a.states) h0.1 h0.2) (two_mem (Q := fun a => a.states ≤ 64) h64.1 h64.2) (by rw [tupsV_two]; exact hV) _ hpr
    rw [evL_two hx] at h2
    have hlp : lpR x = (unfA x.p.alpha V, V.sts) := by unfold lpR; rw [if_pos h0, hV1]
    have hlen : V.sts.length ≤ 4095 := Nat.le_trans (nodup_sub hU.nd fun s hs => mem_lpV (hU.ok s hs)) hV
    rw [hlp]
    have e1 : unfA x.p.alpha (V.map tupP) = unfA x.p.alpha V := by unfold unfA Unf.map; simp
    rw [e1] at h2
    have e2 : (V.map tupP).sts = V.sts.map tupP := rfl
    rw [e2] at h2
    obtain ⟨⟨sal, sst, smk, ses⟩, hS⟩ : ∃ a, a = unfA x.p.alpha V := ⟨_, rfl⟩
    rw [← hS] at h2 ⊢
    generalize V.sts = sts at *
    clear hS hlp hV1 hU hpr h0 hc hs h hx h64 hV e1 e2
    obtain ⟨⟨al, st, mk, es⟩, ⟨al', st', mk', es'⟩, ob, ct⟩ := x
    refine aspecT_stop [200033, 10] Tk Tryz.func16 rfl Tryz.call16 Tryz.ntmps16 (Nat.le_of_ble_eq_true rfl) fun E hE => ?_
    refine g_run Tk Tryz.func16 ?_
    first | refine g_call Tk Tryz.func16 (h1 _) rfl rfl rfl rfl rfl ?_ | refine s_callq Tk (fun _ => h1 _) rfl rfl rfl ?_
    repeat (first | refine gcT Tk Tryz.func16 rfl ?_ | refine gkT Tk Tryz.func16 rfl ?_ | refine skT Tk ?_ | refine gcF Tk Tryz.func16 rfl ?_ | refine gkF Tk Tryz.func16 rfl ?_ | refine skF Tk ?_)
    refine g_callT Tk Tryz.func16 hE (h2 _) rfl rfl rfl rfl rfl rfl ?_
    refine g_loop ?_
    refine rch_wk (wk_nil 3 36 48 2 rfl rfl rfl) ?_
    refine rch_loop2 (fun j : Nat => [(2, .own 0 2 0 0), (3, .osl 0 36), (4, ii 0), (25, .i (rowsS (sts.map tupP))), (26, ii (sts.map tupP).length), (27, ii j)])
      (fun j => [(2, .box [ints sal, ii sst, ints smk, edgs ses]), (36, oprs2 (sts.take j))]) (fun _ => O) 41
      (fun j => j ≤ sts.length) (fun j => sts.length - j) 0 (Nat.zero_le _) ⟨rfl, rfl, rfl, rfl, rfl, rfl, trivial⟩ rfl ⟨rfl, rfl, trivial⟩ rfl rfl ?_
    rintro j hj ih
    refine g_run Tk Tryz.func16 ?_
    first | refine g_cnd Tk Tryz.func16 rfl (fun g1 => ?_) (fun g1 => ?_) | refine g_know Tk Tryz.func16 rfl (fun g1 => ?_) (fun g1 => ?_) | refine s_know Tk (fun g1 => ?_) (fun g1 => ?_)
    · have h3 : j < sts.length := by simpa using g1
      have gs : ((sts.map tupP).map fun r => [intsI r])[(j : Int).toNat]? = some [intsI (tupP sts[j])] := by
        rw [List.map_map, Int.toNat_natCast, List.getElem?_map, List.getElem?_eq_getElem h3]; rfl
      have htk : sts.take (j + 1) = sts.take j ++ [sts[j]] := List.take_succ_eq_append_getElem h3
      have hl : (sts.take j).length = j := by rw [List.length_take]; omega
      generalize sts[j] = z at *
      obtain ⟨z1, z2⟩ := z
      first | refine g_need Tk Tryz.func16 (by exact ⟨by omega, by show (j : Int) < ((sts.map tupP).length : Int); rw [List.length_map]; omega⟩) ?_ | refine s_need Tk (by exact ⟨by omega, by show (j : Int) < ((sts.map tupP).length : Int); rw [List.length_map]; omega⟩) ?_
      first | refine g_elem Tk Tryz.func16 (gs) ?_ | refine s_elem Tk (gs) ?_
      refine g_arr2 Tk Tryz.func16 (c0 := vi z1) (c1 := vi z2) rfl rfl rfl rfl rfl Tryz.underlying48 rfl rfl ?_
      first | refine g_elem Tk Tryz.func16 (rfl) ?_ | refine s_elem Tk (rfl) ?_
      first | refine g_need Tk Tryz.func16 (by exact ⟨by show ((sts.take j).length + 1) * 16 ≤ 140737488355328; omega, by show (sts.take j).length + 1 ≤ 9223372036854775807; omega⟩) ?_ | refine s_need Tk (by exact ⟨by show ((sts.take j).length + 1) * 16 ≤ 140737488355328; omega, by show (sts.take j).length + 1 ≤ 9223372036854775807; omega⟩) ?_
      refine g_loop ?_
      refine ih (j + 1) _ _ h3 (by omega) ⟨rfl, rfl, rfl, rfl, rfl, congrArg ii (wsucc (n := 4096) (by omega) (by decide)), trivial⟩ rfl ⟨rfl, ?_, trivial⟩ rfl rfl
      rw [htk]
      exact congrArg some (oprs2_app (sts.take j) (z1, z2))
    · have h3 : sts.length ≤ j := by simpa using g1
      rw [List.take_of_length_le h3]
      refine g_stop ?_
      refine rch_wk (wk_freeze 36 rfl rfl) ?_
      refine g_run Tk Tryz.func16 ?_
      refine g_go Tk Tryz.func16 ?_
      refine g_ret Tk (r := .tup [autD ⟨sal, sst, smk, ses⟩, .i (prsI sts), ii 0]) rfl rfl rfl trivial rfl rfl ?_
      rfl
  · have h0' : ¬ ∀ a ∈ [x.p, x.s], a.states ≠ 0 := fun h => h0 (by
      have h1 := h x.p (by simp)
      have h2 := h x.s (by simp)
      have := (chk_parts hx.p).2.1
      have := (chk_parts hx.s).2.1
      omega)
    have h2 := fun O => sync32n hg (ty := ty) (fr := fr) O [x.p, x.s] (by simp) hc hs h0'
    rw [evL_two hx] at h2
    have hlp : lpR x = (⟨x.p.alpha, 0, [], []⟩, []) := by unfold lpR; rw [if_neg h0]
    rw [hlp]
    clear hlp h0' h0 hc hs h hx h64 hV
    obtain ⟨⟨al, st, mk, es⟩, ⟨al', st', mk', es'⟩, ob, ct⟩ := x
    refine aspecT_stop [] Tk Tryz.func16 rfl Tryz.call16 Tryz.ntmps16 (Nat.le_of_ble_eq_true rfl) fun E hE => ?_
    refine g_run Tk Tryz.func16 ?_
    first | refine g_call Tk Tryz.func16 (h1 _) rfl rfl rfl rfl rfl ?_ | refine s_callq Tk (fun _ => h1 _) rfl rfl rfl ?_
    repeat (first | refine gcT Tk Tryz.func16 rfl ?_ | refine gkT Tk Tryz.func16 rfl ?_ | refine skT Tk ?_ | refine gcF Tk Tryz.func16 rfl ?_ | refine gkF Tk Tryz.func16 rfl ?_ | refine skF Tk ?_)
    refine g_callT Tk Tryz.func16 hE (h2 _) rfl rfl rfl rfl rfl rfl ?_
    refine g_loop ?_
    refine g_run Tk Tryz.func16 ?_
    first | refine gcF Tk Tryz.func16 rfl ?_ | refine gkF Tk Tryz.func16 rfl ?_ | refine skF Tk ?_
    refine g_ret_co Tk (r := .tup [autD ⟨al, 0, [], []⟩, .i (.v (.slice none 0 0)), ii 0]) rfl rfl rfl trivial rfl rfl ?_
    repeat' (first | refine coD_tup ?_ | refine coD_agg ?_ | refine coD_i ?_ | refine CoDL.cons ?_ ?_ | exact CoDL.nil | exact coI_nil | refine coI_sl ?_ | refine CoLL.cons ?_ ?_ | exact CoLL.nil | refine CoL.cons ?_ ?_ | exact CoL.nil | exact CoI.refl _ | exact CoL.refl _ | exact CoLL.refl _ | exact CoDL.refl _ | exact CoD.refl _)
end Go.AI


namespace Go.AI
theorem empty_g {al : List Int} (h : checkSet 32 al none = 0) : gAut ⟨al, 0, [], []⟩ 0 := by
  have hl := checkSet_len (by decide) h
  exact ⟨rfl, ⟨by simp, by show al.length ≤ 1000000; omega, by simp⟩, chkA_of h ⟨Int.le_refl 0, by show (0 : Int) ≤ 4096; decide⟩ rfl rfl⟩
theorem lp_g {x : Sys} (hx : gSys x) (hV : (lpV x).length ≤ 4095) : gAut (lpR x).1 (lpR x).2.length ∧ (lpR x).1.alpha = x.p.alpha := by
  have hal := (chk_parts hx.p).1
  unfold lpR
  by_cases h0 : 0 < x.p.states ∧ 0 < x.s.states
  · obtain ⟨V, hV1, hU⟩ := lp_some hx h0 (by omega)
    rw [if_pos h0, hV1]
    have hlen : V.sts.length ≤ 4095 := Nat.le_trans (nodup_sub hU.nd fun s hs => mem_lpV (hU.ok s hs)) hV
    exact ⟨uat_g hU hal (by omega), rfl⟩
  · rw [if_neg h0]
    exact ⟨empty_g hal, rfl⟩
def esR (x : Sys) : Aut × List (List Int) := if (lpR x).2.length = 0 then (⟨keptR (lpR x).1 x.ob, 0, [], []⟩, []) else match prjR (lpR x).1 x.ob (lpR x).2.length with
  | .ok V => (unfA (keptR (lpR x).1 x.ob) V, V.sts)
  | .error _ => (⟨keptR (lpR x).1 x.ob, 0, [], []⟩, [])
theorem kept_chk {a : Aut} {n : Nat} (h : gAut a n) (on : List Int) : checkSet 32 (keptR a on) none = 0 := by
  have hc := checkSet_sorted (chk_parts h.c).1
  exact checkSet_of (hc.1.filter _) (fun x hx => hc.2.1 x (List.mem_filter.1 hx).1) (by simp)
theorem kept_eq {x : Sys} (hx : gSys x) (hV : (lpV x).length ≤ 4095) : keptR (lpR x).1 x.ob = x.ob := by
  have hal := (lp_g hx hV).2
  have h1 := (checkSet_sorted (chk_parts hx.p).1).1
  have h2 := (checkSet_sorted hx.ob).1
  unfold keptR
  rw [hal]
  refine sorted_ext (h1.filter _) h2 fun e => ?_
  simp only [List.mem_filter, decide_eq_true_eq]
  exact ⟨fun h => h.2, fun h => ⟨hx.obs e h, h⟩⟩
theorem es_g {x : Sys} (hx : gSys x) (hV : (lpV x).length ≤ 4095) (hn : (lpR x).2.length ≤ 12) : gAut (esR x).1 (esR x).2.length ∧ (esR x).1.alpha = x.ob ∧ (∀ s ∈ (esR x).2, estP (lpR x).2.length s) := by
  have hg := (lp_g hx hV).1
  have hk := kept_chk hg x.ob
  have he := kept_eq hx hV
  unfold esR
  by_cases h0 : (lpR x).2.length = 0
  · rw [if_pos h0]
    exact ⟨empty_g hk, he, by simp⟩
  · rw [if_neg h0]
    obtain ⟨V, hV1, hU⟩ := prj_some3 hg x.ob hn (by omega)
    rw [hV1]
    exact ⟨uat_g hU hk (subs_few hn hU.ok hU.nd), he, hU.ok⟩
end Go.AI
