/- The layer of abstract runs, part 43. -/
import Derived.Test.YtonnakcgopcfnaaDoorFernZP
import Derived.KernelRfl
set_option linter.unusedSimpArgs false
set_option linter.unusedVariables false
set_option linter.all false

/- flatten.unfold for states of an extended automaton. -/
namespace Go.AI
open Go.Proofs
set_option maxRecDepth 20000
abbrev oedgs (l : List Edg) : Ob := .arr 124 3 l.length (l.map edgI) true
theorem oedgs_app (l : List Edg) (e : Edg) : Ob.arr 124 3 (l.length + 1) (l.map edgI ++ [edgI e]) true = oedgs (l ++ [e]) := by simp
theorem ostas_app2 (l : List Sta) (s : Sta) : Ob.arr 111 2 (l.length + 1) (l.map staI ++ [staI s]) true = ostas (l ++ [s]) := by simp
abbrev keq (a b : Sta) : Bool := fkey a == fkey b
/-- What unfold returns: the error or the states. -/
def unfX (m : Ext) (alpha : List Int) (first : Sta) : Except Int (Unf Sta) := unfR keq true (stpR m) (fun s => decide (s.loc ∈ m.marked)) alpha first
def kidx : List Sta → Nat → List (Value × Int)
  | [], _ => []
  | s :: r, i => (.string (fkey s), (i : Int)) :: kidx r (i + 1)
theorem kidx_look (b : ByteArray) : ∀ (l : List Sta) (i : Nat), mlook (kidx l i) (.string b) = if l.findIdx (fun t => b == fkey t) < l.length then some (((i + l.findIdx fun t => b == fkey t : Nat) : Int)) else none
  | [], i => by simp [kidx, mlook]
  | s :: r, i => by
    simp only [kidx, mlook, keyB, List.findIdx_cons]
    cases h : b == fkey s with
    | true => simp
    | false =>
      simp only [cond_false]
      rw [kidx_look b r (i + 1)]
      have e : i + 1 + r.findIdx (fun t => b == fkey t) = i + (r.findIdx (fun t => b == fkey t) + 1) := by omega
      simp only [e, List.length_cons, Nat.add_lt_add_iff_right]
theorem kidx_set {s : Sta} : ∀ (l : List Sta) (i : Nat), ¬ l.findIdx (keq s) < l.length → mset (kidx l i) (.string (fkey s)) ((i + l.length : Nat) : Int) = kidx (l ++ [s]) i
  | [], i, _ => by simp [kidx, mset]
  | t :: r, i, h => by
    rw [List.findIdx_cons] at h
    cases hk : keq s t with
    | true => rw [hk] at h; simp at h
    | false =>
      rw [hk] at h
      simp only [cond_false, List.length_cons, Nat.add_lt_add_iff_right] at h
      have hk' : (fkey s == fkey t) = false := hk
      simp only [List.cons_append, kidx, mset, keyB, hk', cond_false]
      have e : i + (t :: r).length = (i + 1) + r.length := by simp only [List.length_cons]; omega
      rw [e, kidx_set r (i + 1) h]
theorem stp_okS {m : Ext} {s : Sta} {ev : Int} (hr : extRight m) (h : okS m s) (hp : (stpR m s ev).2.1 = true) : okS m (stpR m s ev).1 := by
  unfold stpR at hp ⊢
  split at hp
  · cases hp
  rename_i h1
  rw [if_neg h1]
  split at hp
  · cases hp
  rename_i h2
  rw [if_neg h2]
  exact step_ok hr h hp
theorem okS_key {m : Ext} {s : Sta} (hr : extRight m) (h : okS m s) : keyOk s := by
  have := okS_bounds hr h
  exact ⟨this.1, by omega, this.2.1⟩
theorem uloop_done {σ : Type} {eq : σ → σ → Bool} {lim : Bool} {step : σ → Int → σ × Bool × Int} {mkd : σ → Bool} {alpha : List Int} {U : Unf σ} {i : Nat} (h : U.sts.length ≤ i) : ∀ k, uloop eq lim step mkd alpha k i U = .ok U
  | 0 => rfl
  | k + 1 => by simp only [uloop, List.getElem?_eq_none h]
/-- What the loops know. -/
structure UGood (m : Ext) (U : Unf Sta) : Prop where
  len : U.sts.length ≤ 4096
  ok : ∀ s ∈ U.sts, okS m s
abbrev fnS (d nm : Nat) : D := .fn (.func 107) [] [.own d nm 0 0]
abbrev fnM (d nm : Nat) : D := .fn (.func 109) [] [.own d nm 0 0]
def unfD (alpha : List Int) : Except Int (Unf Sta) → D
  | .error e => .tup [autD ⟨[], 0, [], []⟩, stasD [], ii e]
  | .ok U => .tup [autD ⟨alpha, U.sts.length, U.mkl, U.eds⟩, stasD U.sts, ii 0]
theorem coErr {e : Int} : CoD (.tup [.agg [.i (.v (.slice none 0 0)), ii 0, .i (.v (.slice none 0 0)), .i (.v (.slice none 0 0))], .i (.v (.slice none 0 0)), ii e]) (unfD [] (.error e)) :=
  coD_tup (.cons (coD_agg (.cons (coD_i coI_nil) (.cons (CoD.refl _) (.cons (coD_i coI_nil) (.cons (coD_i coI_nil) .nil))))) (.cons (coD_i coI_nil) (CoDL.refl _)))
set_option maxHeartbeats 4000000 in
theorem unfold111 {g : Nat} (hg : IsTab g) {ty : TypeId} {fr : Nat × Nat} (O : List Heap) (m : Ext) (alpha : List Int) (first : Sta) (d nm : Nat) (ho : objAt O d nm = some (.box (extC m))) (hok : extOk m) (hr : extRight m) (ha : alpha.length ≤ 4096) (hf : okS m first) :
    ASpecT g (ptab ty fr) Tryd.prog 111 [ints alpha, staD first, .fn (.func 105) [] [], fnS d nm, fnM d nm] O (unfD alpha (unfX m alpha first)) [] O := by
  have hO : ∀ H, objAt (H :: O) (d + 1) nm = some (.box (extC m)) := fun H => up_obj ho
  have hno : unfX m alpha first = uloop keq true (stpR m) (fun s => decide (s.loc ∈ m.marked)) alpha (4097 - 0) 0 (unf0 first) := rfl
  generalize unfX m alpha first = R at *
  have hkf := okS_key hr hf
  refine aspecT_stop [9, 23] Tk Tryd.func111 rfl Tryd.call111 Tryd.ntmps111 (Nat.le_of_ble_eq_true rfl) fun E hE => ?_
  refine g_run Tk Tryd.func111 ?_
  refine g_callT Tk Tryd.func111 hE (keyName105 hg _ first hkf) rfl rfl rfl rfl rfl rfl ?_
  refine g_loop ?_
  refine rch_wk (wk_ren 25 95 rfl rfl rfl) ?_
  refine rch_wk (wk_nilbox2 10 47 3 1 (pre := [ints alpha, ii 0]) (post := [.i (.v (.slice none 0 0))]) rfl rfl rfl) ?_
  refine rch_wk (wk_nilbox2 10 103 124 3 (pre := [ints alpha, ii 0, .osl 0 47]) (post := []) rfl rfl rfl) ?_
  refine rch_loop2 (fun x : Nat × Unf Sta => [(0, ints alpha), (2, .fn (.func 105) [] []), (3, fnS (d + 1) nm), (4, fnM (d + 1) nm), (10, .own 0 10 0 0), (11, .osl 0 95), (13, .osl 0 26), (14, ii x.1)])
    (fun x => [(10, .box [ints alpha, ii 0, .osl 0 47, .osl 0 103]), (95, ostas x.2.sts), (47, oints x.2.mkl), (103, oedgs x.2.eds), (26, .mp .str (.i .i64 (kidx x.2.sts 0)))]) (fun _ => O) 111
    (fun x => x.1 ≤ x.2.sts.length ∧ UGood m x.2 ∧ x.2.mkl.length ≤ x.1 ∧ x.2.eds.length ≤ 4096 * x.1 ∧ R = uloop keq true (stpR m) (fun s => decide (s.loc ∈ m.marked)) alpha (4097 - x.1) x.1 x.2) (fun x => 4097 - x.1) (0, unf0 first)
    ⟨Nat.zero_le _, ⟨by simp [unf0], fun s hs => by rw [unf0, List.mem_singleton] at hs; subst hs; exact hf⟩, Nat.le_refl _, Nat.le_refl _, hno⟩ ⟨rfl, rfl, rfl, rfl, rfl, rfl, rfl, rfl, trivial⟩ rfl ⟨rfl, rfl, rfl, rfl, rfl, trivial⟩ rfl rfl ?_
  clear hno
  rintro ⟨i, U⟩ ⟨hi, hgd, hml, hel, hno⟩ ih
  simp only at hi hgd hml hel hno
  refine g_run Tk Tryd.func111 ?_
  first | refine g_cnd Tk Tryd.func111 rfl (fun g1 => ?_) (fun g1 => ?_) | refine g_know Tk Tryd.func111 rfl (fun g1 => ?_) (fun g1 => ?_) | refine s_know Tk (fun g1 => ?_) (fun g1 => ?_)
  · have h1 : i < U.sts.length := by simpa using g1
    clear g1
    have hle := hgd.len
    have hsi : U.sts[i]? = some U.sts[i] := List.getElem?_eq_getElem h1
    have gs : (U.sts.map staI)[(i : Int).toNat]? = some (staI U.sts[i]) := get_mapZ h1
    have hoks := hgd.ok _ (List.getElem_mem h1)
    generalize U.sts[i] = s at *
    have hno : R = match uvisits keq true (stpR m) i s alpha (umark (fun s => decide (s.loc ∈ m.marked)) i s U) with
        | .error e => .error e
        | .ok U' => uloop keq true (stpR m) (fun s => decide (s.loc ∈ m.marked)) alpha (4097 - (i + 1)) (i + 1) U' := by
      rw [hno, show 4097 - i = (4097 - (i + 1)) + 1 by omega]
      simp only [uloop, hsi]
      cases uvisits keq true (stpR m) i s alpha (umark (fun s => decide (s.loc ∈ m.marked)) i s U) <;> rfl
    have hmk := fun H => keyMark109 (H :: O) m s (d + 1) nm (hO H) hok
    obtain ⟨m1, m2⟩ := umark_sts (fun s : Sta => decide (s.loc ∈ m.marked)) i s U
    have hm3 : (umark (fun s : Sta => decide (s.loc ∈ m.marked)) i s U).mkl = if s.loc ∈ m.marked then U.mkl ++ [(i : Int)] else U.mkl := by
      unfold umark
      by_cases h : s.loc ∈ m.marked <;> simp [h]
    generalize umark (fun s : Sta => decide (s.loc ∈ m.marked)) i s U = U1 at *
    obtain ⟨sts, mkl, eds⟩ := U
    obtain ⟨sts1, mkl1, eds1⟩ := U1
    simp only at *
    subst m1 m2
    obtain ⟨sl, sv⟩ := s
    simp only at *
    first | refine g_need Tk Tryd.func111 (by exact ⟨by omega, by show (i : Int) < (sts1.length : Int); omega⟩) ?_ | refine s_need Tk (by exact ⟨by omega, by show (i : Int) < (sts1.length : Int); omega⟩) ?_
    first | refine g_elem Tk Tryd.func111 (gs) ?_ | refine s_elem Tk (gs) ?_
    first | refine g_call Tk Tryd.func111 (hmk _) rfl rfl rfl rfl rfl ?_ | refine s_callq Tk (fun _ => hmk _) rfl rfl rfl ?_
    apply join_p (P := True) (s6 := { σ := [(0, ints alpha), (2, .fn (.func 105) [] []), (3, fnS (d + 1) nm), (4, fnM (d + 1) nm), (10, .own 0 10 0 0), (11, .osl 0 95), (13, .osl 0 26), (14, ii i)], S := [(10, .box [ints alpha, ii 0, .osl 0 47, .osl 0 103]), (95, ostas sts1), (47, oints mkl1), (103, oedgs eds1), (26, .mp .str (.i .i64 (kidx sts1 0)))] :: O, n := 111 })
    · intro J
      first | refine g_cnd Tk Tryd.func111 rfl (fun c1 => ?_) (fun c1 => ?_) | refine g_know Tk Tryd.func111 rfl (fun c1 => ?_) (fun c1 => ?_) | refine s_know Tk (fun c1 => ?_) (fun c1 => ?_)
      · have c1 : sl ∈ m.marked := of_decide_eq_true c1
        rw [if_pos c1] at hm3
        subst hm3
        first | refine g_need Tk Tryd.func111 (by exact ⟨by show (mkl.length + 1) * 8 ≤ 140737488355328; omega, by show mkl.length + 1 ≤ 9223372036854775807; omega⟩) ?_ | refine s_need Tk (by exact ⟨by show (mkl.length + 1) * 8 ≤ 140737488355328; omega, by show mkl.length + 1 ≤ 9223372036854775807; omega⟩) ?_
        refine g_stop ?_
        refine rch_meet (J trivial) ⟨rfl, rfl, rfl, rfl, rfl, rfl, rfl, rfl, trivial⟩ rfl ⟨rfl, rfl, congrArg some (oints_app mkl (i : Int)), rfl, rfl, trivial⟩ rfl rfl
      · have c1 : sl ∉ m.marked := of_decide_eq_false c1
        rw [if_neg c1] at hm3
        subst hm3
        refine g_stop ?_
        refine rch_meet (J trivial) ⟨rfl, rfl, rfl, rfl, rfl, rfl, rfl, rfl, trivial⟩ rfl ⟨rfl, rfl, rfl, rfl, rfl, trivial⟩ rfl rfl
    intro _
    have hml1 : mkl1.length ≤ i + 1 := by rw [hm3]; split; (rw [List.length_append, List.length_singleton]; omega); omega
    clear hm3 hml hmk gs
    have hV0 : uvisits keq true (stpR m) i ⟨sl, sv⟩ alpha ⟨sts1, mkl1, eds1⟩ = uvisits keq true (stpR m) i ⟨sl, sv⟩ (alpha.drop 0) ⟨sts1, mkl1, eds1⟩ := rfl
    generalize uvisits keq true (stpR m) i ⟨sl, sv⟩ alpha ⟨sts1, mkl1, eds1⟩ = V at *
    refine g_run Tk Tryd.func111 ?_
    refine g_go Tk Tryd.func111 ?_
    refine g_loop ?_
    refine rch_loop2 (fun x : Nat × Unf Sta => [(0, ints alpha), (2, .fn (.func 105) [] []), (3, fnS (d + 1) nm), (4, fnM (d + 1) nm), (10, .own 0 10 0 0), (11, .osl 0 95), (13, .osl 0 26), (14, ii i), (49, ints alpha), (50, ii alpha.length), (51, ii x.1)])
      (fun x => [(10, .box [ints alpha, ii 0, .osl 0 47, .osl 0 103]), (95, ostas x.2.sts), (47, oints x.2.mkl), (103, oedgs x.2.eds), (26, .mp .str (.i .i64 (kidx x.2.sts 0)))]) (fun _ => O) 111
      (fun x => x.1 ≤ alpha.length ∧ UGood m x.2 ∧ i < x.2.sts.length ∧ x.2.mkl.length ≤ i + 1 ∧ x.2.eds.length ≤ 4096 * i + x.1 ∧ x.2.sts[i]? = some ⟨sl, sv⟩ ∧ V = uvisits keq true (stpR m) i ⟨sl, sv⟩ (alpha.drop x.1) x.2) (fun x => alpha.length - x.1) (0, ⟨sts1, mkl1, eds1⟩)
      ⟨Nat.zero_le _, ⟨hgd.len, hgd.ok⟩, h1, hml1, hel, hsi, hV0⟩ ⟨rfl, rfl, rfl, rfl, rfl, rfl, rfl, rfl, rfl, rfl, rfl, trivial⟩ rfl ⟨rfl, rfl, rfl, rfl, rfl, trivial⟩ rfl rfl ?_
    clear hV0 hsi hml1 hel hgd hle
    rintro ⟨j, ⟨sts, mk, eds⟩⟩ ⟨hj, hgd, hil, hml, hel, hsi, hV⟩ ih2
    simp only at hj hgd hil hml hel hsi hV
    have hle : sts.length ≤ 4096 := hgd.len
    refine g_run Tk Tryd.func111 ?_
    first | refine g_cnd Tk Tryd.func111 rfl (fun g2 => ?_) (fun g2 => ?_) | refine g_know Tk Tryd.func111 rfl (fun g2 => ?_) (fun g2 => ?_) | refine s_know Tk (fun g2 => ?_) (fun g2 => ?_)
    · have h3 : j < alpha.length := by simpa using g2
      clear g2
      have ga : (alpha.map fun x => [vi x])[(j : Int).toNat]? = some [vi alpha[j]] := get_mapZ (f := fun x => [vi x]) h3
      have da : alpha.drop j = alpha[j] :: alpha.drop (j + 1) := List.drop_eq_getElem_cons h3
      rw [da] at hV
      simp only [uvisits] at hV
      clear da
      generalize alpha[j] = ev at *
      have gs : (sts.map staI)[(i : Int).toNat]? = some (staI ⟨sl, sv⟩) := by simp [hsi]
      have hst := fun H => keyStep107 (H :: O) m ⟨sl, sv⟩ ev (d + 1) nm (hO H) hok
      have hokn := @stp_okS m ⟨sl, sv⟩ ev hr hoks
      have hj1 : ii (IntKind.i64.wrap ((j : Int) + 1)) = ii ((j + 1 : Nat) : Int) := congrArg ii (wsucc (n := 4096) (by omega) (by decide))
      unfold uvisit at hV
      generalize stpR m ⟨sl, sv⟩ ev = N at *
      obtain ⟨⟨nl, nv⟩, np, ne⟩ := N
      simp only at hV hst hokn
      first | refine g_need Tk Tryd.func111 (by exact ⟨by omega, by show (j : Int) < (alpha.length : Int); omega⟩) ?_ | refine s_need Tk (by exact ⟨by omega, by show (j : Int) < (alpha.length : Int); omega⟩) ?_
      first | refine g_elem Tk Tryd.func111 (ga) ?_ | refine s_elem Tk (ga) ?_
      first | refine g_need Tk Tryd.func111 (by exact ⟨by omega, by show (i : Int) < (sts.length : Int); omega⟩) ?_ | refine s_need Tk (by exact ⟨by omega, by show (i : Int) < (sts.length : Int); omega⟩) ?_
      first | refine g_elem Tk Tryd.func111 (gs) ?_ | refine s_elem Tk (gs) ?_
      first | refine g_call Tk Tryd.func111 (hst _) rfl rfl rfl rfl rfl ?_ | refine s_callq Tk (fun _ => hst _) rfl rfl rfl ?_
      first | refine g_cnd Tk Tryd.func111 rfl (fun c1 => ?_) (fun c1 => ?_) | refine g_know Tk Tryd.func111 rfl (fun c1 => ?_) (fun c1 => ?_) | refine s_know Tk (fun c1 => ?_) (fun c1 => ?_)
      · have c1 : ne ≠ 0 := bneT c1
        rw [if_pos c1] at hV
        subst hV
        simp only at hno
        subst hno
        refine g_ret_co Tk (r := _) rfl rfl rfl trivial rfl rfl ?_
        exact coErr
      have c1 : ne = 0 := bneF c1
      rw [if_neg (by simpa using c1)] at hV
      first | refine g_cnd Tk Tryd.func111 rfl (fun c2 => ?_) (fun c2 => ?_) | refine g_know Tk Tryd.func111 rfl (fun c2 => ?_) (fun c2 => ?_) | refine s_know Tk (fun c2 => ?_) (fun c2 => ?_)
      · have c2 : np = false := notT c2
        rw [if_pos c2] at hV
        refine g_loop ?_
        exact ih2 (j + 1, ⟨sts, mk, eds⟩) _ _ ⟨h3, hgd, hil, hml, by simp only; omega, hsi, hV⟩ (by simp only; omega) ⟨rfl, rfl, rfl, rfl, rfl, rfl, rfl, rfl, rfl, rfl, hj1, trivial⟩ rfl ⟨rfl, rfl, rfl, rfl, rfl, trivial⟩ rfl rfl
      have c2 : np = true := notF c2
      rw [if_neg (by rw [c2]; simp)] at hV
      have hon := hokn c2
      have hkn := okS_key hr hon
      have hlk := kidx_look (fkey ⟨nl, nv⟩) sts 0
      have hks := @kidx_set ⟨nl, nv⟩ sts 0
      rw [Nat.zero_add] at hks
      rw [Nat.zero_add] at hlk
      have hix : sts.findIdx (keq ⟨nl, nv⟩) ≤ sts.length := findIdx_le
      have hlk : mlook (kidx sts 0) (.string (fkey ⟨nl, nv⟩)) = if sts.findIdx (keq ⟨nl, nv⟩) < sts.length then some ((sts.findIdx (keq ⟨nl, nv⟩) : Nat) : Int) else none := hlk
      generalize sts.findIdx (keq ⟨nl, nv⟩) = t at *
      refine g_callT Tk Tryd.func111 hE (keyName105 hg _ ⟨nl, nv⟩ hkn) rfl rfl rfl rfl rfl rfl ?_
      generalize hst2 : (if t < sts.length then sts else sts ++ [(⟨nl, nv⟩ : Sta)]) = sts2
      apply join_p (P := t < sts.length ∨ sts.length ≠ 4096) (s6 := { σ := [(0, ints alpha), (2, .fn (.func 105) [] []), (3, fnS (d + 1) nm), (4, fnM (d + 1) nm), (10, .own 0 10 0 0), (11, .osl 0 95), (13, .osl 0 26), (14, ii i), (16, ii ev), (20, ii t), (49, ints alpha), (50, ii alpha.length), (51, ii j)], S := [(10, .box [ints alpha, ii 0, .osl 0 47, .osl 0 103]), (95, ostas sts2), (47, oints mk), (103, oedgs eds), (26, .mp .str (.i .i64 (kidx sts2 0)))] :: O, n := 111 })
      · intro J
        first | refine g_cnd Tk Tryd.func111 rfl (fun c3 => ?_) (fun c3 => ?_) | refine g_know Tk Tryd.func111 rfl (fun c3 => ?_) (fun c3 => ?_) | refine s_know Tk (fun c3 => ?_) (fun c3 => ?_)
        · have c3 : mhas (kidx sts 0) (.string (fkey ⟨nl, nv⟩)) = false := notT c3
          have hlt : ¬ t < sts.length := fun h => by
            unfold mhas at c3
            rw [hlk, if_pos h] at c3
            cases c3
          have hte : t = sts.length := by omega
          rw [if_neg hlt] at hst2 hV
          have hks := hks hlt
          first | refine g_cnd Tk Tryd.func111 rfl (fun c4 => ?_) (fun c4 => ?_) | refine g_know Tk Tryd.func111 rfl (fun c4 => ?_) (fun c4 => ?_) | refine s_know Tk (fun c4 => ?_) (fun c4 => ?_)
          · have c4 : ((sts.length : Nat) : Int) = 4096 := beqT c4
            have c4 : sts.length = 4096 := by omega
            rw [if_pos ⟨trivial, c4⟩] at hV
            subst hV
            simp only at hno
            subst hno
            refine g_ret_co Tk (r := _) rfl rfl rfl trivial rfl rfl ?_
            exact coErr
          have c4 : ((sts.length : Nat) : Int) ≠ 4096 := beqF c4
          have c4 : sts.length ≠ 4096 := by omega
          refine g_callT Tk Tryd.func111 hE (keyName105 hg _ ⟨nl, nv⟩ hkn) rfl rfl rfl rfl rfl rfl ?_
          first | refine g_need Tk Tryd.func111 (by exact ⟨by show (sts.length + 1) * 32 ≤ 140737488355328; omega, by show sts.length + 1 ≤ 9223372036854775807; omega⟩) ?_ | refine s_need Tk (by exact ⟨by show (sts.length + 1) * 32 ≤ 140737488355328; omega, by show sts.length + 1 ≤ 9223372036854775807; omega⟩) ?_
          subst hst2
          refine g_stop ?_
          refine rch_meet (J (.inr c4)) ⟨rfl, rfl, rfl, rfl, rfl, rfl, rfl, rfl, rfl, by rw [hte]; rfl, rfl, rfl, rfl, trivial⟩ rfl ⟨rfl, congrArg some (ostas_app2 sts (⟨nl, nv⟩ : Sta)), rfl, rfl, congrArg (fun l => some (Ob.mp .str (.i .i64 l))) hks, trivial⟩ rfl rfl
        · have c3 : mhas (kidx sts 0) (.string (fkey ⟨nl, nv⟩)) = true := notF c3
          have hlt : t < sts.length := Classical.byContradiction fun h => by
            unfold mhas at c3
            rw [hlk, if_neg h] at c3
            cases c3
          rw [if_pos hlt] at hst2 hlk
          subst hst2
          refine g_stop ?_
          refine rch_meet (J (.inl hlt)) ⟨rfl, rfl, rfl, rfl, rfl, rfl, rfl, rfl, rfl, by show ii (mgetI (kidx sts 0) (.string (fkey ⟨nl, nv⟩))) = _; unfold mgetI; rw [hlk]; rfl, rfl, rfl, rfl, trivial⟩ rfl ⟨rfl, rfl, rfl, rfl, rfl, trivial⟩ rfl rfl
      · intro hP
        have hV : V = uvisits keq true (stpR m) i ⟨sl, sv⟩ (alpha.drop (j + 1)) ⟨sts2, mk, eds ++ [((i : Int), ev, (t : Int))]⟩ := by
          rw [hV]
          by_cases hlt : t < sts.length
          · rw [if_pos hlt] at hst2 ⊢
            subst hst2
            rfl
          · rw [if_neg hlt] at hst2 ⊢
            rw [if_neg (by rintro ⟨_, h⟩; rcases hP with h' | h'; exact hlt h'; exact h' h)]
            subst hst2
            rfl
        have hg2 : UGood m ⟨sts2, mk, eds ++ [((i : Int), ev, (t : Int))]⟩ := by
          by_cases hlt : t < sts.length
          · rw [if_pos hlt] at hst2
            subst hst2
            exact ⟨hgd.len, hgd.ok⟩
          · rw [if_neg hlt] at hst2
            subst hst2
            refine ⟨?_, fun x hx => ?_⟩
            · show (sts ++ [(⟨nl, nv⟩ : Sta)]).length ≤ 4096
              rw [List.length_append, List.length_singleton]
              rcases hP with h' | h'
              · exact absurd h' hlt
              · omega
            · rcases List.mem_append.1 hx with hx | hx
              · exact hgd.ok x hx
              · rw [List.mem_singleton] at hx
                subst hx
                exact hon
        have hi2 : i < sts2.length ∧ sts2[i]? = some ⟨sl, sv⟩ := by
          by_cases hlt : t < sts.length
          · rw [if_pos hlt] at hst2
            subst hst2
            exact ⟨hil, hsi⟩
          · rw [if_neg hlt] at hst2
            subst hst2
            refine ⟨by rw [List.length_append]; omega, ?_⟩
            rw [List.getElem?_append_left hil]
            exact hsi
        have hi4 : i < 4096 := by omega
        clear hst2 hst hlk hks hgd hil hsi
        refine g_run Tk Tryd.func111 ?_
        refine g_go Tk Tryd.func111 ?_
        first | refine g_need Tk Tryd.func111 (by exact ⟨by show (eds.length + 1) * 24 ≤ 140737488355328; omega, by show eds.length + 1 ≤ 9223372036854775807; omega⟩) ?_ | refine s_need Tk (by exact ⟨by show (eds.length + 1) * 24 ≤ 140737488355328; omega, by show eds.length + 1 ≤ 9223372036854775807; omega⟩) ?_
        refine g_loop ?_
        exact ih2 (j + 1, ⟨sts2, mk, eds ++ [((i : Int), ev, (t : Int))]⟩) _ _ ⟨h3, hg2, hi2.1, hml, by simp only [List.length_append, List.length_singleton]; omega, hi2.2, hV⟩ (by simp only; omega) ⟨rfl, rfl, rfl, rfl, rfl, rfl, rfl, rfl, rfl, rfl, hj1, trivial⟩ rfl ⟨rfl, rfl, rfl, congrArg some (oedgs_app eds ((i : Int), ev, (t : Int))), rfl, trivial⟩ rfl rfl
    · have h3 : alpha.length ≤ j := by simpa using g2
      rw [List.drop_eq_nil_of_le h3] at hV
      simp only [uvisits] at hV
      subst hV
      simp only at hno
      have hja : j ≤ 4096 := by omega
      refine g_loop ?_
      exact ih (i + 1, ⟨sts, mk, eds⟩) _ _ ⟨by simp only; omega, hgd, hml, by simp only; omega, hno⟩ (by simp only; omega) ⟨rfl, rfl, rfl, rfl, rfl, rfl, rfl, congrArg ii (wsucc (n := 4096) (by omega) (by decide)), trivial⟩ rfl ⟨rfl, rfl, rfl, rfl, rfl, trivial⟩ rfl rfl
  · have h1 : U.sts.length ≤ i := by simpa using g1
    rw [uloop_done h1] at hno
    subst hno
    obtain ⟨sts, mk, eds⟩ := U
    refine g_rwk (wk_freeze 95 rfl rfl) ?_
    refine g_rwk (wk_freeze 47 rfl rfl) ?_
    refine g_rwk (wk_freeze 103 rfl rfl) ?_
    refine g_rwk (wk_imm rfl) ?_
    refine g_ret Tk (r := unfD alpha (.ok ⟨sts, mk, eds⟩)) rfl rfl rfl trivial rfl rfl ?_
    rfl
end Go.AI


/- flatten.Unfold. -/
namespace Go.AI
open Go.Proofs
set_option maxRecDepth 20000
def unfoldR (m : Ext) : Except Int (Unf Sta) := if chk m ≠ 0 then .error (chk m) else unfX m m.alpha (startR m)
theorem Unfold50 {g : Nat} (hg : IsTab g) {ty : TypeId} {fr : Nat × Nat} (O : List Heap) (m : Ext) (hok : extOk m) : ASpecT g (ptab ty fr) Tryd.prog 50 [extD m] O (unfD m.alpha (unfoldR m)) [] O := by
  have hb := fun O => begin20 O m hok
  unfold begR at hb
  unfold unfoldR
  by_cases h1 : chk m ≠ 0
  · simp only [if_pos h1] at hb ⊢
    refine aspecT_stop [] Tk Tryd.func50 rfl Tryd.call50 Tryd.ntmps50 (Nat.le_of_ble_eq_true rfl) fun E hE => ?_
    refine g_run Tk Tryd.func50 ?_
    first | refine g_call Tk Tryd.func50 (hb _) rfl rfl rfl rfl rfl ?_ | refine s_callq Tk (fun _ => hb _) rfl rfl rfl ?_
    first | refine g_cnd Tk Tryd.func50 rfl (fun h2 => ?_) (fun h2 => ?_) | refine g_know Tk Tryd.func50 rfl (fun h2 => ?_) (fun h2 => ?_) | refine s_know Tk (fun h2 => ?_) (fun h2 => ?_)
    rotate_left
    · exact absurd (bneF h2) h1
    refine g_ret_co Tk (r := _) rfl rfl rfl trivial rfl rfl ?_
    exact coErr
  · have h1 : chk m = 0 := Classical.byContradiction h1
    have hr := chk_right h1
    have hal := checkSet_len (by decide) hr.alpha
    simp only [h1, ne_eq, not_true_eq_false, if_false] at hb ⊢
    have hcl := fun O => clone84 O m.alpha (by simp only [big]; omega)
    have hun := fun O ho => unfold111 hg (ty := ty) (fr := fr) O m m.alpha (startR m) 0 1 ho hok hr (by omega) (start_ok hr)
    generalize unfX m m.alpha (startR m) = R at *
    generalize startR m = st at *
    obtain ⟨sl, sv⟩ := st
    cases R with
    | error e =>
      refine aspecT_stop [] Tk Tryd.func50 rfl Tryd.call50 Tryd.ntmps50 (Nat.le_of_ble_eq_true rfl) fun E hE => ?_
      refine g_run Tk Tryd.func50 ?_
      first | refine g_call Tk Tryd.func50 (hb _) rfl rfl rfl rfl rfl ?_ | refine s_callq Tk (fun _ => hb _) rfl rfl rfl ?_
      repeat (first | refine g_cnd Tk Tryd.func50 rfl (fun _ => ?_) (fun h => absurd h (by decide)) | refine g_know Tk Tryd.func50 rfl (fun _ => ?_) (fun h => absurd h (by decide)) | refine s_know Tk (fun _ => ?_) (fun h => absurd h (by decide)) | refine g_cnd Tk Tryd.func50 rfl (fun h => absurd h (by decide)) (fun _ => ?_) | refine g_know Tk Tryd.func50 rfl (fun h => absurd h (by decide)) (fun _ => ?_) | refine s_know Tk (fun h => absurd h (by decide)) (fun _ => ?_) | refine g_cnd Tk Tryd.func50 rfl (fun _ => ?_) (fun h => absurd (show true = false from h) (by decide)) | refine g_know Tk Tryd.func50 rfl (fun _ => ?_) (fun h => absurd (show true = false from h) (by decide)) | refine s_know Tk (fun _ => ?_) (fun h => absurd (show true = false from h) (by decide)) | refine g_cnd Tk Tryd.func50 rfl (fun h => absurd (show false = true from h) (by decide)) (fun _ => ?_) | refine g_know Tk Tryd.func50 rfl (fun h => absurd (show false = true from h) (by decide)) (fun _ => ?_) | refine s_know Tk (fun h => absurd (show false = true from h) (by decide)) (fun _ => ?_))
      refine g_drawn Tk Tryd.func50 mixedT rfl ?_
      first | refine g_call Tk Tryd.func50 (hcl _) rfl rfl rfl rfl rfl ?_ | refine s_callq Tk (fun _ => hcl _) rfl rfl rfl ?_
      refine s_callT Tk hE (hun _ rfl) rfl rfl rfl rfl ?_
      refine s_put Tk rfl rfl rfl ?_
      refine e_done Tk Tryd.func50 (by kernel_rfl) ?_
      refine g_ret_co Tk (r := _) rfl rfl rfl trivial rfl rfl ?_
      exact CoD.refl _
    | ok U =>
      obtain ⟨us, um, ue⟩ := U
      refine aspecT_stop [] Tk Tryd.func50 rfl Tryd.call50 Tryd.ntmps50 (Nat.le_of_ble_eq_true rfl) fun E hE => ?_
      refine g_run Tk Tryd.func50 ?_
      first | refine g_call Tk Tryd.func50 (hb _) rfl rfl rfl rfl rfl ?_ | refine s_callq Tk (fun _ => hb _) rfl rfl rfl ?_
      repeat (first | refine g_cnd Tk Tryd.func50 rfl (fun _ => ?_) (fun h => absurd h (by decide)) | refine g_know Tk Tryd.func50 rfl (fun _ => ?_) (fun h => absurd h (by decide)) | refine s_know Tk (fun _ => ?_) (fun h => absurd h (by decide)) | refine g_cnd Tk Tryd.func50 rfl (fun h => absurd h (by decide)) (fun _ => ?_) | refine g_know Tk Tryd.func50 rfl (fun h => absurd h (by decide)) (fun _ => ?_) | refine s_know Tk (fun h => absurd h (by decide)) (fun _ => ?_) | refine g_cnd Tk Tryd.func50 rfl (fun _ => ?_) (fun h => absurd (show true = false from h) (by decide)) | refine g_know Tk Tryd.func50 rfl (fun _ => ?_) (fun h => absurd (show true = false from h) (by decide)) | refine s_know Tk (fun _ => ?_) (fun h => absurd (show true = false from h) (by decide)) | refine g_cnd Tk Tryd.func50 rfl (fun h => absurd (show false = true from h) (by decide)) (fun _ => ?_) | refine g_know Tk Tryd.func50 rfl (fun h => absurd (show false = true from h) (by decide)) (fun _ => ?_) | refine s_know Tk (fun h => absurd (show false = true from h) (by decide)) (fun _ => ?_))
      refine g_drawn Tk Tryd.func50 mixedT rfl ?_
      first | refine g_call Tk Tryd.func50 (hcl _) rfl rfl rfl rfl rfl ?_ | refine s_callq Tk (fun _ => hcl _) rfl rfl rfl ?_
      refine s_callT Tk hE (hun _ rfl) rfl rfl rfl rfl ?_
      refine s_put Tk rfl rfl rfl ?_
      refine e_done Tk Tryd.func50 (by kernel_rfl) ?_
      refine g_ret_co Tk (r := _) rfl rfl rfl trivial rfl rfl ?_
      exact CoD.refl _
end Go.AI


/- flatten.Locate, At, Where. -/
namespace Go.AI
open Go.Proofs
set_option maxRecDepth 20000
theorem indexFunc112 (O : List Heap) (l : List Sta) (f : Nat) (d nm : Nat) (p : Sta → Bool) (hl : l.length ≤ max63) (hp : ∀ x ∈ l, ASpec Tryd.prog f [staD x, .own (d + 1) nm 0 0] ([] :: O) (bb (p x)) [] ([] :: O)) :
    ASpec Tryd.prog 112 [stasD l, .fn (.func f) [] [.own d nm 0 0]] O (ii (findIx p l 0)) [] O := by
  generalize hR : findIx p l 0 = R
  refine aspec_intro Tk Tryd.func112 rfl Tryd.call112 Tryd.ntmps112 (Nat.le_of_ble_eq_true rfl) fun E => ?_
  refine g_run Tk Tryd.func112 ?_
  refine g_loop ?_
  refine rch_loop2 (fun i : Nat => [(0, stasD l), (1, .fn (.func f) [] [.own (d + 1) nm 0 0]), (7, ii l.length), (8, ii i)]) (fun _ => []) (fun _ => O) 19
    (fun i => i ≤ l.length ∧ findIx p (l.drop i) i = R) (fun i => l.length - i) 0 ⟨Nat.zero_le _, hR⟩ ⟨rfl, rfl, rfl, rfl, trivial⟩ rfl trivial rfl rfl ?_
  rintro i ⟨hi, hno⟩ ih
  clear hR
  refine g_run Tk Tryd.func112 ?_
  first | refine g_cnd Tk Tryd.func112 rfl (fun g1 => ?_) (fun g1 => ?_) | refine g_know Tk Tryd.func112 rfl (fun g1 => ?_) (fun g1 => ?_) | refine s_know Tk (fun g1 => ?_) (fun g1 => ?_)
  · have h1 : i < l.length := by simpa using g1
    have gs : (l.map staI)[(i : Int).toNat]? = some (staI l[i]) := get_mapZ h1
    have hps := hp l[i] (List.getElem_mem h1)
    have hd : l.drop i = l[i] :: l.drop (i + 1) := List.drop_eq_getElem_cons h1
    rw [hd] at hno
    simp only [findIx] at hno
    clear hd
    generalize l[i] = s at *
    first | refine g_need Tk Tryd.func112 (by exact ⟨by omega, by show (i : Int) < (l.length : Int); omega⟩) ?_ | refine s_need Tk (by exact ⟨by omega, by show (i : Int) < (l.length : Int); omega⟩) ?_
    first | refine g_elem Tk Tryd.func112 (gs) ?_ | refine s_elem Tk (gs) ?_
    first | refine g_call Tk Tryd.func112 (hps) rfl rfl rfl rfl rfl ?_ | refine s_callq Tk (fun _ => hps) rfl rfl rfl ?_
    first | refine g_cnd Tk Tryd.func112 rfl (fun g2 => ?_) (fun g2 => ?_) | refine g_know Tk Tryd.func112 rfl (fun g2 => ?_) (fun g2 => ?_) | refine s_know Tk (fun g2 => ?_) (fun g2 => ?_)
    · rw [if_pos g2] at hno
      subst hno
      refine g_ret Tk (r := ii (i : Int)) rfl rfl rfl trivial rfl rfl ?_
      rfl
    · rw [if_neg (by rw [g2]; simp)] at hno
      refine g_loop ?_
      exact ih (i + 1) _ _ ⟨h1, hno⟩ (by omega) ⟨rfl, rfl, rfl, congrArg ii (wsucc h1 hl), trivial⟩ rfl trivial rfl rfl
  · have h1 : l.length ≤ i := by simpa using g1
    rw [List.drop_eq_nil_of_le h1] at hno
    simp only [findIx] at hno
    subst hno
    refine g_ret Tk (r := ii (-1)) rfl rfl rfl trivial rfl rfl ?_
    rfl
theorem loc113 (O : List Heap) (x s : Sta) (d nm : Nat) (ho : objAt O d nm = some (.box [ii s.loc, ints s.vals])) (hx : x.vals.length ≤ max63) : ASpec Tryd.prog 113 [staD x, .own d nm 0 0] O (bb (decide (x = s))) [] O := by
  have h := fun O => equalStates32 O x s hx
  generalize decide (x = s) = B at *
  obtain ⟨xl, xv⟩ := x
  obtain ⟨sl, sv⟩ := s
  refine aspec_intro Tk Tryd.func113 rfl Tryd.call113 Tryd.ntmps113 (Nat.le_of_ble_eq_true rfl) fun E => ?_
  refine g_run Tk Tryd.func113 ?_
  first | refine g_obj Tk Tryd.func113 (up_obj ho) ?_ | refine s_obj Tk (up_obj ho) ?_
  first | refine g_call Tk Tryd.func113 (h _) rfl rfl rfl rfl rfl ?_ | refine s_callq Tk (fun _ => h _) rfl rfl rfl ?_
  refine g_ret Tk (r := bb B) rfl rfl rfl trivial rfl rfl ?_
  rfl
theorem locate51 (O : List Heap) (l : List Sta) (s : Sta) (hl : l.length ≤ 1000000) (hv : ∀ x ∈ l, x.vals.length ≤ max63) : ASpec Tryd.prog 51 [stasD l, staD s] O (.tup [ii (max (findIx (fun x => decide (x = s)) l 0) 0), bb (decide (findIx (fun x => decide (x = s)) l 0 ≥ 0))]) [] O := by
  have h := fun O d nm ho => indexFunc112 O l 113 d nm (fun x => decide (x = s)) (by simp only [max63]; omega) (fun x hx => loc113 _ x s (d + 1) nm (up_obj ho) (hv x hx))
  obtain ⟨sl, sv⟩ := s
  refine aspec_intro Tk Tryd.func51 rfl Tryd.call51 Tryd.ntmps51 (Nat.le_of_ble_eq_true rfl) fun E => ?_
  refine g_run Tk Tryd.func51 ?_
  first | refine g_call Tk Tryd.func51 (h _ 0 3 rfl) rfl rfl rfl rfl rfl ?_ | refine s_callq Tk (fun _ => h _ 0 3 rfl) rfl rfl rfl ?_
  generalize findIx (fun x => decide (x = ⟨sl, sv⟩)) l 0 = R at *
  have e : max R 0 = if 0 > R then 0 else R := by omega
  rw [e]
  refine g_ret Tk (r := .tup [ii (if 0 > R then 0 else R), bb (decide (R ≥ 0))]) rfl rfl rfl trivial rfl rfl ?_
  rfl
/-- The states with a location. -/
def atL (loc : Int) : List Sta → Nat → List Int → List Int
  | [], _, acc => acc
  | s :: r, i, acc => atL loc r (i + 1) (if s.loc = loc then acc ++ [(i : Int)] else acc)
theorem at53 (O : List Heap) (l : List Sta) (loc : Int) (hl : l.length ≤ 1000000) : ASpec Tryd.prog 53 [stasD l, ii loc] O (ints (atL loc l 0 [])) [] O := by
  generalize hR : atL loc l 0 [] = R
  refine aspec_intro Tk Tryd.func53 rfl Tryd.call53 Tryd.ntmps53 (Nat.le_of_ble_eq_true rfl) fun E => ?_
  refine g_run Tk Tryd.func53 ?_
  refine g_loop ?_
  refine rch_wk (wk_nil 5 22 3 1 rfl rfl rfl) ?_
  refine rch_loop2 (fun x : Nat × List Int => [(1, ii loc), (5, .osl 0 22), (8, stasD l), (9, ii l.length), (10, ii x.1)]) (fun x => [(22, oints x.2)]) (fun _ => O) 25
    (fun x => x.1 ≤ l.length ∧ x.2.length ≤ x.1 ∧ atL loc (l.drop x.1) x.1 x.2 = R) (fun x => l.length - x.1) (0, []) ⟨Nat.zero_le _, Nat.le_refl _, hR⟩ ⟨rfl, rfl, rfl, rfl, rfl, trivial⟩ rfl ⟨rfl, trivial⟩ rfl rfl ?_
  rintro ⟨i, acc⟩ ⟨hi, hac, hno⟩ ih
  simp only at hi hac hno
  clear hR
  refine g_run Tk Tryd.func53 ?_
  first | refine g_cnd Tk Tryd.func53 rfl (fun g1 => ?_) (fun g1 => ?_) | refine g_know Tk Tryd.func53 rfl (fun g1 => ?_) (fun g1 => ?_) | refine s_know Tk (fun g1 => ?_) (fun g1 => ?_)
  · have h1 : i < l.length := by simpa using g1
    have gs : (l.map staI)[(i : Int).toNat]? = some (staI l[i]) := get_mapZ h1
    have hd : l.drop i = l[i] :: l.drop (i + 1) := List.drop_eq_getElem_cons h1
    rw [hd] at hno
    simp only [atL] at hno
    clear hd
    generalize l[i] = s at *
    obtain ⟨sl, sv⟩ := s
    simp only at hno
    have hi1 : ii (IntKind.i64.wrap ((i : Int) + 1)) = ii ((i + 1 : Nat) : Int) := congrArg ii (wsucc (n := 1000000) (by omega) (by decide))
    first | refine g_need Tk Tryd.func53 (by exact ⟨by omega, by show (i : Int) < (l.length : Int); omega⟩) ?_ | refine s_need Tk (by exact ⟨by omega, by show (i : Int) < (l.length : Int); omega⟩) ?_
    first | refine g_elem Tk Tryd.func53 (gs) ?_ | refine s_elem Tk (gs) ?_
    first | refine g_cnd Tk Tryd.func53 rfl (fun g2 => ?_) (fun g2 => ?_) | refine g_know Tk Tryd.func53 rfl (fun g2 => ?_) (fun g2 => ?_) | refine s_know Tk (fun g2 => ?_) (fun g2 => ?_)
    · have g2 : sl = loc := beqT g2
      rw [if_pos g2] at hno
      first | refine g_need Tk Tryd.func53 (by exact ⟨by show (acc.length + 1) * 8 ≤ 140737488355328; omega, by show acc.length + 1 ≤ 9223372036854775807; omega⟩) ?_ | refine s_need Tk (by exact ⟨by show (acc.length + 1) * 8 ≤ 140737488355328; omega, by show acc.length + 1 ≤ 9223372036854775807; omega⟩) ?_
      refine g_loop ?_
      exact ih (i + 1, acc ++ [(i : Int)]) _ _ ⟨h1, by simp only [List.length_append, List.length_singleton]; omega, hno⟩ (by simp only; omega) ⟨rfl, rfl, rfl, rfl, hi1, trivial⟩ rfl ⟨congrArg some (oints_app acc (i : Int)), trivial⟩ rfl rfl
    · have g2 : sl ≠ loc := beqF g2
      rw [if_neg g2] at hno
      refine g_loop ?_
      exact ih (i + 1, acc) _ _ ⟨h1, by simp only; omega, hno⟩ (by simp only; omega) ⟨rfl, rfl, rfl, rfl, hi1, trivial⟩ rfl ⟨rfl, trivial⟩ rfl rfl
  · have h1 : l.length ≤ i := by simpa using g1
    rw [List.drop_eq_nil_of_le h1] at hno
    simp only [atL] at hno
    subst hno
    refine g_rwk (wk_freeze 22 rfl rfl) ?_
    refine g_ret Tk (r := ints acc) rfl rfl rfl trivial rfl rfl ?_
    rfl
def ckAll (m : Ext) : List Sta → Int
  | [] => 0
  | s :: r => if ckS m s ≠ 0 then ckS m s else ckAll m r
def whL (x : Ex) : List Sta → Nat → List Int → List Int × Int
  | [], _, acc => (acc, 0)
  | s :: r, i, acc => if (evalX x s.vals).2 ≠ 0 then ([], (evalX x s.vals).2) else whL x r (i + 1) (if (evalX x s.vals).1 = 1 then acc ++ [(i : Int)] else acc)
def whereR (m : Ext) (l : List Sta) (x : Ex) : List Int × Int :=
  if chk m ≠ 0 then ([], chk m) else if ckAll m l ≠ 0 then ([], ckAll m l) else if (checkX x m.vars.length).2 ≠ 0 then ([], (checkX x m.vars.length).2) else if (checkX x m.vars.length).1 ≠ 2 then ([], 16) else whL x l 0 []
theorem coNil2 {e : Int} : CoD (.tup [.i (.v (.slice none 0 0)), ii e]) (.tup [ints [], ii e]) := coD_tup (.cons (coD_i coI_nil) (CoDL.refl _))
theorem where52 (O : List Heap) (m : Ext) (l : List Sta) (x : Ex) (hok : extOk m) (hx : exOk x) (hl : l.length ≤ 1000000) (hv : ∀ s ∈ l, s.vals.length ≤ max63) : ASpec Tryd.prog 52 [extD m, stasD l, exA x] O (.tup [ints (whereR m l x).1, ii (whereR m l x).2]) [] O := by
  generalize hR : whereR m l x = R
  unfold whereR at hR
  have hck := fun O => check40 O m hok
  refine aspec_intro Tk Tryd.func52 rfl Tryd.call52 Tryd.ntmps52 (Nat.le_of_ble_eq_true rfl) fun E => ?_
  refine g_run Tk Tryd.func52 ?_
  first | refine g_call Tk Tryd.func52 (hck _) rfl rfl rfl rfl rfl ?_ | refine s_callq Tk (fun _ => hck _) rfl rfl rfl ?_
  first | refine g_cnd Tk Tryd.func52 rfl (fun g0 => ?_) (fun g0 => ?_) | refine g_know Tk Tryd.func52 rfl (fun g0 => ?_) (fun g0 => ?_) | refine s_know Tk (fun g0 => ?_) (fun g0 => ?_)
  · have g0 : chk m ≠ 0 := bneT g0
    rw [if_pos g0] at hR
    subst hR
    refine g_ret_co Tk (r := _) rfl rfl rfl trivial rfl rfl ?_
    exact coNil2
  have g0 : chk m = 0 := bneF g0
  rw [if_neg (by simpa using g0)] at hR
  clear hck
  have hC0 : ckAll m l = ckAll m (l.drop 0) := rfl
  generalize ckAll m l = C at *
  refine g_loop ?_
  refine rch_loop2 (fun i : Nat => [(1, stasD l), (3, .own 0 3 0 0), (5, .own 0 5 0 0), (24, stasD l), (25, ii l.length), (26, ii i)]) (fun _ => [(3, .box (extC m)), (5, .box [ii x.op, ii x.vl, ii x.ix, exs x.args])]) (fun _ => O) 75
    (fun i => i ≤ l.length ∧ C = ckAll m (l.drop i)) (fun i => l.length - i) 0 ⟨Nat.zero_le _, hC0⟩ ⟨rfl, rfl, rfl, rfl, rfl, rfl, trivial⟩ rfl ⟨rfl, rfl, trivial⟩ rfl rfl ?_
  clear hC0
  rintro i ⟨hi, hC⟩ ih
  refine g_run Tk Tryd.func52 ?_
  first | refine g_cnd Tk Tryd.func52 rfl (fun g1 => ?_) (fun g1 => ?_) | refine g_know Tk Tryd.func52 rfl (fun g1 => ?_) (fun g1 => ?_) | refine s_know Tk (fun g1 => ?_) (fun g1 => ?_)
  · have h1 : i < l.length := by simpa using g1
    have gs : (l.map staI)[(i : Int).toNat]? = some (staI l[i]) := get_mapZ h1
    have hd : l.drop i = l[i] :: l.drop (i + 1) := List.drop_eq_getElem_cons h1
    rw [hd] at hC
    simp only [ckAll] at hC
    clear hd
    generalize l[i] = s at *
    have hcs := fun O => checkState28 O m s hok
    generalize ckS m s = e at *
    obtain ⟨sl, sv⟩ := s
    have hi1 : ii (IntKind.i64.wrap ((i : Int) + 1)) = ii ((i + 1 : Nat) : Int) := congrArg ii (wsucc (n := 1000000) (by omega) (by decide))
    first | refine g_need Tk Tryd.func52 (by exact ⟨by omega, by show (i : Int) < (l.length : Int); omega⟩) ?_ | refine s_need Tk (by exact ⟨by omega, by show (i : Int) < (l.length : Int); omega⟩) ?_
    first | refine g_elem Tk Tryd.func52 (gs) ?_ | refine s_elem Tk (gs) ?_
    first | refine g_call Tk Tryd.func52 (hcs _) rfl rfl rfl rfl rfl ?_ | refine s_callq Tk (fun _ => hcs _) rfl rfl rfl ?_
    first | refine g_cnd Tk Tryd.func52 rfl (fun g2 => ?_) (fun g2 => ?_) | refine g_know Tk Tryd.func52 rfl (fun g2 => ?_) (fun g2 => ?_) | refine s_know Tk (fun g2 => ?_) (fun g2 => ?_)
    · have g2 : e ≠ 0 := bneT g2
      rw [if_pos g2] at hC
      subst hC
      rw [if_pos g2] at hR
      subst hR
      refine g_ret_co Tk (r := _) rfl rfl rfl trivial rfl rfl ?_
      exact coNil2
    · have g2 : e = 0 := bneF g2
      rw [if_neg (by simpa using g2)] at hC
      refine g_loop ?_
      exact ih (i + 1) _ _ ⟨h1, hC⟩ (by omega) ⟨rfl, rfl, rfl, rfl, rfl, hi1, trivial⟩ rfl ⟨rfl, rfl, trivial⟩ rfl rfl
  clear ih
  have h1 : l.length ≤ i := by simpa using g1
  rw [List.drop_eq_nil_of_le h1] at hC
  simp only [ckAll] at hC
  subst hC
  rw [if_neg (by simp)] at hR
  clear g1 h1 hi
  have hch := fun O => check67A O x m.vars.length hx
  generalize checkX x m.vars.length = Q at *
  obtain ⟨qk, qe⟩ := Q
  simp only at hR hch
  first | refine g_call Tk Tryd.func52 (hch _) rfl rfl rfl rfl rfl ?_ | refine s_callq Tk (fun _ => hch _) rfl rfl rfl ?_
  first | refine g_cnd Tk Tryd.func52 rfl (fun g1 => ?_) (fun g1 => ?_) | refine g_know Tk Tryd.func52 rfl (fun g1 => ?_) (fun g1 => ?_) | refine s_know Tk (fun g1 => ?_) (fun g1 => ?_)
  · have g1 : qe ≠ 0 := bneT g1
    rw [if_pos g1] at hR
    subst hR
    refine g_ret_co Tk (r := _) rfl rfl rfl trivial rfl rfl ?_
    exact coNil2
  have g1 : qe = 0 := bneF g1
  rw [if_neg (by simpa using g1)] at hR
  first | refine g_cnd Tk Tryd.func52 rfl (fun g2 => ?_) (fun g2 => ?_) | refine g_know Tk Tryd.func52 rfl (fun g2 => ?_) (fun g2 => ?_) | refine s_know Tk (fun g2 => ?_) (fun g2 => ?_)
  · have g2 : qk ≠ 2 := bneT g2
    rw [if_pos g2] at hR
    subst hR
    refine g_ret_co Tk (r := _) rfl rfl rfl trivial rfl rfl ?_
    exact coNil2
  have g2 : qk = 2 := bneF g2
  rw [if_neg (by simpa using g2)] at hR
  have hR0 : R = whL x (l.drop 0) 0 [] := hR.symm
  clear hR hch
  refine g_loop ?_
  refine rch_wk (wk_nil 14 72 3 1 rfl rfl rfl) ?_
  refine rch_loop2 (fun y : Nat × List Int => [(5, .own 0 5 0 0), (14, .osl 0 72), (50, stasD l), (51, ii l.length), (52, ii y.1)]) (fun y => [(5, .box [ii x.op, ii x.vl, ii x.ix, exs x.args]), (72, oints y.2)]) (fun _ => O) 75
    (fun y => y.1 ≤ l.length ∧ y.2.length ≤ y.1 ∧ R = whL x (l.drop y.1) y.1 y.2) (fun y => l.length - y.1) (0, []) ⟨Nat.zero_le _, Nat.le_refl _, hR0⟩ ⟨rfl, rfl, rfl, rfl, rfl, trivial⟩ rfl ⟨rfl, rfl, trivial⟩ rfl rfl ?_
  clear hR0
  rintro ⟨i, acc⟩ ⟨hi, hac, hno⟩ ih
  simp only at hi hac hno
  refine g_run Tk Tryd.func52 ?_
  first | refine g_cnd Tk Tryd.func52 rfl (fun g3 => ?_) (fun g3 => ?_) | refine g_know Tk Tryd.func52 rfl (fun g3 => ?_) (fun g3 => ?_) | refine s_know Tk (fun g3 => ?_) (fun g3 => ?_)
  · have h1 : i < l.length := by simpa using g3
    have gs : (l.map staI)[(i : Int).toNat]? = some (staI l[i]) := get_mapZ h1
    have hvi := hv _ (List.getElem_mem h1)
    have hd : l.drop i = l[i] :: l.drop (i + 1) := List.drop_eq_getElem_cons h1
    rw [hd] at hno
    simp only [whL] at hno
    clear hd
    generalize l[i] = s at *
    obtain ⟨sl, sv⟩ := s
    simp only at hno hvi
    have hev := fun O => evaluate51A O x sv hx hvi
    generalize evalX x sv = V at *
    obtain ⟨v, ve⟩ := V
    simp only at hno hev
    have hi1 : ii (IntKind.i64.wrap ((i : Int) + 1)) = ii ((i + 1 : Nat) : Int) := congrArg ii (wsucc (n := 1000000) (by omega) (by decide))
    first | refine g_need Tk Tryd.func52 (by exact ⟨by omega, by show (i : Int) < (l.length : Int); omega⟩) ?_ | refine s_need Tk (by exact ⟨by omega, by show (i : Int) < (l.length : Int); omega⟩) ?_
    first | refine g_elem Tk Tryd.func52 (gs) ?_ | refine s_elem Tk (gs) ?_
    first | refine g_call Tk Tryd.func52 (hev _) rfl rfl rfl rfl rfl ?_ | refine s_callq Tk (fun _ => hev _) rfl rfl rfl ?_
    first | refine g_cnd Tk Tryd.func52 rfl (fun g4 => ?_) (fun g4 => ?_) | refine g_know Tk Tryd.func52 rfl (fun g4 => ?_) (fun g4 => ?_) | refine s_know Tk (fun g4 => ?_) (fun g4 => ?_)
    · have g4 : ve ≠ 0 := bneT g4
      rw [if_pos g4] at hno
      subst hno
      refine g_ret_co Tk (r := _) rfl rfl rfl trivial rfl rfl ?_
      exact coNil2
    have g4 : ve = 0 := bneF g4
    rw [if_neg (by simpa using g4)] at hno
    first | refine g_cnd Tk Tryd.func52 rfl (fun g5 => ?_) (fun g5 => ?_) | refine g_know Tk Tryd.func52 rfl (fun g5 => ?_) (fun g5 => ?_) | refine s_know Tk (fun g5 => ?_) (fun g5 => ?_)
    · have g5 : v = 1 := beqT g5
      rw [if_pos g5] at hno
      first | refine g_need Tk Tryd.func52 (by exact ⟨by show (acc.length + 1) * 8 ≤ 140737488355328; omega, by show acc.length + 1 ≤ 9223372036854775807; omega⟩) ?_ | refine s_need Tk (by exact ⟨by show (acc.length + 1) * 8 ≤ 140737488355328; omega, by show acc.length + 1 ≤ 9223372036854775807; omega⟩) ?_
      refine g_loop ?_
      exact ih (i + 1, acc ++ [(i : Int)]) _ _ ⟨h1, by simp only [List.length_append, List.length_singleton]; omega, hno⟩ (by simp only; omega) ⟨rfl, rfl, rfl, rfl, hi1, trivial⟩ rfl ⟨rfl, congrArg some (oints_app acc (i : Int)), trivial⟩ rfl rfl
    · have g5 : v ≠ 1 := beqF g5
      rw [if_neg g5] at hno
      refine g_loop ?_
      exact ih (i + 1, acc) _ _ ⟨h1, by simp only; omega, hno⟩ (by simp only; omega) ⟨rfl, rfl, rfl, rfl, hi1, trivial⟩ rfl ⟨rfl, rfl, trivial⟩ rfl rfl
  · have h1 : l.length ≤ i := by simpa using g3
    rw [List.drop_eq_nil_of_le h1] at hno
    simp only [whL] at hno
    subst hno
    refine g_rwk (wk_freeze 72 rfl rfl) ?_
    refine g_ret Tk (r := .tup [ints acc, ii 0]) rfl rfl rfl trivial rfl rfl ?_
    rfl
end Go.AI


/- The examples of the chapter (19). -/
namespace Go.AI
open Go.Proofs
set_option maxRecDepth 20000
def plusE (op n : Int) : Ex := .mk op 0 0 [nE, kE n]
def counter19 (g : Ex) : Ext := ⟨[0, 1], 1, 0, [], [nVr 2], [⟨0, 0, 0, g, [⟨0, plusE 2 1⟩]⟩, ⟨0, 1, 0, plusE 6 2, [⟨0, zeroE⟩]⟩]⟩
theorem plus103 (O : List Heap) (op n : Int) : ASpec Tryd.prog 103 [ii op, ii n] O (exA (plusE op n)) [] O := by
  refine aspec_intro Tk Tryd.func103 rfl Tryd.call103 Tryd.ntmps103 (Nat.le_of_ble_eq_true rfl) fun E => ?_
  refine g_run Tk Tryd.func103 ?_
  refine g_ret_co Tk (r := _) rfl rfl rfl trivial rfl rfl ?_
  repeat' (first | refine coD_tup ?_ | refine coD_agg ?_ | refine coD_i ?_ | refine CoDL.cons ?_ ?_ | exact CoDL.nil | exact coI_nil | refine coI_sl ?_ | refine CoLL.cons ?_ ?_ | exact CoLL.nil | refine CoL.cons ?_ ?_ | exact CoL.nil | exact CoI.refl _ | exact CoL.refl _ | exact CoLL.refl _ | exact CoDL.refl _ | exact CoD.refl _)
theorem counter102 (O : List Heap) (x : Ex) : ASpec Tryd.prog 102 [exA x] O (extD (counter19 x)) [] O := by
  have hp := fun op n O => plus103 O op n
  refine aspec_intro Tk Tryd.func102 rfl Tryd.call102 Tryd.ntmps102 (Nat.le_of_ble_eq_true rfl) fun E => ?_
  refine g_run Tk Tryd.func102 ?_
  refine g_drawn Tk Tryd.func102 mixedT rfl ?_
  first | refine g_call Tk Tryd.func102 (hp 2 1 _) rfl rfl rfl rfl rfl ?_ | refine s_callq Tk (fun _ => hp 2 1 _) rfl rfl rfl ?_
  first | refine g_call Tk Tryd.func102 (hp 6 2 _) rfl rfl rfl rfl rfl ?_ | refine s_callq Tk (fun _ => hp 6 2 _) rfl rfl rfl ?_
  refine s_put Tk rfl rfl rfl ?_
  refine e_done Tk Tryd.func102 (by kernel_rfl) ?_
  refine g_ret_co Tk (r := _) rfl rfl rfl trivial rfl rfl ?_
  repeat' (first | refine coD_tup ?_ | refine coD_agg ?_ | refine coD_i ?_ | refine CoDL.cons ?_ ?_ | exact CoDL.nil | exact coI_nil | refine coI_sl ?_ | refine CoLL.cons ?_ ?_ | exact CoLL.nil | refine CoL.cons ?_ ?_ | exact CoL.nil | exact CoI.refl _ | exact CoL.refl _ | exact CoLL.refl _ | exact CoDL.refl _ | exact CoD.refl _)
theorem plus_ok (op n : Int) : exOk (plusE op n) := exOk_two (exOk_leaf _ _ _) (exOk_leaf _ _ _)
theorem cnt19_ok {x : Ex} (hx : exOk x) : extOk (counter19 x) := by
  refine ⟨by simp [counter19, max63], by simp [counter19, max63], by simp [counter19, max63], fun v hv => ?_, by simp [counter19, max63], fun x hx => ?_⟩
  · simp only [counter19, List.mem_singleton] at hv
    subst hv
    show (1 : Nat) ≤ max63
    decide
  · simp only [counter19, List.mem_cons, List.mem_nil_iff, or_false] at hx
    rcases hx with rfl | rfl
    · refine ⟨by assumption, by simp [max63], fun u hu => ?_⟩
      simp only [List.mem_singleton] at hu
      subst hu
      exact plus_ok _ _
    · refine ⟨plus_ok _ _, by simp [max63], fun u hu => ?_⟩
      simp only [List.mem_singleton] at hu
      subst hu
      exact exOk_leaf _ _ _
def knU : Unf Sta := ⟨[⟨0, [0]⟩, ⟨0, [1]⟩, ⟨0, [2]⟩], [], [(0, 0, 1), (1, 0, 2), (2, 1, 0)]⟩
theorem unf_known : unfoldR (counter19 (plusE 8 2)) = .ok knU := by kernel_rfl
theorem unf_known2 : unfoldR (counter19 trueE) = .error 17 := by kernel_rfl
theorem where_known : whereR (counter19 (plusE 8 2)) knU.sts (plusE 6 2) = ([2], 0) := by kernel_rfl
theorem known48 {g : Nat} (hg : IsTab g) {ty : TypeId} {fr : Nat × Nat} (O : List Heap) : ASpecT g (ptab ty fr) Tryd.prog 48 [] O (bb true) [] O := by
  have hp := fun op n O => plus103 O op n
  have hc := fun x O => counter102 O x
  have hu := fun O => Unfold50 hg (ty := ty) (fr := fr) O (counter19 (plusE 8 2)) (cnt19_ok (plus_ok _ _))
  simp only [unf_known] at hu
  have hu2 := fun O => Unfold50 hg (ty := ty) (fr := fr) O (counter19 trueE) (cnt19_ok (exOk_two (exOk_leaf _ _ _) (exOk_leaf _ _ _)))
  simp only [unf_known2] at hu2
  have hw := fun O => where52 O (counter19 (plusE 8 2)) knU.sts (plusE 6 2) (cnt19_ok (plus_ok _ _)) (plus_ok _ _) (by decide) (by decide)
  simp only [where_known] at hw
  have ht := fun O => true42 O
  have hs := fun O => sameInts36 O [2] [2] (by decide)
  refine aspecT_stop [] Tk Tryd.func48 rfl Tryd.call48 Tryd.ntmps48 (Nat.le_of_ble_eq_true rfl) fun E hE => ?_
  refine g_run Tk Tryd.func48 ?_
  first | refine g_call Tk Tryd.func48 (hp 8 2 _) rfl rfl rfl rfl rfl ?_ | refine s_callq Tk (fun _ => hp 8 2 _) rfl rfl rfl ?_
  first | refine g_call Tk Tryd.func48 (hc (plusE 8 2) _) rfl rfl rfl rfl rfl ?_ | refine s_callq Tk (fun _ => hc (plusE 8 2) _) rfl rfl rfl ?_
  refine g_callT Tk Tryd.func48 hE (hu _) rfl rfl rfl rfl rfl rfl ?_
  first | refine g_call Tk Tryd.func48 (ht _) rfl rfl rfl rfl rfl ?_ | refine s_callq Tk (fun _ => ht _) rfl rfl rfl ?_
  first | refine g_call Tk Tryd.func48 (hc trueE _) rfl rfl rfl rfl rfl ?_ | refine s_callq Tk (fun _ => hc trueE _) rfl rfl rfl ?_
  refine g_callT Tk Tryd.func48 hE (hu2 _) rfl rfl rfl rfl rfl rfl ?_
  first | refine g_call Tk Tryd.func48 (hp 8 2 _) rfl rfl rfl rfl rfl ?_ | refine s_callq Tk (fun _ => hp 8 2 _) rfl rfl rfl ?_
  first | refine g_call Tk Tryd.func48 (hc (plusE 8 2) _) rfl rfl rfl rfl rfl ?_ | refine s_callq Tk (fun _ => hc (plusE 8 2) _) rfl rfl rfl ?_
  first | refine g_call Tk Tryd.func48 (hp 6 2 _) rfl rfl rfl rfl rfl ?_ | refine s_callq Tk (fun _ => hp 6 2 _) rfl rfl rfl ?_
  first | refine g_call Tk Tryd.func48 (hw _) rfl rfl rfl rfl rfl ?_ | refine s_callq Tk (fun _ => hw _) rfl rfl rfl ?_
  repeat (first | refine g_cnd Tk Tryd.func48 rfl (fun _ => ?_) (fun h => absurd h (by decide)) | refine g_know Tk Tryd.func48 rfl (fun _ => ?_) (fun h => absurd h (by decide)) | refine s_know Tk (fun _ => ?_) (fun h => absurd h (by decide)) | refine g_cnd Tk Tryd.func48 rfl (fun h => absurd h (by decide)) (fun _ => ?_) | refine g_know Tk Tryd.func48 rfl (fun h => absurd h (by decide)) (fun _ => ?_) | refine s_know Tk (fun h => absurd h (by decide)) (fun _ => ?_) | refine g_cnd Tk Tryd.func48 rfl (fun _ => ?_) (fun h => absurd (show true = false from h) (by decide)) | refine g_know Tk Tryd.func48 rfl (fun _ => ?_) (fun h => absurd (show true = false from h) (by decide)) | refine s_know Tk (fun _ => ?_) (fun h => absurd (show true = false from h) (by decide)) | refine g_cnd Tk Tryd.func48 rfl (fun h => absurd (show false = true from h) (by decide)) (fun _ => ?_) | refine g_know Tk Tryd.func48 rfl (fun h => absurd (show false = true from h) (by decide)) (fun _ => ?_) | refine s_know Tk (fun h => absurd (show false = true from h) (by decide)) (fun _ => ?_))
  first | refine g_need Tk Tryd.func48 (by exact ⟨by decide, by decide⟩) ?_ | refine s_need Tk (by exact ⟨by decide, by decide⟩) ?_
  first | refine g_elem Tk Tryd.func48 (rfl) ?_ | refine s_elem Tk (rfl) ?_
  repeat (first | refine g_cnd Tk Tryd.func48 rfl (fun _ => ?_) (fun h => absurd h (by decide)) | refine g_know Tk Tryd.func48 rfl (fun _ => ?_) (fun h => absurd h (by decide)) | refine s_know Tk (fun _ => ?_) (fun h => absurd h (by decide)) | refine g_cnd Tk Tryd.func48 rfl (fun h => absurd h (by decide)) (fun _ => ?_) | refine g_know Tk Tryd.func48 rfl (fun h => absurd h (by decide)) (fun _ => ?_) | refine s_know Tk (fun h => absurd h (by decide)) (fun _ => ?_) | refine g_cnd Tk Tryd.func48 rfl (fun _ => ?_) (fun h => absurd (show true = false from h) (by decide)) | refine g_know Tk Tryd.func48 rfl (fun _ => ?_) (fun h => absurd (show true = false from h) (by decide)) | refine s_know Tk (fun _ => ?_) (fun h => absurd (show true = false from h) (by decide)) | refine g_cnd Tk Tryd.func48 rfl (fun h => absurd (show false = true from h) (by decide)) (fun _ => ?_) | refine g_know Tk Tryd.func48 rfl (fun h => absurd (show false = true from h) (by decide)) (fun _ => ?_) | refine s_know Tk (fun h => absurd (show false = true from h) (by decide)) (fun _ => ?_))
  first | refine g_call Tk Tryd.func48 (hs _) rfl rfl rfl rfl rfl ?_ | refine s_callq Tk (fun _ => hs _) rfl rfl rfl ?_
  refine g_ret Tk (r := bb true) rfl rfl rfl trivial rfl rfl ?_
  rfl
end Go.AI


namespace Go.AI
open Go.Proofs
set_option maxRecDepth 20000
/- Words. -/
/-- What is known in a search of a sketched automaton. -/
structure Inv5 (m : Ext) (S : Srch) : Prop where
  lk : Linked S
  ok : ∀ s ∈ S.sts, okS m s
  nd : S.sts.Nodup
  fl : S.kind ≠ 0 → 0 ≤ S.flt.1
/- No more than 64 states. -/
theorem nodup_bound : ∀ {n : Nat} {l : List Nat}, l.Nodup → (∀ x ∈ l, x < n) → l.length ≤ n
  | 0, l, _, h => by
    cases l with
    | nil => exact Nat.le_refl _
    | cons a r => exact absurd (h a (by simp)) (Nat.not_lt_zero _)
  | n + 1, l, hn, h => by
    by_cases hm : n ∈ l
    · have h1 := nodup_bound (n := n) (l := l.erase n) (hn.erase n) fun x hx => by
        have hx2 := (hn.mem_erase_iff).1 hx
        have := h x hx2.2
        have := hx2.1
        omega
      rw [List.length_erase_of_mem hm] at h1
      omega
    · have := nodup_bound (n := n) (l := l) hn fun x hx => by
        have h1 := h x hx
        have : x ≠ n := fun e => hm (e ▸ hx)
        omega
      omega
def codeS (m : Ext) (s : Sta) : Nat := s.loc.toNat + 4 * ((s.vals.getD 0 0 - (m.vars.getD 0 ⟨⟨#[]⟩, 0, 0, 0⟩).low).toNat + 4 * (s.vals.getD 1 0 - (m.vars.getD 1 ⟨⟨#[]⟩, 0, 0, 0⟩).low).toNat)
theorem okS_val {m : Ext} (hm : made m) {s : Sta} (h : okS m s) (i : Nat) (hi : i < m.vars.length) : ∃ hi' : i < s.vals.length, m.vars[i].low ≤ s.vals[i] ∧ s.vals[i] ≤ m.vars[i].low + 3 := by
  have hl := (okS_bounds (made_right hm) h).2.2.2.1
  have h1 := within_get h.2 i hi (by omega)
  have h2 := (hm.v _ (List.getElem_mem hi)).w
  exact ⟨by omega, h1.1, by omega⟩
theorem codeS_lt {m : Ext} (hm : made m) {s : Sta} (h : okS m s) : codeS m s < 64 := by
  have hl := (okS_bounds (made_right hm) h).2.2.2.1
  have hlo := hm.lo
  have h0 := h.1
  have hv2 := hm.vl
  have part : ∀ i, (s.vals.getD i 0 - (m.vars.getD i ⟨⟨#[]⟩, 0, 0, 0⟩).low).toNat < 4 := by
    intro i
    by_cases hi : i < m.vars.length
    · obtain ⟨hi', h1, h2⟩ := okS_val hm h i hi
      rw [List.getD_eq_getElem?_getD, List.getD_eq_getElem?_getD, List.getElem?_eq_getElem hi', List.getElem?_eq_getElem hi]
      simp only [Option.getD_some]
      omega
    · rw [List.getD_eq_getElem?_getD, List.getD_eq_getElem?_getD, List.getElem?_eq_none (by omega), List.getElem?_eq_none (by omega)]
      simp only [Option.getD_none]
      omega
  have := part 0
  have := part 1
  unfold codeS
  omega
theorem codeS_inj {m : Ext} (hm : made m) {s t : Sta} (hs : okS m s) (ht : okS m t) (h : codeS m s = codeS m t) : s = t := by
  have hls := (okS_bounds (made_right hm) hs).2.2.2.1
  have hlt := (okS_bounds (made_right hm) ht).2.2.2.1
  have hlo := hm.lo
  have h0 := hs.1
  have h0' := ht.1
  have hv2 := hm.vl
  have part : ∀ (s : Sta), okS m s → s.vals.length = m.vars.length → ∀ i, (s.vals.getD i 0 - (m.vars.getD i ⟨⟨#[]⟩, 0, 0, 0⟩).low).toNat < 4 ∧ 0 ≤ (s.vals.getD i 0 - (m.vars.getD i ⟨⟨#[]⟩, 0, 0, 0⟩).low) := by
    intro s h hl i
    by_cases hi : i < m.vars.length
    · obtain ⟨hi', h1, h2⟩ := okS_val hm h i hi
      rw [List.getD_eq_getElem?_getD, List.getD_eq_getElem?_getD, List.getElem?_eq_getElem hi', List.getElem?_eq_getElem hi]
      simp only [Option.getD_some]
      omega
    · rw [List.getD_eq_getElem?_getD, List.getD_eq_getElem?_getD, List.getElem?_eq_none (by omega), List.getElem?_eq_none (by omega)]
      simp only [Option.getD_none]
      omega
  have p0 := part s hs hls 0
  have p1 := part s hs hls 1
  have q0 := part t ht hlt 0
  have q1 := part t ht hlt 1
  unfold codeS at h
  have e0 : s.loc = t.loc := by omega
  have e1 : s.vals.getD 0 0 = t.vals.getD 0 0 := by omega
  have e2 : s.vals.getD 1 0 = t.vals.getD 1 0 := by omega
  have ev : s.vals = t.vals := by
    apply List.ext_getElem (by omega)
    intro i hi hi'
    have : i = 0 ∨ i = 1 := by omega
    rcases this with rfl | rfl
    · rw [List.getD_eq_getElem?_getD, List.getD_eq_getElem?_getD, List.getElem?_eq_getElem hi, List.getElem?_eq_getElem hi'] at e1
      exact e1
    · rw [List.getD_eq_getElem?_getD, List.getD_eq_getElem?_getD, List.getElem?_eq_getElem hi, List.getElem?_eq_getElem hi'] at e2
      exact e2
  cases s
  cases t
  simp only at e0 ev
  rw [e0, ev]
theorem few_states {m : Ext} (hm : made m) {l : List Sta} (ho : ∀ s ∈ l, okS m s) (hn : l.Nodup) : l.length ≤ 64 := by
  have h := nodup_bound (n := 64) (l := l.map (codeS m)) ?_ ?_
  · rwa [List.length_map] at h
  · unfold List.Nodup at hn ⊢
    rw [List.pairwise_map]
    refine hn.imp_of_mem fun {a b} ha hb hne h => hne (codeS_inj hm (ho a ha) (ho b hb) h)
  · intro x hx
    obtain ⟨s, hs, rfl⟩ := List.mem_map.1 hx
    exact codeS_lt hm (ho s hs)
/- The text of a state says which it is. -/
def smallI : List Int := (List.range 12).map fun (k : Nat) => (k : Int) - 4
def valsL : List (List Int) := [[]] ++ smallI.map (fun a => [a]) ++ smallI.flatMap fun a => smallI.map fun b => [a, b]
def combos : List Sta := (List.range 4).flatMap fun (l : Nat) => valsL.map fun v => ⟨l, v⟩
theorem okS_combo {m : Ext} (hm : made m) {s : Sta} (h : okS m s) : s ∈ combos := by
  have hl := (okS_bounds (made_right hm) h).2.2.2.1
  have hlo := hm.lo
  have h0 := h.1
  have hv2 := hm.vl
  have sm : ∀ i (hi : i < s.vals.length), s.vals[i] ∈ smallI := by
    intro i hi
    obtain ⟨_, h1, h2⟩ := okS_val hm h i (by omega)
    have h3 := (hm.v _ (List.getElem_mem (show i < m.vars.length by omega)))
    have := h3.lo
    have := h3.hi
    have h4 := within_get h.2 i (by omega) hi
    unfold smallI
    rw [List.mem_map]
    exact ⟨(s.vals[i] + 4).toNat, List.mem_range.2 (by omega), by omega⟩
  unfold combos
  rw [List.mem_flatMap]
  refine ⟨s.loc.toNat, List.mem_range.2 (by omega), ?_⟩
  rw [List.mem_map]
  refine ⟨s.vals, ?_, by cases s; simp only at h0 ⊢; congr 1; omega⟩
  unfold valsL
  match hv : s.vals, (show s.vals.length ≤ 2 by omega) with
  | [], _ => simp
  | [a], _ =>
    have h1 := sm 0 (by rw [hv]; simp)
    simp only [hv, List.getElem_cons_zero] at h1
    simp [h1]
  | [a, b], _ =>
    have h1 := sm 0 (by rw [hv]; simp)
    have h2 := sm 1 (by rw [hv]; simp)
    simp only [hv, List.getElem_cons_zero, List.getElem_cons_succ] at h1 h2
    simp [h1, h2]
/-- One event, where there is no limit. -/
def vt (m : Ext) (i : Nat) (s : Sta) (ev : Int) (S : Srch) : Srch :=
  let n := stepR m s ev
  let S1 : Srch := if n.2.2 ≠ 0 ∧ S.kind = 0 then { S with kind := n.2.2, flt := (i, ev) } else S
  if n.2.1 = false ∨ n.1 ∈ S.sts then S1 else { S1 with sts := S1.sts ++ [n.1], frm := S1.frm ++ [((i : Int), ev)] }
/- What one event does to words. -/
end Go.AI


/- Sketched automata unfolded: what is known of the result, in plain data. -/
namespace Go.AI
set_option maxRecDepth 20000
theorem okS_ck {m : Ext} (hm : made m) {s : Sta} (h : okS m s) : ckS m s = 0 := by
  have hl := (okS_bounds (made_right hm) h).2.2.2.1
  unfold ckS
  rw [made_chk hm, if_neg (by simp), if_neg (by have := h.1; omega), if_neg (by rw [hl]; simp), if_neg (by rw [h.2]; simp)]
/-- The key says which state it is. -/
def decF (l : List UInt8) : List Int :=
  (l.foldl (fun (x : List Int × Bool × Int) c =>
    if c = 32 then (x.1 ++ [if x.2.1 then -x.2.2 else x.2.2], false, 0) else if c = 59 then x else if c = 45 then (x.1, true, x.2.2) else (x.1, x.2.1, x.2.2 * 10 + ((c.toNat : Int) - 48))) ([], false, 0)).1
def decK (b : ByteArray) : Sta := match decF b.data.toList with
  | [] => zeroS
  | l :: v => ⟨l, v⟩
theorem combos_key : (combos.all fun s => decide (decK (fkey s) = s)) = true := by kernel_rfl
theorem beq_bytes {a b : ByteArray} : (a == b) = true ↔ a = b := by
  constructor
  · intro h
    have h' : (a.data == b.data) = true := h
    exact ByteArray.ext (by simpa using h')
  · rintro rfl
    show (a.data == a.data) = true
    simp
theorem keq_made {m : Ext} (hm : made m) {s t : Sta} (hs : okS m s) (ht : okS m t) : keq s t = eqB s t := by
  have h1 := of_decide_eq_true (List.all_eq_true.1 combos_key s (okS_combo hm hs))
  have h2 := of_decide_eq_true (List.all_eq_true.1 combos_key t (okS_combo hm ht))
  by_cases h : s = t
  · subst h
    have : keq s s = true := beq_bytes.2 rfl
    rw [this]; simp [eqB]
  · have : keq s t = false := by
      cases hk : keq s t with
      | false => rfl
      | true =>
        have e : fkey s = fkey t := beq_bytes.1 hk
        exact absurd (by rw [← h1, ← h2, e]) h
    rw [this]; simp [eqB, h]
theorem fin_made {m : Ext} (hm : made m) : Fin1 (stpR m) keq true (okS m) :=
  ⟨fun s ev h hp => stp_okS (made_right hm) h hp, fun s t hs ht => keq_made hm hs ht, fun _ l h1 h2 => by have := few_states hm h1 h2; omega⟩
abbrev mkdM (m : Ext) (s : Sta) : Bool := decide (s.loc ∈ m.marked)
theorem unf_made {m : Ext} (hm : made m) : (∃ e, unfoldR m = .error e ∧ UBad m.alpha (okS m) (stpR m) e) ∨ ∃ V, unfoldR m = .ok V ∧ UAt (mkdM m) m.alpha (okS m) (stpR m) V.sts.length V := by
  unfold unfoldR
  rw [made_chk hm, if_neg (by simp)]
  exact unfR_spec (mkdM m) (fin_made hm) (start_ok (made_right hm)) (B := 64) (fun l h1 h2 => few_states hm h1 h2) (by decide)
/-- Where a state is, in a list. -/
theorem findIx_first {α : Type} {p : α → Bool} : ∀ {l : List α} {i k : Nat} (h : k < l.length), (∀ j (h' : j < k), p (l[j]'(by omega)) = false) → p l[k] = true → findIx p l i = ((i + k : Nat) : Int)
  | [], _, _, h, _, _ => by cases h
  | x :: r, i, 0, h, _, hp => by
    simp only [List.getElem_cons_zero] at hp
    simp [findIx, hp]
  | x :: r, i, k + 1, h, hn, hp => by
    have h0 := hn 0 (by omega)
    simp only [List.getElem_cons_zero] at h0
    simp only [findIx, h0]
    rw [if_neg (by simp), findIx_first (l := r) (i := i + 1) (k := k) (by simpa using h) (fun j hj => by
      have := hn (j + 1) (by omega)
      simpa using this) (by simpa using hp)]
    congr 1
    omega
theorem findIx_no {α : Type} {p : α → Bool} : ∀ {l : List α} {i : Nat}, (∀ x ∈ l, p x = false) → findIx p l i = -1
  | [], _, _ => rfl
  | x :: r, i, h => by
    simp only [findIx, h x (by simp)]
    rw [if_neg (by simp)]
    exact findIx_no fun y hy => h y (by simp [hy])
theorem loc_self {l r : List Sta} (hn : l.Nodup) {k : Nat} (h : k < l.length) : findIx (fun x => decide (x = l[k])) (l ++ r) 0 = (k : Int) := by
  rw [findIx_first (k := k) (by rw [List.length_append]; omega)]
  · simp
  · intro j hj
    have hjl : j < l.length := by omega
    rw [List.getElem_append_left hjl]
    simp only [decide_eq_false_iff_not]
    intro e
    have := (List.pairwise_iff_getElem.1 hn) j k hjl h hj
    exact this e
  · rw [List.getElem_append_left h]
    simp
theorem ckAll_ok {m : Ext} {l : List Sta} (h : ∀ s ∈ l, ckS m s = 0) : ckAll m l = 0 := by
  induction l with
  | nil => rfl
  | cons s r ih =>
    simp only [ckAll]
    rw [h s (by simp), if_neg (by simp)]
    exact ih fun t ht => h t (by simp [ht])
end Go.AI


/- flatten.Locate and Where on own lists. -/
namespace Go.AI
open Go.Proofs
set_option maxRecDepth 20000
theorem indexFunc112o (O : List Heap) (l : List Sta) (L : Nat) (xs : List (List I)) (hL : L = l.length) (hxs : xs = l.map staI) (e w : Nat) (ho : objAt O e w = some (.arr 111 2 L xs true)) (f : Nat) (d nm : Nat) (p : Sta → Bool) (hl : l.length ≤ max63) (hp : ∀ x ∈ l, ASpec Tryd.prog f [staD x, .own (d + 1) nm 0 0] ([] :: O) (bb (p x)) [] ([] :: O)) :
    ASpec Tryd.prog 112 [.osl e w, .fn (.func f) [] [.own d nm 0 0]] O (ii (findIx p l 0)) [] O := by
  subst hL hxs
  have hO : ∀ H, objAt (H :: O) (e + 1) w = some (.arr 111 2 l.length (l.map staI) true) := fun H => up_obj ho
  generalize hR : findIx p l 0 = R
  refine aspec_intro Tk Tryd.func112 rfl Tryd.call112 Tryd.ntmps112 (Nat.le_of_ble_eq_true rfl) fun E => ?_
  refine g_run Tk Tryd.func112 ?_
  first | refine g_obj Tk Tryd.func112 (hO _) ?_ | refine s_obj Tk (hO _) ?_
  refine g_loop ?_
  refine rch_loop2 (fun i : Nat => [(0, .osl (e + 1) w), (1, .fn (.func f) [] [.own (d + 1) nm 0 0]), (7, ii l.length), (8, ii i)]) (fun _ => []) (fun _ => O) 19
    (fun i => i ≤ l.length ∧ findIx p (l.drop i) i = R) (fun i => l.length - i) 0 ⟨Nat.zero_le _, hR⟩ ⟨rfl, rfl, rfl, rfl, trivial⟩ rfl trivial rfl rfl ?_
  rintro i ⟨hi, hno⟩ ih
  clear hR
  refine g_run Tk Tryd.func112 ?_
  first | refine g_cnd Tk Tryd.func112 rfl (fun g1 => ?_) (fun g1 => ?_) | refine g_know Tk Tryd.func112 rfl (fun g1 => ?_) (fun g1 => ?_) | refine s_know Tk (fun g1 => ?_) (fun g1 => ?_)
  · have h1 : i < l.length := by simpa using g1
    have gs : (l.map staI)[(i : Int).toNat]? = some (staI l[i]) := get_mapZ h1
    have hps := hp l[i] (List.getElem_mem h1)
    have hd : l.drop i = l[i] :: l.drop (i + 1) := List.drop_eq_getElem_cons h1
    rw [hd] at hno
    simp only [findIx] at hno
    clear hd
    generalize l[i] = s at *
    first | refine g_obj Tk Tryd.func112 (hO _) ?_ | refine s_obj Tk (hO _) ?_
    first | refine g_need Tk Tryd.func112 (by exact ⟨by omega, by show (i : Int) < (l.length : Int); omega⟩) ?_ | refine s_need Tk (by exact ⟨by omega, by show (i : Int) < (l.length : Int); omega⟩) ?_
    first | refine g_obj Tk Tryd.func112 (hO _) ?_ | refine s_obj Tk (hO _) ?_
    first | refine g_elem Tk Tryd.func112 (gs) ?_ | refine s_elem Tk (gs) ?_
    first | refine g_call Tk Tryd.func112 (hps) rfl rfl rfl rfl rfl ?_ | refine s_callq Tk (fun _ => hps) rfl rfl rfl ?_
    first | refine g_cnd Tk Tryd.func112 rfl (fun g2 => ?_) (fun g2 => ?_) | refine g_know Tk Tryd.func112 rfl (fun g2 => ?_) (fun g2 => ?_) | refine s_know Tk (fun g2 => ?_) (fun g2 => ?_)
    · rw [if_pos g2] at hno
      subst hno
      refine g_ret Tk (r := ii (i : Int)) rfl rfl rfl trivial rfl rfl ?_
      rfl
    · rw [if_neg (by rw [g2]; simp)] at hno
      refine g_loop ?_
      exact ih (i + 1) _ _ ⟨h1, hno⟩ (by omega) ⟨rfl, rfl, rfl, congrArg ii (wsucc h1 hl), trivial⟩ rfl trivial rfl rfl
  · have h1 : l.length ≤ i := by simpa using g1
    rw [List.drop_eq_nil_of_le h1] at hno
    simp only [findIx] at hno
    subst hno
    refine g_ret Tk (r := ii (-1)) rfl rfl rfl trivial rfl rfl ?_
    rfl
theorem locate51o (O : List Heap) (l : List Sta) (L : Nat) (xs : List (List I)) (hL : L = l.length) (hxs : xs = l.map staI) (e w : Nat) (ho : objAt O e w = some (.arr 111 2 L xs true)) (s : Sta) (hl : l.length ≤ 1000000) (hv : ∀ x ∈ l, x.vals.length ≤ max63) :
    ASpec Tryd.prog 51 [.osl e w, staD s] O (.tup [ii (max (findIx (fun x => decide (x = s)) l 0) 0), bb (decide (findIx (fun x => decide (x = s)) l 0 ≥ 0))]) [] O := by
  have h := fun O d nm ho1 ho2 => indexFunc112o O l L xs hL hxs (e + 1) w ho2 113 d nm (fun x => decide (x = s)) (by simp only [max63]; omega) (fun x hx => loc113 _ x s (d + 1) nm (up_obj ho1) (hv x hx))
  obtain ⟨sl, sv⟩ := s
  refine aspec_intro Tk Tryd.func51 rfl Tryd.call51 Tryd.ntmps51 (Nat.le_of_ble_eq_true rfl) fun E => ?_
  refine g_run Tk Tryd.func51 ?_
  first | refine g_call Tk Tryd.func51 (h _ 0 3 rfl (up_obj ho)) rfl rfl rfl rfl rfl ?_ | refine s_callq Tk (fun _ => h _ 0 3 rfl (up_obj ho)) rfl rfl rfl ?_
  generalize findIx (fun x => decide (x = ⟨sl, sv⟩)) l 0 = R at *
  have e : max R 0 = if 0 > R then 0 else R := by omega
  rw [e]
  refine g_ret Tk (r := .tup [ii (if 0 > R then 0 else R), bb (decide (R ≥ 0))]) rfl rfl rfl trivial rfl rfl ?_
  rfl
/-- Where the first state is wrong. -/
theorem where52o (O : List Heap) (m : Ext) (sl : Int) (r : Int) (x : Ex) (L : Nat) (xs : List (List I)) (hL : 0 < L) (hxs : xs[0]? = some [vi sl, .v (.slice none 0 0)]) (e w : Nat) (ho : objAt O e w = some (.arr 111 2 L xs true)) (hok : extOk m) (hc : chk m = 0) (hs : ckS m ⟨sl, []⟩ = r) (hr : r ≠ 0) : ASpec Tryd.prog 52 [extD m, .osl e w, exA x] O (.tup [ints [], ii r]) [] O := by
  have hO : ∀ H, objAt (H :: O) (e + 1) w = some (.arr 111 2 L xs true) := fun H => up_obj ho
  have hck := fun O => check40 O m hok
  rw [hc] at hck
  have hcs := fun O => checkState28 O m ⟨sl, []⟩ hok
  rw [hs] at hcs
  have hcs := fun O => ASpec.co (hcs O) (.cons (CoD.refl (extD m)) (.cons (coD_agg (.cons (CoD.refl (ii sl)) (.cons (coD_i coI_nil) .nil))) .nil))
  refine aspec_intro Tk Tryd.func52 rfl Tryd.call52 Tryd.ntmps52 (Nat.le_of_ble_eq_true rfl) fun E => ?_
  refine g_run Tk Tryd.func52 ?_
  first | refine g_call Tk Tryd.func52 (hck _) rfl rfl rfl rfl rfl ?_ | refine s_callq Tk (fun _ => hck _) rfl rfl rfl ?_
  repeat (first | refine g_cnd Tk Tryd.func52 rfl (fun _ => ?_) (fun h => absurd h (by decide)) | refine g_know Tk Tryd.func52 rfl (fun _ => ?_) (fun h => absurd h (by decide)) | refine s_know Tk (fun _ => ?_) (fun h => absurd h (by decide)) | refine g_cnd Tk Tryd.func52 rfl (fun h => absurd h (by decide)) (fun _ => ?_) | refine g_know Tk Tryd.func52 rfl (fun h => absurd h (by decide)) (fun _ => ?_) | refine s_know Tk (fun h => absurd h (by decide)) (fun _ => ?_) | refine g_cnd Tk Tryd.func52 rfl (fun _ => ?_) (fun h => absurd (show true = false from h) (by decide)) | refine g_know Tk Tryd.func52 rfl (fun _ => ?_) (fun h => absurd (show true = false from h) (by decide)) | refine s_know Tk (fun _ => ?_) (fun h => absurd (show true = false from h) (by decide)) | refine g_cnd Tk Tryd.func52 rfl (fun h => absurd (show false = true from h) (by decide)) (fun _ => ?_) | refine g_know Tk Tryd.func52 rfl (fun h => absurd (show false = true from h) (by decide)) (fun _ => ?_) | refine s_know Tk (fun h => absurd (show false = true from h) (by decide)) (fun _ => ?_))
  first | refine g_obj Tk Tryd.func52 (hO _) ?_ | refine s_obj Tk (hO _) ?_
  refine g_loop ?_
  refine rch_loop2 (fun i : Nat => [(1, .osl (e + 1) w), (3, .own 0 3 0 0), (5, .own 0 5 0 0), (24, .osl (e + 1) w), (25, ii L), (26, ii i)]) (fun _ => [(3, .box (extC m)), (5, .box [ii x.op, ii x.vl, ii x.ix, exs x.args])]) (fun _ => O) 75
    (fun i => i = 0) (fun i => 0) 0 rfl ⟨rfl, rfl, rfl, rfl, rfl, rfl, trivial⟩ rfl ⟨rfl, rfl, trivial⟩ rfl rfl ?_
  rintro i hi _
  subst hi
  refine g_run Tk Tryd.func52 ?_
  first | refine g_cnd Tk Tryd.func52 rfl (fun g1 => ?_) (fun g1 => ?_) | refine g_know Tk Tryd.func52 rfl (fun g1 => ?_) (fun g1 => ?_) | refine s_know Tk (fun g1 => ?_) (fun g1 => ?_)
  · first | refine g_obj Tk Tryd.func52 (hO _) ?_ | refine s_obj Tk (hO _) ?_
    first | refine g_need Tk Tryd.func52 (by exact ⟨by decide, by show ((0 : Nat) : Int) < (L : Int); omega⟩) ?_ | refine s_need Tk (by exact ⟨by decide, by show ((0 : Nat) : Int) < (L : Int); omega⟩) ?_
    first | refine g_obj Tk Tryd.func52 (hO _) ?_ | refine s_obj Tk (hO _) ?_
    first | refine g_elem Tk Tryd.func52 (hxs) ?_ | refine s_elem Tk (hxs) ?_
    first | refine g_call Tk Tryd.func52 (hcs _) rfl rfl rfl rfl rfl ?_ | refine s_callq Tk (fun _ => hcs _) rfl rfl rfl ?_
    first | refine g_cnd Tk Tryd.func52 rfl (fun g2 => ?_) (fun g2 => ?_) | refine g_know Tk Tryd.func52 rfl (fun g2 => ?_) (fun g2 => ?_) | refine s_know Tk (fun g2 => ?_) (fun g2 => ?_)
    · refine g_ret_co Tk (r := _) rfl rfl rfl trivial rfl rfl ?_
      exact coNil2
    · exact absurd (bneF g2) hr
  · have : ¬ ((0 : Nat) : Int) < (L : Int) := of_decide_eq_false g1
    omega
end Go.AI


/- FlattenFinds. -/
namespace Go.AI
open Go.Proofs
set_option maxRecDepth 20000
set_option maxHeartbeats 4000000 in
theorem finds11 {g : Nat} (hg : IsTab g) {ty : TypeId} {fr : Nat × Nat} (O : List Heap) (k : Sk) (n : Int) (bs : List Int) (hk : skOk k) (hn : 0 ≤ n ∧ n ≤ 255) (hb : byteOk bs) (hl : bs.length ≤ max63) : ASpecT g (ptab ty fr) Tryd.prog 11 [skD k, u8D n, byts bs] O (bb true) [] O := by
  have hkn := fun O => known48 hg (ty := ty) (fr := fr) O
  have hmk := fun O => make16 O k hk
  have hm := make_made hk
  generalize makeR k = m at *
  have hok := made_ok hm
  have hr := made_right hm
  have hun := fun O => Unfold50 hg (ty := ty) (fr := fr) O m hok
  rcases unf_made hm with ⟨e, he, he0, _⟩ | ⟨V, hV, hA⟩
  · rw [he] at hun
    refine aspecT_stop [] Tk Tryd.func11 rfl Tryd.call11 Tryd.ntmps11 (Nat.le_of_ble_eq_true rfl) fun E hE => ?_
    refine g_run Tk Tryd.func11 ?_
    refine g_callT Tk Tryd.func11 hE (hkn _) rfl rfl rfl rfl rfl rfl ?_
    repeat (first | refine g_cnd Tk Tryd.func11 rfl (fun _ => ?_) (fun h => absurd h (by decide)) | refine g_know Tk Tryd.func11 rfl (fun _ => ?_) (fun h => absurd h (by decide)) | refine s_know Tk (fun _ => ?_) (fun h => absurd h (by decide)) | refine g_cnd Tk Tryd.func11 rfl (fun h => absurd h (by decide)) (fun _ => ?_) | refine g_know Tk Tryd.func11 rfl (fun h => absurd h (by decide)) (fun _ => ?_) | refine s_know Tk (fun h => absurd h (by decide)) (fun _ => ?_) | refine g_cnd Tk Tryd.func11 rfl (fun _ => ?_) (fun h => absurd (show true = false from h) (by decide)) | refine g_know Tk Tryd.func11 rfl (fun _ => ?_) (fun h => absurd (show true = false from h) (by decide)) | refine s_know Tk (fun _ => ?_) (fun h => absurd (show true = false from h) (by decide)) | refine g_cnd Tk Tryd.func11 rfl (fun h => absurd (show false = true from h) (by decide)) (fun _ => ?_) | refine g_know Tk Tryd.func11 rfl (fun h => absurd (show false = true from h) (by decide)) (fun _ => ?_) | refine s_know Tk (fun h => absurd (show false = true from h) (by decide)) (fun _ => ?_))
    first | refine g_call Tk Tryd.func11 (hmk _) rfl rfl rfl rfl rfl ?_ | refine s_callq Tk (fun _ => hmk _) rfl rfl rfl ?_
    refine g_callT Tk Tryd.func11 hE (hun _) rfl rfl rfl rfl rfl rfl ?_
    first | refine g_cnd Tk Tryd.func11 rfl (fun h1 => ?_) (fun h1 => ?_) | refine g_know Tk Tryd.func11 rfl (fun h1 => ?_) (fun h1 => ?_) | refine s_know Tk (fun h1 => ?_) (fun h1 => ?_)
    · repeat (first | refine g_cnd Tk Tryd.func11 rfl (fun _ => ?_) (fun h => absurd h (by decide)) | refine g_know Tk Tryd.func11 rfl (fun _ => ?_) (fun h => absurd h (by decide)) | refine s_know Tk (fun _ => ?_) (fun h => absurd h (by decide)) | refine g_cnd Tk Tryd.func11 rfl (fun h => absurd h (by decide)) (fun _ => ?_) | refine g_know Tk Tryd.func11 rfl (fun h => absurd h (by decide)) (fun _ => ?_) | refine s_know Tk (fun h => absurd h (by decide)) (fun _ => ?_) | refine g_cnd Tk Tryd.func11 rfl (fun _ => ?_) (fun h => absurd (show true = false from h) (by decide)) | refine g_know Tk Tryd.func11 rfl (fun _ => ?_) (fun h => absurd (show true = false from h) (by decide)) | refine s_know Tk (fun _ => ?_) (fun h => absurd (show true = false from h) (by decide)) | refine g_cnd Tk Tryd.func11 rfl (fun h => absurd (show false = true from h) (by decide)) (fun _ => ?_) | refine g_know Tk Tryd.func11 rfl (fun h => absurd (show false = true from h) (by decide)) (fun _ => ?_) | refine s_know Tk (fun h => absurd (show false = true from h) (by decide)) (fun _ => ?_))
      refine g_ret Tk (r := bb (e != 0)) rfl rfl rfl trivial rfl rfl ?_
      simp [he0]
    · have h1 : (e != 0) = false := by simpa using h1
      exact absurd (bneF h1) he0
  rw [hV] at hun
  obtain ⟨sts, mkl, eds⟩ := V
  have h64 : sts.length ≤ 64 := few_states hm hA.ok hA.nd
  have hpos : 0 < sts.length := hA.pos
  have hnd : sts.Nodup := hA.nd
  have hoks : ∀ s ∈ sts, okS m s := hA.ok
  clear hA hV
  have hun : ∀ O, ASpecT g (ptab ty fr) Tryd.prog 50 [extD m] O (.tup [.agg [ints m.alpha, ii (sts.length : Nat), ints mkl, edgs eds], stasD sts, ii 0]) [] O := hun
  refine aspecT_stop [20, 22, 24] Tk Tryd.func11 rfl Tryd.call11 Tryd.ntmps11 (Nat.le_of_ble_eq_true rfl) fun E hE => ?_
  refine g_run Tk Tryd.func11 ?_
  refine g_callT Tk Tryd.func11 hE (hkn _) rfl rfl rfl rfl rfl rfl ?_
  repeat (first | refine g_cnd Tk Tryd.func11 rfl (fun _ => ?_) (fun h => absurd h (by decide)) | refine g_know Tk Tryd.func11 rfl (fun _ => ?_) (fun h => absurd h (by decide)) | refine s_know Tk (fun _ => ?_) (fun h => absurd h (by decide)) | refine g_cnd Tk Tryd.func11 rfl (fun h => absurd h (by decide)) (fun _ => ?_) | refine g_know Tk Tryd.func11 rfl (fun h => absurd h (by decide)) (fun _ => ?_) | refine s_know Tk (fun h => absurd h (by decide)) (fun _ => ?_) | refine g_cnd Tk Tryd.func11 rfl (fun _ => ?_) (fun h => absurd (show true = false from h) (by decide)) | refine g_know Tk Tryd.func11 rfl (fun _ => ?_) (fun h => absurd (show true = false from h) (by decide)) | refine s_know Tk (fun _ => ?_) (fun h => absurd (show true = false from h) (by decide)) | refine g_cnd Tk Tryd.func11 rfl (fun h => absurd (show false = true from h) (by decide)) (fun _ => ?_) | refine g_know Tk Tryd.func11 rfl (fun h => absurd (show false = true from h) (by decide)) (fun _ => ?_) | refine s_know Tk (fun h => absurd (show false = true from h) (by decide)) (fun _ => ?_))
  first | refine g_call Tk Tryd.func11 (hmk _) rfl rfl rfl rfl rfl ?_ | refine s_callq Tk (fun _ => hmk _) rfl rfl rfl ?_
  refine g_callT Tk Tryd.func11 hE (hun _) rfl rfl rfl rfl rfl rfl ?_
  have hw : IntKind.i64.wrap n = n := w64 (by omega) (by omega)
  obtain ⟨ix, hixl, hix⟩ : ∃ ix : Nat, ix < sts.length ∧ (IntKind.i64.wrap n).tmod ((sts.length : Nat) : Int) = (ix : Int) := by
    refine ⟨n.toNat % sts.length, Nat.mod_lt _ hpos, ?_⟩
    rw [hw, Int.tmod_eq_emod_of_nonneg hn.1]
    obtain ⟨k, rfl⟩ : ∃ k : Nat, n = (k : Int) := ⟨n.toNat, by omega⟩
    simp
  have gs : (sts.map staI)[((IntKind.i64.wrap n).tmod ((sts.length : Nat) : Int)).toNat]? = some (staI sts[ix]) := by
    rw [hix]
    exact get_mapZ hixl
  have hs := hoks _ (List.getElem_mem hixl)
  have hloc := loc_self (r := [sts[ix]]) hnd hixl
  have hsv : ∀ s ∈ sts, s.vals.length ≤ max63 := fun s h => by
    have := (okS_bounds hr (hoks s h)).2.2.1
    simp only [max63]; omega
  have hl1 : ∀ O e w, objAt O e w = some (.arr 111 2 (0 + sts.length + 1) ([] ++ (sts.map staI) ++ [staI sts[ix]]) true) → ASpec Tryd.prog 51 [.osl e w, staD sts[ix]] O (.tup [ii (ix : Nat), bb true]) [] O := by
    intro O e w ho
    have h := locate51o O (sts ++ [sts[ix]]) _ _ (by simp) (by simp) e w ho sts[ix] (by rw [List.length_append, List.length_singleton]; omega) (fun x hx => by
      rcases List.mem_append.1 hx with hx | hx
      · exact hsv x hx
      · rw [List.mem_singleton] at hx
        subst hx
        exact hsv _ (List.getElem_mem hixl))
    rw [hloc] at h
    have e0 : max ((ix : Nat) : Int) 0 = (ix : Int) := by omega
    have e3 : decide (((ix : Nat) : Int) ≥ 0) = true := decide_eq_true (by omega)
    rw [e0, e3] at h
    exact h
  have hl2 : ∀ O, ASpec Tryd.prog 51 [stasD sts, .agg [ii (-1), .i (.v (.slice none 0 0))]] O (.tup [ii 0, bb false]) [] O := by
    intro O
    have h := locate51 O sts ⟨-1, []⟩ (by omega) hsv
    rw [findIx_no (fun x hx => by
      simp only [decide_eq_false_iff_not]
      rintro rfl
      have h2 := (hoks _ hx).1
      simp only at h2
      omega)] at h
    have e3 : decide ((-1 : Int) ≥ 0) = false := by decide
    rw [e3] at h
    refine ASpec.co h ?_
    refine .cons (CoD.refl _) (.cons (coD_agg (.cons (CoD.refl _) (.cons (coD_i coI_nil) .nil))) .nil)
  have hsl : 0 ≤ sts[ix].loc := hs.1.1
  generalize sts[ix] = s at *
  obtain ⟨sl, sv⟩ := s
  repeat (first | refine g_cnd Tk Tryd.func11 rfl (fun _ => ?_) (fun h => absurd h (by decide)) | refine g_know Tk Tryd.func11 rfl (fun _ => ?_) (fun h => absurd h (by decide)) | refine s_know Tk (fun _ => ?_) (fun h => absurd h (by decide)) | refine g_cnd Tk Tryd.func11 rfl (fun h => absurd h (by decide)) (fun _ => ?_) | refine g_know Tk Tryd.func11 rfl (fun h => absurd h (by decide)) (fun _ => ?_) | refine s_know Tk (fun h => absurd h (by decide)) (fun _ => ?_) | refine g_cnd Tk Tryd.func11 rfl (fun _ => ?_) (fun h => absurd (show true = false from h) (by decide)) | refine g_know Tk Tryd.func11 rfl (fun _ => ?_) (fun h => absurd (show true = false from h) (by decide)) | refine s_know Tk (fun _ => ?_) (fun h => absurd (show true = false from h) (by decide)) | refine g_cnd Tk Tryd.func11 rfl (fun h => absurd (show false = true from h) (by decide)) (fun _ => ?_) | refine g_know Tk Tryd.func11 rfl (fun h => absurd (show false = true from h) (by decide)) (fun _ => ?_) | refine s_know Tk (fun h => absurd (show false = true from h) (by decide)) (fun _ => ?_))
  first | refine g_cnd Tk Tryd.func11 rfl (fun h1 => ?_) (fun h1 => ?_) | refine g_know Tk Tryd.func11 rfl (fun h1 => ?_) (fun h1 => ?_) | refine s_know Tk (fun h1 => ?_) (fun h1 => ?_)
  · have h1 : ((sts.length : Nat) : Int) = 0 := beqT h1
    omega
  first | refine g_need Tk Tryd.func11 (by show ((sts.length : Nat) : Int) ≠ 0; omega) ?_ | refine s_need Tk (by show ((sts.length : Nat) : Int) ≠ 0; omega) ?_
  first | refine g_need Tk Tryd.func11 (by rw [hix]; exact ⟨by omega, by omega⟩) ?_ | refine s_need Tk (by rw [hix]; exact ⟨by omega, by omega⟩) ?_
  first | refine g_elem Tk Tryd.func11 (gs) ?_ | refine s_elem Tk (gs) ?_
  refine g_drawn Tk Tryd.func11 mixedT rfl ?_
  refine s_old Tk ?_
  refine d_need Tk (by exact ⟨by show (0 + sts.length) * 32 ≤ 140737488355328; omega, by show 0 + sts.length ≤ 9223372036854775807; omega⟩) ?_
  refine d_mod Tk (p := ⟨[(59, .osl 0 59), (57, .dead)], [(59, .arr 111 2 (0 + sts.length) ([] ++ sts.map staI) true)], some 57⟩) rfl rfl rfl ?_
  refine d_need Tk (by exact ⟨by show (0 + sts.length + 1) * 32 ≤ 140737488355328; omega, by show 0 + sts.length + 1 ≤ 9223372036854775807; omega⟩) ?_
  refine d_mod Tk (p := ⟨[(62, .osl 0 62), (59, .dead)], [(62, .arr 111 2 (0 + sts.length + 1) ([] ++ sts.map staI ++ [staI ⟨sl, sv⟩]) true)], some 59⟩) rfl rfl rfl ?_
  refine d_call Tk (hl1 _ 0 62 rfl) rfl rfl rfl rfl ?_
  refine d_done Tk Tryd.func11 (by kernel_rfl) (GM.h ?_)
  first | refine g_call Tk Tryd.func11 (hl2 _) rfl rfl rfl rfl rfl ?_ | refine s_callq Tk (fun _ => hl2 _) rfl rfl rfl ?_
  repeat (first | refine g_cnd Tk Tryd.func11 rfl (fun _ => ?_) (fun h => absurd h (by decide)) | refine g_know Tk Tryd.func11 rfl (fun _ => ?_) (fun h => absurd h (by decide)) | refine s_know Tk (fun _ => ?_) (fun h => absurd h (by decide)) | refine g_cnd Tk Tryd.func11 rfl (fun h => absurd h (by decide)) (fun _ => ?_) | refine g_know Tk Tryd.func11 rfl (fun h => absurd h (by decide)) (fun _ => ?_) | refine s_know Tk (fun h => absurd h (by decide)) (fun _ => ?_) | refine g_cnd Tk Tryd.func11 rfl (fun _ => ?_) (fun h => absurd (show true = false from h) (by decide)) | refine g_know Tk Tryd.func11 rfl (fun _ => ?_) (fun h => absurd (show true = false from h) (by decide)) | refine s_know Tk (fun _ => ?_) (fun h => absurd (show true = false from h) (by decide)) | refine g_cnd Tk Tryd.func11 rfl (fun h => absurd (show false = true from h) (by decide)) (fun _ => ?_) | refine g_know Tk Tryd.func11 rfl (fun h => absurd (show false = true from h) (by decide)) (fun _ => ?_) | refine s_know Tk (fun h => absurd (show false = true from h) (by decide)) (fun _ => ?_))
  first | refine g_need Tk Tryd.func11 (by show ((sts.length : Nat) : Int) ≠ 0; omega) ?_ | refine s_need Tk (by show ((sts.length : Nat) : Int) ≠ 0; omega) ?_
  first | refine g_cnd Tk Tryd.func11 rfl (fun h2 => ?_) (fun h2 => ?_) | refine g_know Tk Tryd.func11 rfl (fun h2 => ?_) (fun h2 => ?_) | refine s_know Tk (fun h2 => ?_) (fun h2 => ?_)
  · exact absurd hix.symm (bneT h2)
  repeat (first | refine g_cnd Tk Tryd.func11 rfl (fun _ => ?_) (fun h => absurd h (by decide)) | refine g_know Tk Tryd.func11 rfl (fun _ => ?_) (fun h => absurd h (by decide)) | refine s_know Tk (fun _ => ?_) (fun h => absurd h (by decide)) | refine g_cnd Tk Tryd.func11 rfl (fun h => absurd h (by decide)) (fun _ => ?_) | refine g_know Tk Tryd.func11 rfl (fun h => absurd h (by decide)) (fun _ => ?_) | refine s_know Tk (fun h => absurd h (by decide)) (fun _ => ?_) | refine g_cnd Tk Tryd.func11 rfl (fun _ => ?_) (fun h => absurd (show true = false from h) (by decide)) | refine g_know Tk Tryd.func11 rfl (fun _ => ?_) (fun h => absurd (show true = false from h) (by decide)) | refine s_know Tk (fun _ => ?_) (fun h => absurd (show true = false from h) (by decide)) | refine g_cnd Tk Tryd.func11 rfl (fun h => absurd (show false = true from h) (by decide)) (fun _ => ?_) | refine g_know Tk Tryd.func11 rfl (fun h => absurd (show false = true from h) (by decide)) (fun _ => ?_) | refine s_know Tk (fun h => absurd (show false = true from h) (by decide)) (fun _ => ?_))
  obtain ⟨hx1, hx2⟩ := grow_typed (vars := (m.vars.length : Int)) (by omega) (by have := hm.vl; omega) false hb
  have hgr : ∀ O, ASpec Tryd.prog 22 [byts bs, ii (m.vars.length : Int), ii 2] O (exA (growE (m.vars.length : Int) false bs)) [] O := fun O => grow46 O bs (m.vars.length : Int) false (by omega) hb hl
  have hxe : ∀ s ∈ sts, (evalX (growE (m.vars.length : Int) false bs) s.vals).2 = 0 ∨ (evalX (growE (m.vars.length : Int) false bs) s.vals).2 = 17 := fun s h => eval_err hm (okS_vals hr (hoks s h)) hx1
  generalize growE (m.vars.length : Int) false bs = x at *
  refine g_call Tk Tryd.func11 (hgr _) rfl rfl rfl rfl rfl ?_
  have hat := fun O => at53 O sts sl (by omega)
  have hwh := fun O => where52 O m sts x hok hx2 (by omega) hsv
  have hW1 : whereR m sts x = whL x sts 0 [] := by
    unfold whereR
    have h := hx1
    unfold typedX at h
    rw [made_chk hm, if_neg (by simp), ckAll_ok (fun s h => okS_ck hm (hoks s h)), if_neg (by simp)]
    split at h
    · cases h
    · rename_i hc
      rw [h, if_neg (by simp), if_neg (by
        intro h'
        exact hc ⟨h, h'⟩)]
  rw [hW1] at hwh
  have hH0 : atL sl sts 0 [] = atL sl (sts.drop 0) 0 [] := rfl
  have hW0 : whL x sts 0 [] = whL x (sts.drop 0) 0 [] := rfl
  clear hW1
  generalize atL sl sts 0 [] = H at *
  generalize whL x sts 0 [] = W at *
  have hw2 : ∀ O, ASpec Tryd.prog 52 [extD m, stasD sts, .agg [ii 0, ii 1, ii 0, .i (.v (.slice none 0 0))]] O (.tup [ints [], ii 16]) [] O := by
    intro O
    have h := where52 O m sts (.mk 0 1 0 []) hok ⟨Nat.zero_le _, trivial⟩ (by omega) hsv
    have hx0 : checkX (.mk 0 1 0 []) (m.vars.length : Int) = (1, 0) := by
      have := hm.vl
      have h3 : m.vars.length = 0 ∨ m.vars.length = 1 ∨ m.vars.length = 2 := by omega
      rcases h3 with h3 | h3 | h3 <;> (rw [h3]; decide)
    have hW2 : whereR m sts (.mk 0 1 0 []) = ([], 16) := by
      unfold whereR
      rw [made_chk hm, if_neg (by simp), ckAll_ok (fun s h => okS_ck hm (hoks s h)), if_neg (by simp), hx0]
      rfl
    rw [hW2] at h
    refine ASpec.co h ?_
    refine .cons (CoD.refl _) (.cons (CoD.refl _) (.cons ?_ .nil))
    repeat' (first | refine coD_tup ?_ | refine coD_agg ?_ | refine coD_i ?_ | refine CoDL.cons ?_ ?_ | exact CoDL.nil | exact coI_nil | refine coI_sl ?_ | refine CoLL.cons ?_ ?_ | exact CoLL.nil | refine CoL.cons ?_ ?_ | exact CoL.nil | exact CoI.refl _ | exact CoL.refl _ | exact CoLL.refl _ | exact CoDL.refl _ | exact CoD.refl _)
  have hw3 : ∀ O e w, objAt O e w = some (.arr 111 2 (1 + sts.length) ([[vi m.locs, .v (.slice none 0 0)]] ++ sts.map staI) true) → ASpec Tryd.prog 52 [extD m, .osl e w, exA x] O (.tup [ints [], ii 2]) [] O := by
    intro O e w ho
    refine where52o O m m.locs 2 x _ _ (by omega) rfl e w ho hok (made_chk hm) ?_ (by decide)
    unfold ckS
    rw [made_chk hm, if_neg (by simp), if_pos (.inr (Int.le_refl _))]
  clear hl1 hl2 hgr hkn hmk hloc
  refine g_loop ?_
  refine rch_wk (wk_nil 17 109 3 1 rfl rfl rfl) ?_
  refine rch_wk (wk_nil 18 130 3 1 rfl rfl rfl) ?_
  refine rch_loop2 (fun y : Nat × List Int × List Int × Bool => [(7, .own 0 7 0 0), (9, stasD sts), (11, .own 0 11 0 0), (16, .own 0 16 0 0), (17, .osl 0 109), (18, .osl 0 130), (19, bb y.2.2.2), (20, ii y.1)])
    (fun y => [(7, .box (extC m)), (11, .box [ii sl, ints sv]), (16, .box [ii x.op, ii x.vl, ii x.ix, exs x.args]), (109, oints y.2.1), (130, oints y.2.2.1)]) (fun _ => O) 188
    (fun y => y.1 ≤ sts.length ∧ y.2.1.length ≤ y.1 ∧ y.2.2.1.length ≤ y.1 ∧ H = atL sl (sts.drop y.1) y.1 y.2.1 ∧ (y.2.2.2 = true → W = whL x (sts.drop y.1) y.1 y.2.2.1) ∧ (y.2.2.2 = false → W = ([], 17))) (fun y => sts.length - y.1) (0, [], [], true)
    ⟨Nat.zero_le _, Nat.le_refl _, Nat.le_refl _, hH0, fun _ => hW0, fun h => by cases h⟩ ⟨rfl, rfl, rfl, rfl, rfl, rfl, rfl, rfl, trivial⟩ rfl ⟨rfl, rfl, rfl, rfl, rfl, trivial⟩ rfl rfl ?_
  clear hH0 hW0
  rintro ⟨i, here, want, fine⟩ ⟨hi, hh, hwl, hH, hWt, hWf⟩ ih
  simp only at hi hh hwl hH hWt hWf
  refine g_run Tk Tryd.func11 ?_
  first | refine g_cnd Tk Tryd.func11 rfl (fun g1 => ?_) (fun g1 => ?_) | refine g_know Tk Tryd.func11 rfl (fun g1 => ?_) (fun g1 => ?_) | refine s_know Tk (fun g1 => ?_) (fun g1 => ?_)
  · have h3 : i < sts.length := by simpa using g1
    clear g1
    have gi : (sts.map staI)[(i : Int).toNat]? = some (staI sts[i]) := get_mapZ h3
    have hd : sts.drop i = sts[i] :: sts.drop (i + 1) := List.drop_eq_getElem_cons h3
    have hev := evaluate51A (x := x) (vals := sts[i].vals) (hok := hx2) (hl := hsv _ (List.getElem_mem h3))
    have hee := hxe _ (List.getElem_mem h3)
    rw [hd] at hH hWt
    simp only [atL, whL] at hH hWt
    clear hd
    generalize sts[i] = z at *
    obtain ⟨zl, zv⟩ := z
    simp only at hH hWt hee hev
    generalize evalX x zv = V at *
    obtain ⟨v, ve⟩ := V
    simp only at hH hWt hee hev
    have hi1 : ii (IntKind.i64.wrap ((i : Int) + 1)) = ii ((i + 1 : Nat) : Int) := congrArg ii (wsucc (n := 1000000) (by omega) (by decide))
    have n1 : 0 ≤ (i : Int) ∧ (i : Int) < (sts.length : Int) := by omega
    refine g_drawn Tk Tryd.func11 mixedT rfl ?_
    first | refine g_need Tk Tryd.func11 (by exact n1) ?_ | refine s_need Tk (by exact n1) ?_
    first | refine g_elem Tk Tryd.func11 (gi) ?_ | refine s_elem Tk (gi) ?_
    refine e_done Tk Tryd.func11 (by kernel_rfl) ?_
    generalize hh2 : (if zl = sl then here ++ [(i : Int)] else here) = here2 at hH
    apply join_p (P := True) (s6 := { σ := [(7, .own 0 7 0 0), (9, stasD sts), (11, .own 0 11 0 0), (16, .own 0 16 0 0), (17, .osl 0 109), (18, .osl 0 130), (19, bb fine), (20, ii i)], S := [(7, .box (extC m)), (11, .box [ii sl, ints sv]), (16, .box [ii x.op, ii x.vl, ii x.ix, exs x.args]), (109, oints here2), (130, oints want)] :: O, n := 188 })
    · intro J
      first | refine g_cnd Tk Tryd.func11 rfl (fun c1 => ?_) (fun c1 => ?_) | refine g_know Tk Tryd.func11 rfl (fun c1 => ?_) (fun c1 => ?_) | refine s_know Tk (fun c1 => ?_) (fun c1 => ?_)
      · have c1 : zl = sl := beqT c1
        rw [if_pos c1] at hh2
        subst hh2
        first | refine g_need Tk Tryd.func11 (by exact ⟨by show (here.length + 1) * 8 ≤ 140737488355328; omega, by show here.length + 1 ≤ 9223372036854775807; omega⟩) ?_ | refine s_need Tk (by exact ⟨by show (here.length + 1) * 8 ≤ 140737488355328; omega, by show here.length + 1 ≤ 9223372036854775807; omega⟩) ?_
        refine g_stop ?_
        refine rch_meet (J trivial) ⟨rfl, rfl, rfl, rfl, rfl, rfl, rfl, rfl, trivial⟩ rfl ⟨rfl, rfl, rfl, congrArg some (oints_app here (i : Int)), rfl, trivial⟩ rfl rfl
      · have c1 : zl ≠ sl := beqF c1
        rw [if_neg c1] at hh2
        subst hh2
        refine g_stop ?_
        refine rch_meet (J trivial) ⟨rfl, rfl, rfl, rfl, rfl, rfl, rfl, rfl, trivial⟩ rfl ⟨rfl, rfl, rfl, rfl, rfl, trivial⟩ rfl rfl
    · intro _
      have hh3 : here2.length ≤ i + 1 := by rw [← hh2]; split; (rw [List.length_append, List.length_singleton]; omega); omega
      clear hh2
      refine g_run Tk Tryd.func11 ?_
      refine g_go Tk Tryd.func11 ?_
      refine g_drawn Tk Tryd.func11 mixedT rfl ?_
      first | refine g_need Tk Tryd.func11 (by exact n1) ?_ | refine s_need Tk (by exact n1) ?_
      first | refine g_elem Tk Tryd.func11 (gi) ?_ | refine s_elem Tk (gi) ?_
      first | refine g_call Tk Tryd.func11 (hev _) rfl rfl rfl rfl rfl ?_ | refine s_callq Tk (fun _ => hev _) rfl rfl rfl ?_
      refine e_done Tk Tryd.func11 (by kernel_rfl) ?_
      apply join_p (P := True) (s6 := { σ := [(7, .own 0 7 0 0), (9, stasD sts), (11, .own 0 11 0 0), (16, .own 0 16 0 0), (17, .osl 0 109), (18, .osl 0 130), (19, bb (fine && (ve == 0))), (20, ii i), (21, ii v)], S := [(7, .box (extC m)), (11, .box [ii sl, ints sv]), (16, .box [ii x.op, ii x.vl, ii x.ix, exs x.args]), (109, oints here2), (130, oints want)] :: O, n := 188 })
      · intro J
        first | refine g_cnd Tk Tryd.func11 rfl (fun c2 => ?_) (fun c2 => ?_) | refine g_know Tk Tryd.func11 rfl (fun c2 => ?_) (fun c2 => ?_) | refine s_know Tk (fun c2 => ?_) (fun c2 => ?_)
        · subst c2
          refine g_stop ?_
          refine rch_meet (J trivial) ⟨rfl, rfl, rfl, rfl, rfl, rfl, rfl, rfl, rfl, trivial⟩ rfl ⟨rfl, rfl, rfl, rfl, rfl, trivial⟩ rfl rfl
        · subst c2
          refine g_stop ?_
          refine rch_meet (J trivial) ⟨rfl, rfl, rfl, rfl, rfl, rfl, rfl, rfl, rfl, trivial⟩ rfl ⟨rfl, rfl, rfl, rfl, rfl, trivial⟩ rfl rfl
      · intro _
        have hT : ∀ w2, w2 = (if v = 1 then want ++ [(i : Int)] else want) → ((fine && (ve == 0)) = true → W = whL x (sts.drop (i + 1)) (i + 1) w2) ∧ ((fine && (ve == 0)) = false → W = ([], 17)) := by
          rintro w2 rfl
          refine ⟨fun h => ?_, fun h => ?_⟩
          · rw [Bool.and_eq_true] at h
            have h0 : ve = 0 := by simpa using h.2
            rw [hWt h.1, if_neg (by simp [h0])]
          · rw [Bool.and_eq_false_iff] at h
            rcases Bool.eq_false_or_eq_true fine with hf | hf
            · have h0 : ve ≠ 0 := by
                rcases h with h | h
                · rw [hf] at h; cases h
                · simpa using h
              rw [hWt hf, if_pos h0]
              rcases hee with h' | h'
              · exact absurd h' h0
              · rw [h']
            · exact hWf hf
        clear hWt hWf
        refine g_run Tk Tryd.func11 ?_
        refine g_go Tk Tryd.func11 ?_
        first | refine g_cnd Tk Tryd.func11 rfl (fun c3 => ?_) (fun c3 => ?_) | refine g_know Tk Tryd.func11 rfl (fun c3 => ?_) (fun c3 => ?_) | refine s_know Tk (fun c3 => ?_) (fun c3 => ?_)
        · have c3 : v = 1 := beqT c3
          rw [if_pos c3] at hT
          have hT := hT _ rfl
          first | refine g_need Tk Tryd.func11 (by exact ⟨by show (want.length + 1) * 8 ≤ 140737488355328; omega, by show want.length + 1 ≤ 9223372036854775807; omega⟩) ?_ | refine s_need Tk (by exact ⟨by show (want.length + 1) * 8 ≤ 140737488355328; omega, by show want.length + 1 ≤ 9223372036854775807; omega⟩) ?_
          refine g_loop ?_
          exact ih (i + 1, here2, want ++ [(i : Int)], fine && (ve == 0)) _ _ ⟨h3, by simp only; omega, by simp only [List.length_append, List.length_singleton]; omega, hH, hT.1, hT.2⟩ (by simp only; omega) ⟨rfl, rfl, rfl, rfl, rfl, rfl, rfl, hi1, trivial⟩ rfl ⟨rfl, rfl, rfl, rfl, congrArg some (oints_app want (i : Int)), trivial⟩ rfl rfl
        · have c3 : v ≠ 1 := beqF c3
          rw [if_neg c3] at hT
          have hT := hT _ rfl
          refine g_loop ?_
          exact ih (i + 1, here2, want, fine && (ve == 0)) _ _ ⟨h3, by simp only; omega, by simp only; omega, hH, hT.1, hT.2⟩ (by simp only; omega) ⟨rfl, rfl, rfl, rfl, rfl, rfl, rfl, hi1, trivial⟩ rfl ⟨rfl, rfl, rfl, rfl, rfl, trivial⟩ rfl rfl
  clear ih
  have h3 : sts.length ≤ i := by simpa using g1
  rw [List.drop_eq_nil_of_le h3] at hH hWt
  simp only [atL, whL] at hH hWt
  subst hH
  refine g_stop ?_
  refine rch_wk (wk_freeze 109 rfl rfl) ?_
  refine rch_wk (wk_freeze 130 rfl rfl) ?_
  refine g_run Tk Tryd.func11 ?_
  refine g_go Tk Tryd.func11 ?_
  first | refine g_call Tk Tryd.func11 (hwh _) rfl rfl rfl rfl rfl ?_ | refine s_callq Tk (fun _ => hwh _) rfl rfl rfl ?_
  first | refine g_call Tk Tryd.func11 (hw2 _) rfl rfl rfl rfl rfl ?_ | refine s_callq Tk (fun _ => hw2 _) rfl rfl rfl ?_
  refine g_drawn Tk Tryd.func11 mixedT rfl ?_
  refine s_old Tk ?_
  refine d_need Tk (by exact ⟨by show (1 + sts.length) * 32 ≤ 140737488355328; omega, by show 1 + sts.length ≤ 9223372036854775807; omega⟩) ?_
  refine d_mod Tk (p := ⟨[(152, .osl 0 152), (150, .dead)], [(152, .arr 111 2 (1 + sts.length) ([[vi m.locs, .v (.slice none 0 0)]] ++ sts.map staI) true)], some 150⟩) rfl rfl rfl ?_
  refine d_call Tk (hw3 _ 0 152 rfl) rfl rfl rfl rfl ?_
  refine d_done Tk Tryd.func11 (by kernel_rfl) (GM.h ?_)
  have hsH : ∀ O, ASpec Tryd.prog 36 [ints H, ints H] O (bb true) [] O := fun O => by
    have h := sameInts36 O H H (by simp only [max63]; omega)
    rwa [decide_eq_true rfl] at h
  first | refine g_call Tk Tryd.func11 (hat _) rfl rfl rfl rfl rfl ?_ | refine s_callq Tk (fun _ => hat _) rfl rfl rfl ?_
  first | refine g_call Tk Tryd.func11 (hsH _) rfl rfl rfl rfl rfl ?_ | refine s_callq Tk (fun _ => hsH _) rfl rfl rfl ?_
  repeat (first | refine g_cnd Tk Tryd.func11 rfl (fun _ => ?_) (fun h => absurd h (by decide)) | refine g_know Tk Tryd.func11 rfl (fun _ => ?_) (fun h => absurd h (by decide)) | refine s_know Tk (fun _ => ?_) (fun h => absurd h (by decide)) | refine g_cnd Tk Tryd.func11 rfl (fun h => absurd h (by decide)) (fun _ => ?_) | refine g_know Tk Tryd.func11 rfl (fun h => absurd h (by decide)) (fun _ => ?_) | refine s_know Tk (fun h => absurd h (by decide)) (fun _ => ?_) | refine g_cnd Tk Tryd.func11 rfl (fun _ => ?_) (fun h => absurd (show true = false from h) (by decide)) | refine g_know Tk Tryd.func11 rfl (fun _ => ?_) (fun h => absurd (show true = false from h) (by decide)) | refine s_know Tk (fun _ => ?_) (fun h => absurd (show true = false from h) (by decide)) | refine g_cnd Tk Tryd.func11 rfl (fun h => absurd (show false = true from h) (by decide)) (fun _ => ?_) | refine g_know Tk Tryd.func11 rfl (fun h => absurd (show false = true from h) (by decide)) (fun _ => ?_) | refine s_know Tk (fun h => absurd (show false = true from h) (by decide)) (fun _ => ?_))
  cases fine with
  | false =>
    have hW := hWf rfl
    subst hW
    repeat (first | refine g_cnd Tk Tryd.func11 rfl (fun _ => ?_) (fun h => absurd h (by decide)) | refine g_know Tk Tryd.func11 rfl (fun _ => ?_) (fun h => absurd h (by decide)) | refine s_know Tk (fun _ => ?_) (fun h => absurd h (by decide)) | refine g_cnd Tk Tryd.func11 rfl (fun h => absurd h (by decide)) (fun _ => ?_) | refine g_know Tk Tryd.func11 rfl (fun h => absurd h (by decide)) (fun _ => ?_) | refine s_know Tk (fun h => absurd h (by decide)) (fun _ => ?_) | refine g_cnd Tk Tryd.func11 rfl (fun _ => ?_) (fun h => absurd (show true = false from h) (by decide)) | refine g_know Tk Tryd.func11 rfl (fun _ => ?_) (fun h => absurd (show true = false from h) (by decide)) | refine s_know Tk (fun _ => ?_) (fun h => absurd (show true = false from h) (by decide)) | refine g_cnd Tk Tryd.func11 rfl (fun h => absurd (show false = true from h) (by decide)) (fun _ => ?_) | refine g_know Tk Tryd.func11 rfl (fun h => absurd (show false = true from h) (by decide)) (fun _ => ?_) | refine s_know Tk (fun h => absurd (show false = true from h) (by decide)) (fun _ => ?_))
    refine g_ret Tk (r := bb true) rfl rfl rfl trivial rfl rfl ?_
    rfl
  | true =>
    have hW := hWt rfl
    subst hW
    have hsW : ∀ O, ASpec Tryd.prog 36 [ints want, ints want] O (bb true) [] O := fun O => by
      have h := sameInts36 O want want (by simp only [max63]; omega)
      rwa [decide_eq_true rfl] at h
    repeat (first | refine g_cnd Tk Tryd.func11 rfl (fun _ => ?_) (fun h => absurd h (by decide)) | refine g_know Tk Tryd.func11 rfl (fun _ => ?_) (fun h => absurd h (by decide)) | refine s_know Tk (fun _ => ?_) (fun h => absurd h (by decide)) | refine g_cnd Tk Tryd.func11 rfl (fun h => absurd h (by decide)) (fun _ => ?_) | refine g_know Tk Tryd.func11 rfl (fun h => absurd h (by decide)) (fun _ => ?_) | refine s_know Tk (fun h => absurd h (by decide)) (fun _ => ?_) | refine g_cnd Tk Tryd.func11 rfl (fun _ => ?_) (fun h => absurd (show true = false from h) (by decide)) | refine g_know Tk Tryd.func11 rfl (fun _ => ?_) (fun h => absurd (show true = false from h) (by decide)) | refine s_know Tk (fun _ => ?_) (fun h => absurd (show true = false from h) (by decide)) | refine g_cnd Tk Tryd.func11 rfl (fun h => absurd (show false = true from h) (by decide)) (fun _ => ?_) | refine g_know Tk Tryd.func11 rfl (fun h => absurd (show false = true from h) (by decide)) (fun _ => ?_) | refine s_know Tk (fun h => absurd (show false = true from h) (by decide)) (fun _ => ?_))
    first | refine g_call Tk Tryd.func11 (hsW _) rfl rfl rfl rfl rfl ?_ | refine s_callq Tk (fun _ => hsW _) rfl rfl rfl ?_
    repeat (first | refine g_cnd Tk Tryd.func11 rfl (fun _ => ?_) (fun h => absurd h (by decide)) | refine g_know Tk Tryd.func11 rfl (fun _ => ?_) (fun h => absurd h (by decide)) | refine s_know Tk (fun _ => ?_) (fun h => absurd h (by decide)) | refine g_cnd Tk Tryd.func11 rfl (fun h => absurd h (by decide)) (fun _ => ?_) | refine g_know Tk Tryd.func11 rfl (fun h => absurd h (by decide)) (fun _ => ?_) | refine s_know Tk (fun h => absurd h (by decide)) (fun _ => ?_) | refine g_cnd Tk Tryd.func11 rfl (fun _ => ?_) (fun h => absurd (show true = false from h) (by decide)) | refine g_know Tk Tryd.func11 rfl (fun _ => ?_) (fun h => absurd (show true = false from h) (by decide)) | refine s_know Tk (fun _ => ?_) (fun h => absurd (show true = false from h) (by decide)) | refine g_cnd Tk Tryd.func11 rfl (fun h => absurd (show false = true from h) (by decide)) (fun _ => ?_) | refine g_know Tk Tryd.func11 rfl (fun h => absurd (show false = true from h) (by decide)) (fun _ => ?_) | refine s_know Tk (fun h => absurd (show false = true from h) (by decide)) (fun _ => ?_))
    refine g_ret Tk (r := bb true) rfl rfl rfl trivial rfl rfl ?_
    rfl
end Go.AI
