/- The layer of abstract runs, part 43. -/
import Derived.Test.YtonnakcgopcfnaaDoorHazelZP
import Derived.KernelRfl
set_option linter.unusedSimpArgs false
set_option linter.unusedVariables false
set_option linter.all false

/- flatten.unfold for states of an extended automaton. -/
namespace Go.AI
open Go.Proofs
set_option maxRecDepth 20000
abbrev oedgs (l : List Edg) : Ob := .arr 124 3 l.length (l.map edgI) true
theorem oedgs_app (l : List Edg) (e : Edg) : Ob.arr 124 3 (l.length + 1) (l.map edgI ++ [edgI e]) true = oedgs (l ++ [e]) := by simp
theorem ostas_app2 (l : List Sta) (s : Sta) : Ob.arr 111 2 (l.length + 1) (l.map staI ++ [staI s]) true = ostas (l ++ [s]) := by simp
abbrev keq (a b : Sta) : Bool := fkey a == fkey b
/-- What unfold returns: the error or the states. -/
def unfX (m : Ext) (alpha : List Int) (first : Sta) : Except Int (Unf Sta) := unfR keq true (stpR m) (fun s => decide (s.loc ∈ m.marked)) alpha first
def kidx : List Sta → Nat → List (Value × Int)
  | [], _ => []
  | s :: r, i => (.string (fkey s), (i : Int)) :: kidx r (i + 1)
theorem kidx_look (b : ByteArray) : ∀ (l : List Sta) (i : Nat), mlook (kidx l i) (.string b) = if l.findIdx (fun t => b == fkey t) < l.length then some (((i + l.findIdx fun t => b == fkey t : Nat) : Int)) else none
  | [], i => by simp [kidx, mlook]
  | s :: r, i => by
    simp only [kidx, mlook, keyB, List.findIdx_cons]
    cases h : b == fkey s with
    | true => simp
    | false =>
      simp only [cond_false]
      rw [kidx_look b r (i + 1)]
      have e : i + 1 + r.findIdx (fun t => b == fkey t) = i + (r.findIdx (fun t => b == fkey t) + 1) := by omega
      simp only [e, List.length_cons, Nat.add_lt_add_iff_right]
theorem kidx_set {s : Sta} : ∀ (l : List Sta) (i : Nat), ¬ l.findIdx (keq s) < l.length → mset (kidx l i) (.string (fkey s)) ((i + l.length : Nat) : Int) = kidx (l ++ [s]) i
  | [], i, _ => by simp [kidx, mset]
  | t :: r, i, h => by
    rw [List.findIdx_cons] at h
    cases hk : keq s t with
    | true => rw [hk] at h; simp at h
    | false =>
      rw [hk] at h
      simp only [cond_false, List.length_cons, Nat.add_lt_add_iff_right] at h
      have hk' : (fkey s == fkey t) = false := hk
      simp only [List.cons_append, kidx, mset, keyB, hk', cond_false]
      have e : i + (t :: r).length = (i + 1) + r.length := by simp only [List.length_cons]; omega
      rw [e, kidx_set r (i + 1) h]
theorem stp_okS {m : Ext} {s : Sta} {ev : Int} (hr : extRight m) (h : okS m s) (hp : (stpR m s ev).2.1 = true) : okS m (stpR m s ev).1 := by
  unfold stpR at hp ⊢
  split at hp
  · cases hp
  rename_i h1
  rw [if_neg h1]
  split at hp
  · cases hp
  rename_i h2
  rw [if_neg h2]
  exact step_ok hr h hp
theorem okS_key {m : Ext} {s : Sta} (hr : extRight m) (h : okS m s) : keyOk s := by
  have := okS_bounds hr h
  exact ⟨this.1, by omega, this.2.1⟩
theorem uloop_done {σ : Type} {eq : σ → σ → Bool} {lim : Bool} {step : σ → Int → σ × Bool × Int} {mkd : σ → Bool} {alpha : List Int} {U : Unf σ} {i : Nat} (h : U.sts.length ≤ i) : ∀ k, uloop eq lim step mkd alpha k i U = .ok U
  | 0 => rfl
  | k + 1 => by simp only [uloop, List.getElem?_eq_none h]
/-- What the loops know. -/
structure UGood (m : Ext) (U : Unf Sta) : Prop where
  len : U.sts.length ≤ 4096
  ok : ∀ s ∈ U.sts, okS m s
abbrev fnS (d nm : Nat) : D := .fn (.func 107) [] [.own d nm 0 0]
abbrev fnM (d nm : Nat) : D := .fn (.func 109) [] [.own d nm 0 0]
def unfD (alpha : List Int) : Except Int (Unf Sta) → D
  | .error e => .tup [autD ⟨[], 0, [], []⟩, stasD [], ii e]
  | .ok U => .tup [autD ⟨alpha, U.sts.length, U.mkl, U.eds⟩, stasD U.sts, ii 0]
theorem coErr {e : Int} : CoD (.tup [.agg [.i (.v (.slice none 0 0)), ii 0, .i (.v (.slice none 0 0)), .i (.v (.slice none 0 0))], .i (.v (.slice none 0 0)), ii e]) (unfD [] (.error e)) :=
  coD_tup (.cons (coD_agg (.cons (coD_i coI_nil) (.cons (CoD.refl _) (.cons (coD_i coI_nil) (.cons (coD_i coI_nil) .nil))))) (.cons (coD_i coI_nil) (CoDL.refl _)))
set_option maxHeartbeats 4000000 in
theorem unfold111 {g : Nat} (hg : IsTab g) {ty : TypeId} {fr : Nat × Nat} (O : List Heap) (m : Ext) (alpha : List Int) (first : Sta) (d nm : Nat) (ho : objAt O d nm = some (.box (extC m))) (hok : extOk m) (hr : extRight m) (ha : alpha.length ≤ 4096) (hf : okS m first) :
    ASpecT g (ptab ty fr) Tryd.prog 111 [ints alpha, staD first, .fn (.func 105) [] [], fnS d nm, fnM d nm] O (unfD alpha (unfX m alpha first)) [] O := by
  have hO : ∀ H, objAt (H :: O) (d + 1) nm = some (.box (extC m)) := fun H => up_obj ho
  have hno : unfX m alpha first = uloop keq true (stpR m) (fun s => decide (s.loc ∈ m.marked)) alpha (4097 - 0) 0 (unf0 first) := rfl
  generalize unfX m alpha first = R at *
  have hkf := okS_key hr hf
  refine aspecT_stop [9, 23] Tk Tryd.func111 rfl Tryd.call111 Tryd.ntmps111 (Nat.le_of_ble_eq_true rfl) fun E hE => ?_
  refine g_run Tk Tryd.func111 ?_
  refine g_callT Tk Tryd.func111 hE (keyName105 hg _ first hkf) rfl rfl rfl rfl rfl rfl ?_
  refine g_loop ?_
  refine rch_wk (wk_ren 25 95 rfl rfl rfl) ?_
  refine rch_wk (wk_nilbox2 10 47 3 1 (pre := [ints alpha, ii 0]) (post := [.i (.v (.slice none 0 0))]) rfl rfl rfl) ?_
  refine rch_wk (wk_nilbox2 10 103 124 3 (pre := [ints alpha, ii 0, .osl 0 47]) (post := []) rfl rfl rfl) ?_
  refine rch_loop2 (fun x : Nat × Unf Sta => [(0, ints alpha), (2, .fn (.func 105) [] []), (3, fnS (d + 1) nm), (4, fnM (d + 1) nm), (10, .own 0 10 0 0), (11, .osl 0 95), (13, .osl 0 26), (14, ii x.1)])
    (fun x => [(10, .box [ints alpha, ii 0, .osl 0 47, .osl 0 103]), (95, ostas x.2.sts), (47, oints x.2.mkl), (103, oedgs x.2.eds), (26, .mp .str (.i .i64 (kidx x.2.sts 0)))]) (fun _ => O) 111
    (fun x => x.1 ≤ x.2.sts.length ∧ UGood m x.2 ∧ x.2.mkl.length ≤ x.1 ∧ x.2.eds.length ≤ 4096 * x.1 ∧ R = uloop keq true (stpR m) (fun s => decide (s.loc ∈ m.marked)) alpha (4097 - x.1) x.1 x.2) (fun x => 4097 - x.1) (0, unf0 first)
    ⟨Nat.zero_le _, ⟨by simp [unf0], fun s hs => by rw [unf0, List.mem_singleton] at hs; subst hs; exact hf⟩, Nat.le_refl _, Nat.le_refl _, hno⟩ ⟨rfl, rfl, rfl, rfl, rfl, rfl, rfl, rfl, trivial⟩ rfl ⟨rfl, rfl, rfl, rfl, rfl, trivial⟩ rfl rfl ?_
  clear hno
  rintro ⟨i, U⟩ ⟨hi, hgd, hml, hel, hno⟩ ih
  simp only at hi hgd hml hel hno
  refine g_run Tk Tryd.func111 ?_
  first | refine g_cnd Tk Tryd.func111 rfl (fun g1 => ?_) (fun g1 => ?_) | refine g_know Tk Tryd.func111 rfl (fun g1 => ?_) (fun g1 => ?_) | refine s_know Tk (fun g1 => ?_) (fun g1 => ?_)
  · have h1 : i < U.sts.length := by simpa using g1
    clear g1
    have hle := hgd.len
    have hsi : U.sts[i]? = some U.sts[i] := List.getElem?_eq_getElem h1
    have gs : (U.sts.map staI)[(i : Int).toNat]? = some (staI U.sts[i]) := get_mapZ h1
    have hoks := hgd.ok _ (List.getElem_mem h1)
    generalize U.sts[i] = s at *
    have hno : R = match uvisits keq true (stpR m) i s alpha (umark (fun s => decide (s.loc ∈ m.marked)) i s U) with
        | .error e => .error e
        | .ok U' => uloop keq true (stpR m) (fun s => decide (s.loc ∈ m.marked)) alpha (4097 - (i + 1)) (i + 1) U' := by
      rw [hno, show 4097 - i = (4097 - (i + 1)) + 1 by omega]
      simp only [uloop, hsi]
      cases uvisits keq true (stpR m) i s alpha (umark (fun s => decide (s.loc ∈ m.marked)) i s U) <;> rfl
    have hmk := fun H => keyMark109 (H :: O) m s (d + 1) nm (hO H) hok
    obtain ⟨m1, m2⟩ := umark_sts (fun s : Sta => decide (s.loc ∈ m.marked)) i s U
    have hm3 : (umark (fun s : Sta => decide (s.loc ∈ m.marked)) i s U).mkl = if s.loc ∈ m.marked then U.mkl ++ [(i : Int)] else U.mkl := by
      unfold umark
      by_cases h : s.loc ∈ m.marked <;> simp [h]
    generalize umark (fun s : Sta => decide (s.loc ∈ m.marked)) i s U = U1 at *
    obtain ⟨sts, mkl, eds⟩ := U
    obtain ⟨sts1, mkl1, eds1⟩ := U1
    simp only at *
    subst m1 m2
    obtain ⟨sl, sv⟩ := s
    simp only at *
    first | refine g_need Tk Tryd.func111 (by exact ⟨by omega, by show (i : Int) < (sts1.length : Int); omega⟩) ?_ | refine s_need Tk (by exact ⟨by omega, by show (i : Int) < (sts1.length : Int); omega⟩) ?_
    first | refine g_elem Tk Tryd.func111 (gs) ?_ | refine s_elem Tk (gs) ?_
    first | refine g_call Tk Tryd.func111 (hmk _) rfl rfl rfl rfl rfl ?_ | refine s_callq Tk (fun _ => hmk _) rfl rfl rfl ?_
    apply join_p (P := True) (s6 := { σ := [(0, ints alpha), (2, .fn (.func 105) [] []), (3, fnS (d + 1) nm), (4, fnM (d + 1) nm), (10, .own 0 10 0 0), (11, .osl 0 95), (13, .osl 0 26), (14, ii i)], S := [(10, .box [ints alpha, ii 0, .osl 0 47, .osl 0 103]), (95, ostas sts1), (47, oints mkl1), (103, oedgs eds1), (26, .mp .str (.i .i64 (kidx sts1 0)))] :: O, n := 111 })
    · intro J
      first | refine g_cnd Tk Tryd.func111 rfl (fun c1 => ?_) (fun c1 => ?_) | refine g_know Tk Tryd.func111 rfl (fun c1 => ?_) (fun c1 => ?_) | refine s_know Tk (fun c1 => ?_) (fun c1 => ?_)
      · have c1 : sl ∈ m.marked := of_decide_eq_true c1
        rw [if_pos c1] at hm3
        subst hm3
        first | refine g_need Tk Tryd.func111 (by exact ⟨by show (mkl.length + 1) * 8 ≤ 140737488355328; omega, by show mkl.length + 1 ≤ 9223372036854775807; omega⟩) ?_ | refine s_need Tk (by exact ⟨by show (mkl.length + 1) * 8 ≤ 140737488355328; omega, by show mkl.length + 1 ≤ 9223372036854775807; omega⟩) ?_
        refine g_stop ?_
        refine rch_meet (J trivial) ⟨rfl, rfl, rfl, rfl, rfl, rfl, rfl, rfl, trivial⟩ rfl ⟨rfl, rfl, congrArg some (oints_app mkl (i : Int)), rfl, rfl, trivial⟩ rfl rfl
      · have c1 : sl ∉ m.marked := of_decide_eq_false c1
        rw [if_neg c1] at hm3
        subst hm3
        refine g_stop ?_
        refine rch_meet (J trivial) ⟨rfl, rfl, rfl, rfl, rfl, rfl, rfl, rfl, trivial⟩ rfl ⟨rfl, rfl, rfl, rfl, rfl, trivial⟩ rfl rfl
    intro _
    have hml1 : mkl1.length ≤ i + 1 := by rw [hm3]; split; (rw [List.length_append, List.length_singleton]; omega); omega
    clear hm3 hml hmk gs
    have hV0 : uvisits keq true (stpR m) i ⟨sl, sv⟩ alpha ⟨sts1, mkl1, eds1⟩ = uvisits keq true (stpR m) i ⟨sl, sv⟩ (alpha.drop 0) ⟨sts1, mkl1, eds1⟩ := rfl
    generalize uvisits keq true (stpR m) i ⟨sl, sv⟩ alpha ⟨sts1, mkl1, eds1⟩ = V at *
    refine g_run Tk Tryd.func111 ?_
    refine g_go Tk Tryd.func111 ?_
    refine g_loop ?_
    refine rch_loop2 (fun x : Nat × Unf Sta => [(0, ints alpha), (2, .fn (.func 105) [] []), (3, fnS (d + 1) nm), (4, fnM (d + 1) nm), (10, .own 0 10 0 0), (11, .osl 0 95), (13, .osl 0 26), (14, ii i), (49, ints alpha), (50, ii alpha.length), (51, ii x.1)])
      (fun x => [(10, .box [ints alpha, ii 0, .osl 0 47, .osl 0 103]), (95, ostas x.2.sts), (47, oints x.2.mkl), (103, oedgs x.2.eds), (26, .mp .str (.i .i64 (kidx x.2.sts 0)))]) (fun _ => O) 111
      (fun x => x.1 ≤ alpha.length ∧ UGood m x.2 ∧ i < x.2.sts.length ∧ x.2.mkl.length ≤ i + 1 ∧ x.2.eds.length ≤ 4096 * i + x.1 ∧ x.2.sts[i]? = some ⟨sl, sv⟩ ∧ V = uvisits keq true (stpR m) i ⟨sl, sv⟩ (alpha.drop x.1) x.2) (fun x => alpha.length - x.1) (0, ⟨sts1, mkl1, eds1⟩)
      ⟨Nat.zero_le _, ⟨hgd.len, hgd.ok⟩, h1, hml1, hel, hsi, hV0⟩ ⟨rfl, rfl, rfl, rfl, rfl, rfl, rfl, rfl, rfl, rfl, rfl, trivial⟩ rfl ⟨rfl, rfl, rfl, rfl, rfl, trivial⟩ rfl rfl ?_
    clear hV0 hsi hml1 hel hgd hle
    rintro ⟨j, ⟨sts, mk, eds⟩⟩ ⟨hj, hgd, hil, hml, hel, hsi, hV⟩ ih2
    simp only at hj hgd hil hml hel hsi hV
    have hle : sts.length ≤ 4096 := hgd.len
    refine g_run Tk Tryd.func111 ?_
    first | refine g_cnd Tk Tryd.func111 rfl (fun g2 => ?_) (fun g2 => ?_) | refine g_know Tk Tryd.func111 rfl (fun g2 => ?_) (fun g2 => ?_) | refine s_know Tk (fun g2 => ?_) (fun g2 => ?_)
    · have h3 : j < alpha.length := by simpa using g2
      clear g2
      have ga : (alpha.map fun x => [vi x])[(j : Int).toNat]? = some [vi alpha[j]] := get_mapZ (f := fun x => [vi x]) h3
      have da : alpha.drop j = alpha[j] :: alpha.drop (j + 1) := List.drop_eq_getElem_cons h3
      rw [da] at hV
      simp only [uvisits] at hV
      clear da
      generalize alpha[j] = ev at *
      have gs : (sts.map staI)[(i : Int).toNat]? = some (staI ⟨sl, sv⟩) := by simp [hsi]
      have hst := fun H => keyStep107 (H :: O) m ⟨sl, sv⟩ ev (d + 1) nm (hO H) hok
      have hokn := @stp_okS m ⟨sl, sv⟩ ev hr hoks
      have hj1 : ii (IntKind.i64.wrap ((j : Int) + 1)) = ii ((j + 1 : Nat) : Int) := congrArg ii (wsucc (n := 4096) (by omega) (by decide))
      unfold uvisit at hV
      generalize stpR m ⟨sl, sv⟩ ev = N at *
      obtain ⟨⟨nl, nv⟩, np, ne⟩ := N
      simp only at hV hst hokn
      first | refine g_need Tk Tryd.func111 (by exact ⟨by omega, by show (j : Int) < (alpha.length : Int); omega⟩) ?_ | refine s_need Tk (by exact ⟨by omega, by show (j : Int) < (alpha.length : Int); omega⟩) ?_
      first | refine g_elem Tk Tryd.func111 (ga) ?_ | refine s_elem Tk (ga) ?_
      first | refine g_need Tk Tryd.func111 (by exact ⟨by omega, by show (i : Int) < (sts.length : Int); omega⟩) ?_ | refine s_need Tk (by exact ⟨by omega, by show (i : Int) < (sts.length : Int); omega⟩) ?_
      first | refine g_elem Tk Tryd.func111 (gs) ?_ | refine s_elem Tk (gs) ?_
      first | refine g_call Tk Tryd.func111 (hst _) rfl rfl rfl rfl rfl ?_ | refine s_callq Tk (fun _ => hst _) rfl rfl rfl ?_
      first | refine g_cnd Tk Tryd.func111 rfl (fun c1 => ?_) (fun c1 => ?_) | refine g_know Tk Tryd.func111 rfl (fun c1 => ?_) (fun c1 => ?_) | refine s_know Tk (fun c1 => ?_) (fun c1 => ?_)
      · have c1 : ne ≠ 0 := bneT c1
        rw [if_pos c1] at hV
        subst hV
        simp only at hno
        subst hno
        refine g_ret_co Tk (r := _) rfl rfl rfl trivial rfl rfl ?_
        exact coErr
      have c1 : ne = 0 := bneF c1
      rw [if_neg (by simpa using c1)] at hV
      first | refine g_cnd Tk Tryd.func111 rfl (fun c2 => ?_) (fun c2 => ?_) | refine g_know Tk Tryd.func111 rfl (fun c2 => ?_) (fun c2 => ?_) | refine s_know Tk (fun c2 => ?_) (fun c2 => ?_)
      · have c2 : np = false := notT c2
        rw [if_pos c2] at hV
        refine g_loop ?_
        exact ih2 (j + 1, ⟨sts, mk, eds⟩) _ _ ⟨h3, hgd, hil, hml, by simp only; omega, hsi, hV⟩ (by simp only; omega) ⟨rfl, rfl, rfl, rfl, rfl, rfl, rfl, rfl, rfl, rfl, hj1, trivial⟩ rfl ⟨rfl, rfl, rfl, rfl, rfl, trivial⟩ rfl rfl
      have c2 : np = true := notF c2
      rw [if_neg (by rw [c2]; simp)] at hV
      have hon := hokn c2
      have hkn := okS_key hr hon
      have hlk := kidx_look (fkey ⟨nl, nv⟩) sts 0
      have hks := @kidx_set ⟨nl, nv⟩ sts 0
      rw [Nat.zero_add] at hks
      rw [Nat.zero_add] at hlk
      have hix : sts.findIdx (keq ⟨nl, nv⟩) ≤ sts.length := findIdx_le
      have hlk : mlook (kidx sts 0) (.string (fkey ⟨nl, nv⟩)) = if sts.findIdx (keq ⟨nl, nv⟩) < sts.length then some ((sts.findIdx (keq ⟨nl, nv⟩) : Nat) : Int) else none := hlk
      generalize sts.findIdx (keq ⟨nl, nv⟩) = t at *
      refine g_callT Tk Tryd.func111 hE (keyName105 hg _ ⟨nl, nv⟩ hkn) rfl rfl rfl rfl rfl rfl ?_
      generalize hst2 : (if t < sts.length then sts else sts ++ [(⟨nl, nv⟩ : Sta)]) = sts2
      apply join_p (P := t < sts.length ∨ sts.length ≠ 4096) (s6 := { σ := [(0, ints alpha), (2, .fn (.func 105) [] []), (3, fnS (d + 1) nm), (4, fnM (d + 1) nm), (10, .own 0 10 0 0), (11, .osl 0 95), (13, .osl 0 26), (14, ii i), (16, ii ev), (20, ii t), (49, ints alpha), (50, ii alpha.length), (51, ii j)], S := [(10, .box [ints alpha, ii 0, .osl 0 47, .osl 0 103]), (95, ostas sts2), (47, oints mk), (103, oedgs eds), (26, .mp .str (.i .i64 (kidx sts2 0)))] :: O, n := 111 })
      · intro J
        first | refine g_cnd Tk Tryd.func111 rfl (fun c3 => ?_) (fun c3 => ?_) | refine g_know Tk Tryd.func111 rfl (fun c3 => ?_) (fun c3 => ?_) | refine s_know Tk (fun c3 => ?_) (fun c3 => ?_)
        · have c3 : mhas (kidx sts 0) (.string (fkey ⟨nl, nv⟩)) = false := notT c3
          have hlt : ¬ t < sts.length := fun h => by
            unfold mhas at c3
            rw [hlk, if_pos h] at c3
            cases c3
          have hte : t = sts.length := by omega
          rw [if_neg hlt] at hst2 hV
          have hks := hks hlt
          first | refine g_cnd Tk Tryd.func111 rfl (fun c4 => ?_) (fun c4 => ?_) | refine g_know Tk Tryd.func111 rfl (fun c4 => ?_) (fun c4 => ?_) | refine s_know Tk (fun c4 => ?_) (fun c4 => ?_)
          · have c4 : ((sts.length : Nat) : Int) = 4096 := beqT c4
            have c4 : sts.length = 4096 := by omega
            rw [if_pos ⟨trivial, c4⟩] at hV
            subst hV
            simp only at hno
            subst hno
            refine g_ret_co Tk (r := _) rfl rfl rfl trivial rfl rfl ?_
            exact coErr
          have c4 : ((sts.length : Nat) : Int) ≠ 4096 := beqF c4
          have c4 : sts.length ≠ 4096 := by omega
          refine g_callT Tk Tryd.func111 hE (keyName105 hg _ ⟨nl, nv⟩ hkn) rfl rfl rfl rfl rfl rfl ?_
          first | refine g_need Tk Tryd.func111 (by exact ⟨by show (sts.length + 1) * 32 ≤ 140737488355328; omega, by show sts.length + 1 ≤ 9223372036854775807; omega⟩) ?_ | refine s_need Tk (by exact ⟨by show (sts.length + 1) * 32 ≤ 140737488355328; omega, by show sts.length + 1 ≤ 9223372036854775807; omega⟩) ?_
          subst hst2
          refine g_stop ?_
          refine rch_meet (J (.inr c4)) ⟨rfl, rfl, rfl, rfl, rfl, rfl, rfl, rfl, rfl, by rw [hte]; rfl, rfl, rfl, rfl, trivial⟩ rfl ⟨rfl, congrArg some (ostas_app2 sts (⟨nl, nv⟩ : Sta)), rfl, rfl, congrArg (fun l => some (Ob.mp .str (.i .i64 l))) hks, trivial⟩ rfl rfl
        · have c3 : mhas (kidx sts 0) (.string (fkey ⟨nl, nv⟩)) = true := notF c3
          have hlt : t < sts.length := Classical.byContradiction fun h => by
            unfold mhas at c3
            rw [hlk, if_neg h] at c3
            cases c3
          rw [if_pos hlt] at hst2 hlk
          subst hst2
          refine g_stop ?_
          refine rch_meet (J (.inl hlt)) ⟨rfl, rfl, rfl, rfl, rfl, rfl, rfl, rfl, rfl, by show ii (mgetI (kidx sts 0) (.string (fkey ⟨nl, nv⟩))) = _; unfold mgetI; rw [hlk]; rfl, rfl, rfl, rfl, trivial⟩ rfl ⟨rfl, rfl, rfl, rfl, rfl, trivial⟩ rfl rfl
      · intro hP
        have hV : V = uvisits keq true (stpR m) i ⟨sl, sv⟩ (alpha.drop (j + 1)) ⟨sts2, mk, eds ++ [((i : Int), ev, (t : Int))]⟩ := by
          rw [hV]
          by_cases hlt : t < sts.length
          · rw [if_pos hlt] at hst2 ⊢
            subst hst2
            rfl
          · rw [if_neg hlt] at hst2 ⊢
            rw [if_neg (by rintro ⟨_, h⟩; rcases hP with h' | h'; exact hlt h'; exact h' h)]
            subst hst2
            rfl
        have hg2 : UGood m ⟨sts2, mk, eds ++ [((i : Int), ev, (t : Int))]⟩ := by
          by_cases hlt : t < sts.length
          · rw [if_pos hlt] at hst2
            subst hst2
            exact ⟨hgd.len, hgd.ok⟩
          · rw [if_neg hlt] at hst2
            subst hst2
            refine ⟨?_, fun x hx => ?_⟩
            · show (sts ++ [(⟨nl, nv⟩ : Sta)]).length ≤ 4096
              rw [List.length_append, List.length_singleton]
              rcases hP with h' | h'
              · exact absurd h' hlt
              · omega
            · rcases List.mem_append.1 hx with hx | hx
              · exact hgd.ok x hx
              · rw [List.mem_singleton] at hx
                subst hx
                exact hon
        have hi2 : i < sts2.length ∧ sts2[i]? = some ⟨sl, sv⟩ := by
          by_cases hlt : t < sts.length
          · rw [if_pos hlt] at hst2
            subst hst2
            exact ⟨hil, hsi⟩
          · rw [if_neg hlt] at hst2
            subst hst2
            refine ⟨by rw [List.length_append]; omega, ?_⟩
            rw [List.getElem?_append_left hil]
            exact hsi
        have hi4 : i < 4096 := by omega
        clear hst2 hst hlk hks hgd hil hsi
        refine g_run Tk Tryd.func111 ?_
        refine g_go Tk Tryd.func111 ?_
        first | refine g_need Tk Tryd.func111 (by exact ⟨by show (eds.length + 1) * 24 ≤ 140737488355328; omega, by show eds.length + 1 ≤ 9223372036854775807; omega⟩) ?_ | refine s_need Tk (by exact ⟨by show (eds.length + 1) * 24 ≤ 140737488355328; omega, by show eds.length + 1 ≤ 9223372036854775807; omega⟩) ?_
        refine g_loop ?_
        exact ih2 (j + 1, ⟨sts2, mk, eds ++ [((i : Int), ev, (t : Int))]⟩) _ _ ⟨h3, hg2, hi2.1, hml, by simp only [List.length_append, List.length_singleton]; omega, hi2.2, hV⟩ (by simp only; omega) ⟨rfl, rfl, rfl, rfl, rfl, rfl, rfl, rfl, rfl, rfl, hj1, trivial⟩ rfl ⟨rfl, rfl, rfl, congrArg some (oedgs_app eds ((i : Int), ev, (t : Int))), rfl, trivial⟩ rfl rfl
    · have h3 : alpha.length ≤ j := by simpa using g2
      rw [List.drop_eq_nil_of_le h3] at hV
      simp only [uvisits] at hV
      subst hV
      simp only at hno
      have hja : j ≤ 4096 := by omega
      refine g_loop ?_
      exact ih (i + 1, ⟨sts, mk, eds⟩) _ _ ⟨by simp only; omega, hgd, hml, by simp only; omega, hno⟩ (by simp only; omega) ⟨rfl, rfl, rfl, rfl, rfl, rfl, rfl, congrArg ii (wsucc (n := 4096) (by omega) (by decide)), trivial⟩ rfl ⟨rfl, rfl, rfl, rfl, rfl, trivial⟩ rfl rfl
  · have h1 : U.sts.length ≤ i := by simpa using g1
    rw [uloop_done h1] at hno
    subst hno
    obtain ⟨sts, mk, eds⟩ := U
    refine g_rwk (wk_freeze 95 rfl rfl) ?_
    refine g_rwk (wk_freeze 47 rfl rfl) ?_
    refine g_rwk (wk_freeze 103 rfl rfl) ?_
    refine g_rwk (wk_imm rfl) ?_
    refine g_ret Tk (r := unfD alpha (.ok ⟨sts, mk, eds⟩)) rfl rfl rfl trivial rfl rfl ?_
    rfl
end Go.AI


/- flatten.Unfold. -/
namespace Go.AI
open Go.Proofs
set_option maxRecDepth 20000
def unfoldR (m : Ext) : Except Int (Unf Sta) := if chk m ≠ 0 then .error (chk m) else unfX m m.alpha (startR m)
theorem Unfold50 {g : Nat} (hg : IsTab g) {ty : TypeId} {fr : Nat × Nat} (O : List Heap) (m : Ext) (hok : extOk m) : ASpecT g (ptab ty fr) Tryd.prog 50 [extD m] O (unfD m.alpha (unfoldR m)) [] O := by
  have hb := fun O => begin20 O m hok
  unfold begR at hb
  unfold unfoldR
  by_cases h1 : chk m ≠ 0
  · simp only [if_pos h1] at hb ⊢
    refine aspecT_stop [] Tk Tryd.func50 rfl Tryd.call50 Tryd.ntmps50 (Nat.le_of_ble_eq_true rfl) fun E hE => ?_
    refine g_run Tk Tryd.func50 ?_
    first | refine g_call Tk Tryd.func50 (hb _) rfl rfl rfl rfl rfl ?_ | refine s_callq Tk (fun _ => hb _) rfl rfl rfl ?_
    first | refine g_cnd Tk Tryd.func50 rfl (fun h2 => ?_) (fun h2 => ?_) | refine g_know Tk Tryd.func50 rfl (fun h2 => ?_) (fun h2 => ?_) | refine s_know Tk (fun h2 => ?_) (fun h2 => ?_)
    rotate_left
    · exact absurd (bneF h2) h1
    refine g_ret_co Tk (r := _) rfl rfl rfl trivial rfl rfl ?_
    exact coErr
  · have h1 : chk m = 0 := Classical.byContradiction h1
    have hr := chk_right h1
    have hal := checkSet_len (by decide) hr.alpha
    simp only [h1, ne_eq, not_true_eq_false, if_false] at hb ⊢
    have hcl := fun O => clone84 O m.alpha (by simp only [big]; omega)
    have hun := fun O ho => unfold111 hg (ty := ty) (fr := fr) O m m.alpha (startR m) 0 1 ho hok hr (by omega) (start_ok hr)
    generalize unfX m m.alpha (startR m) = R at *
    generalize startR m = st at *
    obtain ⟨sl, sv⟩ := st
    cases R with
    | error e =>
      refine aspecT_stop [] Tk Tryd.func50 rfl Tryd.call50 Tryd.ntmps50 (Nat.le_of_ble_eq_true rfl) fun E hE => ?_
      refine g_run Tk Tryd.func50 ?_
      first | refine g_call Tk Tryd.func50 (hb _) rfl rfl rfl rfl rfl ?_ | refine s_callq Tk (fun _ => hb _) rfl rfl rfl ?_
      repeat (first | refine g_cnd Tk Tryd.func50 rfl (fun _ => ?_) (fun h => absurd h (by decide)) | refine g_know Tk Tryd.func50 rfl (fun _ => ?_) (fun h => absurd h (by decide)) | refine s_know Tk (fun _ => ?_) (fun h => absurd h (by decide)) | refine g_cnd Tk Tryd.func50 rfl (fun h => absurd h (by decide)) (fun _ => ?_) | refine g_know Tk Tryd.func50 rfl (fun h => absurd h (by decide)) (fun _ => ?_) | refine s_know Tk (fun h => absurd h (by decide)) (fun _ => ?_) | refine g_cnd Tk Tryd.func50 rfl (fun _ => ?_) (fun h => absurd (show true = false from h) (by decide)) | refine g_know Tk Tryd.func50 rfl (fun _ => ?_) (fun h => absurd (show true = false from h) (by decide)) | refine s_know Tk (fun _ => ?_) (fun h => absurd (show true = false from h) (by decide)) | refine g_cnd Tk Tryd.func50 rfl (fun h => absurd (show false = true from h) (by decide)) (fun _ => ?_) | refine g_know Tk Tryd.func50 rfl (fun h => absurd (show false = true from h) (by decide)) (fun _ => ?_) | refine s_know Tk (fun h => absurd (show false = true from h) (by decide)) (fun _ => ?_))
      refine g_drawn Tk Tryd.func50 mixedT rfl ?_
      first | refine g_call Tk Tryd.func50 (hcl _) rfl rfl rfl rfl rfl ?_ | refine s_callq Tk (fun _ => hcl _) rfl rfl rfl ?_
      refine s_callT Tk hE (hun _ rfl) rfl rfl rfl rfl ?_
      refine s_put Tk rfl rfl rfl ?_
      refine e_done Tk Tryd.func50 (by kernel_rfl) ?_
      refine g_ret_co Tk (r := _) rfl rfl rfl trivial rfl rfl ?_
      exact CoD.refl _
    | ok U =>
      obtain ⟨us, um, ue⟩ := U
      refine aspecT_stop [] Tk Tryd.func50 rfl Tryd.call50 Tryd.ntmps50 (Nat.le_of_ble_eq_true rfl) fun E hE => ?_
      refine g_run Tk Tryd.func50 ?_
      first | refine g_call Tk Tryd.func50 (hb _) rfl rfl rfl rfl rfl ?_ | refine s_callq Tk (fun _ => hb _) rfl rfl rfl ?_
      repeat (first | refine g_cnd Tk Tryd.func50 rfl (fun _ => ?_) (fun h => absurd h (by decide)) | refine g_know Tk Tryd.func50 rfl (fun _ => ?_) (fun h => absurd h (by decide)) | refine s_know Tk (fun _ => ?_) (fun h => absurd h (by decide)) | refine g_cnd Tk Tryd.func50 rfl (fun h => absurd h (by decide)) (fun _ => ?_) | refine g_know Tk Tryd.func50 rfl (fun h => absurd h (by decide)) (fun _ => ?_) | refine s_know Tk (fun h => absurd h (by decide)) (fun _ => ?_) | refine g_cnd Tk Tryd.func50 rfl (fun _ => ?_) (fun h => absurd (show true = false from h) (by decide)) | refine g_know Tk Tryd.func50 rfl (fun _ => ?_) (fun h => absurd (show true = false from h) (by decide)) | refine s_know Tk (fun _ => ?_) (fun h => absurd (show true = false from h) (by decide)) | refine g_cnd Tk Tryd.func50 rfl (fun h => absurd (show false = true from h) (by decide)) (fun _ => ?_) | refine g_know Tk Tryd.func50 rfl (fun h => absurd (show false = true from h) (by decide)) (fun _ => ?_) | refine s_know Tk (fun h => absurd (show false = true from h) (by decide)) (fun _ => ?_))
      refine g_drawn Tk Tryd.func50 mixedT rfl ?_
      first | refine g_call Tk Tryd.func50 (hcl _) rfl rfl rfl rfl rfl ?_ | refine s_callq Tk (fun _ => hcl _) rfl rfl rfl ?_
      refine s_callT Tk hE (hun _ rfl) rfl rfl rfl rfl ?_
      refine s_put Tk rfl rfl rfl ?_
      refine e_done Tk Tryd.func50 (by kernel_rfl) ?_
      refine g_ret_co Tk (r := _) rfl rfl rfl trivial rfl rfl ?_
      exact CoD.refl _
end Go.AI


/- flatten.Locate, At, Where. -/
namespace Go.AI
open Go.Proofs
set_option maxRecDepth 20000
def ckAll (m : Ext) : List Sta → Int
  | [] => 0
  | s :: r => if ckS m s ≠ 0 then ckS m s else ckAll m r
def whL (x : Ex) : List Sta → Nat → List Int → List Int × Int
  | [], _, acc => (acc, 0)
  | s :: r, i, acc => if (evalX x s.vals).2 ≠ 0 then ([], (evalX x s.vals).2) else whL x r (i + 1) (if (evalX x s.vals).1 = 1 then acc ++ [(i : Int)] else acc)
def whereR (m : Ext) (l : List Sta) (x : Ex) : List Int × Int :=
  if chk m ≠ 0 then ([], chk m) else if ckAll m l ≠ 0 then ([], ckAll m l) else if (checkX x m.vars.length).2 ≠ 0 then ([], (checkX x m.vars.length).2) else if (checkX x m.vars.length).1 ≠ 2 then ([], 16) else whL x l 0 []
theorem coNil2 {e : Int} : CoD (.tup [.i (.v (.slice none 0 0)), ii e]) (.tup [ints [], ii e]) := coD_tup (.cons (coD_i coI_nil) (CoDL.refl _))
theorem where52 (O : List Heap) (m : Ext) (l : List Sta) (x : Ex) (hok : extOk m) (hx : exOk x) (hl : l.length ≤ 1000000) (hv : ∀ s ∈ l, s.vals.length ≤ max63) : ASpec Tryd.prog 52 [extD m, stasD l, exA x] O (.tup [ints (whereR m l x).1, ii (whereR m l x).2]) [] O := by
  generalize hR : whereR m l x = R
  unfold whereR at hR
  have hck := fun O => check40 O m hok
  refine aspec_intro Tk Tryd.func52 rfl Tryd.call52 Tryd.ntmps52 (Nat.le_of_ble_eq_true rfl) fun E => ?_
  refine g_run Tk Tryd.func52 ?_
  first | refine g_call Tk Tryd.func52 (hck _) rfl rfl rfl rfl rfl ?_ | refine s_callq Tk (fun _ => hck _) rfl rfl rfl ?_
  first | refine g_cnd Tk Tryd.func52 rfl (fun g0 => ?_) (fun g0 => ?_) | refine g_know Tk Tryd.func52 rfl (fun g0 => ?_) (fun g0 => ?_) | refine s_know Tk (fun g0 => ?_) (fun g0 => ?_)
  · have g0 : chk m ≠ 0 := bneT g0
    rw [if_pos g0] at hR
    subst hR
    refine g_ret_co Tk (r := _) rfl rfl rfl trivial rfl rfl ?_
    exact coNil2
  have g0 : chk m = 0 := bneF g0
  rw [if_neg (by simpa using g0)] at hR
  clear hck
  have hC0 : ckAll m l = ckAll m (l.drop 0) := rfl
  generalize ckAll m l = C at *
  refine g_loop ?_
  refine rch_loop2 (fun i : Nat => [(1, stasD l), (3, .own 0 3 0 0), (5, .own 0 5 0 0), (24, stasD l), (25, ii l.length), (26, ii i)]) (fun _ => [(3, .box (extC m)), (5, .box [ii x.op, ii x.vl, ii x.ix, exs x.args])]) (fun _ => O) 75
    (fun i => i ≤ l.length ∧ C = ckAll m (l.drop i)) (fun i => l.length - i) 0 ⟨Nat.zero_le _, hC0⟩ ⟨rfl, rfl, rfl, rfl, rfl, rfl, trivial⟩ rfl ⟨rfl, rfl, trivial⟩ rfl rfl ?_
  clear hC0
  rintro i ⟨hi, hC⟩ ih
  refine g_run Tk Tryd.func52 ?_
  first | refine g_cnd Tk Tryd.func52 rfl (fun g1 => ?_) (fun g1 => ?_) | refine g_know Tk Tryd.func52 rfl (fun g1 => ?_) (fun g1 => ?_) | refine s_know Tk (fun g1 => ?_) (fun g1 => ?_)
  · have h1 : i < l.length := by simpa using g1
    have gs : (l.map staI)[(i : Int).toNat]? = some (staI l[i]) := get_mapZ h1
    have hd : l.drop i = l[i] :: l.drop (i + 1) := List.drop_eq_getElem_cons h1
    rw [hd] at hC
    simp only [ckAll] at hC
    clear hd
    generalize l[i] = s at *
    have hcs := fun O => checkState28 O m s hok
    generalize ckS m s = e at *
    obtain ⟨sl, sv⟩ := s
    have hi1 : ii (IntKind.i64.wrap ((i : Int) + 1)) = ii ((i + 1 : Nat) : Int) := congrArg ii (wsucc (n := 1000000) (by omega) (by decide))
    first | refine g_need Tk Tryd.func52 (by exact ⟨by omega, by show (i : Int) < (l.length : Int); omega⟩) ?_ | refine s_need Tk (by exact ⟨by omega, by show (i : Int) < (l.length : Int); omega⟩) ?_
    first | refine g_elem Tk Tryd.func52 (gs) ?_ | refine s_elem Tk (gs) ?_
    first | refine g_call Tk Tryd.func52 (hcs _) rfl rfl rfl rfl rfl ?_ | refine s_callq Tk (fun _ => hcs _) rfl rfl rfl ?_
    first | refine g_cnd Tk Tryd.func52 rfl (fun g2 => ?_) (fun g2 => ?_) | refine g_know Tk Tryd.func52 rfl (fun g2 => ?_) (fun g2 => ?_) | refine s_know Tk (fun g2 => ?_) (fun g2 => ?_)
    · have g2 : e ≠ 0 := bneT g2
      rw [if_pos g2] at hC
      subst hC
      rw [if_pos g2] at hR
      subst hR
      refine g_ret_co Tk (r := _) rfl rfl rfl trivial rfl rfl ?_
      exact coNil2
    · have g2 : e = 0 := bneF g2
      rw [if_neg (by simpa using g2)] at hC
      refine g_loop ?_
      exact ih (i + 1) _ _ ⟨h1, hC⟩ (by omega) ⟨rfl, rfl, rfl, rfl, rfl, hi1, trivial⟩ rfl ⟨rfl, rfl, trivial⟩ rfl rfl
  clear ih
  have h1 : l.length ≤ i := by simpa using g1
  rw [List.drop_eq_nil_of_le h1] at hC
  simp only [ckAll] at hC
  subst hC
  rw [if_neg (by simp)] at hR
  clear g1 h1 hi
  have hch := fun O => check67A O x m.vars.length hx
  generalize checkX x m.vars.length = Q at *
  obtain ⟨qk, qe⟩ := Q
  simp only at hR hch
  first | refine g_call Tk Tryd.func52 (hch _) rfl rfl rfl rfl rfl ?_ | refine s_callq Tk (fun _ => hch _) rfl rfl rfl ?_
  first | refine g_cnd Tk Tryd.func52 rfl (fun g1 => ?_) (fun g1 => ?_) | refine g_know Tk Tryd.func52 rfl (fun g1 => ?_) (fun g1 => ?_) | refine s_know Tk (fun g1 => ?_) (fun g1 => ?_)
  · have g1 : qe ≠ 0 := bneT g1
    rw [if_pos g1] at hR
    subst hR
    refine g_ret_co Tk (r := _) rfl rfl rfl trivial rfl rfl ?_
    exact coNil2
  have g1 : qe = 0 := bneF g1
  rw [if_neg (by simpa using g1)] at hR
  first | refine g_cnd Tk Tryd.func52 rfl (fun g2 => ?_) (fun g2 => ?_) | refine g_know Tk Tryd.func52 rfl (fun g2 => ?_) (fun g2 => ?_) | refine s_know Tk (fun g2 => ?_) (fun g2 => ?_)
  · have g2 : qk ≠ 2 := bneT g2
    rw [if_pos g2] at hR
    subst hR
    refine g_ret_co Tk (r := _) rfl rfl rfl trivial rfl rfl ?_
    exact coNil2
  have g2 : qk = 2 := bneF g2
  rw [if_neg (by simpa using g2)] at hR
  have hR0 : R = whL x (l.drop 0) 0 [] := hR.symm
  clear hR hch
  refine g_loop ?_
  refine rch_wk (wk_nil 14 72 3 1 rfl rfl rfl) ?_
  refine rch_loop2 (fun y : Nat × List Int => [(5, .own 0 5 0 0), (14, .osl 0 72), (50, stasD l), (51, ii l.length), (52, ii y.1)]) (fun y => [(5, .box [ii x.op, ii x.vl, ii x.ix, exs x.args]), (72, oints y.2)]) (fun _ => O) 75
    (fun y => y.1 ≤ l.length ∧ y.2.length ≤ y.1 ∧ R = whL x (l.drop y.1) y.1 y.2) (fun y => l.length - y.1) (0, []) ⟨Nat.zero_le _, Nat.le_refl _, hR0⟩ ⟨rfl, rfl, rfl, rfl, rfl, trivial⟩ rfl ⟨rfl, rfl, trivial⟩ rfl rfl ?_
  clear hR0
  rintro ⟨i, acc⟩ ⟨hi, hac, hno⟩ ih
  simp only at hi hac hno
  refine g_run Tk Tryd.func52 ?_
  first | refine g_cnd Tk Tryd.func52 rfl (fun g3 => ?_) (fun g3 => ?_) | refine g_know Tk Tryd.func52 rfl (fun g3 => ?_) (fun g3 => ?_) | refine s_know Tk (fun g3 => ?_) (fun g3 => ?_)
  · have h1 : i < l.length := by simpa using g3
    have gs : (l.map staI)[(i : Int).toNat]? = some (staI l[i]) := get_mapZ h1
    have hvi := hv _ (List.getElem_mem h1)
    have hd : l.drop i = l[i] :: l.drop (i + 1) := List.drop_eq_getElem_cons h1
    rw [hd] at hno
    simp only [whL] at hno
    clear hd
    generalize l[i] = s at *
    obtain ⟨sl, sv⟩ := s
    simp only at hno hvi
    have hev := fun O => evaluate51A O x sv hx hvi
    generalize evalX x sv = V at *
    obtain ⟨v, ve⟩ := V
    simp only at hno hev
    have hi1 : ii (IntKind.i64.wrap ((i : Int) + 1)) = ii ((i + 1 : Nat) : Int) := congrArg ii (wsucc (n := 1000000) (by omega) (by decide))
    first | refine g_need Tk Tryd.func52 (by exact ⟨by omega, by show (i : Int) < (l.length : Int); omega⟩) ?_ | refine s_need Tk (by exact ⟨by omega, by show (i : Int) < (l.length : Int); omega⟩) ?_
    first | refine g_elem Tk Tryd.func52 (gs) ?_ | refine s_elem Tk (gs) ?_
    first | refine g_call Tk Tryd.func52 (hev _) rfl rfl rfl rfl rfl ?_ | refine s_callq Tk (fun _ => hev _) rfl rfl rfl ?_
    first | refine g_cnd Tk Tryd.func52 rfl (fun g4 => ?_) (fun g4 => ?_) | refine g_know Tk Tryd.func52 rfl (fun g4 => ?_) (fun g4 => ?_) | refine s_know Tk (fun g4 => ?_) (fun g4 => ?_)
    · have g4 : ve ≠ 0 := bneT g4
      rw [if_pos g4] at hno
      subst hno
      refine g_ret_co Tk (r := _) rfl rfl rfl trivial rfl rfl ?_
      exact coNil2
    have g4 : ve = 0 := bneF g4
    rw [if_neg (by simpa using g4)] at hno
    first | refine g_cnd Tk Tryd.func52 rfl (fun g5 => ?_) (fun g5 => ?_) | refine g_know Tk Tryd.func52 rfl (fun g5 => ?_) (fun g5 => ?_) | refine s_know Tk (fun g5 => ?_) (fun g5 => ?_)
    · have g5 : v = 1 := beqT g5
      rw [if_pos g5] at hno
      first | refine g_need Tk Tryd.func52 (by exact ⟨by show (acc.length + 1) * 8 ≤ 140737488355328; omega, by show acc.length + 1 ≤ 9223372036854775807; omega⟩) ?_ | refine s_need Tk (by exact ⟨by show (acc.length + 1) * 8 ≤ 140737488355328; omega, by show acc.length + 1 ≤ 9223372036854775807; omega⟩) ?_
      refine g_loop ?_
      exact ih (i + 1, acc ++ [(i : Int)]) _ _ ⟨h1, by simp only [List.length_append, List.length_singleton]; omega, hno⟩ (by simp only; omega) ⟨rfl, rfl, rfl, rfl, hi1, trivial⟩ rfl ⟨rfl, congrArg some (oints_app acc (i : Int)), trivial⟩ rfl rfl
    · have g5 : v ≠ 1 := beqF g5
      rw [if_neg g5] at hno
      refine g_loop ?_
      exact ih (i + 1, acc) _ _ ⟨h1, by simp only; omega, hno⟩ (by simp only; omega) ⟨rfl, rfl, rfl, rfl, hi1, trivial⟩ rfl ⟨rfl, rfl, trivial⟩ rfl rfl
  · have h1 : l.length ≤ i := by simpa using g3
    rw [List.drop_eq_nil_of_le h1] at hno
    simp only [whL] at hno
    subst hno
    refine g_rwk (wk_freeze 72 rfl rfl) ?_
    refine g_ret Tk (r := .tup [ints acc, ii 0]) rfl rfl rfl trivial rfl rfl ?_
    rfl
end Go.AI


namespace Go.AI
open Go.Proofs
set_option maxRecDepth 20000
/- Words. -/
/-- What is known in a search of a sketched automaton. -/
structure Inv5 (m : Ext) (S : Srch) : Prop where
  lk : Linked S
  ok : ∀ s ∈ S.sts, okS m s
  nd : S.sts.Nodup
  fl : S.kind ≠ 0 → 0 ≤ S.flt.1
/- No more than 64 states. -/
theorem nodup_bound : ∀ {n : Nat} {l : List Nat}, l.Nodup → (∀ x ∈ l, x < n) → l.length ≤ n
  | 0, l, _, h => by
    cases l with
    | nil => exact Nat.le_refl _
    | cons a r => exact absurd (h a (by simp)) (Nat.not_lt_zero _)
  | n + 1, l, hn, h => by
    by_cases hm : n ∈ l
    · have h1 := nodup_bound (n := n) (l := l.erase n) (hn.erase n) fun x hx => by
        have hx2 := (hn.mem_erase_iff).1 hx
        have := h x hx2.2
        have := hx2.1
        omega
      rw [List.length_erase_of_mem hm] at h1
      omega
    · have := nodup_bound (n := n) (l := l) hn fun x hx => by
        have h1 := h x hx
        have : x ≠ n := fun e => hm (e ▸ hx)
        omega
      omega
def codeS (m : Ext) (s : Sta) : Nat := s.loc.toNat + 4 * ((s.vals.getD 0 0 - (m.vars.getD 0 ⟨⟨#[]⟩, 0, 0, 0⟩).low).toNat + 4 * (s.vals.getD 1 0 - (m.vars.getD 1 ⟨⟨#[]⟩, 0, 0, 0⟩).low).toNat)
theorem okS_val {m : Ext} (hm : made m) {s : Sta} (h : okS m s) (i : Nat) (hi : i < m.vars.length) : ∃ hi' : i < s.vals.length, m.vars[i].low ≤ s.vals[i] ∧ s.vals[i] ≤ m.vars[i].low + 3 := by
  have hl := (okS_bounds (made_right hm) h).2.2.2.1
  have h1 := within_get h.2 i hi (by omega)
  have h2 := (hm.v _ (List.getElem_mem hi)).w
  exact ⟨by omega, h1.1, by omega⟩
theorem codeS_lt {m : Ext} (hm : made m) {s : Sta} (h : okS m s) : codeS m s < 64 := by
  have hl := (okS_bounds (made_right hm) h).2.2.2.1
  have hlo := hm.lo
  have h0 := h.1
  have hv2 := hm.vl
  have part : ∀ i, (s.vals.getD i 0 - (m.vars.getD i ⟨⟨#[]⟩, 0, 0, 0⟩).low).toNat < 4 := by
    intro i
    by_cases hi : i < m.vars.length
    · obtain ⟨hi', h1, h2⟩ := okS_val hm h i hi
      rw [List.getD_eq_getElem?_getD, List.getD_eq_getElem?_getD, List.getElem?_eq_getElem hi', List.getElem?_eq_getElem hi]
      simp only [Option.getD_some]
      omega
    · rw [List.getD_eq_getElem?_getD, List.getD_eq_getElem?_getD, List.getElem?_eq_none (by omega), List.getElem?_eq_none (by omega)]
      simp only [Option.getD_none]
      omega
  have := part 0
  have := part 1
  unfold codeS
  omega
theorem codeS_inj {m : Ext} (hm : made m) {s t : Sta} (hs : okS m s) (ht : okS m t) (h : codeS m s = codeS m t) : s = t := by
  have hls := (okS_bounds (made_right hm) hs).2.2.2.1
  have hlt := (okS_bounds (made_right hm) ht).2.2.2.1
  have hlo := hm.lo
  have h0 := hs.1
  have h0' := ht.1
  have hv2 := hm.vl
  have part : ∀ (s : Sta), okS m s → s.vals.length = m.vars.length → ∀ i, (s.vals.getD i 0 - (m.vars.getD i ⟨⟨#[]⟩, 0, 0, 0⟩).low).toNat < 4 ∧ 0 ≤ (s.vals.getD i 0 - (m.vars.getD i ⟨⟨#[]⟩, 0, 0, 0⟩).low) := by
    intro s h hl i
    by_cases hi : i < m.vars.length
    · obtain ⟨hi', h1, h2⟩ := okS_val hm h i hi
      rw [List.getD_eq_getElem?_getD, List.getD_eq_getElem?_getD, List.getElem?_eq_getElem hi', List.getElem?_eq_getElem hi]
      simp only [Option.getD_some]
      omega
    · rw [List.getD_eq_getElem?_getD, List.getD_eq_getElem?_getD, List.getElem?_eq_none (by omega), List.getElem?_eq_none (by omega)]
      simp only [Option.getD_none]
      omega
  have p0 := part s hs hls 0
  have p1 := part s hs hls 1
  have q0 := part t ht hlt 0
  have q1 := part t ht hlt 1
  unfold codeS at h
  have e0 : s.loc = t.loc := by omega
  have e1 : s.vals.getD 0 0 = t.vals.getD 0 0 := by omega
  have e2 : s.vals.getD 1 0 = t.vals.getD 1 0 := by omega
  have ev : s.vals = t.vals := by
    apply List.ext_getElem (by omega)
    intro i hi hi'
    have : i = 0 ∨ i = 1 := by omega
    rcases this with rfl | rfl
    · rw [List.getD_eq_getElem?_getD, List.getD_eq_getElem?_getD, List.getElem?_eq_getElem hi, List.getElem?_eq_getElem hi'] at e1
      exact e1
    · rw [List.getD_eq_getElem?_getD, List.getD_eq_getElem?_getD, List.getElem?_eq_getElem hi, List.getElem?_eq_getElem hi'] at e2
      exact e2
  cases s
  cases t
  simp only at e0 ev
  rw [e0, ev]
theorem few_states {m : Ext} (hm : made m) {l : List Sta} (ho : ∀ s ∈ l, okS m s) (hn : l.Nodup) : l.length ≤ 64 := by
  have h := nodup_bound (n := 64) (l := l.map (codeS m)) ?_ ?_
  · rwa [List.length_map] at h
  · unfold List.Nodup at hn ⊢
    rw [List.pairwise_map]
    refine hn.imp_of_mem fun {a b} ha hb hne h => hne (codeS_inj hm (ho a ha) (ho b hb) h)
  · intro x hx
    obtain ⟨s, hs, rfl⟩ := List.mem_map.1 hx
    exact codeS_lt hm (ho s hs)
/- The text of a state says which it is. -/
def smallI : List Int := (List.range 12).map fun (k : Nat) => (k : Int) - 4
def valsL : List (List Int) := [[]] ++ smallI.map (fun a => [a]) ++ smallI.flatMap fun a => smallI.map fun b => [a, b]
def combos : List Sta := (List.range 4).flatMap fun (l : Nat) => valsL.map fun v => ⟨l, v⟩
theorem okS_combo {m : Ext} (hm : made m) {s : Sta} (h : okS m s) : s ∈ combos := by
  have hl := (okS_bounds (made_right hm) h).2.2.2.1
  have hlo := hm.lo
  have h0 := h.1
  have hv2 := hm.vl
  have sm : ∀ i (hi : i < s.vals.length), s.vals[i] ∈ smallI := by
    intro i hi
    obtain ⟨_, h1, h2⟩ := okS_val hm h i (by omega)
    have h3 := (hm.v _ (List.getElem_mem (show i < m.vars.length by omega)))
    have := h3.lo
    have := h3.hi
    have h4 := within_get h.2 i (by omega) hi
    unfold smallI
    rw [List.mem_map]
    exact ⟨(s.vals[i] + 4).toNat, List.mem_range.2 (by omega), by omega⟩
  unfold combos
  rw [List.mem_flatMap]
  refine ⟨s.loc.toNat, List.mem_range.2 (by omega), ?_⟩
  rw [List.mem_map]
  refine ⟨s.vals, ?_, by cases s; simp only at h0 ⊢; congr 1; omega⟩
  unfold valsL
  match hv : s.vals, (show s.vals.length ≤ 2 by omega) with
  | [], _ => simp
  | [a], _ =>
    have h1 := sm 0 (by rw [hv]; simp)
    simp only [hv, List.getElem_cons_zero] at h1
    simp [h1]
  | [a, b], _ =>
    have h1 := sm 0 (by rw [hv]; simp)
    have h2 := sm 1 (by rw [hv]; simp)
    simp only [hv, List.getElem_cons_zero, List.getElem_cons_succ] at h1 h2
    simp [h1, h2]
/-- One event, where there is no limit. -/
def vt (m : Ext) (i : Nat) (s : Sta) (ev : Int) (S : Srch) : Srch :=
  let n := stepR m s ev
  let S1 : Srch := if n.2.2 ≠ 0 ∧ S.kind = 0 then { S with kind := n.2.2, flt := (i, ev) } else S
  if n.2.1 = false ∨ n.1 ∈ S.sts then S1 else { S1 with sts := S1.sts ++ [n.1], frm := S1.frm ++ [((i : Int), ev)] }
/- What one event does to words. -/
end Go.AI


/- Sketched automata unfolded: what is known of the result, in plain data. -/
namespace Go.AI
set_option maxRecDepth 20000
/-- The key says which state it is. -/
def decF (l : List UInt8) : List Int :=
  (l.foldl (fun (x : List Int × Bool × Int) c =>
    if c = 32 then (x.1 ++ [if x.2.1 then -x.2.2 else x.2.2], false, 0) else if c = 59 then x else if c = 45 then (x.1, true, x.2.2) else (x.1, x.2.1, x.2.2 * 10 + ((c.toNat : Int) - 48))) ([], false, 0)).1
def decK (b : ByteArray) : Sta := match decF b.data.toList with
  | [] => zeroS
  | l :: v => ⟨l, v⟩
theorem combos_key : (combos.all fun s => decide (decK (fkey s) = s)) = true := by kernel_rfl
theorem beq_bytes {a b : ByteArray} : (a == b) = true ↔ a = b := by
  constructor
  · intro h
    have h' : (a.data == b.data) = true := h
    exact ByteArray.ext (by simpa using h')
  · rintro rfl
    show (a.data == a.data) = true
    simp
theorem keq_made {m : Ext} (hm : made m) {s t : Sta} (hs : okS m s) (ht : okS m t) : keq s t = eqB s t := by
  have h1 := of_decide_eq_true (List.all_eq_true.1 combos_key s (okS_combo hm hs))
  have h2 := of_decide_eq_true (List.all_eq_true.1 combos_key t (okS_combo hm ht))
  by_cases h : s = t
  · subst h
    have : keq s s = true := beq_bytes.2 rfl
    rw [this]; simp [eqB]
  · have : keq s t = false := by
      cases hk : keq s t with
      | false => rfl
      | true =>
        have e : fkey s = fkey t := beq_bytes.1 hk
        exact absurd (by rw [← h1, ← h2, e]) h
    rw [this]; simp [eqB, h]
theorem fin_made {m : Ext} (hm : made m) : Fin1 (stpR m) keq true (okS m) :=
  ⟨fun s ev h hp => stp_okS (made_right hm) h hp, fun s t hs ht => keq_made hm hs ht, fun _ l h1 h2 => by have := few_states hm h1 h2; omega⟩
abbrev mkdM (m : Ext) (s : Sta) : Bool := decide (s.loc ∈ m.marked)
theorem unf_made {m : Ext} (hm : made m) : (∃ e, unfoldR m = .error e ∧ UBad m.alpha (okS m) (stpR m) e) ∨ ∃ V, unfoldR m = .ok V ∧ UAt (mkdM m) m.alpha (okS m) (stpR m) V.sts.length V := by
  unfold unfoldR
  rw [made_chk hm, if_neg (by simp)]
  exact unfR_spec (mkdM m) (fin_made hm) (start_ok (made_right hm)) (B := 64) (fun l h1 h2 => few_states hm h1 h2) (by decide)
end Go.AI


/- The law's own functions (19): has, none, same, sameStates, place, unfold. -/
namespace Go.AI
open Go.Proofs
set_option maxRecDepth 20000
theorem has68 (O : List Heap) (l : List Int) (x : Int) (hl : l.length ≤ max63) : ASpec Tryd.prog 68 [ints l, ii x] O (bb (decide (x ∈ l))) [] O := by
  have hR : decide (x ∈ l) = decide (x ∈ l.drop 0) := rfl
  generalize decide (x ∈ l) = R at *
  refine aspec_intro Tk Tryd.func68 rfl Tryd.call68 Tryd.ntmps68 (Nat.le_of_ble_eq_true rfl) fun E => ?_
  refine g_run Tk Tryd.func68 ?_
  refine g_loop ?_
  refine rch_loop2 (fun i : Nat => [(0, ints l), (1, ii x), (5, ii i)]) (fun _ => []) (fun _ => O) 18
    (fun i => i ≤ l.length ∧ R = decide (x ∈ l.drop i)) (fun i => l.length - i) 0 ⟨Nat.zero_le _, hR⟩ ⟨rfl, rfl, rfl, trivial⟩ rfl trivial rfl rfl ?_
  rintro i ⟨hi, hno⟩ ih
  clear hR
  refine g_run Tk Tryd.func68 ?_
  first | refine g_cnd Tk Tryd.func68 rfl (fun g1 => ?_) (fun g1 => ?_) | refine g_know Tk Tryd.func68 rfl (fun g1 => ?_) (fun g1 => ?_) | refine s_know Tk (fun g1 => ?_) (fun g1 => ?_)
  · have h1 : i < l.length := by simpa using g1
    have gl : (l.map fun x => [vi x])[(i : Int).toNat]? = some [vi l[i]] := get_mapZ (f := fun x => [vi x]) h1
    have dl : l.drop i = l[i] :: l.drop (i + 1) := List.drop_eq_getElem_cons h1
    simp only [dl, List.mem_cons] at hno
    clear dl
    generalize l[i] = y at *
    first | refine g_need Tk Tryd.func68 (by exact ⟨by omega, by show (i : Int) < (l.length : Int); omega⟩) ?_ | refine s_need Tk (by exact ⟨by omega, by show (i : Int) < (l.length : Int); omega⟩) ?_
    first | refine g_elem Tk Tryd.func68 (gl) ?_ | refine s_elem Tk (gl) ?_
    first | refine g_cnd Tk Tryd.func68 rfl (fun g2 => ?_) (fun g2 => ?_) | refine g_know Tk Tryd.func68 rfl (fun g2 => ?_) (fun g2 => ?_) | refine s_know Tk (fun g2 => ?_) (fun g2 => ?_)
    · have g2 : y = x := beqT g2
      subst g2
      refine g_ret Tk (r := bb true) rfl rfl rfl trivial rfl rfl ?_
      rw [hno]
      simp
    · have g2 : y ≠ x := beqF g2
      have hno : R = decide (x ∈ l.drop (i + 1)) := by
        rw [hno]
        exact decide_eq_decide.2 ⟨fun h => h.resolve_left (Ne.symm g2), .inr⟩
      refine g_loop ?_
      exact ih (i + 1) _ _ ⟨h1, hno⟩ (by omega) ⟨rfl, rfl, congrArg ii (wsucc h1 hl), trivial⟩ rfl trivial rfl rfl
  · have h1 : l.length ≤ i := by simpa using g1
    simp only [List.drop_eq_nil_of_le h1] at hno
    refine g_ret Tk (r := bb false) rfl rfl rfl trivial rfl rfl ?_
    rw [hno]
    simp
theorem none60 (O : List Heap) : ASpec Tryd.prog 60 [autD ⟨[], 0, [], []⟩] O (bb true) [] O := by
  refine aspec_intro Tk Tryd.func60 rfl Tryd.call60 Tryd.ntmps60 (Nat.le_of_ble_eq_true rfl) fun E => ?_
  refine g_run Tk Tryd.func60 ?_
  refine g_ret Tk (r := bb true) rfl rfl rfl trivial rfl rfl ?_
  rfl
theorem sameInts_refl (O : List Heap) (l : List Int) (hl : l.length ≤ max63) : ASpec Tryd.prog 36 [ints l, ints l] O (bb true) [] O := by
  have h := sameInts36 O l l hl
  rwa [decide_eq_true rfl] at h
theorem same57 (O : List Heap) (a : Aut) (ha : a.alpha.length ≤ max63) (hm : a.marked.length ≤ max63) (he : a.edges.length ≤ max63) : ASpec Tryd.prog 57 [autD a, autD a] O (bb true) [] O := by
  obtain ⟨al, n, mk, es⟩ := a
  simp only at ha hm he
  have h1 := fun O => sameInts_refl O al ha
  have h2 := fun O => sameInts_refl O mk hm
  refine aspec_intro Tk Tryd.func57 rfl Tryd.call57 Tryd.ntmps57 (Nat.le_of_ble_eq_true rfl) fun E => ?_
  refine g_run Tk Tryd.func57 ?_
  first | refine g_call Tk Tryd.func57 (h1 _) rfl rfl rfl rfl rfl ?_ | refine s_callq Tk (fun _ => h1 _) rfl rfl rfl ?_
  repeat (first | refine g_cnd Tk Tryd.func57 rfl (fun _ => ?_) (fun h => absurd h (by decide)) | refine g_know Tk Tryd.func57 rfl (fun _ => ?_) (fun h => absurd h (by decide)) | refine s_know Tk (fun _ => ?_) (fun h => absurd h (by decide)) | refine g_cnd Tk Tryd.func57 rfl (fun h => absurd h (by decide)) (fun _ => ?_) | refine g_know Tk Tryd.func57 rfl (fun h => absurd h (by decide)) (fun _ => ?_) | refine s_know Tk (fun h => absurd h (by decide)) (fun _ => ?_) | refine g_cnd Tk Tryd.func57 rfl (fun _ => ?_) (fun h => absurd (show true = false from h) (by decide)) | refine g_know Tk Tryd.func57 rfl (fun _ => ?_) (fun h => absurd (show true = false from h) (by decide)) | refine s_know Tk (fun _ => ?_) (fun h => absurd (show true = false from h) (by decide)) | refine g_cnd Tk Tryd.func57 rfl (fun h => absurd (show false = true from h) (by decide)) (fun _ => ?_) | refine g_know Tk Tryd.func57 rfl (fun h => absurd (show false = true from h) (by decide)) (fun _ => ?_) | refine s_know Tk (fun h => absurd (show false = true from h) (by decide)) (fun _ => ?_))
  first | refine g_cnd Tk Tryd.func57 rfl (fun g1 => ?_) (fun g1 => ?_) | refine g_know Tk Tryd.func57 rfl (fun g1 => ?_) (fun g1 => ?_) | refine s_know Tk (fun g1 => ?_) (fun g1 => ?_)
  · exact absurd rfl (bneT g1)
  repeat (first | refine g_cnd Tk Tryd.func57 rfl (fun _ => ?_) (fun h => absurd h (by decide)) | refine g_know Tk Tryd.func57 rfl (fun _ => ?_) (fun h => absurd h (by decide)) | refine s_know Tk (fun _ => ?_) (fun h => absurd h (by decide)) | refine g_cnd Tk Tryd.func57 rfl (fun h => absurd h (by decide)) (fun _ => ?_) | refine g_know Tk Tryd.func57 rfl (fun h => absurd h (by decide)) (fun _ => ?_) | refine s_know Tk (fun h => absurd h (by decide)) (fun _ => ?_) | refine g_cnd Tk Tryd.func57 rfl (fun _ => ?_) (fun h => absurd (show true = false from h) (by decide)) | refine g_know Tk Tryd.func57 rfl (fun _ => ?_) (fun h => absurd (show true = false from h) (by decide)) | refine s_know Tk (fun _ => ?_) (fun h => absurd (show true = false from h) (by decide)) | refine g_cnd Tk Tryd.func57 rfl (fun h => absurd (show false = true from h) (by decide)) (fun _ => ?_) | refine g_know Tk Tryd.func57 rfl (fun h => absurd (show false = true from h) (by decide)) (fun _ => ?_) | refine s_know Tk (fun h => absurd (show false = true from h) (by decide)) (fun _ => ?_))
  first | refine g_call Tk Tryd.func57 (h2 _) rfl rfl rfl rfl rfl ?_ | refine s_callq Tk (fun _ => h2 _) rfl rfl rfl ?_
  repeat (first | refine g_cnd Tk Tryd.func57 rfl (fun _ => ?_) (fun h => absurd h (by decide)) | refine g_know Tk Tryd.func57 rfl (fun _ => ?_) (fun h => absurd h (by decide)) | refine s_know Tk (fun _ => ?_) (fun h => absurd h (by decide)) | refine g_cnd Tk Tryd.func57 rfl (fun h => absurd h (by decide)) (fun _ => ?_) | refine g_know Tk Tryd.func57 rfl (fun h => absurd h (by decide)) (fun _ => ?_) | refine s_know Tk (fun h => absurd h (by decide)) (fun _ => ?_) | refine g_cnd Tk Tryd.func57 rfl (fun _ => ?_) (fun h => absurd (show true = false from h) (by decide)) | refine g_know Tk Tryd.func57 rfl (fun _ => ?_) (fun h => absurd (show true = false from h) (by decide)) | refine s_know Tk (fun _ => ?_) (fun h => absurd (show true = false from h) (by decide)) | refine g_cnd Tk Tryd.func57 rfl (fun h => absurd (show false = true from h) (by decide)) (fun _ => ?_) | refine g_know Tk Tryd.func57 rfl (fun h => absurd (show false = true from h) (by decide)) (fun _ => ?_) | refine s_know Tk (fun h => absurd (show false = true from h) (by decide)) (fun _ => ?_))
  first | refine g_cnd Tk Tryd.func57 rfl (fun g2 => ?_) (fun g2 => ?_) | refine g_know Tk Tryd.func57 rfl (fun g2 => ?_) (fun g2 => ?_) | refine s_know Tk (fun g2 => ?_) (fun g2 => ?_)
  · exact absurd rfl (bneT g2)
  refine g_loop ?_
  refine rch_loop2 (fun i : Nat => [(2, .own 0 2 0 0), (3, .own 0 3 0 0), (5, ii i)]) (fun _ => [(2, .box [ints al, ii n, ints mk, edgs es]), (3, .box [ints al, ii n, ints mk, edgs es])]) (fun _ => O) 54
    (fun i => i ≤ es.length) (fun i => es.length - i) 0 (Nat.zero_le _) ⟨rfl, rfl, rfl, trivial⟩ rfl ⟨rfl, rfl, trivial⟩ rfl rfl ?_
  rintro i hi ih
  refine g_run Tk Tryd.func57 ?_
  first | refine g_cnd Tk Tryd.func57 rfl (fun g3 => ?_) (fun g3 => ?_) | refine g_know Tk Tryd.func57 rfl (fun g3 => ?_) (fun g3 => ?_) | refine s_know Tk (fun g3 => ?_) (fun g3 => ?_)
  · have h3 : i < es.length := by simpa using g3
    have ge : (es.map edgI)[(i : Int).toNat]? = some (edgI es[i]) := get_mapZ h3
    generalize es[i] = e at *
    refine g_drawn Tk Tryd.func57 mixedT rfl ?_
    first | refine g_need Tk Tryd.func57 (by exact ⟨by omega, by show (i : Int) < (es.length : Int); omega⟩) ?_ | refine s_need Tk (by exact ⟨by omega, by show (i : Int) < (es.length : Int); omega⟩) ?_
    first | refine g_elem Tk Tryd.func57 (ge) ?_ | refine s_elem Tk (ge) ?_
    first | refine g_need Tk Tryd.func57 (by exact ⟨by omega, by show (i : Int) < (es.length : Int); omega⟩) ?_ | refine s_need Tk (by exact ⟨by omega, by show (i : Int) < (es.length : Int); omega⟩) ?_
    first | refine g_elem Tk Tryd.func57 (ge) ?_ | refine s_elem Tk (ge) ?_
    refine e_done Tk Tryd.func57 (by kernel_rfl) ?_
    first | refine g_cnd Tk Tryd.func57 rfl (fun g4 => ?_) (fun g4 => ?_) | refine g_know Tk Tryd.func57 rfl (fun g4 => ?_) (fun g4 => ?_) | refine s_know Tk (fun g4 => ?_) (fun g4 => ?_)
    · simp at g4
    · refine g_loop ?_
      exact ih (i + 1) _ _ h3 (by omega) ⟨rfl, rfl, congrArg ii (wsucc h3 he), trivial⟩ rfl ⟨rfl, rfl, trivial⟩ rfl rfl
  · refine g_ret Tk (r := bb true) rfl rfl rfl trivial rfl rfl ?_
    rfl
theorem sameStates61 (O : List Heap) (l : List Sta) (hl : l.length ≤ max63) (hv : ∀ s ∈ l, s.vals.length ≤ max63) : ASpec Tryd.prog 61 [stasD l, stasD l] O (bb true) [] O := by
  refine aspec_intro Tk Tryd.func61 rfl Tryd.call61 Tryd.ntmps61 (Nat.le_of_ble_eq_true rfl) fun E => ?_
  refine g_run Tk Tryd.func61 ?_
  first | refine g_cnd Tk Tryd.func61 rfl (fun g1 => ?_) (fun g1 => ?_) | refine g_know Tk Tryd.func61 rfl (fun g1 => ?_) (fun g1 => ?_) | refine s_know Tk (fun g1 => ?_) (fun g1 => ?_)
  · exact absurd rfl (bneT g1)
  refine g_loop ?_
  refine rch_loop2 (fun i : Nat => [(0, stasD l), (1, stasD l), (5, ii i)]) (fun _ => []) (fun _ => O) 27
    (fun i => i ≤ l.length) (fun i => l.length - i) 0 (Nat.zero_le _) ⟨rfl, rfl, rfl, trivial⟩ rfl trivial rfl rfl ?_
  rintro i hi ih
  refine g_run Tk Tryd.func61 ?_
  first | refine g_cnd Tk Tryd.func61 rfl (fun g3 => ?_) (fun g3 => ?_) | refine g_know Tk Tryd.func61 rfl (fun g3 => ?_) (fun g3 => ?_) | refine s_know Tk (fun g3 => ?_) (fun g3 => ?_)
  · have h3 : i < l.length := by simpa using g3
    have gs : (l.map staI)[(i : Int).toNat]? = some (staI l[i]) := get_mapZ h3
    have hvi := hv _ (List.getElem_mem h3)
    generalize l[i] = s at *
    have heq := fun O => equalStates32 O s s hvi
    rw [decide_eq_true rfl] at heq
    obtain ⟨sl, sv⟩ := s
    refine g_drawn Tk Tryd.func61 mixedT rfl ?_
    first | refine g_need Tk Tryd.func61 (by exact ⟨by omega, by show (i : Int) < (l.length : Int); omega⟩) ?_ | refine s_need Tk (by exact ⟨by omega, by show (i : Int) < (l.length : Int); omega⟩) ?_
    first | refine g_elem Tk Tryd.func61 (gs) ?_ | refine s_elem Tk (gs) ?_
    first | refine g_need Tk Tryd.func61 (by exact ⟨by omega, by show (i : Int) < (l.length : Int); omega⟩) ?_ | refine s_need Tk (by exact ⟨by omega, by show (i : Int) < (l.length : Int); omega⟩) ?_
    first | refine g_elem Tk Tryd.func61 (gs) ?_ | refine s_elem Tk (gs) ?_
    first | refine g_call Tk Tryd.func61 (heq _) rfl rfl rfl rfl rfl ?_ | refine s_callq Tk (fun _ => heq _) rfl rfl rfl ?_
    refine e_done Tk Tryd.func61 (by kernel_rfl) ?_
    repeat (first | refine g_cnd Tk Tryd.func61 rfl (fun _ => ?_) (fun h => absurd h (by decide)) | refine g_know Tk Tryd.func61 rfl (fun _ => ?_) (fun h => absurd h (by decide)) | refine s_know Tk (fun _ => ?_) (fun h => absurd h (by decide)) | refine g_cnd Tk Tryd.func61 rfl (fun h => absurd h (by decide)) (fun _ => ?_) | refine g_know Tk Tryd.func61 rfl (fun h => absurd h (by decide)) (fun _ => ?_) | refine s_know Tk (fun h => absurd h (by decide)) (fun _ => ?_) | refine g_cnd Tk Tryd.func61 rfl (fun _ => ?_) (fun h => absurd (show true = false from h) (by decide)) | refine g_know Tk Tryd.func61 rfl (fun _ => ?_) (fun h => absurd (show true = false from h) (by decide)) | refine s_know Tk (fun _ => ?_) (fun h => absurd (show true = false from h) (by decide)) | refine g_cnd Tk Tryd.func61 rfl (fun h => absurd (show false = true from h) (by decide)) (fun _ => ?_) | refine g_know Tk Tryd.func61 rfl (fun h => absurd (show false = true from h) (by decide)) (fun _ => ?_) | refine s_know Tk (fun h => absurd (show false = true from h) (by decide)) (fun _ => ?_))
    refine g_loop ?_
    exact ih (i + 1) _ _ h3 (by omega) ⟨rfl, rfl, congrArg ii (wsucc h3 hl), trivial⟩ rfl trivial rfl rfl
  · refine g_ret Tk (r := bb true) rfl rfl rfl trivial rfl rfl ?_
    rfl
end Go.AI


/- The law's unfolding. -/
namespace Go.AI
open Go.Proofs
set_option maxRecDepth 20000
theorem place123o (O : List Heap) (l : List Sta) (s : Sta) (e w : Nat) (ho : objAt O e w = some (ostas l)) (hl : l.length ≤ max63) (hv : ∀ s ∈ l, s.vals.length ≤ max63) : ASpec Tryd.prog 123 [.osl e w, staD s] O (ii ((l.findIdx (eqB s) : Nat) : Int)) [] O := by
  have hO : ∀ H, objAt (H :: O) (e + 1) w = some (ostas l) := fun H => up_obj ho
  have hR : l.findIdx (eqB s) = 0 + (l.drop 0).findIdx (eqB s) := by simp
  generalize l.findIdx (eqB s) = R at *
  have heq := fun x hx O => equalStates32 O x s (hv x hx)
  obtain ⟨sl, sv⟩ := s
  refine aspec_intro Tk Tryd.func123 rfl Tryd.call123 Tryd.ntmps123 (Nat.le_of_ble_eq_true rfl) fun E => ?_
  refine g_run Tk Tryd.func123 ?_
  refine g_loop ?_
  refine rch_loop2 (fun i : Nat => [(0, .osl (e + 1) w), (3, .own 0 3 0 0), (5, ii i)]) (fun _ => [(3, .box [ii sl, ints sv])]) (fun _ => O) 21
    (fun i => i ≤ l.length ∧ R = i + (l.drop i).findIdx (eqB ⟨sl, sv⟩)) (fun i => l.length - i) 0 ⟨Nat.zero_le _, hR⟩ ⟨rfl, rfl, rfl, trivial⟩ rfl ⟨rfl, trivial⟩ rfl rfl ?_
  rintro i ⟨hi, hno⟩ ih
  refine g_run Tk Tryd.func123 ?_
  first | refine g_obj Tk Tryd.func123 (hO _) ?_ | refine s_obj Tk (hO _) ?_
  first | refine g_cnd Tk Tryd.func123 rfl (fun g3 => ?_) (fun g3 => ?_) | refine g_know Tk Tryd.func123 rfl (fun g3 => ?_) (fun g3 => ?_) | refine s_know Tk (fun g3 => ?_) (fun g3 => ?_)
  · have h3 : i < l.length := by simpa using g3
    have gs : (l.map staI)[(i : Int).toNat]? = some (staI l[i]) := get_mapZ h3
    have heq := heq _ (List.getElem_mem h3)
    have dl : l.drop i = l[i] :: l.drop (i + 1) := List.drop_eq_getElem_cons h3
    rw [dl, List.findIdx_cons] at hno
    clear dl
    generalize l[i] = x at *
    have hxe : eqB ⟨sl, sv⟩ x = decide (x = ⟨sl, sv⟩) := by simp only [eqB]; exact decide_eq_decide.2 ⟨Eq.symm, Eq.symm⟩
    rw [hxe] at hno
    generalize decide (x = (⟨sl, sv⟩ : Sta)) = B at *
    obtain ⟨xl, xv⟩ := x
    refine g_drawn Tk Tryd.func123 mixedT rfl ?_
    first | refine g_obj Tk Tryd.func123 (ho) ?_ | refine s_obj Tk (ho) ?_
    first | refine g_need Tk Tryd.func123 (by exact ⟨by omega, by show (i : Int) < (l.length : Int); omega⟩) ?_ | refine s_need Tk (by exact ⟨by omega, by show (i : Int) < (l.length : Int); omega⟩) ?_
    first | refine g_obj Tk Tryd.func123 (ho) ?_ | refine s_obj Tk (ho) ?_
    first | refine g_elem Tk Tryd.func123 (gs) ?_ | refine s_elem Tk (gs) ?_
    first | refine g_call Tk Tryd.func123 (heq _) rfl rfl rfl rfl rfl ?_ | refine s_callq Tk (fun _ => heq _) rfl rfl rfl ?_
    refine e_done Tk Tryd.func123 (by kernel_rfl) ?_
    first | refine g_cnd Tk Tryd.func123 rfl (fun g4 => ?_) (fun g4 => ?_) | refine g_know Tk Tryd.func123 rfl (fun g4 => ?_) (fun g4 => ?_) | refine s_know Tk (fun g4 => ?_) (fun g4 => ?_)
    · subst g4
      simp only [cond_true, Nat.add_zero] at hno
      subst hno
      refine g_ret Tk (r := ii (R : Int)) rfl rfl rfl trivial rfl rfl ?_
      rfl
    · subst g4
      simp only [cond_false] at hno
      refine g_loop ?_
      exact ih (i + 1) _ _ ⟨h3, by omega⟩ (by omega) ⟨rfl, rfl, congrArg ii (wsucc h3 hl), trivial⟩ rfl ⟨rfl, trivial⟩ rfl rfl
  · have h3 : l.length ≤ i := by simpa using g3
    rw [List.drop_eq_nil_of_le h3] at hno
    have hno : R = l.length := by
      rw [hno]
      simp
      omega
    subst hno
    first | refine g_obj Tk Tryd.func123 (hO _) ?_ | refine s_obj Tk (hO _) ?_
    refine g_ret Tk (r := ii (l.length : Int)) rfl rfl rfl trivial rfl rfl ?_
    rfl
/-- The unfolding of the law. -/
def unfL (m : Ext) : Except Int (Unf Sta) := unfR eqB false (stpR m) (fun s => decide (s.loc ∈ m.marked)) m.alpha (startR m)
theorem unfL_same {m : Ext} (hm : made m) : unfL m = unfoldR m := by
  unfold unfoldR
  rw [made_chk hm, if_neg (by simp)]
  exact (unfR_same (fun s => decide (s.loc ∈ m.marked)) (fin_made hm) (show Fin1 (stpR m) eqB false (okS m) from ⟨fun s ev h hp => stp_okS (made_right hm) h hp, fun _ _ _ _ => rfl, fun h => by cases h⟩) (start_ok (made_right hm))).symm
theorem uvisit_ok {m : Ext} (hF : Fin1 (stpR m) eqB false (okS m)) {i : Nat} {s : Sta} {ev : Int} {U V : Unf Sta} (hU : UOk (okS m) U) (hs : okS m s) (hi : i < U.sts.length) (h : uvisit eqB false (stpR m) i s ev U = .ok V) :
    UOk (okS m) V ∧ i < V.sts.length ∧ V.sts[i]? = U.sts[i]? := by
  have h1 := uvisit_spec hF (ev := ev) hU hs hi
  split at h1
  · rw [h1] at h; cases h
  · obtain ⟨r, h2, h3, _⟩ := h1
    rw [h2] at h
    simp only [Except.ok.injEq] at h
    subst h
    exact ⟨h3, by simp only [List.length_append]; omega, List.getElem?_append_left hi⟩
set_option maxHeartbeats 4000000 in
theorem unfold59 (O : List Heap) (m : Ext) (hm : made m) : ASpec Tryd.prog 59 [extD m] O (unfD m.alpha (unfL m)) [] O := by
  have hok := made_ok hm
  have hr := made_right hm
  have hbeg := fun O => begin20 O m hok
  simp only [made_start hm] at hbeg
  have hf := start_ok hr
  have hno : unfL m = uloop eqB false (stpR m) (fun s => decide (s.loc ∈ m.marked)) m.alpha (4097 - 0) 0 (unf0 (startR m)) := rfl
  have hal : m.alpha.length = 3 := by rw [hm.al]; rfl
  have h0 : UOk (okS m) (unf0 (startR m)) := ⟨by simp [unf0, hf], by simp [unf0], rfl⟩
  have hF : Fin1 (stpR m) eqB false (okS m) := ⟨fun s ev h hp => stp_okS hr h hp, fun _ _ _ _ => rfl, fun h => by cases h⟩
  have hfew : ∀ U : Unf Sta, UOk (okS m) U → U.sts.length ≤ 64 := fun U h => few_states hm h.ok h.nd
  have hkl : ∀ U : Unf Sta, UOk (okS m) U → ∀ s ∈ U.sts, s.vals.length ≤ max63 := fun U h s hs => okS_len hr (h.ok s hs)
  generalize unfL m = R at *
  generalize hst0 : startR m = st at *
  obtain ⟨fl, fv⟩ := st
  refine aspec_stop [9, 19] Tk Tryd.func59 rfl Tryd.call59 Tryd.ntmps59 (Nat.le_of_ble_eq_true rfl) fun E => ?_
  refine g_run Tk Tryd.func59 ?_
  first | refine g_call Tk Tryd.func59 (hbeg _) rfl rfl rfl rfl rfl ?_ | refine s_callq Tk (fun _ => hbeg _) rfl rfl rfl ?_
  refine g_loop ?_
  refine rch_wk (wk_ren 24 87 rfl rfl rfl) ?_
  refine rch_wk (wk_nilbox2 5 47 3 1 (pre := [ints m.alpha, ii 0]) (post := [.i (.v (.slice none 0 0))]) rfl rfl rfl) ?_
  refine rch_wk (wk_nilbox2 5 99 124 3 (pre := [ints m.alpha, ii 0, .osl 0 47]) (post := []) rfl rfl rfl) ?_
  refine rch_loop2 (fun x : Nat × Unf Sta => [(1, .own 0 1 0 0), (2, .own 0 2 0 0), (5, .own 0 5 0 0), (7, ii 0), (8, .osl 0 87), (9, ii x.1)])
    (fun x => [(1, .box (extC m)), (2, .box [.i (.v (.slice none 0 0)), ii 0, .i (.v (.slice none 0 0)), .i (.v (.slice none 0 0))]), (5, .box [ints m.alpha, ii 0, .osl 0 47, .osl 0 99]), (87, ostas x.2.sts), (47, oints x.2.mkl), (99, oedgs x.2.eds)]) (fun _ => O) 107
    (fun x => x.1 ≤ x.2.sts.length ∧ UOk (okS m) x.2 ∧ x.2.mkl.length ≤ x.1 ∧ x.2.eds.length ≤ 3 * x.1 ∧ R = uloop eqB false (stpR m) (fun s => decide (s.loc ∈ m.marked)) m.alpha (4097 - x.1) x.1 x.2) (fun x => 4097 - x.1) (0, unf0 ⟨fl, fv⟩)
    ⟨Nat.zero_le _, h0, Nat.le_refl _, Nat.le_refl _, hno⟩ ⟨rfl, rfl, rfl, rfl, rfl, rfl, trivial⟩ rfl ⟨rfl, rfl, rfl, rfl, rfl, rfl, trivial⟩ rfl rfl ?_
  clear hno
  rintro ⟨i, U⟩ ⟨hi, hgd, hml, hel, hno⟩ ih
  simp only at hi hgd hml hel hno
  refine g_run Tk Tryd.func59 ?_
  first | refine g_cnd Tk Tryd.func59 rfl (fun g1 => ?_) (fun g1 => ?_) | refine g_know Tk Tryd.func59 rfl (fun g1 => ?_) (fun g1 => ?_) | refine s_know Tk (fun g1 => ?_) (fun g1 => ?_)
  · have h1 : i < U.sts.length := by simpa using g1
    clear g1
    have hle := hfew U hgd
    have hsi : U.sts[i]? = some U.sts[i] := List.getElem?_eq_getElem h1
    have gs : (U.sts.map staI)[(i : Int).toNat]? = some (staI U.sts[i]) := get_mapZ h1
    have hoks := hgd.ok _ (List.getElem_mem h1)
    generalize U.sts[i] = s at *
    have hno : R = match uvisits eqB false (stpR m) i s m.alpha (umark (fun s => decide (s.loc ∈ m.marked)) i s U) with
        | .error e => .error e
        | .ok U' => uloop eqB false (stpR m) (fun s => decide (s.loc ∈ m.marked)) m.alpha (4097 - (i + 1)) (i + 1) U' := by
      rw [hno, show 4097 - i = (4097 - (i + 1)) + 1 by omega]
      simp only [uloop, hsi]
      cases uvisits eqB false (stpR m) i s m.alpha (umark (fun s => decide (s.loc ∈ m.marked)) i s U) <;> rfl
    have hmk := fun O => has68 O m.marked s.loc hok.ma
    obtain ⟨m1, m2⟩ := umark_sts (fun s : Sta => decide (s.loc ∈ m.marked)) i s U
    have hM : UOk (okS m) (umark (fun s : Sta => decide (s.loc ∈ m.marked)) i s U) := ⟨by rw [m1]; exact hgd.ok, by rw [m1]; exact hgd.nd, by rw [m1, m2]; exact hgd.fr⟩
    have hm3 : (umark (fun s : Sta => decide (s.loc ∈ m.marked)) i s U).mkl = if s.loc ∈ m.marked then U.mkl ++ [(i : Int)] else U.mkl := by
      unfold umark
      by_cases h : s.loc ∈ m.marked <;> simp [h]
    generalize umark (fun s : Sta => decide (s.loc ∈ m.marked)) i s U = U1 at *
    obtain ⟨sts, mkl, eds⟩ := U
    obtain ⟨sts1, mkl1, eds1⟩ := U1
    simp only at m1 m2 hm3 hsi gs hno h1 hle hel hml
    subst m1 m2
    obtain ⟨sl, sv⟩ := s
    simp only at hm3 hmk
    have n1 : 0 ≤ (i : Int) ∧ (i : Int) < (sts1.length : Int) := by omega
    repeat (first | refine g_cnd Tk Tryd.func59 rfl (fun _ => ?_) (fun h => absurd h (by decide)) | refine g_know Tk Tryd.func59 rfl (fun _ => ?_) (fun h => absurd h (by decide)) | refine s_know Tk (fun _ => ?_) (fun h => absurd h (by decide)) | refine g_cnd Tk Tryd.func59 rfl (fun h => absurd h (by decide)) (fun _ => ?_) | refine g_know Tk Tryd.func59 rfl (fun h => absurd h (by decide)) (fun _ => ?_) | refine s_know Tk (fun h => absurd h (by decide)) (fun _ => ?_) | refine g_cnd Tk Tryd.func59 rfl (fun _ => ?_) (fun h => absurd (show true = false from h) (by decide)) | refine g_know Tk Tryd.func59 rfl (fun _ => ?_) (fun h => absurd (show true = false from h) (by decide)) | refine s_know Tk (fun _ => ?_) (fun h => absurd (show true = false from h) (by decide)) | refine g_cnd Tk Tryd.func59 rfl (fun h => absurd (show false = true from h) (by decide)) (fun _ => ?_) | refine g_know Tk Tryd.func59 rfl (fun h => absurd (show false = true from h) (by decide)) (fun _ => ?_) | refine s_know Tk (fun h => absurd (show false = true from h) (by decide)) (fun _ => ?_))
    refine g_drawn Tk Tryd.func59 mixedT rfl ?_
    first | refine g_need Tk Tryd.func59 (by exact n1) ?_ | refine s_need Tk (by exact n1) ?_
    first | refine g_elem Tk Tryd.func59 (gs) ?_ | refine s_elem Tk (gs) ?_
    first | refine g_call Tk Tryd.func59 (hmk _) rfl rfl rfl rfl rfl ?_ | refine s_callq Tk (fun _ => hmk _) rfl rfl rfl ?_
    refine e_done Tk Tryd.func59 (by kernel_rfl) ?_
    apply join_p (P := True) (s6 := { σ := [(1, .own 0 1 0 0), (2, .own 0 2 0 0), (5, .own 0 5 0 0), (7, ii 0), (8, .osl 0 87), (9, ii i)], S := [(1, .box (extC m)), (2, .box [.i (.v (.slice none 0 0)), ii 0, .i (.v (.slice none 0 0)), .i (.v (.slice none 0 0))]), (5, .box [ints m.alpha, ii 0, .osl 0 47, .osl 0 99]), (87, ostas sts1), (47, oints mkl1), (99, oedgs eds1)] :: O, n := 107 })
    · intro J
      first | refine g_cnd Tk Tryd.func59 rfl (fun c1 => ?_) (fun c1 => ?_) | refine g_know Tk Tryd.func59 rfl (fun c1 => ?_) (fun c1 => ?_) | refine s_know Tk (fun c1 => ?_) (fun c1 => ?_)
      · have c1 : sl ∈ m.marked := of_decide_eq_true c1
        rw [if_pos c1] at hm3
        subst hm3
        first | refine g_need Tk Tryd.func59 (by exact ⟨by show (mkl.length + 1) * 8 ≤ 140737488355328; omega, by show mkl.length + 1 ≤ 9223372036854775807; omega⟩) ?_ | refine s_need Tk (by exact ⟨by show (mkl.length + 1) * 8 ≤ 140737488355328; omega, by show mkl.length + 1 ≤ 9223372036854775807; omega⟩) ?_
        refine g_stop ?_
        refine rch_meet (J trivial) ⟨rfl, rfl, rfl, rfl, rfl, rfl, trivial⟩ rfl ⟨rfl, rfl, rfl, rfl, congrArg some (oints_app mkl (i : Int)), rfl, trivial⟩ rfl rfl
      · have c1 : sl ∉ m.marked := of_decide_eq_false c1
        rw [if_neg c1] at hm3
        subst hm3
        refine g_stop ?_
        refine rch_meet (J trivial) ⟨rfl, rfl, rfl, rfl, rfl, rfl, trivial⟩ rfl ⟨rfl, rfl, rfl, rfl, rfl, rfl, trivial⟩ rfl rfl
    · intro _
      have hml1 : mkl1.length ≤ i + 1 := by rw [hm3]; split; (rw [List.length_append, List.length_singleton]; omega); omega
      clear hm3 hml hmk gs
      have hV0 : uvisits eqB false (stpR m) i ⟨sl, sv⟩ m.alpha ⟨sts1, mkl1, eds1⟩ = uvisits eqB false (stpR m) i ⟨sl, sv⟩ (m.alpha.drop 0) ⟨sts1, mkl1, eds1⟩ := rfl
      generalize uvisits eqB false (stpR m) i ⟨sl, sv⟩ m.alpha ⟨sts1, mkl1, eds1⟩ = V at *
      refine g_run Tk Tryd.func59 ?_
      refine g_go Tk Tryd.func59 ?_
      refine g_loop ?_
      refine rch_loop2 (fun x : Nat × Unf Sta => [(1, .own 0 1 0 0), (2, .own 0 2 0 0), (5, .own 0 5 0 0), (7, ii 0), (8, .osl 0 87), (9, ii i), (10, ii x.1)])
        (fun x => [(1, .box (extC m)), (2, .box [.i (.v (.slice none 0 0)), ii 0, .i (.v (.slice none 0 0)), .i (.v (.slice none 0 0))]), (5, .box [ints m.alpha, ii 0, .osl 0 47, .osl 0 99]), (87, ostas x.2.sts), (47, oints x.2.mkl), (99, oedgs x.2.eds)]) (fun _ => O) 107
        (fun x => x.1 ≤ m.alpha.length ∧ UOk (okS m) x.2 ∧ i < x.2.sts.length ∧ x.2.mkl.length ≤ i + 1 ∧ x.2.eds.length ≤ 3 * i + x.1 ∧ x.2.sts[i]? = some ⟨sl, sv⟩ ∧ V = uvisits eqB false (stpR m) i ⟨sl, sv⟩ (m.alpha.drop x.1) x.2) (fun x => m.alpha.length - x.1) (0, ⟨sts1, mkl1, eds1⟩)
        ⟨Nat.zero_le _, hM, h1, hml1, hel, hsi, hV0⟩ ⟨rfl, rfl, rfl, rfl, rfl, rfl, rfl, trivial⟩ rfl ⟨rfl, rfl, rfl, rfl, rfl, rfl, trivial⟩ rfl rfl ?_
      clear hV0 hsi hml1 hel hgd hle hM
      rintro ⟨j, ⟨sts, mk, eds⟩⟩ ⟨hj, hgd, hil, hml, hel, hsi, hV⟩ ih2
      simp only at hj hgd hil hml hel hsi hV
      have hle : sts.length ≤ 64 := hfew _ hgd
      have hvl := hkl _ hgd
      refine g_run Tk Tryd.func59 ?_
      first | refine g_cnd Tk Tryd.func59 rfl (fun g2 => ?_) (fun g2 => ?_) | refine g_know Tk Tryd.func59 rfl (fun g2 => ?_) (fun g2 => ?_) | refine s_know Tk (fun g2 => ?_) (fun g2 => ?_)
      · have h3 : j < m.alpha.length := by simpa using g2
        clear g2
        have ga : (m.alpha.map fun x => [vi x])[(j : Int).toNat]? = some [vi m.alpha[j]] := get_mapZ (f := fun x => [vi x]) h3
        have da : m.alpha.drop j = m.alpha[j] :: m.alpha.drop (j + 1) := List.drop_eq_getElem_cons h3
        rw [da] at hV
        simp only [uvisits] at hV
        clear da
        generalize m.alpha[j] = ev at *
        have gs : (sts.map staI)[(i : Int).toNat]? = some (staI ⟨sl, sv⟩) := by simp [hsi]
        have hst := fun O => step31 O m ⟨sl, sv⟩ ev hok
        have hvok := fun V h => uvisit_ok (V := V) (ev := ev) hF hgd hoks hil h
        have hj1 : ii (IntKind.i64.wrap ((j : Int) + 1)) = ii ((j + 1 : Nat) : Int) := congrArg ii (wsucc (n := 4096) (by omega) (by decide))
        have n2 : 0 ≤ (j : Int) ∧ (j : Int) < (m.alpha.length : Int) := by omega
        have n3 : 0 ≤ (i : Int) ∧ (i : Int) < (sts.length : Int) := by omega
        unfold uvisit at hV hvok
        generalize stpR m ⟨sl, sv⟩ ev = N at *
        obtain ⟨⟨nl, nv⟩, np, ne⟩ := N
        simp only at hV hst hvok
        refine g_drawn Tk Tryd.func59 mixedT rfl ?_
        first | refine g_need Tk Tryd.func59 (by exact n3) ?_ | refine s_need Tk (by exact n3) ?_
        first | refine g_elem Tk Tryd.func59 (gs) ?_ | refine s_elem Tk (gs) ?_
        first | refine g_need Tk Tryd.func59 (by exact n2) ?_ | refine s_need Tk (by exact n2) ?_
        first | refine g_elem Tk Tryd.func59 (ga) ?_ | refine s_elem Tk (ga) ?_
        first | refine g_call Tk Tryd.func59 (hst _) rfl rfl rfl rfl rfl ?_ | refine s_callq Tk (fun _ => hst _) rfl rfl rfl ?_
        refine s_put Tk rfl rfl rfl ?_
        refine e_done Tk Tryd.func59 (by kernel_rfl) ?_
        first | refine g_cnd Tk Tryd.func59 rfl (fun c1 => ?_) (fun c1 => ?_) | refine g_know Tk Tryd.func59 rfl (fun c1 => ?_) (fun c1 => ?_) | refine s_know Tk (fun c1 => ?_) (fun c1 => ?_)
        · have c1 : ne ≠ 0 := bneT c1
          rw [if_pos c1] at hV
          subst hV
          simp only at hno
          subst hno
          refine g_ret_co Tk (r := _) rfl rfl rfl trivial rfl rfl ?_
          exact coErr
        have c1 : ne = 0 := bneF c1
        rw [if_neg (by simpa using c1)] at hV hvok
        first | refine g_cnd Tk Tryd.func59 rfl (fun c2 => ?_) (fun c2 => ?_) | refine g_know Tk Tryd.func59 rfl (fun c2 => ?_) (fun c2 => ?_) | refine s_know Tk (fun c2 => ?_) (fun c2 => ?_)
        · have c2 : np = false := notT c2
          rw [if_pos c2] at hV
          refine g_loop ?_
          exact ih2 (j + 1, ⟨sts, mk, eds⟩) _ _ ⟨h3, hgd, hil, hml, by simp only; omega, hsi, hV⟩ (by simp only; omega) ⟨rfl, rfl, rfl, rfl, rfl, rfl, hj1, trivial⟩ rfl ⟨rfl, rfl, rfl, rfl, rfl, rfl, trivial⟩ rfl rfl
        have c2 : np = true := notF c2
        rw [if_neg (by rw [c2]; simp)] at hV hvok
        have hpl := fun O ho => place123o O sts ⟨nl, nv⟩ 0 87 ho (by simp only [max63]; omega) hvl
        have hix : sts.findIdx (eqB (⟨nl, nv⟩ : Sta)) ≤ sts.length := findIdx_le
        generalize sts.findIdx (eqB (⟨nl, nv⟩ : Sta)) = t at *
        first | refine g_call Tk Tryd.func59 (hpl _ rfl) rfl rfl rfl rfl rfl ?_ | refine s_callq Tk (fun _ => hpl _ rfl) rfl rfl rfl ?_
        generalize hst2 : (if t < sts.length then sts else sts ++ [(⟨nl, nv⟩ : Sta)]) = sts2
        have hU2 : V = uvisits eqB false (stpR m) i ⟨sl, sv⟩ (m.alpha.drop (j + 1)) ⟨sts2, mk, eds ++ [((i : Int), ev, (t : Int))]⟩ ∧ UOk (okS m) ⟨sts2, mk, eds ++ [((i : Int), ev, (t : Int))]⟩ ∧ i < sts2.length ∧ sts2[i]? = some ⟨sl, sv⟩ := by
          by_cases hlt : t < sts.length
          · rw [if_pos hlt] at hst2 hV hvok
            subst hst2
            have h := hvok _ rfl
            exact ⟨hV, h.1, h.2.1, h.2.2.trans hsi⟩
          · rw [if_neg hlt, if_neg (by simp)] at hV hvok
            rw [if_neg hlt] at hst2
            subst hst2
            have h := hvok _ rfl
            exact ⟨hV, h.1, h.2.1, h.2.2.trans hsi⟩
        clear hV hvok
        apply join_p (P := True) (s6 := { σ := [(1, .own 0 1 0 0), (2, .own 0 2 0 0), (5, .own 0 5 0 0), (7, ii 0), (8, .osl 0 87), (9, ii i), (10, ii j), (14, ii t)], S := [(1, .box (extC m)), (2, .box [.i (.v (.slice none 0 0)), ii 0, .i (.v (.slice none 0 0)), .i (.v (.slice none 0 0))]), (5, .box [ints m.alpha, ii 0, .osl 0 47, .osl 0 99]), (87, ostas sts2), (47, oints mk), (99, oedgs eds)] :: O, n := 107 })
        · intro J
          first | refine g_cnd Tk Tryd.func59 rfl (fun c3 => ?_) (fun c3 => ?_) | refine g_know Tk Tryd.func59 rfl (fun c3 => ?_) (fun c3 => ?_) | refine s_know Tk (fun c3 => ?_) (fun c3 => ?_)
          · have c3 : ((t : Nat) : Int) = ((sts.length : Nat) : Int) := beqT c3
            rw [if_neg (by omega)] at hst2
            subst hst2
            first | refine g_need Tk Tryd.func59 (by exact ⟨by show (sts.length + 1) * 32 ≤ 140737488355328; omega, by show sts.length + 1 ≤ 9223372036854775807; omega⟩) ?_ | refine s_need Tk (by exact ⟨by show (sts.length + 1) * 32 ≤ 140737488355328; omega, by show sts.length + 1 ≤ 9223372036854775807; omega⟩) ?_
            refine g_stop ?_
            refine rch_meet (J trivial) ⟨rfl, rfl, rfl, rfl, rfl, rfl, rfl, rfl, trivial⟩ rfl ⟨rfl, rfl, rfl, congrArg some (ostas_app2 sts (⟨nl, nv⟩ : Sta)), rfl, rfl, trivial⟩ rfl rfl
          · have c3 : ((t : Nat) : Int) ≠ ((sts.length : Nat) : Int) := beqF c3
            rw [if_pos (by omega)] at hst2
            subst hst2
            refine g_stop ?_
            refine rch_meet (J trivial) ⟨rfl, rfl, rfl, rfl, rfl, rfl, rfl, rfl, trivial⟩ rfl ⟨rfl, rfl, rfl, rfl, rfl, rfl, trivial⟩ rfl rfl
        · intro _
          obtain ⟨hV, hg2, hi2, hs2⟩ := hU2
          have hi64 : i < 64 := by omega
          clear hst2 hst hpl hgd hil hsi gs
          refine g_run Tk Tryd.func59 ?_
          refine g_go Tk Tryd.func59 ?_
          refine g_drawn Tk Tryd.func59 mixedT rfl ?_
          first | refine g_need Tk Tryd.func59 (by exact n2) ?_ | refine s_need Tk (by exact n2) ?_
          first | refine g_elem Tk Tryd.func59 (ga) ?_ | refine s_elem Tk (ga) ?_
          refine e_tail Tk Tryd.func59 ([11, 12, 13]) (by kernel_rfl) (by kernel_rfl) ?_
          first | refine g_need Tk Tryd.func59 (by exact ⟨by show (eds.length + 1) * 24 ≤ 140737488355328; omega, by show eds.length + 1 ≤ 9223372036854775807; omega⟩) ?_ | refine s_need Tk (by exact ⟨by show (eds.length + 1) * 24 ≤ 140737488355328; omega, by show eds.length + 1 ≤ 9223372036854775807; omega⟩) ?_
          refine g_loop ?_
          exact ih2 (j + 1, ⟨sts2, mk, eds ++ [((i : Int), ev, (t : Int))]⟩) _ _ ⟨h3, hg2, hi2, hml, by simp only [List.length_append, List.length_singleton]; omega, hs2, hV⟩ (by simp only; omega) ⟨rfl, rfl, rfl, rfl, rfl, rfl, hj1, trivial⟩ rfl ⟨rfl, rfl, rfl, rfl, rfl, congrArg some (oedgs_app eds ((i : Int), ev, (t : Int))), trivial⟩ rfl rfl
      · have h3 : m.alpha.length ≤ j := by simpa using g2
        rw [List.drop_eq_nil_of_le h3] at hV
        simp only [uvisits] at hV
        subst hV
        simp only at hno
        refine g_loop ?_
        exact ih (i + 1, ⟨sts, mk, eds⟩) _ _ ⟨by simp only; omega, hgd, hml, by simp only; omega, hno⟩ (by simp only; omega) ⟨rfl, rfl, rfl, rfl, rfl, congrArg ii (wsucc (n := 4096) (by omega) (by decide)), trivial⟩ rfl ⟨rfl, rfl, rfl, rfl, rfl, rfl, trivial⟩ rfl rfl
  · have h1 : U.sts.length ≤ i := by simpa using g1
    rw [uloop_done h1] at hno
    subst hno
    obtain ⟨sts, mk, eds⟩ := U
    repeat (first | refine g_cnd Tk Tryd.func59 rfl (fun _ => ?_) (fun h => absurd h (by decide)) | refine g_know Tk Tryd.func59 rfl (fun _ => ?_) (fun h => absurd h (by decide)) | refine s_know Tk (fun _ => ?_) (fun h => absurd h (by decide)) | refine g_cnd Tk Tryd.func59 rfl (fun h => absurd h (by decide)) (fun _ => ?_) | refine g_know Tk Tryd.func59 rfl (fun h => absurd h (by decide)) (fun _ => ?_) | refine s_know Tk (fun h => absurd h (by decide)) (fun _ => ?_) | refine g_cnd Tk Tryd.func59 rfl (fun _ => ?_) (fun h => absurd (show true = false from h) (by decide)) | refine g_know Tk Tryd.func59 rfl (fun _ => ?_) (fun h => absurd (show true = false from h) (by decide)) | refine s_know Tk (fun _ => ?_) (fun h => absurd (show true = false from h) (by decide)) | refine g_cnd Tk Tryd.func59 rfl (fun h => absurd (show false = true from h) (by decide)) (fun _ => ?_) | refine g_know Tk Tryd.func59 rfl (fun h => absurd (show false = true from h) (by decide)) (fun _ => ?_) | refine s_know Tk (fun h => absurd (show false = true from h) (by decide)) (fun _ => ?_))
    refine g_rwk (wk_freeze 87 rfl rfl) ?_
    refine g_rwk (wk_freeze 47 rfl rfl) ?_
    refine g_rwk (wk_freeze 99 rfl rfl) ?_
    refine g_rwk (wk_imm rfl) ?_
    refine g_ret Tk (r := unfD m.alpha (.ok ⟨sts, mk, eds⟩)) rfl rfl rfl trivial rfl rfl ?_
    rfl
end Go.AI


/- Automata: BinarySearchFunc, out, Check. -/
namespace Go.AI
open Go.Proofs
set_option maxRecDepth 20000
abbrev edgD (e : Edg) : D := .agg [ii e.1, ii e.2.1, ii e.2.2]
theorem cmp182 (O : List Heap) (e : Edg) (s : Int) : ASpec Tryd.prog 182 [edgD e, ii s] O (ii (IntKind.i64.wrap (e.1 - s))) [] O := by
  obtain ⟨a, b, c⟩ := e
  refine aspec_intro Tk Tryd.func182 rfl Tryd.call182 Tryd.ntmps182 (Nat.le_of_ble_eq_true rfl) fun E => ?_
  refine g_run Tk Tryd.func182 ?_
  refine g_ret Tk (r := ii (IntKind.i64.wrap (a - s))) rfl rfl rfl trivial rfl rfl ?_
  rfl
theorem cmp183 (O : List Heap) (e : Edg) (s : Int) : ASpec Tryd.prog 183 [edgD e, ii s] O (ii (IntKind.i64.wrap (e.1 - s))) [] O := by
  obtain ⟨a, b, c⟩ := e
  refine aspec_intro Tk Tryd.func183 rfl Tryd.call183 Tryd.ntmps183 (Nat.le_of_ble_eq_true rfl) fun E => ?_
  refine g_run Tk Tryd.func183 ?_
  refine g_ret Tk (r := ii (IntKind.i64.wrap (a - s))) rfl rfl rfl trivial rfl rfl ?_
  rfl
def fndE (l : List Edg) (s : Int) : Bool := match l[lowE l s]? with
  | some e => e.1 - s == 0
  | none => false
theorem lowE_eq {l : List Edg} {s : Int} {i : Nat} (hi : i ≤ l.length) (h1 : ∀ k (h : k < l.length), k < i → l[k].1 < s) (h2 : ∀ k (h : k < l.length), i ≤ k → s ≤ l[k].1) : lowE l s = i := by
  rcases Nat.lt_trichotomy (lowE l s) i with h | h | h
  · have hl : lowE l s < l.length := by omega
    have a := h1 _ hl h
    have h0 : decide (s ≤ (l[lowE l s]).1) = true := List.findIdx_getElem (p := fun e : Edg => decide (s ≤ e.1)) (w := hl)
    have h0 := of_decide_eq_true h0
    omega
  · exact h
  · have hl : i < l.length := by have := lowE_le l s; omega
    have a := lowE_lt h hl
    have b := h2 _ hl (Nat.le_refl _)
    omega
theorem bsf181 (O : List Heap) (l : List Edg) (s : Int) (f : Nat) (hf : ∀ e O, ASpec Tryd.prog f [edgD e, ii s] O (ii (IntKind.i64.wrap (e.1 - s))) [] O) (hl : l.length ≤ max63) (hs : sortedF l) (hb : ∀ e ∈ l, 0 ≤ e.1 ∧ e.1 ≤ 5000) (hsb : 0 ≤ s ∧ s ≤ 5000) :
    ASpec Tryd.prog 181 [edgs l, ii s, .fn (.func f) [] []] O (.tup [ii (lowE l s : Nat), bb (fndE l s)]) [] O := by
  have hw : ∀ e ∈ l, IntKind.i64.wrap (e.1 - s) = e.1 - s := fun e he => by
    have := hb e he
    exact w64 (by omega) (by omega)
  have hsort : ∀ i j (hi : i < l.length) (hj : j < l.length), i ≤ j → l[i].1 ≤ l[j].1 := fun i j hi hj h => by
    rcases Nat.lt_or_eq_of_le h with h | h
    · exact List.pairwise_iff_getElem.1 hs i j hi hj h
    · subst h; exact Int.le_refl _
  refine aspec_intro Tk Tryd.func181 rfl Tryd.call181 Tryd.ntmps181 (Nat.le_of_ble_eq_true rfl) fun E => ?_
  refine g_run Tk Tryd.func181 ?_
  refine g_loop ?_
  refine rch_loop2 (fun p : Nat × Nat => [(0, edgs l), (1, ii s), (2, .fn (.func f) [] []), (8, ii l.length), (9, ii p.1), (10, ii p.2)]) (fun _ => []) (fun _ => O) 49
    (fun p => p.1 ≤ p.2 ∧ p.2 ≤ l.length ∧ (∀ k (h : k < l.length), k < p.1 → l[k].1 < s) ∧ ∀ k (h : k < l.length), p.2 ≤ k → s ≤ l[k].1) (fun p => p.2 - p.1) (0, l.length)
    ⟨Nat.zero_le _, Nat.le_refl _, fun k h h' => by simp at h', fun k h h' => by simp at h'; omega⟩ ⟨rfl, rfl, rfl, rfl, rfl, rfl, trivial⟩ rfl trivial rfl rfl ?_
  rintro ⟨i, j⟩ ⟨hij, hj, hlo, hhi⟩ ih
  simp only at hij hj hlo hhi
  have hlj : j ≤ max63 := Nat.le_trans hj hl
  refine g_run Tk Tryd.func181 ?_
  first | refine g_cnd Tk Tryd.func181 rfl (fun h1 => ?_) (fun h1 => ?_) | refine g_know Tk Tryd.func181 rfl (fun h1 => ?_) (fun h1 => ?_) | refine s_know Tk (fun h1 => ?_) (fun h1 => ?_)
  · have h1 : i < j := by simpa using h1
    have hm := mid64 (Nat.le_trans hij hlj) hlj
    have hmj : (i + j) / 2 < j := by omega
    have hml : (i + j) / 2 < l.length := by omega
    have ge : (l.map edgI)[((((i + j) / 2 : Nat) : Int)).toNat]? = some (edgI l[(i + j) / 2]) := get_mapZ hml
    have hwm := hw _ (List.getElem_mem hml)
    have hfm := hf l[(i + j) / 2]
    generalize he : l[(i + j) / 2] = e at *
    first | refine g_need Tk Tryd.func181 (by simp [IntKind.bits]) ?_ | refine s_need Tk (by simp [IntKind.bits]) ?_
    first | refine g_need Tk Tryd.func181 (by rw [hm]; exact ⟨by omega, by show (((i + j) / 2 : Nat) : Int) < (l.length : Int); omega⟩) ?_ | refine s_need Tk (by rw [hm]; exact ⟨by omega, by show (((i + j) / 2 : Nat) : Int) < (l.length : Int); omega⟩) ?_
    first | refine g_elem Tk Tryd.func181 (by rw [hm]; exact ge) ?_ | refine s_elem Tk (by rw [hm]; exact ge) ?_
    first | refine g_call Tk Tryd.func181 (hfm _) rfl rfl rfl rfl rfl ?_ | refine s_callq Tk (fun _ => hfm _) rfl rfl rfl ?_
    first | refine g_cnd Tk Tryd.func181 rfl (fun h2 => ?_) (fun h2 => ?_) | refine g_know Tk Tryd.func181 rfl (fun h2 => ?_) (fun h2 => ?_) | refine s_know Tk (fun h2 => ?_) (fun h2 => ?_)
    · have h2 : IntKind.i64.wrap (e.1 - s) < 0 := of_decide_eq_true h2
      rw [hwm] at h2
      refine g_loop ?_
      refine ih ((i + j) / 2 + 1, j) _ _ ⟨by show (i + j) / 2 + 1 ≤ j; omega, hj, fun k h h' => ?_, hhi⟩ (by simp only; omega) ⟨rfl, rfl, rfl, rfl, ?_, rfl, trivial⟩ rfl trivial rfl rfl
      · have h' : k < (i + j) / 2 + 1 := h'
        have := hsort k ((i + j) / 2) h hml (by omega)
        rw [he] at this
        omega
      · show D.i (.v (.int .i64 _)) = _
        rw [hm]
        exact congrArg ii (wsucc (n := j) (by omega) hlj)
    · have h2 : ¬ IntKind.i64.wrap (e.1 - s) < 0 := of_decide_eq_false h2
      rw [hwm] at h2
      refine g_loop ?_
      refine ih (i, (i + j) / 2) _ _ ⟨by show i ≤ (i + j) / 2; omega, by show (i + j) / 2 ≤ l.length; omega, hlo, fun k h h' => ?_⟩ (by simp only; omega) ⟨rfl, rfl, rfl, rfl, rfl, ?_, trivial⟩ rfl trivial rfl rfl
      · have h' : (i + j) / 2 ≤ k := h'
        have := hsort ((i + j) / 2) k hml h h'
        rw [he] at this
        omega
      · show D.i (.v (.int .i64 _)) = _
        rw [hm]
  · have h1 : j ≤ i := by simpa using h1
    have hij : i = j := by omega
    subst hij
    have hlow : lowE l s = i := lowE_eq hj hlo hhi
    have hfd : fndE l s = match l[i]? with | some e => e.1 - s == 0 | none => false := by unfold fndE; rw [hlow]
    rw [hlow, hfd]
    first | refine g_cnd Tk Tryd.func181 rfl (fun h2 => ?_) (fun h2 => ?_) | refine g_know Tk Tryd.func181 rfl (fun h2 => ?_) (fun h2 => ?_) | refine s_know Tk (fun h2 => ?_) (fun h2 => ?_)
    · have h2 : i < l.length := by simpa using h2
      have ge : (l.map edgI)[(i : Int).toNat]? = some (edgI l[i]) := get_mapZ h2
      have hwm := hw _ (List.getElem_mem h2)
      have hfm := hf l[i]
      rw [List.getElem?_eq_getElem h2]
      generalize l[i] = e at *
      first | refine g_need Tk Tryd.func181 (by exact ⟨by omega, by show (i : Int) < (l.length : Int); omega⟩) ?_ | refine s_need Tk (by exact ⟨by omega, by show (i : Int) < (l.length : Int); omega⟩) ?_
      first | refine g_elem Tk Tryd.func181 (ge) ?_ | refine s_elem Tk (ge) ?_
      first | refine g_call Tk Tryd.func181 (hfm _) rfl rfl rfl rfl rfl ?_ | refine s_callq Tk (fun _ => hfm _) rfl rfl rfl ?_
      refine g_ret Tk (r := .tup [ii (i : Nat), bb (IntKind.i64.wrap (e.1 - s) == 0)]) rfl rfl rfl trivial rfl rfl ?_
      rw [hwm]
    · have h2 : l.length ≤ i := by simpa using h2
      rw [List.getElem?_eq_none h2]
      refine g_ret Tk (r := .tup [ii (i : Nat), bb false]) rfl rfl rfl trivial rfl rfl ?_
      rfl
theorem out163 (O : List Heap) (a : Aut) (s : Int) (hl : a.edges.length ≤ max63) (hs : sortedF a.edges) (hb : ∀ e ∈ a.edges, 0 ≤ e.1 ∧ e.1 ≤ 5000) (hsb : 0 ≤ s ∧ s ≤ 4999) : ASpec Tryd.prog 163 [autD a, ii s] O (edgs (outR a.edges s)) [] O := by
  obtain ⟨al, n, mk, es⟩ := a
  simp only at hl hs hb ⊢
  have h1 := fun O => bsf181 O es s 182 (fun e O => cmp182 O e s) hl hs hb (by omega)
  have hw : IntKind.i64.wrap (s + 1) = s + 1 := w64 (by omega) (by omega)
  have h2 : ∀ O, ASpec Tryd.prog 181 [edgs es, ii (IntKind.i64.wrap (s + 1)), .fn (.func 183) [] []] O (.tup [ii (lowE es (s + 1) : Nat), bb (fndE es (s + 1))]) [] O := fun O => by
    rw [hw]
    exact bsf181 O es (s + 1) 183 (fun e O => cmp183 O e (s + 1)) hl hs hb (by omega)
  have hle := lowE_mono hs (show s ≤ s + 1 by omega)
  have hle2 := lowE_le es (s + 1)
  have hlen := outR_len es s
  have ho : outR es s = (es.take (lowE es (s + 1))).drop (lowE es s) := rfl
  have hres : edgs (outR es s) = .i (.sl 3 (((lowE es (s + 1) : Nat) : Int).toNat - ((lowE es s : Nat) : Int).toNat) (((es.map edgI).take ((lowE es (s + 1) : Nat) : Int).toNat).drop ((lowE es s : Nat) : Int).toNat)) := by
    unfold edgs
    rw [hlen]
    unfold outR
    rw [List.map_drop, List.map_take]
    rfl
  rw [hres]
  generalize lowE es s = p at *
  generalize lowE es (s + 1) = q at *
  refine aspec_intro Tk Tryd.func163 rfl Tryd.call163 Tryd.ntmps163 (Nat.le_of_ble_eq_true rfl) fun E => ?_
  refine g_run Tk Tryd.func163 ?_
  first | refine g_call Tk Tryd.func163 (h1 _) rfl rfl rfl rfl rfl ?_ | refine s_callq Tk (fun _ => h1 _) rfl rfl rfl ?_
  first | refine g_call Tk Tryd.func163 (h2 _) rfl rfl rfl rfl rfl ?_ | refine s_callq Tk (fun _ => h2 _) rfl rfl rfl ?_
  first | refine g_need Tk Tryd.func163 (by exact ⟨by omega, by omega, by show ((q : Nat) : Int) ≤ (es.length : Int); omega⟩) ?_ | refine s_need Tk (by exact ⟨by omega, by omega, by show ((q : Nat) : Int) ≤ (es.length : Int); omega⟩) ?_
  refine g_ret Tk (r := .i (.sl 3 (((q : Nat) : Int).toNat - ((p : Nat) : Int).toNat) (((es.map edgI).take ((q : Nat) : Int).toNat).drop ((p : Nat) : Int).toNat))) rfl rfl rfl trivial rfl rfl ?_
  rfl
theorem checkSet159 (O : List Heap) (l : List Int) (n : Int) (hl : l.length ≤ max63) : ASpec Tryd.prog 159 [ints l, ii n] O (ii (checkSet n l none)) [] O := by
  generalize hR : checkSet n l none = R
  refine aspec_stop [6, 8] Tk Tryd.func159 rfl Tryd.call159 Tryd.ntmps159 (Nat.le_of_ble_eq_true rfl) fun E => ?_
  refine g_run Tk Tryd.func159 ?_
  refine g_loop ?_
  refine rch_loop2 (fun x : Nat × Option Int => [(0, ints l), (1, ii n), (7, ints l), (8, ii l.length), (9, ii x.1)]) (fun _ => []) (fun _ => O) 35
    (fun x => x.1 ≤ l.length ∧ checkSet n (l.drop x.1) x.2 = R ∧ ((x.1 = 0 ∧ x.2 = none) ∨ ∃ h : 0 < x.1 ∧ x.1 - 1 < l.length, x.2 = some (l[x.1 - 1]'h.2))) (fun x => l.length - x.1) (0, none) ⟨Nat.zero_le _, hR, .inl ⟨rfl, rfl⟩⟩ ⟨rfl, rfl, rfl, rfl, rfl, trivial⟩ rfl trivial rfl rfl ?_
  rintro ⟨i, prev⟩ ⟨hi, hno, hp⟩ ih
  simp only at hi hno hp
  clear hR
  refine g_run Tk Tryd.func159 ?_
  first | refine g_cnd Tk Tryd.func159 rfl (fun g1 => ?_) (fun g1 => ?_) | refine g_know Tk Tryd.func159 rfl (fun g1 => ?_) (fun g1 => ?_) | refine s_know Tk (fun g1 => ?_) (fun g1 => ?_)
  · have h1 : i < l.length := by simpa using g1
    have gl : (l.map fun x => [vi x])[(i : Int).toNat]? = some [vi l[i]] := get_mapZ (f := fun x => [vi x]) h1
    have dl : l.drop i = l[i] :: l.drop (i + 1) := List.drop_eq_getElem_cons h1
    rw [dl] at hno
    simp only [checkSet] at hno
    clear dl
    have hi1 : ii (IntKind.i64.wrap ((i : Int) + 1)) = ii ((i + 1 : Nat) : Int) := congrArg ii (wsucc h1 hl)
    have hnext : (i + 1 = 0 ∧ some l[i] = none) ∨ ∃ h : 0 < i + 1 ∧ i + 1 - 1 < l.length, some l[i] = some (l[i + 1 - 1]'h.2) := .inr ⟨⟨by omega, by omega⟩, rfl⟩
    generalize hx : l[i] = x at *
    first | refine g_need Tk Tryd.func159 (by exact ⟨by omega, by show (i : Int) < (l.length : Int); omega⟩) ?_ | refine s_need Tk (by exact ⟨by omega, by show (i : Int) < (l.length : Int); omega⟩) ?_
    first | refine g_elem Tk Tryd.func159 (gl) ?_ | refine s_elem Tk (gl) ?_
    apply join_p (P := ¬ (x < 0 ∨ x ≥ n)) (s6 := { σ := [(0, ints l), (1, ii n), (5, ii i), (6, ii x), (7, ints l), (8, ii l.length), (9, ii i)], S := [] :: O, n := 35 })
    · intro J
      first | refine g_cnd Tk Tryd.func159 rfl (fun c1 => ?_) (fun c1 => ?_) | refine g_know Tk Tryd.func159 rfl (fun c1 => ?_) (fun c1 => ?_) | refine s_know Tk (fun c1 => ?_) (fun c1 => ?_)
      · have c1 : x < 0 := of_decide_eq_true c1
        rw [if_pos (.inl c1)] at hno
        subst hno
        repeat (first | refine g_cnd Tk Tryd.func159 rfl (fun _ => ?_) (fun h => absurd h (by decide)) | refine g_know Tk Tryd.func159 rfl (fun _ => ?_) (fun h => absurd h (by decide)) | refine s_know Tk (fun _ => ?_) (fun h => absurd h (by decide)) | refine g_cnd Tk Tryd.func159 rfl (fun h => absurd h (by decide)) (fun _ => ?_) | refine g_know Tk Tryd.func159 rfl (fun h => absurd h (by decide)) (fun _ => ?_) | refine s_know Tk (fun h => absurd h (by decide)) (fun _ => ?_) | refine g_cnd Tk Tryd.func159 rfl (fun _ => ?_) (fun h => absurd (show true = false from h) (by decide)) | refine g_know Tk Tryd.func159 rfl (fun _ => ?_) (fun h => absurd (show true = false from h) (by decide)) | refine s_know Tk (fun _ => ?_) (fun h => absurd (show true = false from h) (by decide)) | refine g_cnd Tk Tryd.func159 rfl (fun h => absurd (show false = true from h) (by decide)) (fun _ => ?_) | refine g_know Tk Tryd.func159 rfl (fun h => absurd (show false = true from h) (by decide)) (fun _ => ?_) | refine s_know Tk (fun h => absurd (show false = true from h) (by decide)) (fun _ => ?_))
        refine g_ret Tk (r := ii 2) rfl rfl rfl trivial rfl rfl ?_
        rfl
      have c1 : ¬ x < 0 := of_decide_eq_false c1
      first | refine g_cnd Tk Tryd.func159 rfl (fun c2 => ?_) (fun c2 => ?_) | refine g_know Tk Tryd.func159 rfl (fun c2 => ?_) (fun c2 => ?_) | refine s_know Tk (fun c2 => ?_) (fun c2 => ?_)
      · have c2 : x ≥ n := of_decide_eq_true c2
        rw [if_pos (.inr c2)] at hno
        subst hno
        refine g_ret Tk (r := ii 2) rfl rfl rfl trivial rfl rfl ?_
        rfl
      have c2 : ¬ x ≥ n := of_decide_eq_false c2
      refine g_stop ?_
      refine rch_meet (J (by rintro (h | h); exact c1 h; exact c2 h)) ⟨rfl, rfl, rfl, rfl, rfl, rfl, rfl, trivial⟩ rfl trivial rfl rfl
    · intro hc
      rw [if_neg hc] at hno
      refine g_run Tk Tryd.func159 ?_
      refine g_go Tk Tryd.func159 ?_
      rcases hp with ⟨h0, hpr⟩ | ⟨hp1, hpr⟩
      · rw [hpr] at hno
        rw [if_neg (by simp)] at hno
        first | refine g_cnd Tk Tryd.func159 rfl (fun c3 => ?_) (fun c3 => ?_) | refine g_know Tk Tryd.func159 rfl (fun c3 => ?_) (fun c3 => ?_) | refine s_know Tk (fun c3 => ?_) (fun c3 => ?_)
        · have c3 : (i : Int) > 0 := of_decide_eq_true c3
          omega
        repeat (first | refine g_cnd Tk Tryd.func159 rfl (fun _ => ?_) (fun h => absurd h (by decide)) | refine g_know Tk Tryd.func159 rfl (fun _ => ?_) (fun h => absurd h (by decide)) | refine s_know Tk (fun _ => ?_) (fun h => absurd h (by decide)) | refine g_cnd Tk Tryd.func159 rfl (fun h => absurd h (by decide)) (fun _ => ?_) | refine g_know Tk Tryd.func159 rfl (fun h => absurd h (by decide)) (fun _ => ?_) | refine s_know Tk (fun h => absurd h (by decide)) (fun _ => ?_) | refine g_cnd Tk Tryd.func159 rfl (fun _ => ?_) (fun h => absurd (show true = false from h) (by decide)) | refine g_know Tk Tryd.func159 rfl (fun _ => ?_) (fun h => absurd (show true = false from h) (by decide)) | refine s_know Tk (fun _ => ?_) (fun h => absurd (show true = false from h) (by decide)) | refine g_cnd Tk Tryd.func159 rfl (fun h => absurd (show false = true from h) (by decide)) (fun _ => ?_) | refine g_know Tk Tryd.func159 rfl (fun h => absurd (show false = true from h) (by decide)) (fun _ => ?_) | refine s_know Tk (fun h => absurd (show false = true from h) (by decide)) (fun _ => ?_))
        refine g_stop ?_
        refine g_run Tk Tryd.func159 ?_
        refine g_go Tk Tryd.func159 ?_
        refine g_loop ?_
        exact ih (i + 1, some x) _ _ ⟨h1, hno, hnext⟩ (by simp only; omega) ⟨rfl, rfl, rfl, rfl, hi1, trivial⟩ rfl trivial rfl rfl
      · have gp : (l.map fun x => [vi x])[(IntKind.i64.wrap ((i : Int) - 1)).toNat]? = some [vi (l[i - 1]'hp1.2)] := by
          rw [w64 (by omega) (by simp only [max63] at hl; omega), show ((i : Int) - 1).toNat = i - 1 by omega]
          rw [List.getElem?_map, List.getElem?_eq_getElem hp1.2]
          rfl
        have hwp : IntKind.i64.wrap ((i : Int) - 1) = (i : Int) - 1 := w64 (by omega) (by simp only [max63] at hl; omega)
        generalize l[i - 1]'hp1.2 = y at *
        first | refine g_cnd Tk Tryd.func159 rfl (fun c3 => ?_) (fun c3 => ?_) | refine g_know Tk Tryd.func159 rfl (fun c3 => ?_) (fun c3 => ?_) | refine s_know Tk (fun c3 => ?_) (fun c3 => ?_)
        rotate_left
        · have c3 : ¬ (i : Int) > 0 := of_decide_eq_false c3
          omega
        first | refine g_need Tk Tryd.func159 (by rw [hwp]; exact ⟨by omega, by show (i : Int) - 1 < (l.length : Int); omega⟩) ?_ | refine s_need Tk (by rw [hwp]; exact ⟨by omega, by show (i : Int) - 1 < (l.length : Int); omega⟩) ?_
        first | refine g_elem Tk Tryd.func159 (gp) ?_ | refine s_elem Tk (gp) ?_
        rw [hpr] at hno
        first | refine g_cnd Tk Tryd.func159 rfl (fun c4 => ?_) (fun c4 => ?_) | refine g_know Tk Tryd.func159 rfl (fun c4 => ?_) (fun c4 => ?_) | refine s_know Tk (fun c4 => ?_) (fun c4 => ?_)
        · have c4 : x ≤ y := of_decide_eq_true c4
          rw [if_pos (by simpa using c4)] at hno
          subst hno
          refine g_ret Tk (r := ii 5) rfl rfl rfl trivial rfl rfl ?_
          rfl
        have c4 : ¬ x ≤ y := of_decide_eq_false c4
        rw [if_neg (by simpa using c4)] at hno
        refine g_stop ?_
        refine g_run Tk Tryd.func159 ?_
        refine g_go Tk Tryd.func159 ?_
        refine g_loop ?_
        exact ih (i + 1, some x) _ _ ⟨h1, hno, hnext⟩ (by simp only; omega) ⟨rfl, rfl, rfl, rfl, hi1, trivial⟩ rfl trivial rfl rfl
  · have h1 : l.length ≤ i := by simpa using g1
    rw [List.drop_eq_nil_of_le h1] at hno
    simp only [checkSet] at hno
    subst hno
    refine g_ret Tk (r := ii 0) rfl rfl rfl trivial rfl rfl ?_
    rfl
end Go.AI
