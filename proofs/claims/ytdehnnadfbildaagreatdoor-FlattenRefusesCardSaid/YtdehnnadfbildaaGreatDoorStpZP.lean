/- The layer of abstract runs, part 42. -/
import Derived.Test.YtdehnnadfbildaaGreatDoorStpZO
import Derived.KernelRfl
set_option linter.unusedSimpArgs false
set_option linter.unusedVariables false
set_option linter.all false

/- flatten.unfold for states of an extended automaton. -/
namespace Go.AI
open Go.Proofs
set_option maxRecDepth 20000
abbrev oedgs (l : List Edg) : Ob := .arr 93 3 l.length (l.map edgI) true
theorem oedgs_app (l : List Edg) (e : Edg) : Ob.arr 93 3 (l.length + 1) (l.map edgI ++ [edgI e]) true = oedgs (l ++ [e]) := by simp
theorem ostas_app2 (l : List Sta) (s : Sta) : Ob.arr 60 2 (l.length + 1) (l.map staI ++ [staI s]) true = ostas (l ++ [s]) := by simp
abbrev keq (a b : Sta) : Bool := fkey a == fkey b
/-- What unfold returns: the error or the states. -/
def unfX (m : Ext) (alpha : List Int) (first : Sta) : Except Int (Unf Sta) := unfR keq true (stpR m) (fun s => decide (s.loc ∈ m.marked)) alpha first
def kidx : List Sta → Nat → List (Value × Int)
  | [], _ => []
  | s :: r, i => (.string (fkey s), (i : Int)) :: kidx r (i + 1)
theorem kidx_look (b : ByteArray) : ∀ (l : List Sta) (i : Nat), mlook (kidx l i) (.string b) = if l.findIdx (fun t => b == fkey t) < l.length then some (((i + l.findIdx fun t => b == fkey t : Nat) : Int)) else none
  | [], i => by simp [kidx, mlook]
  | s :: r, i => by
    simp only [kidx, mlook, keyB, List.findIdx_cons]
    cases h : b == fkey s with
    | true => simp
    | false =>
      simp only [cond_false]
      rw [kidx_look b r (i + 1)]
      have e : i + 1 + r.findIdx (fun t => b == fkey t) = i + (r.findIdx (fun t => b == fkey t) + 1) := by omega
      simp only [e, List.length_cons, Nat.add_lt_add_iff_right]
theorem kidx_set {s : Sta} : ∀ (l : List Sta) (i : Nat), ¬ l.findIdx (keq s) < l.length → mset (kidx l i) (.string (fkey s)) ((i + l.length : Nat) : Int) = kidx (l ++ [s]) i
  | [], i, _ => by simp [kidx, mset]
  | t :: r, i, h => by
    rw [List.findIdx_cons] at h
    cases hk : keq s t with
    | true => rw [hk] at h; simp at h
    | false =>
      rw [hk] at h
      simp only [cond_false, List.length_cons, Nat.add_lt_add_iff_right] at h
      have hk' : (fkey s == fkey t) = false := hk
      simp only [List.cons_append, kidx, mset, keyB, hk', cond_false]
      have e : i + (t :: r).length = (i + 1) + r.length := by simp only [List.length_cons]; omega
      rw [e, kidx_set r (i + 1) h]
theorem stp_okS {m : Ext} {s : Sta} {ev : Int} (hr : extRight m) (h : okS m s) (hp : (stpR m s ev).2.1 = true) : okS m (stpR m s ev).1 := by
  unfold stpR at hp ⊢
  split at hp
  · cases hp
  rename_i h1
  rw [if_neg h1]
  split at hp
  · cases hp
  rename_i h2
  rw [if_neg h2]
  exact step_ok hr h hp
theorem okS_key {m : Ext} {s : Sta} (hr : extRight m) (h : okS m s) : keyOk s := by
  have := okS_bounds hr h
  exact ⟨this.1, by omega, this.2.1⟩
theorem uloop_done {σ : Type} {eq : σ → σ → Bool} {lim : Bool} {step : σ → Int → σ × Bool × Int} {mkd : σ → Bool} {alpha : List Int} {U : Unf σ} {i : Nat} (h : U.sts.length ≤ i) : ∀ k, uloop eq lim step mkd alpha k i U = .ok U
  | 0 => rfl
  | k + 1 => by simp only [uloop, List.getElem?_eq_none h]
/-- What the loops know. -/
structure UGood (m : Ext) (U : Unf Sta) : Prop where
  len : U.sts.length ≤ 4096
  ok : ∀ s ∈ U.sts, okS m s
abbrev fnS (d nm : Nat) : D := .fn (.func 51) [] [.own d nm 0 0]
abbrev fnM (d nm : Nat) : D := .fn (.func 53) [] [.own d nm 0 0]
def unfD (alpha : List Int) : Except Int (Unf Sta) → D
  | .error e => .tup [autD ⟨[], 0, [], []⟩, stasD [], ii e]
  | .ok U => .tup [autD ⟨alpha, U.sts.length, U.mkl, U.eds⟩, stasD U.sts, ii 0]
theorem coErr {e : Int} : CoD (.tup [.agg [.i (.v (.slice none 0 0)), ii 0, .i (.v (.slice none 0 0)), .i (.v (.slice none 0 0))], .i (.v (.slice none 0 0)), ii e]) (unfD [] (.error e)) :=
  coD_tup (.cons (coD_agg (.cons (coD_i coI_nil) (.cons (CoD.refl _) (.cons (coD_i coI_nil) (.cons (coD_i coI_nil) .nil))))) (.cons (coD_i coI_nil) (CoDL.refl _)))
set_option maxHeartbeats 4000000 in
theorem unfold111 {g : Nat} (hg : IsTab g) {ty : TypeId} {fr : Nat × Nat} (O : List Heap) (m : Ext) (alpha : List Int) (first : Sta) (d nm : Nat) (ho : objAt O d nm = some (.box (extC m))) (hok : extOk m) (hr : extRight m) (ha : alpha.length ≤ 4096) (hf : okS m first) :
    ASpecT g (ptab ty fr) Tryz.prog 54 [ints alpha, staD first, .fn (.func 50) [] [], fnS d nm, fnM d nm] O (unfD alpha (unfX m alpha first)) [] O := by
  have hO : ∀ H, objAt (H :: O) (d + 1) nm = some (.box (extC m)) := fun H => up_obj ho
  have hno : unfX m alpha first = uloop keq true (stpR m) (fun s => decide (s.loc ∈ m.marked)) alpha (4097 - 0) 0 (unf0 first) := rfl
  generalize unfX m alpha first = R at *
  have hkf := okS_key hr hf
  refine aspecT_stop [9, 23] Tk Tryz.func54 rfl Tryz.call54 Tryz.ntmps54 (Nat.le_of_ble_eq_true rfl) fun E hE => ?_
  refine g_run Tk Tryz.func54 ?_
  refine g_callT Tk Tryz.func54 hE (keyName105 hg _ first hkf) rfl rfl rfl rfl rfl rfl ?_
  refine g_loop ?_
  refine rch_wk (wk_ren 25 95 rfl rfl rfl) ?_
  refine rch_wk (wk_nilbox2 10 47 3 1 (pre := [ints alpha, ii 0]) (post := [.i (.v (.slice none 0 0))]) rfl rfl rfl) ?_
  refine rch_wk (wk_nilbox2 10 103 93 3 (pre := [ints alpha, ii 0, .osl 0 47]) (post := []) rfl rfl rfl) ?_
  refine rch_loop2 (fun x : Nat × Unf Sta => [(0, ints alpha), (2, .fn (.func 50) [] []), (3, fnS (d + 1) nm), (4, fnM (d + 1) nm), (10, .own 0 10 0 0), (11, .osl 0 95), (13, .osl 0 26), (14, ii x.1)])
    (fun x => [(10, .box [ints alpha, ii 0, .osl 0 47, .osl 0 103]), (95, ostas x.2.sts), (47, oints x.2.mkl), (103, oedgs x.2.eds), (26, .mp .str (.i .i64 (kidx x.2.sts 0)))]) (fun _ => O) 111
    (fun x => x.1 ≤ x.2.sts.length ∧ UGood m x.2 ∧ x.2.mkl.length ≤ x.1 ∧ x.2.eds.length ≤ 4096 * x.1 ∧ R = uloop keq true (stpR m) (fun s => decide (s.loc ∈ m.marked)) alpha (4097 - x.1) x.1 x.2) (fun x => 4097 - x.1) (0, unf0 first)
    ⟨Nat.zero_le _, ⟨by simp [unf0], fun s hs => by rw [unf0, List.mem_singleton] at hs; subst hs; exact hf⟩, Nat.le_refl _, Nat.le_refl _, hno⟩ ⟨rfl, rfl, rfl, rfl, rfl, rfl, rfl, rfl, trivial⟩ rfl ⟨rfl, rfl, rfl, rfl, rfl, trivial⟩ rfl rfl ?_
  clear hno
  rintro ⟨i, U⟩ ⟨hi, hgd, hml, hel, hno⟩ ih
  simp only at hi hgd hml hel hno
  refine g_run Tk Tryz.func54 ?_
  first | refine g_cnd Tk Tryz.func54 rfl (fun g1 => ?_) (fun g1 => ?_) | refine g_know Tk Tryz.func54 rfl (fun g1 => ?_) (fun g1 => ?_) | refine s_know Tk (fun g1 => ?_) (fun g1 => ?_)
  · have h1 : i < U.sts.length := by simpa using g1
    clear g1
    have hle := hgd.len
    have hsi : U.sts[i]? = some U.sts[i] := List.getElem?_eq_getElem h1
    have gs : (U.sts.map staI)[(i : Int).toNat]? = some (staI U.sts[i]) := get_mapZ h1
    have hoks := hgd.ok _ (List.getElem_mem h1)
    generalize U.sts[i] = s at *
    have hno : R = match uvisits keq true (stpR m) i s alpha (umark (fun s => decide (s.loc ∈ m.marked)) i s U) with
        | .error e => .error e
        | .ok U' => uloop keq true (stpR m) (fun s => decide (s.loc ∈ m.marked)) alpha (4097 - (i + 1)) (i + 1) U' := by
      rw [hno, show 4097 - i = (4097 - (i + 1)) + 1 by omega]
      simp only [uloop, hsi]
      cases uvisits keq true (stpR m) i s alpha (umark (fun s => decide (s.loc ∈ m.marked)) i s U) <;> rfl
    have hmk := fun H => keyMark109 (H :: O) m s (d + 1) nm (hO H) hok
    obtain ⟨m1, m2⟩ := umark_sts (fun s : Sta => decide (s.loc ∈ m.marked)) i s U
    have hm3 : (umark (fun s : Sta => decide (s.loc ∈ m.marked)) i s U).mkl = if s.loc ∈ m.marked then U.mkl ++ [(i : Int)] else U.mkl := by
      unfold umark
      by_cases h : s.loc ∈ m.marked <;> simp [h]
    generalize umark (fun s : Sta => decide (s.loc ∈ m.marked)) i s U = U1 at *
    obtain ⟨sts, mkl, eds⟩ := U
    obtain ⟨sts1, mkl1, eds1⟩ := U1
    simp only at *
    subst m1 m2
    obtain ⟨sl, sv⟩ := s
    simp only at *
    first | refine g_need Tk Tryz.func54 (by exact ⟨by omega, by show (i : Int) < (sts1.length : Int); omega⟩) ?_ | refine s_need Tk (by exact ⟨by omega, by show (i : Int) < (sts1.length : Int); omega⟩) ?_
    first | refine g_elem Tk Tryz.func54 (gs) ?_ | refine s_elem Tk (gs) ?_
    first | refine g_call Tk Tryz.func54 (hmk _) rfl rfl rfl rfl rfl ?_ | refine s_callq Tk (fun _ => hmk _) rfl rfl rfl ?_
    apply join_p (P := True) (s6 := { σ := [(0, ints alpha), (2, .fn (.func 50) [] []), (3, fnS (d + 1) nm), (4, fnM (d + 1) nm), (10, .own 0 10 0 0), (11, .osl 0 95), (13, .osl 0 26), (14, ii i)], S := [(10, .box [ints alpha, ii 0, .osl 0 47, .osl 0 103]), (95, ostas sts1), (47, oints mkl1), (103, oedgs eds1), (26, .mp .str (.i .i64 (kidx sts1 0)))] :: O, n := 111 })
    · intro J
      first | refine g_cnd Tk Tryz.func54 rfl (fun c1 => ?_) (fun c1 => ?_) | refine g_know Tk Tryz.func54 rfl (fun c1 => ?_) (fun c1 => ?_) | refine s_know Tk (fun c1 => ?_) (fun c1 => ?_)
      · have c1 : sl ∈ m.marked := of_decide_eq_true c1
        rw [if_pos c1] at hm3
        subst hm3
        first | refine g_need Tk Tryz.func54 (by exact ⟨by show (mkl.length + 1) * 8 ≤ 140737488355328; omega, by show mkl.length + 1 ≤ 9223372036854775807; omega⟩) ?_ | refine s_need Tk (by exact ⟨by show (mkl.length + 1) * 8 ≤ 140737488355328; omega, by show mkl.length + 1 ≤ 9223372036854775807; omega⟩) ?_
        refine g_stop ?_
        refine rch_meet (J trivial) ⟨rfl, rfl, rfl, rfl, rfl, rfl, rfl, rfl, trivial⟩ rfl ⟨rfl, rfl, congrArg some (oints_app mkl (i : Int)), rfl, rfl, trivial⟩ rfl rfl
      · have c1 : sl ∉ m.marked := of_decide_eq_false c1
        rw [if_neg c1] at hm3
        subst hm3
        refine g_stop ?_
        refine rch_meet (J trivial) ⟨rfl, rfl, rfl, rfl, rfl, rfl, rfl, rfl, trivial⟩ rfl ⟨rfl, rfl, rfl, rfl, rfl, trivial⟩ rfl rfl
    intro _
    have hml1 : mkl1.length ≤ i + 1 := by rw [hm3]; split; (rw [List.length_append, List.length_singleton]; omega); omega
    clear hm3 hml hmk gs
    have hV0 : uvisits keq true (stpR m) i ⟨sl, sv⟩ alpha ⟨sts1, mkl1, eds1⟩ = uvisits keq true (stpR m) i ⟨sl, sv⟩ (alpha.drop 0) ⟨sts1, mkl1, eds1⟩ := rfl
    generalize uvisits keq true (stpR m) i ⟨sl, sv⟩ alpha ⟨sts1, mkl1, eds1⟩ = V at *
    refine g_run Tk Tryz.func54 ?_
    refine g_go Tk Tryz.func54 ?_
    refine g_loop ?_
    refine rch_loop2 (fun x : Nat × Unf Sta => [(0, ints alpha), (2, .fn (.func 50) [] []), (3, fnS (d + 1) nm), (4, fnM (d + 1) nm), (10, .own 0 10 0 0), (11, .osl 0 95), (13, .osl 0 26), (14, ii i), (49, ints alpha), (50, ii alpha.length), (51, ii x.1)])
      (fun x => [(10, .box [ints alpha, ii 0, .osl 0 47, .osl 0 103]), (95, ostas x.2.sts), (47, oints x.2.mkl), (103, oedgs x.2.eds), (26, .mp .str (.i .i64 (kidx x.2.sts 0)))]) (fun _ => O) 111
      (fun x => x.1 ≤ alpha.length ∧ UGood m x.2 ∧ i < x.2.sts.length ∧ x.2.mkl.length ≤ i + 1 ∧ x.2.eds.length ≤ 4096 * i + x.1 ∧ x.2.sts[i]? = some ⟨sl, sv⟩ ∧ V = uvisits keq true (stpR m) i ⟨sl, sv⟩ (alpha.drop x.1) x.2) (fun x => alpha.length - x.1) (0, ⟨sts1, mkl1, eds1⟩)
      ⟨Nat.zero_le _, ⟨hgd.len, hgd.ok⟩, h1, hml1, hel, hsi, hV0⟩ ⟨rfl, rfl, rfl, rfl, rfl, rfl, rfl, rfl, rfl, rfl, rfl, trivial⟩ rfl ⟨rfl, rfl, rfl, rfl, rfl, trivial⟩ rfl rfl ?_
    clear hV0 hsi hml1 hel hgd hle
    rintro ⟨j, ⟨sts, mk, eds⟩⟩ ⟨hj, hgd, hil, hml, hel, hsi, hV⟩ ih2
    simp only at hj hgd hil hml hel hsi hV
    have hle : sts.length ≤ 4096 := hgd.len
    refine g_run Tk Tryz.func54 ?_
    first | refine g_cnd Tk Tryz.func54 rfl (fun g2 => ?_) (fun g2 => ?_) | refine g_know Tk Tryz.func54 rfl (fun g2 => ?_) (fun g2 => ?_) | refine s_know Tk (fun g2 => ?_) (fun g2 => ?_)
    · have h3 : j < alpha.length := by simpa using g2
      clear g2
      have ga : (alpha.map fun x => [vi x])[(j : Int).toNat]? = some [vi alpha[j]] := get_mapZ (f := fun x => [vi x]) h3
      have da : alpha.drop j = alpha[j] :: alpha.drop (j + 1) := List.drop_eq_getElem_cons h3
      rw [da] at hV
      simp only [uvisits] at hV
      clear da
      generalize alpha[j] = ev at *
      have gs : (sts.map staI)[(i : Int).toNat]? = some (staI ⟨sl, sv⟩) := by simp [hsi]
      have hst := fun H => keyStep107 (H :: O) m ⟨sl, sv⟩ ev (d + 1) nm (hO H) hok
      have hokn := @stp_okS m ⟨sl, sv⟩ ev hr hoks
      have hj1 : ii (IntKind.i64.wrap ((j : Int) + 1)) = ii ((j + 1 : Nat) : Int) := congrArg ii (wsucc (n := 4096) (by omega) (by decide))
      unfold uvisit at hV
      generalize stpR m ⟨sl, sv⟩ ev = N at *
      obtain ⟨⟨nl, nv⟩, np, ne⟩ := N
      simp only at hV hst hokn
      first | refine g_need Tk Tryz.func54 (by exact ⟨by omega, by show (j : Int) < (alpha.length : Int); omega⟩) ?_ | refine s_need Tk (by exact ⟨by omega, by show (j : Int) < (alpha.length : Int); omega⟩) ?_
      first | refine g_elem Tk Tryz.func54 (ga) ?_ | refine s_elem Tk (ga) ?_
      first | refine g_need Tk Tryz.func54 (by exact ⟨by omega, by show (i : Int) < (sts.length : Int); omega⟩) ?_ | refine s_need Tk (by exact ⟨by omega, by show (i : Int) < (sts.length : Int); omega⟩) ?_
      first | refine g_elem Tk Tryz.func54 (gs) ?_ | refine s_elem Tk (gs) ?_
      first | refine g_call Tk Tryz.func54 (hst _) rfl rfl rfl rfl rfl ?_ | refine s_callq Tk (fun _ => hst _) rfl rfl rfl ?_
      first | refine g_cnd Tk Tryz.func54 rfl (fun c1 => ?_) (fun c1 => ?_) | refine g_know Tk Tryz.func54 rfl (fun c1 => ?_) (fun c1 => ?_) | refine s_know Tk (fun c1 => ?_) (fun c1 => ?_)
      · have c1 : ne ≠ 0 := bneT c1
        rw [if_pos c1] at hV
        subst hV
        simp only at hno
        subst hno
        refine g_ret_co Tk (r := _) rfl rfl rfl trivial rfl rfl ?_
        exact coErr
      have c1 : ne = 0 := bneF c1
      rw [if_neg (by simpa using c1)] at hV
      first | refine g_cnd Tk Tryz.func54 rfl (fun c2 => ?_) (fun c2 => ?_) | refine g_know Tk Tryz.func54 rfl (fun c2 => ?_) (fun c2 => ?_) | refine s_know Tk (fun c2 => ?_) (fun c2 => ?_)
      · have c2 : np = false := notT c2
        rw [if_pos c2] at hV
        refine g_loop ?_
        exact ih2 (j + 1, ⟨sts, mk, eds⟩) _ _ ⟨h3, hgd, hil, hml, by simp only; omega, hsi, hV⟩ (by simp only; omega) ⟨rfl, rfl, rfl, rfl, rfl, rfl, rfl, rfl, rfl, rfl, hj1, trivial⟩ rfl ⟨rfl, rfl, rfl, rfl, rfl, trivial⟩ rfl rfl
      have c2 : np = true := notF c2
      rw [if_neg (by rw [c2]; simp)] at hV
      have hon := hokn c2
      have hkn := okS_key hr hon
      have hlk := kidx_look (fkey ⟨nl, nv⟩) sts 0
      have hks := @kidx_set ⟨nl, nv⟩ sts 0
      rw [Nat.zero_add] at hks
      rw [Nat.zero_add] at hlk
      have hix : sts.findIdx (keq ⟨nl, nv⟩) ≤ sts.length := findIdx_le
      have hlk : mlook (kidx sts 0) (.string (fkey ⟨nl, nv⟩)) = if sts.findIdx (keq ⟨nl, nv⟩) < sts.length then some ((sts.findIdx (keq ⟨nl, nv⟩) : Nat) : Int) else none := hlk
      generalize sts.findIdx (keq ⟨nl, nv⟩) = t at *
      refine g_callT Tk Tryz.func54 hE (keyName105 hg _ ⟨nl, nv⟩ hkn) rfl rfl rfl rfl rfl rfl ?_
      generalize hst2 : (if t < sts.length then sts else sts ++ [(⟨nl, nv⟩ : Sta)]) = sts2
      apply join_p (P := t < sts.length ∨ sts.length ≠ 4096) (s6 := { σ := [(0, ints alpha), (2, .fn (.func 50) [] []), (3, fnS (d + 1) nm), (4, fnM (d + 1) nm), (10, .own 0 10 0 0), (11, .osl 0 95), (13, .osl 0 26), (14, ii i), (16, ii ev), (20, ii t), (49, ints alpha), (50, ii alpha.length), (51, ii j)], S := [(10, .box [ints alpha, ii 0, .osl 0 47, .osl 0 103]), (95, ostas sts2), (47, oints mk), (103, oedgs eds), (26, .mp .str (.i .i64 (kidx sts2 0)))] :: O, n := 111 })
      · intro J
        first | refine g_cnd Tk Tryz.func54 rfl (fun c3 => ?_) (fun c3 => ?_) | refine g_know Tk Tryz.func54 rfl (fun c3 => ?_) (fun c3 => ?_) | refine s_know Tk (fun c3 => ?_) (fun c3 => ?_)
        · have c3 : mhas (kidx sts 0) (.string (fkey ⟨nl, nv⟩)) = false := notT c3
          have hlt : ¬ t < sts.length := fun h => by
            unfold mhas at c3
            rw [hlk, if_pos h] at c3
            cases c3
          have hte : t = sts.length := by omega
          rw [if_neg hlt] at hst2 hV
          have hks := hks hlt
          first | refine g_cnd Tk Tryz.func54 rfl (fun c4 => ?_) (fun c4 => ?_) | refine g_know Tk Tryz.func54 rfl (fun c4 => ?_) (fun c4 => ?_) | refine s_know Tk (fun c4 => ?_) (fun c4 => ?_)
          · have c4 : ((sts.length : Nat) : Int) = 4096 := beqT c4
            have c4 : sts.length = 4096 := by omega
            rw [if_pos ⟨trivial, c4⟩] at hV
            subst hV
            simp only at hno
            subst hno
            refine g_ret_co Tk (r := _) rfl rfl rfl trivial rfl rfl ?_
            exact coErr
          have c4 : ((sts.length : Nat) : Int) ≠ 4096 := beqF c4
          have c4 : sts.length ≠ 4096 := by omega
          refine g_callT Tk Tryz.func54 hE (keyName105 hg _ ⟨nl, nv⟩ hkn) rfl rfl rfl rfl rfl rfl ?_
          first | refine g_need Tk Tryz.func54 (by exact ⟨by show (sts.length + 1) * 32 ≤ 140737488355328; omega, by show sts.length + 1 ≤ 9223372036854775807; omega⟩) ?_ | refine s_need Tk (by exact ⟨by show (sts.length + 1) * 32 ≤ 140737488355328; omega, by show sts.length + 1 ≤ 9223372036854775807; omega⟩) ?_
          subst hst2
          refine g_stop ?_
          refine rch_meet (J (.inr c4)) ⟨rfl, rfl, rfl, rfl, rfl, rfl, rfl, rfl, rfl, by rw [hte]; rfl, rfl, rfl, rfl, trivial⟩ rfl ⟨rfl, congrArg some (ostas_app2 sts (⟨nl, nv⟩ : Sta)), rfl, rfl, congrArg (fun l => some (Ob.mp .str (.i .i64 l))) hks, trivial⟩ rfl rfl
        · have c3 : mhas (kidx sts 0) (.string (fkey ⟨nl, nv⟩)) = true := notF c3
          have hlt : t < sts.length := Classical.byContradiction fun h => by
            unfold mhas at c3
            rw [hlk, if_neg h] at c3
            cases c3
          rw [if_pos hlt] at hst2 hlk
          subst hst2
          refine g_stop ?_
          refine rch_meet (J (.inl hlt)) ⟨rfl, rfl, rfl, rfl, rfl, rfl, rfl, rfl, rfl, by show ii (mgetI (kidx sts 0) (.string (fkey ⟨nl, nv⟩))) = _; unfold mgetI; rw [hlk]; rfl, rfl, rfl, rfl, trivial⟩ rfl ⟨rfl, rfl, rfl, rfl, rfl, trivial⟩ rfl rfl
      · intro hP
        have hV : V = uvisits keq true (stpR m) i ⟨sl, sv⟩ (alpha.drop (j + 1)) ⟨sts2, mk, eds ++ [((i : Int), ev, (t : Int))]⟩ := by
          rw [hV]
          by_cases hlt : t < sts.length
          · rw [if_pos hlt] at hst2 ⊢
            subst hst2
            rfl
          · rw [if_neg hlt] at hst2 ⊢
            rw [if_neg (by rintro ⟨_, h⟩; rcases hP with h' | h'; exact hlt h'; exact h' h)]
            subst hst2
            rfl
        have hg2 : UGood m ⟨sts2, mk, eds ++ [((i : Int), ev, (t : Int))]⟩ := by
          by_cases hlt : t < sts.length
          · rw [if_pos hlt] at hst2
            subst hst2
            exact ⟨hgd.len, hgd.ok⟩
          · rw [if_neg hlt] at hst2
            subst hst2
            refine ⟨?_, fun x hx => ?_⟩
            · show (sts ++ [(⟨nl, nv⟩ : Sta)]).length ≤ 4096
              rw [List.length_append, List.length_singleton]
              rcases hP with h' | h'
              · exact absurd h' hlt
              · omega
            · rcases List.mem_append.1 hx with hx | hx
              · exact hgd.ok x hx
              · rw [List.mem_singleton] at hx
                subst hx
                exact hon
        have hi2 : i < sts2.length ∧ sts2[i]? = some ⟨sl, sv⟩ := by
          by_cases hlt : t < sts.length
          · rw [if_pos hlt] at hst2
            subst hst2
            exact ⟨hil, hsi⟩
          · rw [if_neg hlt] at hst2
            subst hst2
            refine ⟨by rw [List.length_append]; omega, ?_⟩
            rw [List.getElem?_append_left hil]
            exact hsi
        have hi4 : i < 4096 := by omega
        clear hst2 hst hlk hks hgd hil hsi
        refine g_run Tk Tryz.func54 ?_
        refine g_go Tk Tryz.func54 ?_
        first | refine g_need Tk Tryz.func54 (by exact ⟨by show (eds.length + 1) * 24 ≤ 140737488355328; omega, by show eds.length + 1 ≤ 9223372036854775807; omega⟩) ?_ | refine s_need Tk (by exact ⟨by show (eds.length + 1) * 24 ≤ 140737488355328; omega, by show eds.length + 1 ≤ 9223372036854775807; omega⟩) ?_
        refine g_loop ?_
        exact ih2 (j + 1, ⟨sts2, mk, eds ++ [((i : Int), ev, (t : Int))]⟩) _ _ ⟨h3, hg2, hi2.1, hml, by simp only [List.length_append, List.length_singleton]; omega, hi2.2, hV⟩ (by simp only; omega) ⟨rfl, rfl, rfl, rfl, rfl, rfl, rfl, rfl, rfl, rfl, hj1, trivial⟩ rfl ⟨rfl, rfl, rfl, congrArg some (oedgs_app eds ((i : Int), ev, (t : Int))), rfl, trivial⟩ rfl rfl
    · have h3 : alpha.length ≤ j := by simpa using g2
      rw [List.drop_eq_nil_of_le h3] at hV
      simp only [uvisits] at hV
      subst hV
      simp only at hno
      have hja : j ≤ 4096 := by omega
      refine g_loop ?_
      exact ih (i + 1, ⟨sts, mk, eds⟩) _ _ ⟨by simp only; omega, hgd, hml, by simp only; omega, hno⟩ (by simp only; omega) ⟨rfl, rfl, rfl, rfl, rfl, rfl, rfl, congrArg ii (wsucc (n := 4096) (by omega) (by decide)), trivial⟩ rfl ⟨rfl, rfl, rfl, rfl, rfl, trivial⟩ rfl rfl
  · have h1 : U.sts.length ≤ i := by simpa using g1
    rw [uloop_done h1] at hno
    subst hno
    obtain ⟨sts, mk, eds⟩ := U
    refine g_rwk (wk_freeze 95 rfl rfl) ?_
    refine g_rwk (wk_freeze 47 rfl rfl) ?_
    refine g_rwk (wk_freeze 103 rfl rfl) ?_
    refine g_rwk (wk_imm rfl) ?_
    refine g_ret Tk (r := unfD alpha (.ok ⟨sts, mk, eds⟩)) rfl rfl rfl trivial rfl rfl ?_
    rfl
end Go.AI


/- flatten.Unfold. -/
namespace Go.AI
open Go.Proofs
set_option maxRecDepth 20000
def unfoldR (m : Ext) : Except Int (Unf Sta) := if chk m ≠ 0 then .error (chk m) else unfX m m.alpha (startR m)
theorem Unfold50 {g : Nat} (hg : IsTab g) {ty : TypeId} {fr : Nat × Nat} (O : List Heap) (m : Ext) (hok : extOk m) : ASpecT g (ptab ty fr) Tryz.prog 17 [extD m] O (unfD m.alpha (unfoldR m)) [] O := by
  have hb := fun O => begin20 O m hok
  unfold begR at hb
  unfold unfoldR
  by_cases h1 : chk m ≠ 0
  · simp only [if_pos h1] at hb ⊢
    refine aspecT_stop [] Tk Tryz.func17 rfl Tryz.call17 Tryz.ntmps17 (Nat.le_of_ble_eq_true rfl) fun E hE => ?_
    refine g_run Tk Tryz.func17 ?_
    first | refine g_call Tk Tryz.func17 (hb _) rfl rfl rfl rfl rfl ?_ | refine s_callq Tk (fun _ => hb _) rfl rfl rfl ?_
    first | refine g_cnd Tk Tryz.func17 rfl (fun h2 => ?_) (fun h2 => ?_) | refine g_know Tk Tryz.func17 rfl (fun h2 => ?_) (fun h2 => ?_) | refine s_know Tk (fun h2 => ?_) (fun h2 => ?_)
    rotate_left
    · exact absurd (bneF h2) h1
    refine g_ret_co Tk (r := _) rfl rfl rfl trivial rfl rfl ?_
    exact coErr
  · have h1 : chk m = 0 := Classical.byContradiction h1
    have hr := chk_right h1
    have hal := checkSet_len (by decide) hr.alpha
    simp only [h1, ne_eq, not_true_eq_false, if_false] at hb ⊢
    have hcl := fun O => clone84 O m.alpha (by simp only [big]; omega)
    have hun := fun O ho => unfold111 hg (ty := ty) (fr := fr) O m m.alpha (startR m) 0 1 ho hok hr (by omega) (start_ok hr)
    generalize unfX m m.alpha (startR m) = R at *
    generalize startR m = st at *
    obtain ⟨sl, sv⟩ := st
    cases R with
    | error e =>
      refine aspecT_stop [] Tk Tryz.func17 rfl Tryz.call17 Tryz.ntmps17 (Nat.le_of_ble_eq_true rfl) fun E hE => ?_
      refine g_run Tk Tryz.func17 ?_
      first | refine g_call Tk Tryz.func17 (hb _) rfl rfl rfl rfl rfl ?_ | refine s_callq Tk (fun _ => hb _) rfl rfl rfl ?_
      repeat (first | refine g_cnd Tk Tryz.func17 rfl (fun _ => ?_) (fun h => absurd h (by decide)) | refine g_know Tk Tryz.func17 rfl (fun _ => ?_) (fun h => absurd h (by decide)) | refine s_know Tk (fun _ => ?_) (fun h => absurd h (by decide)) | refine g_cnd Tk Tryz.func17 rfl (fun h => absurd h (by decide)) (fun _ => ?_) | refine g_know Tk Tryz.func17 rfl (fun h => absurd h (by decide)) (fun _ => ?_) | refine s_know Tk (fun h => absurd h (by decide)) (fun _ => ?_) | refine g_cnd Tk Tryz.func17 rfl (fun _ => ?_) (fun h => absurd (show true = false from h) (by decide)) | refine g_know Tk Tryz.func17 rfl (fun _ => ?_) (fun h => absurd (show true = false from h) (by decide)) | refine s_know Tk (fun _ => ?_) (fun h => absurd (show true = false from h) (by decide)) | refine g_cnd Tk Tryz.func17 rfl (fun h => absurd (show false = true from h) (by decide)) (fun _ => ?_) | refine g_know Tk Tryz.func17 rfl (fun h => absurd (show false = true from h) (by decide)) (fun _ => ?_) | refine s_know Tk (fun h => absurd (show false = true from h) (by decide)) (fun _ => ?_))
      refine g_drawn Tk Tryz.func17 mixedT rfl ?_
      first | refine g_call Tk Tryz.func17 (hcl _) rfl rfl rfl rfl rfl ?_ | refine s_callq Tk (fun _ => hcl _) rfl rfl rfl ?_
      refine s_callT Tk hE (hun _ rfl) rfl rfl rfl rfl ?_
      refine s_put Tk rfl rfl rfl ?_
      refine e_done Tk Tryz.func17 (by kernel_rfl) ?_
      refine g_ret_co Tk (r := _) rfl rfl rfl trivial rfl rfl ?_
      exact CoD.refl _
    | ok U =>
      obtain ⟨us, um, ue⟩ := U
      refine aspecT_stop [] Tk Tryz.func17 rfl Tryz.call17 Tryz.ntmps17 (Nat.le_of_ble_eq_true rfl) fun E hE => ?_
      refine g_run Tk Tryz.func17 ?_
      first | refine g_call Tk Tryz.func17 (hb _) rfl rfl rfl rfl rfl ?_ | refine s_callq Tk (fun _ => hb _) rfl rfl rfl ?_
      repeat (first | refine g_cnd Tk Tryz.func17 rfl (fun _ => ?_) (fun h => absurd h (by decide)) | refine g_know Tk Tryz.func17 rfl (fun _ => ?_) (fun h => absurd h (by decide)) | refine s_know Tk (fun _ => ?_) (fun h => absurd h (by decide)) | refine g_cnd Tk Tryz.func17 rfl (fun h => absurd h (by decide)) (fun _ => ?_) | refine g_know Tk Tryz.func17 rfl (fun h => absurd h (by decide)) (fun _ => ?_) | refine s_know Tk (fun h => absurd h (by decide)) (fun _ => ?_) | refine g_cnd Tk Tryz.func17 rfl (fun _ => ?_) (fun h => absurd (show true = false from h) (by decide)) | refine g_know Tk Tryz.func17 rfl (fun _ => ?_) (fun h => absurd (show true = false from h) (by decide)) | refine s_know Tk (fun _ => ?_) (fun h => absurd (show true = false from h) (by decide)) | refine g_cnd Tk Tryz.func17 rfl (fun h => absurd (show false = true from h) (by decide)) (fun _ => ?_) | refine g_know Tk Tryz.func17 rfl (fun h => absurd (show false = true from h) (by decide)) (fun _ => ?_) | refine s_know Tk (fun h => absurd (show false = true from h) (by decide)) (fun _ => ?_))
      refine g_drawn Tk Tryz.func17 mixedT rfl ?_
      first | refine g_call Tk Tryz.func17 (hcl _) rfl rfl rfl rfl rfl ?_ | refine s_callq Tk (fun _ => hcl _) rfl rfl rfl ?_
      refine s_callT Tk hE (hun _ rfl) rfl rfl rfl rfl ?_
      refine s_put Tk rfl rfl rfl ?_
      refine e_done Tk Tryz.func17 (by kernel_rfl) ?_
      refine g_ret_co Tk (r := _) rfl rfl rfl trivial rfl rfl ?_
      exact CoD.refl _
end Go.AI


/- flatten.Locate, At, Where. -/
namespace Go.AI
open Go.Proofs
set_option maxRecDepth 20000
def ckAll (m : Ext) : List Sta → Int
  | [] => 0
  | s :: r => if ckS m s ≠ 0 then ckS m s else ckAll m r
def whL (x : Ex) : List Sta → Nat → List Int → List Int × Int
  | [], _, acc => (acc, 0)
  | s :: r, i, acc => if (evalX x s.vals).2 ≠ 0 then ([], (evalX x s.vals).2) else whL x r (i + 1) (if (evalX x s.vals).1 = 1 then acc ++ [(i : Int)] else acc)
def whereR (m : Ext) (l : List Sta) (x : Ex) : List Int × Int :=
  if chk m ≠ 0 then ([], chk m) else if ckAll m l ≠ 0 then ([], ckAll m l) else if (checkX x m.vars.length).2 ≠ 0 then ([], (checkX x m.vars.length).2) else if (checkX x m.vars.length).1 ≠ 2 then ([], 16) else whL x l 0 []
theorem coNil2 {e : Int} : CoD (.tup [.i (.v (.slice none 0 0)), ii e]) (.tup [ints [], ii e]) := coD_tup (.cons (coD_i coI_nil) (CoDL.refl _))
theorem where52 (O : List Heap) (m : Ext) (l : List Sta) (x : Ex) (hok : extOk m) (hx : exOk x) (hl : l.length ≤ 1000000) (hv : ∀ s ∈ l, s.vals.length ≤ max63) : ASpec Tryz.prog 35 [extD m, stasD l, exA x] O (.tup [ints (whereR m l x).1, ii (whereR m l x).2]) [] O := by
  generalize hR : whereR m l x = R
  unfold whereR at hR
  have hck := fun O => check40 O m hok
  refine aspec_intro Tk Tryz.func35 rfl Tryz.call35 Tryz.ntmps35 (Nat.le_of_ble_eq_true rfl) fun E => ?_
  refine g_run Tk Tryz.func35 ?_
  first | refine g_call Tk Tryz.func35 (hck _) rfl rfl rfl rfl rfl ?_ | refine s_callq Tk (fun _ => hck _) rfl rfl rfl ?_
  first | refine g_cnd Tk Tryz.func35 rfl (fun g0 => ?_) (fun g0 => ?_) | refine g_know Tk Tryz.func35 rfl (fun g0 => ?_) (fun g0 => ?_) | refine s_know Tk (fun g0 => ?_) (fun g0 => ?_)
  · have g0 : chk m ≠ 0 := bneT g0
    rw [if_pos g0] at hR
    subst hR
    refine g_ret_co Tk (r := _) rfl rfl rfl trivial rfl rfl ?_
    exact coNil2
  have g0 : chk m = 0 := bneF g0
  rw [if_neg (by simpa using g0)] at hR
  clear hck
  have hC0 : ckAll m l = ckAll m (l.drop 0) := rfl
  generalize ckAll m l = C at *
  refine g_loop ?_
  refine rch_loop2 (fun i : Nat => [(1, stasD l), (3, .own 0 3 0 0), (5, .own 0 5 0 0), (24, stasD l), (25, ii l.length), (26, ii i)]) (fun _ => [(3, .box (extC m)), (5, .box [ii x.op, ii x.vl, ii x.ix, exs x.args])]) (fun _ => O) 75
    (fun i => i ≤ l.length ∧ C = ckAll m (l.drop i)) (fun i => l.length - i) 0 ⟨Nat.zero_le _, hC0⟩ ⟨rfl, rfl, rfl, rfl, rfl, rfl, trivial⟩ rfl ⟨rfl, rfl, trivial⟩ rfl rfl ?_
  clear hC0
  rintro i ⟨hi, hC⟩ ih
  refine g_run Tk Tryz.func35 ?_
  first | refine g_cnd Tk Tryz.func35 rfl (fun g1 => ?_) (fun g1 => ?_) | refine g_know Tk Tryz.func35 rfl (fun g1 => ?_) (fun g1 => ?_) | refine s_know Tk (fun g1 => ?_) (fun g1 => ?_)
  · have h1 : i < l.length := by simpa using g1
    have gs : (l.map staI)[(i : Int).toNat]? = some (staI l[i]) := get_mapZ h1
    have hd : l.drop i = l[i] :: l.drop (i + 1) := List.drop_eq_getElem_cons h1
    rw [hd] at hC
    simp only [ckAll] at hC
    clear hd
    generalize l[i] = s at *
    have hcs := fun O => checkState28 O m s hok
    generalize ckS m s = e at *
    obtain ⟨sl, sv⟩ := s
    have hi1 : ii (IntKind.i64.wrap ((i : Int) + 1)) = ii ((i + 1 : Nat) : Int) := congrArg ii (wsucc (n := 1000000) (by omega) (by decide))
    first | refine g_need Tk Tryz.func35 (by exact ⟨by omega, by show (i : Int) < (l.length : Int); omega⟩) ?_ | refine s_need Tk (by exact ⟨by omega, by show (i : Int) < (l.length : Int); omega⟩) ?_
    first | refine g_elem Tk Tryz.func35 (gs) ?_ | refine s_elem Tk (gs) ?_
    first | refine g_call Tk Tryz.func35 (hcs _) rfl rfl rfl rfl rfl ?_ | refine s_callq Tk (fun _ => hcs _) rfl rfl rfl ?_
    first | refine g_cnd Tk Tryz.func35 rfl (fun g2 => ?_) (fun g2 => ?_) | refine g_know Tk Tryz.func35 rfl (fun g2 => ?_) (fun g2 => ?_) | refine s_know Tk (fun g2 => ?_) (fun g2 => ?_)
    · have g2 : e ≠ 0 := bneT g2
      rw [if_pos g2] at hC
      subst hC
      rw [if_pos g2] at hR
      subst hR
      refine g_ret_co Tk (r := _) rfl rfl rfl trivial rfl rfl ?_
      exact coNil2
    · have g2 : e = 0 := bneF g2
      rw [if_neg (by simpa using g2)] at hC
      refine g_loop ?_
      exact ih (i + 1) _ _ ⟨h1, hC⟩ (by omega) ⟨rfl, rfl, rfl, rfl, rfl, hi1, trivial⟩ rfl ⟨rfl, rfl, trivial⟩ rfl rfl
  clear ih
  have h1 : l.length ≤ i := by simpa using g1
  rw [List.drop_eq_nil_of_le h1] at hC
  simp only [ckAll] at hC
  subst hC
  rw [if_neg (by simp)] at hR
  clear g1 h1 hi
  have hch := fun O => check67A O x m.vars.length hx
  generalize checkX x m.vars.length = Q at *
  obtain ⟨qk, qe⟩ := Q
  simp only at hR hch
  first | refine g_call Tk Tryz.func35 (hch _) rfl rfl rfl rfl rfl ?_ | refine s_callq Tk (fun _ => hch _) rfl rfl rfl ?_
  first | refine g_cnd Tk Tryz.func35 rfl (fun g1 => ?_) (fun g1 => ?_) | refine g_know Tk Tryz.func35 rfl (fun g1 => ?_) (fun g1 => ?_) | refine s_know Tk (fun g1 => ?_) (fun g1 => ?_)
  · have g1 : qe ≠ 0 := bneT g1
    rw [if_pos g1] at hR
    subst hR
    refine g_ret_co Tk (r := _) rfl rfl rfl trivial rfl rfl ?_
    exact coNil2
  have g1 : qe = 0 := bneF g1
  rw [if_neg (by simpa using g1)] at hR
  first | refine g_cnd Tk Tryz.func35 rfl (fun g2 => ?_) (fun g2 => ?_) | refine g_know Tk Tryz.func35 rfl (fun g2 => ?_) (fun g2 => ?_) | refine s_know Tk (fun g2 => ?_) (fun g2 => ?_)
  · have g2 : qk ≠ 2 := bneT g2
    rw [if_pos g2] at hR
    subst hR
    refine g_ret_co Tk (r := _) rfl rfl rfl trivial rfl rfl ?_
    exact coNil2
  have g2 : qk = 2 := bneF g2
  rw [if_neg (by simpa using g2)] at hR
  have hR0 : R = whL x (l.drop 0) 0 [] := hR.symm
  clear hR hch
  refine g_loop ?_
  refine rch_wk (wk_nil 14 72 3 1 rfl rfl rfl) ?_
  refine rch_loop2 (fun y : Nat × List Int => [(5, .own 0 5 0 0), (14, .osl 0 72), (50, stasD l), (51, ii l.length), (52, ii y.1)]) (fun y => [(5, .box [ii x.op, ii x.vl, ii x.ix, exs x.args]), (72, oints y.2)]) (fun _ => O) 75
    (fun y => y.1 ≤ l.length ∧ y.2.length ≤ y.1 ∧ R = whL x (l.drop y.1) y.1 y.2) (fun y => l.length - y.1) (0, []) ⟨Nat.zero_le _, Nat.le_refl _, hR0⟩ ⟨rfl, rfl, rfl, rfl, rfl, trivial⟩ rfl ⟨rfl, rfl, trivial⟩ rfl rfl ?_
  clear hR0
  rintro ⟨i, acc⟩ ⟨hi, hac, hno⟩ ih
  simp only at hi hac hno
  refine g_run Tk Tryz.func35 ?_
  first | refine g_cnd Tk Tryz.func35 rfl (fun g3 => ?_) (fun g3 => ?_) | refine g_know Tk Tryz.func35 rfl (fun g3 => ?_) (fun g3 => ?_) | refine s_know Tk (fun g3 => ?_) (fun g3 => ?_)
  · have h1 : i < l.length := by simpa using g3
    have gs : (l.map staI)[(i : Int).toNat]? = some (staI l[i]) := get_mapZ h1
    have hvi := hv _ (List.getElem_mem h1)
    have hd : l.drop i = l[i] :: l.drop (i + 1) := List.drop_eq_getElem_cons h1
    rw [hd] at hno
    simp only [whL] at hno
    clear hd
    generalize l[i] = s at *
    obtain ⟨sl, sv⟩ := s
    simp only at hno hvi
    have hev := fun O => evaluate51A O x sv hx hvi
    generalize evalX x sv = V at *
    obtain ⟨v, ve⟩ := V
    simp only at hno hev
    have hi1 : ii (IntKind.i64.wrap ((i : Int) + 1)) = ii ((i + 1 : Nat) : Int) := congrArg ii (wsucc (n := 1000000) (by omega) (by decide))
    first | refine g_need Tk Tryz.func35 (by exact ⟨by omega, by show (i : Int) < (l.length : Int); omega⟩) ?_ | refine s_need Tk (by exact ⟨by omega, by show (i : Int) < (l.length : Int); omega⟩) ?_
    first | refine g_elem Tk Tryz.func35 (gs) ?_ | refine s_elem Tk (gs) ?_
    first | refine g_call Tk Tryz.func35 (hev _) rfl rfl rfl rfl rfl ?_ | refine s_callq Tk (fun _ => hev _) rfl rfl rfl ?_
    first | refine g_cnd Tk Tryz.func35 rfl (fun g4 => ?_) (fun g4 => ?_) | refine g_know Tk Tryz.func35 rfl (fun g4 => ?_) (fun g4 => ?_) | refine s_know Tk (fun g4 => ?_) (fun g4 => ?_)
    · have g4 : ve ≠ 0 := bneT g4
      rw [if_pos g4] at hno
      subst hno
      refine g_ret_co Tk (r := _) rfl rfl rfl trivial rfl rfl ?_
      exact coNil2
    have g4 : ve = 0 := bneF g4
    rw [if_neg (by simpa using g4)] at hno
    first | refine g_cnd Tk Tryz.func35 rfl (fun g5 => ?_) (fun g5 => ?_) | refine g_know Tk Tryz.func35 rfl (fun g5 => ?_) (fun g5 => ?_) | refine s_know Tk (fun g5 => ?_) (fun g5 => ?_)
    · have g5 : v = 1 := beqT g5
      rw [if_pos g5] at hno
      first | refine g_need Tk Tryz.func35 (by exact ⟨by show (acc.length + 1) * 8 ≤ 140737488355328; omega, by show acc.length + 1 ≤ 9223372036854775807; omega⟩) ?_ | refine s_need Tk (by exact ⟨by show (acc.length + 1) * 8 ≤ 140737488355328; omega, by show acc.length + 1 ≤ 9223372036854775807; omega⟩) ?_
      refine g_loop ?_
      exact ih (i + 1, acc ++ [(i : Int)]) _ _ ⟨h1, by simp only [List.length_append, List.length_singleton]; omega, hno⟩ (by simp only; omega) ⟨rfl, rfl, rfl, rfl, hi1, trivial⟩ rfl ⟨rfl, congrArg some (oints_app acc (i : Int)), trivial⟩ rfl rfl
    · have g5 : v ≠ 1 := beqF g5
      rw [if_neg g5] at hno
      refine g_loop ?_
      exact ih (i + 1, acc) _ _ ⟨h1, by simp only; omega, hno⟩ (by simp only; omega) ⟨rfl, rfl, rfl, rfl, hi1, trivial⟩ rfl ⟨rfl, rfl, trivial⟩ rfl rfl
  · have h1 : l.length ≤ i := by simpa using g3
    rw [List.drop_eq_nil_of_le h1] at hno
    simp only [whL] at hno
    subst hno
    refine g_rwk (wk_freeze 72 rfl rfl) ?_
    refine g_ret Tk (r := .tup [ints acc, ii 0]) rfl rfl rfl trivial rfl rfl ?_
    rfl
end Go.AI


namespace Go.AI
open Go.Proofs
set_option maxRecDepth 20000
/- Words. -/
/-- What is known in a search of a sketched automaton. -/
structure Inv5 (m : Ext) (S : Srch) : Prop where
  lk : Linked S
  ok : ∀ s ∈ S.sts, okS m s
  nd : S.sts.Nodup
  fl : S.kind ≠ 0 → 0 ≤ S.flt.1
/- No more than 64 states. -/
/- The text of a state says which it is. -/
/-- One event, where there is no limit. -/
def vt (m : Ext) (i : Nat) (s : Sta) (ev : Int) (S : Srch) : Srch :=
  let n := stepR m s ev
  let S1 : Srch := if n.2.2 ≠ 0 ∧ S.kind = 0 then { S with kind := n.2.2, flt := (i, ev) } else S
  if n.2.1 = false ∨ n.1 ∈ S.sts then S1 else { S1 with sts := S1.sts ++ [n.1], frm := S1.frm ++ [((i : Int), ev)] }
/- What one event does to words. -/
end Go.AI


/- Sketched automata unfolded: what is known of the result, in plain data. -/
namespace Go.AI
set_option maxRecDepth 20000
end Go.AI


/- Several extended automata at once: origins and their steps, in plain data. -/
namespace Go.AI
set_option maxRecDepth 20000
structure Org where
  locs : List Int
  vals : List Int
instance orgDec : DecidableEq Org := fun a b => decidable_of_iff (a.locs = b.locs ∧ a.vals = b.vals) ⟨fun ⟨h1, h2⟩ => by cases a; cases b; cases h1; cases h2; rfl, fun h => by subst h; exact ⟨rfl, rfl⟩⟩
abbrev orgD (o : Org) : D := .agg [ints o.locs, ints o.vals]
abbrev orgI (o : Org) : List I := [intsI o.locs, intsI o.vals]
abbrev orgsD (l : List Org) : D := .i (.sl 2 l.length (l.map orgI))
def zeroO : Org := ⟨[], []⟩
def zeroMv : Mv := ⟨0, 0, 0, zeroE, []⟩
abbrev extI (m : Ext) : List I := [intsI m.alpha, vi m.locs, vi m.init, intsI m.marked, .sl 4 m.vars.length (m.vars.map vrI), .sl 8 m.moves.length (m.moves.map mvI)]
abbrev exts (l : List Ext) : D := .i (.sl 6 l.length (l.map extI))
/-- What a scan of moves finds: an error; how many guards are true; the last of them. -/
def scanMv (loc ev : Int) (vals : List Int) : List Mv → Nat → Nat → Option Nat → Option Int × Nat × Option Nat
  | [], _, c, k => (none, c, k)
  | x :: r, i, c, k => if x.frm ≠ loc ∨ x.ev ≠ ev then scanMv loc ev vals r (i + 1) c k else
    if (evalX x.g vals).2 ≠ 0 then (some (evalX x.g vals).2, c, k) else
    if (evalX x.g vals).1 = 1 then scanMv loc ev vals r (i + 1) (c + 1) (some i) else scanMv loc ev vals r (i + 1) c k
/-- The move that is chosen, or the error. -/
def selK (m : Ext) (loc ev : Int) (vals : List Int) : Except Int (Option Nat) := match scanMv loc ev vals m.moves 0 0 none with
  | (some e, _, _) => .error e
  | (none, c, k) => if c > 1 then .error 18 else .ok k
def mvAt (l : List Mv) : Option Nat → Mv
  | none => zeroMv
  | some k => l.getD k zeroMv
/-- One automaton after another: which move each takes. -/
def pickO (at_ : Org) (ev : Int) : List Ext → Nat → List (Option (Option Nat)) → Except Int (List (Option (Option Nat)))
  | [], _, ps => .ok ps
  | m :: r, i, ps => if ev ∉ m.alpha then pickO at_ ev r (i + 1) (ps ++ [none]) else
    match selK m (at_.locs.getD i 0) ev at_.vals with
    | .error e => .error e
    | .ok k => pickO at_ ev r (i + 1) (ps ++ [some k])
def canO (ps : List (Option (Option Nat))) : Bool := !ps.contains (some none)
/-- The locations behind moves, and the moves. -/
def locsO : List Ext → List Int → List (Option (Option Nat)) → List Int
  | m :: r, x :: l, none :: ps => x :: locsO r l ps
  | m :: r, x :: l, some k :: ps => (mvAt m.moves k).to :: locsO r l ps
  | _, l, _ => l
def mvsO : List Ext → List (Option (Option Nat)) → List Mv
  | m :: r, none :: ps => mvsO r ps
  | m :: r, some k :: ps => mvAt m.moves k :: mvsO r ps
  | _, _ => []
/-- Assignments, each from the old values: what a variable is given twice must be the same. -/
def asgU (vars : List Vr) (vals : List Int) : List Upd → List Int → List Int → Except Int (List Int × List Int)
  | [], out, G => .ok (out, G)
  | u :: r, out, G => if (evalX u.x vals).2 ≠ 0 ∨ (vars[u.v.toNat]?).any (fun a => decide ((evalX u.x vals).1 < a.low) || decide ((evalX u.x vals).1 > a.high)) then .error 17 else
    if u.v ∈ G ∧ out.getD u.v.toNat 0 ≠ (evalX u.x vals).1 then .error 13 else
    asgU vars vals r (out.set u.v.toNat (evalX u.x vals).1) (if u.v ∈ G then G else G ++ [u.v])
def asgM (vars : List Vr) (vals : List Int) : List Mv → List Int → List Int → Except Int (List Int × List Int)
  | [], out, G => .ok (out, G)
  | x :: r, out, G => match asgU vars vals x.us out G with
    | .error e => .error e
    | .ok (out', G') => asgM vars vals r out' G'
/-- The origin behind an event. -/
def stepO (l : List Ext) (o : Org) (ev : Int) : Org × Bool × Int := match pickO o ev l 0 [] with
  | .error e => (zeroO, false, e)
  | .ok ps => if canO ps = false then (zeroO, false, 0) else
    match asgM ((l.getD 0 ⟨[], 0, 0, [], [], []⟩).vars) o.vals (mvsO l ps) o.vals [] with
    | .error e => (zeroO, false, e)
    | .ok (out, _) => (⟨locsO l o.locs ps, out⟩, true, 0)
theorem locsO_nil : ∀ (l : List Ext) (x : List Int), locsO l x [] = x
  | [], x => by simp [locsO]
  | _ :: _, [] => by simp [locsO]
  | _ :: _, _ :: _ => by simp [locsO]
theorem locsO_len : ∀ (l : List Ext) (x : List Int) (ps : List (Option (Option Nat))), (locsO l x ps).length = x.length
  | [], x, _ => by simp [locsO]
  | _ :: _, [], _ => by simp [locsO]
  | _ :: _, _ :: _, [] => by simp [locsO]
  | m :: r, y :: x, none :: ps => by simp [locsO, locsO_len r x ps]
  | m :: r, y :: x, some k :: ps => by simp [locsO, locsO_len r x ps]
theorem locsO_app : ∀ (l : List Ext) (x : List Int) (ps : List (Option (Option Nat))) (k : Option Nat) (h : ps.length < l.length), locsO l x (ps ++ [some k]) = (locsO l x ps).set ps.length (mvAt l[ps.length].moves k).to
  | m :: r, [], ps, k, _ => by simp [locsO]
  | m :: r, y :: x, [], k, _ => by simp [locsO, locsO_nil]
  | m :: r, y :: x, none :: ps, k, h => by
    have := locsO_app r x ps k (by simpa using h)
    simp [locsO, this]
  | m :: r, y :: x, some j :: ps, k, h => by
    have := locsO_app r x ps k (by simpa using h)
    simp [locsO, this]
theorem locsO_none : ∀ (l : List Ext) (x : List Int) (ps : List (Option (Option Nat))), locsO l x (ps ++ [none]) = locsO l x ps
  | [], x, ps => by simp [locsO]
  | m :: r, [], ps => by simp [locsO]
  | m :: r, y :: x, [] => by simp [locsO, locsO_nil]
  | m :: r, y :: x, none :: ps => by simp [locsO, locsO_none r x ps]
  | m :: r, y :: x, some j :: ps => by simp [locsO, locsO_none r x ps]
theorem mvsO_nil : ∀ (l : List Ext), mvsO l [] = []
  | [] => by simp [mvsO]
  | _ :: _ => by simp [mvsO]
theorem mvsO_app : ∀ (l : List Ext) (ps : List (Option (Option Nat))) (k : Option Nat) (h : ps.length < l.length), mvsO l (ps ++ [some k]) = mvsO l ps ++ [mvAt l[ps.length].moves k]
  | m :: r, [], k, _ => by simp [mvsO, mvsO_nil]
  | m :: r, none :: ps, k, h => by
    have := mvsO_app r ps k (by simpa using h)
    simp [mvsO, this]
  | m :: r, some j :: ps, k, h => by
    have := mvsO_app r ps k (by simpa using h)
    simp [mvsO, this]
theorem mvsO_none : ∀ (l : List Ext) (ps : List (Option (Option Nat))), mvsO l (ps ++ [none]) = mvsO l ps
  | [], ps => by simp [mvsO]
  | m :: r, [] => by simp [mvsO, mvsO_nil]
  | m :: r, none :: ps => by simp [mvsO, mvsO_none r ps]
  | m :: r, some j :: ps => by simp [mvsO, mvsO_none r ps]
theorem canO_none (ps : List (Option (Option Nat))) : canO (ps ++ [none]) = canO ps := by
  unfold canO
  rw [List.contains_eq_any_beq, List.contains_eq_any_beq]
  simp [List.any_append]
theorem canO_app (ps : List (Option (Option Nat))) (k : Option Nat) : canO (ps ++ [some k]) = (canO ps && k.isSome) := by
  unfold canO
  rw [List.contains_eq_any_beq, List.contains_eq_any_beq]
  cases k <;> simp [List.any_append]
end Go.AI


/- An unfolding seen through a map of states; one automaton alone as a joint list. -/
namespace Go.AI
set_option maxRecDepth 20000
def Unf.map {σ τ : Type} (f : σ → τ) (U : Unf σ) : Unf τ := ⟨U.sts.map f, U.mkl, U.eds⟩
section
variable {σ τ : Type} {eq : σ → σ → Bool} {eq' : τ → τ → Bool} {lim : Bool} {step : σ → Int → σ × Bool × Int} {step' : τ → Int → τ × Bool × Int} {mkd : σ → Bool} {mkd' : τ → Bool} {P : σ → Prop} {f : σ → τ} {alpha : List Int}
structure Sim (eq : σ → σ → Bool) (eq' : τ → τ → Bool) (step : σ → Int → σ × Bool × Int) (step' : τ → Int → τ × Bool × Int) (mkd : σ → Bool) (mkd' : τ → Bool) (P : σ → Prop) (f : σ → τ) (alpha : List Int) : Prop where
  st : ∀ s ev, P s → ev ∈ alpha → (step' (f s) ev).2 = (step s ev).2 ∧ ((step s ev).2.1 = true → (step' (f s) ev).1 = f (step s ev).1 ∧ P (step s ev).1)
  eq : ∀ a b, P a → P b → eq' (f a) (f b) = eq a b
  mark : ∀ s, P s → mkd' (f s) = mkd s
end
theorem scan_err {loc ev : Int} {vals : List Int} : ∀ {l : List Mv} {i c : Nat} {k : Option Nat}, (∀ x ∈ l, (evalX x.g vals).2 = 0 ∨ (evalX x.g vals).2 = 17) → ∀ e, (scanMv loc ev vals l i c k).1 = some e → e = 17
  | [], i, c, k, _, e, h => by simp [scanMv] at h
  | x :: r, i, c, k, hx, e, h => by
    have hr := fun y hy => hx y (List.mem_cons_of_mem _ hy)
    simp only [scanMv] at h
    split at h
    · exact scan_err hr e h
    split at h
    · rename_i h1
      have := hx x (by simp)
      simp only [Option.some.injEq] at h
      omega
    split at h <;> exact scan_err hr e h
theorem scan_lt {loc ev : Int} {vals : List Int} : ∀ {l : List Mv} {i c : Nat} {k : Option Nat}, (∀ j, k = some j → j < i) → ∀ j, (scanMv loc ev vals l i c k).2.2 = some j → j < i + l.length
  | [], i, c, k, hk, j, h => hk j h
  | x :: r, i, c, k, hk, j, h => by
    have hk1 : ∀ j, k = some j → j < i + 1 := fun j hj => by have := hk j hj; omega
    simp only [scanMv] at h
    simp only [List.length_cons]
    split at h
    · have := scan_lt hk1 j h; omega
    split at h
    · have := hk1 j h; omega
    split at h
    · have := scan_lt (k := some i) (fun j hj => by simp only [Option.some.injEq] at hj; omega) j h; omega
    · have := scan_lt hk1 j h; omega
theorem scan_cnt {loc ev : Int} {vals : List Int} : ∀ {l : List Mv} {i c : Nat} {k : Option Nat}, k.isSome = decide (1 ≤ c) → (scanMv loc ev vals l i c k).1 = none → (scanMv loc ev vals l i c k).2.2.isSome = decide (1 ≤ (scanMv loc ev vals l i c k).2.1)
  | [], i, c, k, hk, _ => hk
  | x :: r, i, c, k, hk, h => by
    by_cases h1 : x.frm ≠ loc ∨ x.ev ≠ ev
    · simp only [scanMv, if_pos h1] at h ⊢; exact scan_cnt hk h
    by_cases h2 : (evalX x.g vals).2 ≠ 0
    · simp only [scanMv, if_neg h1, if_pos h2] at h; cases h
    by_cases h3 : (evalX x.g vals).1 = 1
    · simp only [scanMv, if_neg h1, if_neg h2, if_pos h3] at h ⊢; exact scan_cnt (by simp) h
    · simp only [scanMv, if_neg h1, if_neg h2, if_neg h3] at h ⊢; exact scan_cnt hk h
theorem selK_lt {m : Ext} {loc ev : Int} {vals : List Int} {k : Nat} (h : selK m loc ev vals = .ok (some k)) : k < m.moves.length := by
  have hl := @scan_lt loc ev vals m.moves 0 0 none (fun j hj => by cases hj)
  unfold selK at h
  generalize scanMv loc ev vals m.moves 0 0 none = S at *
  obtain ⟨e, c, k'⟩ := S
  cases e with
  | some e => cases h
  | none =>
    simp only at h
    split at h
    · cases h
    · simp only [Except.ok.injEq] at h
      have := hl k h
      omega
end Go.AI


/- Joint lists of extended automata: right origins, and that steps keep them. -/
namespace Go.AI
set_option maxRecDepth 20000
def okLo : List Ext → List Int → Prop
  | [], [] => True
  | m :: r, x :: xs => (0 ≤ x ∧ x < m.locs) ∧ okLo r xs
  | _, _ => False
theorem okLo_len : ∀ {l : List Ext} {x : List Int}, okLo l x → x.length = l.length
  | [], [], _ => rfl
  | _ :: _, _ :: _, h => by simp only [List.length_cons]; rw [okLo_len h.2]
  | [], _ :: _, h => h.elim
  | _ :: _, [], h => h.elim
theorem okLo_mem : ∀ {l : List Ext} {x : List Int}, okLo l x → ∀ a ∈ x, ∃ m ∈ l, 0 ≤ a ∧ a < m.locs
  | [], [], _, a, h => by simp at h
  | m :: r, y :: x, h, a, ha => by
    rcases List.mem_cons.1 ha with rfl | ha
    · exact ⟨m, by simp, h.1⟩
    · obtain ⟨n, hn, h1⟩ := okLo_mem h.2 a ha
      exact ⟨n, by simp [hn], h1⟩
  | [], _ :: _, h, _, _ => h.elim
  | _ :: _, [], h, _, _ => h.elim
def okP : List Ext → List (Option (Option Nat)) → Prop
  | [], [] => True
  | m :: r, p :: ps => (∀ k, p = some (some k) → k < m.moves.length) ∧ okP r ps
  | _, _ => False
/-- The moves, without what was found before. -/
def pickQ (o : Org) (ev : Int) : List Ext → Nat → Except Int (List (Option (Option Nat)))
  | [], _ => .ok []
  | m :: r, i => if ev ∉ m.alpha then (match pickQ o ev r (i + 1) with
      | .error e => .error e
      | .ok q => .ok (none :: q)) else
    match selK m (o.locs.getD i 0) ev o.vals with
    | .error e => .error e
    | .ok k => match pickQ o ev r (i + 1) with
      | .error e => .error e
      | .ok q => .ok (some k :: q)
theorem pickO_Q {o : Org} {ev : Int} : ∀ (l : List Ext) (i : Nat) (ps : List (Option (Option Nat))), pickO o ev l i ps = match pickQ o ev l i with
    | .error e => .error e
    | .ok q => .ok (ps ++ q)
  | [], i, ps => by simp [pickO, pickQ]
  | m :: r, i, ps => by
    simp only [pickO, pickQ]
    split
    · rw [pickO_Q r]
      cases pickQ o ev r (i + 1) <;> simp
    · cases selK m (o.locs.getD i 0) ev o.vals with
      | error e => rfl
      | ok k =>
        simp only
        rw [pickO_Q r]
        cases pickQ o ev r (i + 1) <;> simp
theorem pickQ_ok {o : Org} {ev : Int} : ∀ {l : List Ext} {i : Nat} {q : List (Option (Option Nat))}, pickQ o ev l i = .ok q → okP l q
  | [], i, q, h => by simp only [pickQ, Except.ok.injEq] at h; subst h; trivial
  | m :: r, i, q, h => by
    simp only [pickQ] at h
    split at h
    · cases hq : pickQ o ev r (i + 1) with
      | error e => rw [hq] at h; cases h
      | ok q' =>
        rw [hq] at h
        simp only [Except.ok.injEq] at h
        subst h
        exact ⟨fun k hk => (by cases hk), pickQ_ok hq⟩
    · cases hk : selK m (o.locs.getD i 0) ev o.vals with
      | error e => rw [hk] at h; cases h
      | ok k =>
        rw [hk] at h
        simp only at h
        cases hq : pickQ o ev r (i + 1) with
        | error e => rw [hq] at h; cases h
        | ok q' =>
          rw [hq] at h
          simp only [Except.ok.injEq] at h
          subst h
          refine ⟨fun j hj => ?_, pickQ_ok hq⟩
          simp only [Option.some.injEq] at hj
          subst hj
          exact selK_lt hk
theorem canO_cons (p : Option (Option Nat)) (ps : List (Option (Option Nat))) : canO (p :: ps) = (decide (p ≠ some none) && canO ps) := by
  unfold canO
  rw [List.contains_cons]
  cases p with
  | none => simp
  | some k => cases k <;> simp
theorem okLo_locs : ∀ {l : List Ext} {x : List Int} {q : List (Option (Option Nat))}, (∀ m ∈ l, extRight m) → okLo l x → okP l q → canO q = true → okLo l (locsO l x q)
  | [], [], [], _, _, _, _ => by simp [locsO, okLo]
  | m :: r, y :: x, p :: q, hr, hl, hp, hc => by
    rw [canO_cons, Bool.and_eq_true, decide_eq_true_eq] at hc
    have ih := okLo_locs (fun n hn => hr n (by simp [hn])) hl.2 hp.2 hc.2
    match p, hc.1, hp.1 with
    | none, _, _ => exact ⟨hl.1, ih⟩
    | some none, h, _ => exact absurd rfl h
    | some (some k), _, h =>
      have hk := h k rfl
      have hm := (chk_mv (hr m (by simp))) _ (List.getElem_mem hk)
      have e : mvAt m.moves (some k) = m.moves[k] := by simp [mvAt, List.getD_eq_getElem?_getD, List.getElem?_eq_getElem hk]
      simp only [locsO, okLo, e]
      exact ⟨hm.to, ih⟩
  | [], _ :: _, _, _, h, _, _ => h.elim
  | _ :: _, [], _, _, h, _, _ => h.elim
  | [], [], _ :: _, _, _, h, _ => h.elim
  | _ :: _, _ :: _, [], _, _, h, _ => h.elim
where
  chk_mv {m : Ext} (h : extRight m) : ∀ x ∈ m.moves, mvRight m x := h.mv
theorem within_eqLen {l : List Vr} {v : List Int} (h : within l v = true) : l.length = v.length := by
  apply Classical.byContradiction
  intro hc
  rw [within_len l v hc] at h
  cases h
theorem asgU_within {vars : List Vr} {vals : List Int} : ∀ {us : List Upd} {acc G a G' : List Int}, within vars acc = true → asgU vars vals us acc G = .ok (a, G') → within vars a = true
  | [], acc, G, a, G', h, e => by
    simp only [asgU, Except.ok.injEq, Prod.mk.injEq] at e
    rw [← e.1]; exact h
  | u :: r, acc, G, a, G', h, e => by
    simp only [asgU] at e
    split at e
    · cases e
    rename_i h1
    split at e
    · cases e
    refine asgU_within ?_ e
    cases hv : vars[u.v.toNat]? with
    | none =>
      have hlen := within_eqLen h
      rw [List.getElem?_eq_none_iff] at hv
      rw [List.set_eq_of_length_le (by omega)]
      exact h
    | some v =>
      obtain ⟨hk, rfl⟩ := List.getElem?_eq_some_iff.1 hv
      rw [hv] at h1
      simp only [Option.any_some, Bool.or_eq_true, decide_eq_true_eq, not_or] at h1
      exact within_set h hk (by omega)
theorem asgM_within {vars : List Vr} {vals : List Int} : ∀ {ms : List Mv} {acc G a G' : List Int}, within vars acc = true → asgM vars vals ms acc G = .ok (a, G') → within vars a = true
  | [], acc, G, a, G', h, e => by
    simp only [asgM, Except.ok.injEq, Prod.mk.injEq] at e
    rw [← e.1]; exact h
  | x :: r, acc, G, a, G', h, e => by
    simp only [asgM] at e
    cases hu : asgU vars vals x.us acc G with
    | error e' => rw [hu] at e; cases e
    | ok p =>
      rw [hu] at e
      exact asgM_within (asgU_within h hu) e
abbrev vars0 (l : List Ext) : List Vr := (l.getD 0 ⟨[], 0, 0, [], [], []⟩).vars
/-- A right origin. -/
structure okO (l : List Ext) (o : Org) : Prop where
  locs : okLo l o.locs
  vals : within (vars0 l) o.vals = true
theorem stepO_ok {l : List Ext} (hr : ∀ m ∈ l, extRight m) {o : Org} {ev : Int} (h : okO l o) (hp : (stepO l o ev).2.1 = true) : okO l (stepO l o ev).1 := by
  unfold stepO at hp ⊢
  rw [pickO_Q] at hp ⊢
  cases hq : pickQ o ev l 0 with
  | error e => rw [hq] at hp; cases hp
  | ok q =>
    rw [hq] at hp
    simp only [List.nil_append] at hp ⊢
    by_cases hc : canO q = false
    · rw [if_pos hc] at hp; cases hp
    rw [if_neg hc] at hp ⊢
    cases ha : asgM (l.getD 0 ⟨[], 0, 0, [], [], []⟩).vars o.vals (mvsO l q) o.vals [] with
    | error e => rw [ha] at hp; cases hp
    | ok p =>
      obtain ⟨a, G⟩ := p
      exact ⟨okLo_locs hr h.locs (pickQ_ok hq) (by simpa using hc), asgM_within h.vals ha⟩
def markO : List Ext → List Int → Bool
  | m :: r, x :: xs => decide (x ∈ m.marked) && markO r xs
  | _, _ => true
abbrev keyO (o : Org) : ByteArray := fkeyB [o.locs, o.vals]
abbrev keqO (a b : Org) : Bool := keyO a == keyO b
def startO (l : List Ext) : Org := ⟨l.map (·.init), (vars0 l).map (·.init)⟩
def chkAllE : List Ext → Int
  | [] => 0
  | m :: r => if chk m ≠ 0 then chk m else chkAllE r
theorem chkAllE_ok : ∀ {l : List Ext}, chkAllE l = 0 → ∀ m ∈ l, chk m = 0
  | [], _, m, hm => by simp at hm
  | n :: r, h, m, hm => by
    simp only [chkAllE] at h
    by_cases h1 : chk n ≠ 0
    · rw [if_pos h1] at h; exact absurd h h1
    rw [if_neg h1] at h
    rcases List.mem_cons.1 hm with rfl | hm
    · simpa using h1
    · exact chkAllE_ok h m hm
/-- What an unfolded list of automata is. -/
structure jntOk (l : List Ext) : Prop where
  pos : l ≠ []
  len : l.length ≤ 12
  ok : ∀ m ∈ l, extOk m
  right : ∀ m ∈ l, extRight m
  same : ∀ m ∈ l, m.vars = vars0 l
theorem init_ok : ∀ {l : List Ext}, (∀ m ∈ l, extRight m) → okLo l (l.map (·.init))
  | [], _ => trivial
  | m :: r, h => ⟨(h m (by simp)).init, init_ok fun n hn => h n (by simp [hn])⟩
theorem startO_ok {l : List Ext} (h : jntOk l) : okO l (startO l) := by
  refine ⟨init_ok h.right, ?_⟩
  match l, h with
  | [], h => exact absurd rfl h.pos
  | m :: r, h => exact (start_ok (h.right m (by simp))).2
theorem okO_key {l : List Ext} (hj : jntOk l) {o : Org} (h : okO l o) : ∀ x ∈ [o.locs, o.vals], x.length ≤ 4096 ∧ ∀ v ∈ x, i64B v := by
  intro x hx
  simp only [List.mem_cons, List.mem_nil_iff, or_false] at hx
  rcases hx with rfl | rfl
  · have := okLo_len h.locs
    have := hj.len
    refine ⟨by omega, fun v hv => ?_⟩
    obtain ⟨m, hm, h1⟩ := okLo_mem h.locs v hv
    have h2 := (hj.right m hm).locs
    exact ⟨by omega, by omega⟩
  · match l, hj with
    | [], hj => exact absurd rfl hj.pos
    | m :: r, hj =>
      have hm := hj.right m (by simp)
      have hb := okS_bounds (s := ⟨m.init, o.vals⟩) hm ⟨hm.init, h.vals⟩
      exact ⟨by have h3 : o.vals.length ≤ 16 := hb.2.2.1; omega, hb.2.1⟩
end Go.AI


/- Pairs of sketched automata: right joint lists, few origins, keys that tell. -/
namespace Go.AI
set_option maxRecDepth 20000
/-- The automaton without the event 0. -/
def keptM (m : Ext) : Ext := ⟨[1, 2], m.locs, m.init, m.marked, m.vars, m.moves.filter fun x => decide (x.ev ≠ 0)⟩
def pairL (a b : Sk) (n : Int) : List Ext :=
  if n % 3 = 2 then [makeR a] else if n % 3 = 1 then [makeR a, keptM (makeR ⟨b.locs, b.marks, a.rngs, b.lines⟩)] else [makeR a, makeR ⟨b.locs, b.marks, a.rngs, b.lines⟩]
theorem mvErr_ofA {m : Ext} {p : Option Mv} {x : Mv} (hx : mvGood m.locs m.vars.length x) (he : x.ev ∈ m.alpha) (hp : ∀ y, p = some y → leMv y x) : mvErr m p x = 0 := by
  have h1 := hx.frm
  have h2 := hx.to
  unfold mvErr
  rw [if_neg (by omega), if_neg, if_neg, hx.g]
  · simp only [ne_eq, not_true_eq_false, if_false]
    rcases hx.us with e | ⟨u, e, h4, h5, h6, _⟩
    · rw [e]; rfl
    · rw [e]
      simp only [updErr]
      rw [if_neg (by omega), if_neg (by simp), h6]
      simp
  · cases p with
    | none => simp
    | some y =>
      have := hp y rfl
      unfold leMv at this
      simpa using this
  · exact not_not_intro he
theorem mvsErr_ofA {m : Ext} : ∀ {l : List Mv} {p : Option Mv}, (∀ x ∈ l, mvGood m.locs m.vars.length x ∧ x.ev ∈ m.alpha) → l.Pairwise leMv → (∀ y, p = some y → ∀ x ∈ l, leMv y x) → mvsErr m p l = 0
  | [], _, _, _, _ => rfl
  | x :: r, p, hx, hs, hp => by
    rw [List.pairwise_cons] at hs
    simp only [mvsErr]
    rw [mvErr_ofA (hx x (by simp)).1 (hx x (by simp)).2 fun y e => hp y e x (by simp)]
    simp only [ne_eq, not_true_eq_false, if_false]
    refine mvsErr_ofA (fun y hy => hx y (by simp [hy])) hs.2 fun y e z hz => ?_
    simp only [Option.some.injEq] at e
    subst e
    exact hs.1 z hz
theorem kept_chk {m : Ext} (h : made m) : chk (keptM m) = 0 := by
  have h1 := h.lo
  have h2 := h.ml
  have h3 : (m.moves.filter fun x => decide (x.ev ≠ 0)).length ≤ m.moves.length := List.length_filter_le _ _
  have hm : mvsErr (keptM m) none (keptM m).moves = 0 := by
    refine mvsErr_ofA (fun x hx => ?_) (h.sorted.filter _) (by simp)
    have hx := List.mem_filter.1 hx
    have hg := h.mv x hx.1
    refine ⟨hg, ?_⟩
    have := hg.ev
    have h0 : x.ev ≠ 0 := by simpa using hx.2
    show x.ev ∈ [1, 2]
    simp only [List.mem_cons, List.mem_nil_iff, or_false]
    omega
  unfold chk
  rw [hm]
  show (if checkSet 32 [1, 2] none ≠ 0 then _ else if m.locs < 1 ∨ m.locs > 64 ∨ m.init < 0 ∨ m.init ≥ m.locs then _ else if checkSet m.locs m.marked none ≠ 0 then _ else if varsErr m.vars ≠ 0 then _ else if (m.moves.filter _).length > 256 then _ else _) = _
  rw [h.ini, h.ma, h.ve]
  rw [if_neg (by decide), if_neg (by omega), if_neg (by decide), if_neg (by decide), if_neg (by omega)]
theorem kept_ok {m : Ext} (h : made m) : extOk (keptM m) := by
  have hk := made_ok h
  have h3 : (m.moves.filter fun x => decide (x.ev ≠ 0)).length ≤ m.moves.length := List.length_filter_le _ _
  refine ⟨by simp [keptM, max63], hk.ma, hk.va, hk.na, ?_, fun x hx => hk.mv x (List.mem_filter.1 hx).1⟩
  have := hk.mo
  show (m.moves.filter _).length ≤ max63
  omega
/-- What is known of the lists of a pair. -/
structure jMade (l : List Ext) : Prop where
  jn : jntOk l
  len : l.length = 1 ∨ l.length = 2
  lo : ∀ m ∈ l, m.locs ≤ 4
  vl : (vars0 l).length ≤ 2
  v : ∀ v ∈ vars0 l, vrOk v
  ev : ∀ m ∈ l, ∀ vals, within (vars0 l) vals = true → ∀ x ∈ m.moves, (evalX x.g vals).2 = 0 ∨ (evalX x.g vals).2 = 17
  chk : ∀ m ∈ l, chk m = 0
  al : ∀ m ∈ l, m.alpha = [0, 1, 2] ∨ m.alpha = [1, 2]
  al0 : (l.getD 0 ⟨[], 0, 0, [], [], []⟩).alpha = [0, 1, 2]
  mo : ∀ m ∈ l, m.moves.length ≤ 8
theorem makes_vars {a b : Sk} : (makeR ⟨b.locs, b.marks, a.rngs, b.lines⟩).vars = (makeR a).vars := rfl
theorem pair_sk {a b : Sk} (ha : skOk a) (hb : skOk b) : skOk ⟨b.locs, b.marks, a.rngs, b.lines⟩ := { hb with r := ha.r, rl := ha.rl }
theorem eval_made {m : Ext} (hm : made m) {vals : List Int} (h : within m.vars vals = true) : ∀ x ∈ m.moves, (evalX x.g vals).2 = 0 ∨ (evalX x.g vals).2 = 17 :=
  fun x hx => eval_err hm ⟨(within_eqLen h).symm, h⟩ (hm.mv x hx).g
theorem pair_made {a b : Sk} (ha : skOk a) (hb : skOk b) (n : Int) : jMade (pairL a b n) := by
  have h1 := make_made ha
  have h2 := make_made (pair_sk ha hb)
  have hv : (makeR ⟨b.locs, b.marks, a.rngs, b.lines⟩).vars = (makeR a).vars := makes_vars
  have c1 := made_chk h1
  have c2 := made_chk h2
  have c3 := kept_chk h2
  have o3 := kept_ok h2
  have e1 := @eval_made _ h1
  have e2 := @eval_made _ h2
  rw [hv] at e2
  have h3 : ((makeR ⟨b.locs, b.marks, a.rngs, b.lines⟩).moves.filter fun x => decide (x.ev ≠ 0)).length ≤ _ := List.length_filter_le _ _
  unfold pairL
  generalize makeR ⟨b.locs, b.marks, a.rngs, b.lines⟩ = m2 at *
  generalize makeR a = m1 at *
  have mk : ∀ l : List Ext, l ≠ [] → (l.length = 1 ∨ l.length = 2) → (vars0 l = m1.vars) → (l.getD 0 ⟨[], 0, 0, [], [], []⟩).alpha = [0, 1, 2] → (∀ m ∈ l, m = m1 ∨ m = m2 ∨ m = keptM m2) → jMade l := by
    intro l hp hl hv0 ha0 hm
    have chkA : ∀ m ∈ l, chk m = 0 := fun m h => by rcases hm m h with rfl | rfl | rfl <;> assumption
    refine ⟨⟨hp, by omega, fun m h => ?_, fun m h => chk_right (chkA m h), fun m h => ?_⟩, hl, fun m h => ?_, by rw [hv0]; exact h1.vl, by rw [hv0]; exact h1.v, fun m h => ?_, chkA, fun m h => ?_, ha0, fun m h => ?_⟩
    · rcases hm m h with rfl | rfl | rfl
      · exact made_ok h1
      · exact made_ok h2
      · exact o3
    · rw [hv0]
      rcases hm m h with rfl | rfl | rfl
      · rfl
      · exact hv
      · exact hv
    · rcases hm m h with rfl | rfl | rfl
      · exact h1.lo.2
      · exact h2.lo.2
      · exact h2.lo.2
    · rw [hv0]
      rcases hm m h with rfl | rfl | rfl
      · exact fun vals => e1
      · exact fun vals => e2
      · exact fun vals hw x hx => e2 hw x (List.mem_filter.1 hx).1
    · rcases hm m h with rfl | rfl | rfl
      · exact .inl h1.al
      · exact .inl h2.al
      · exact .inr rfl
    · rcases hm m h with rfl | rfl | rfl
      · exact h1.ml
      · exact h2.ml
      · have := h2.ml
        show (m2.moves.filter _).length ≤ 8
        omega
  split
  · exact mk _ (by simp) (.inl rfl) rfl h1.al (by simp)
  split
  · exact mk _ (by simp) (.inr rfl) rfl h1.al (by simp)
  · exact mk _ (by simp) (.inr rfl) rfl h1.al (by simp)
end Go.AI


/- The choice of a move, and assignments of several moves: flatten.chosen, flatten.assigned. -/
namespace Go.AI
open Go.Proofs
set_option maxRecDepth 20000
abbrev mvC (x : Mv) : List D := [ii x.frm, ii x.ev, ii x.to, ii x.g.op, ii x.g.vl, ii x.g.ix, exs x.g.args, upds x.us]
abbrev mvZ : List D := [ii 0, ii 0, ii 0, ii 0, ii 0, ii 0, .i (.v (.slice none 0 0)), .i (.v (.slice none 0 0))]
abbrev mvF (x : Mv) : D := .agg (mvC x)
def mvK (l : List Mv) : Option Nat → List D
  | none => mvZ
  | some k => mvC (l.getD k zeroMv)
def chosR (m : Ext) (loc ev : Int) (vals : List Int) : Mv × Bool × Int := match scanMv loc ev vals m.moves 0 0 none with
  | (some e, _, k) => (mvAt m.moves k, false, e)
  | (none, c, k) => if c > 1 then (zeroMv, false, 18) else (mvAt m.moves k, decide (c = 1), 0)
theorem coMvZ {b : Bool} {e : Int} : CoD (.tup [.agg mvZ, bb b, ii e]) (.tup [mvF zeroMv, bb b, ii e]) := by
  show CoD (.tup [.agg [ii 0, ii 0, ii 0, ii 0, ii 0, ii 0, .i (.v (.slice none 0 0)), .i (.v (.slice none 0 0))], bb b, ii e]) (.tup [.agg [ii 0, ii 0, ii 0, ii 0, ii 0, ii 0, .i (.sl 4 0 []), .i (.sl 5 0 [])], bb b, ii e])
  repeat' (first | refine coD_tup ?_ | refine coD_agg ?_ | refine coD_i ?_ | refine CoDL.cons ?_ ?_ | exact CoDL.nil | exact coI_nil | refine coI_sl ?_ | refine CoLL.cons ?_ ?_ | exact CoLL.nil | refine CoL.cons ?_ ?_ | exact CoL.nil | exact CoI.refl _ | exact CoL.refl _ | exact CoLL.refl _ | exact CoDL.refl _ | exact CoD.refl _)
set_option maxHeartbeats 4000000 in
theorem chosen78 (O : List Heap) (m : Ext) (loc ev : Int) (vals : List Int) (hok : extOk m) (hl : vals.length ≤ max63) : ASpec Tryz.prog 78 [extD m, ii loc, ii ev, ints vals] O (.tup [mvF (chosR m loc ev vals).1, bb (chosR m loc ev vals).2.1, ii (chosR m loc ev vals).2.2]) [] O := by
  have hmo := hok.mo
  unfold chosR
  have hR : scanMv loc ev vals m.moves 0 0 none = scanMv loc ev vals (m.moves.drop 0) 0 0 none := rfl
  generalize scanMv loc ev vals m.moves 0 0 none = R at *
  refine aspec_intro Tk Tryz.func78 rfl Tryz.call78 Tryz.ntmps78 (Nat.le_of_ble_eq_true rfl) fun E => ?_
  refine g_run Tk Tryz.func78 ?_
  refine g_loop ?_
  refine rch_loop2 (fun x : Nat × Nat × Option Nat => [(1, ii loc), (2, ii ev), (3, ints vals), (4, .own 0 4 0 0), (8, .own 0 8 0 0), (11, ii x.2.1), (17, mvs m.moves), (18, ii m.moves.length), (19, ii x.1)]) (fun x => [(8, .box (mvK m.moves x.2.2)), (4, .box (extC m))]) (fun _ => O) 56
    (fun x => x.1 ≤ m.moves.length ∧ x.2.1 ≤ x.1 ∧ R = scanMv loc ev vals (m.moves.drop x.1) x.1 x.2.1 x.2.2) (fun x => m.moves.length - x.1) (0, 0, none) ⟨Nat.zero_le _, Nat.le_refl _, hR⟩ ⟨rfl, rfl, rfl, rfl, rfl, rfl, rfl, rfl, rfl, trivial⟩ rfl ⟨rfl, rfl, trivial⟩ rfl rfl ?_
  clear hR
  rintro ⟨i, c, k⟩ ⟨hi, hc, hno⟩ ih
  simp only at hi hc hno
  refine g_run Tk Tryz.func78 ?_
  first | refine g_cnd Tk Tryz.func78 rfl (fun g1 => ?_) (fun g1 => ?_) | refine g_know Tk Tryz.func78 rfl (fun g1 => ?_) (fun g1 => ?_) | refine s_know Tk (fun g1 => ?_) (fun g1 => ?_)
  · have h1 : i < m.moves.length := by simpa using g1
    clear g1
    have hd : m.moves.drop i = m.moves[i] :: m.moves.drop (i + 1) := List.drop_eq_getElem_cons h1
    have hg : (m.moves.map mvI)[(i : Int).toNat]? = some (mvI m.moves[i]) := get_mapZ h1
    have hx := (hok.mv _ (List.getElem_mem h1)).1
    have hgd : m.moves.getD i zeroMv = m.moves[i] := by rw [List.getD_eq_getElem?_getD, List.getElem?_eq_getElem h1]; rfl
    generalize m.moves[i] = x at *
    obtain ⟨xf, xe, xt, xg, xu⟩ := x
    simp only at hx
    rw [hd] at hno
    simp only [scanMv] at hno
    have hev := fun O => evaluate51A O xg vals hx hl
    generalize evalX xg vals = V at *
    obtain ⟨y, e⟩ := V
    simp only at hno hev
    have hi1 : ii (IntKind.i64.wrap ((i : Int) + 1)) = ii ((i + 1 : Nat) : Int) := congrArg ii (wsucc h1 hmo)
    clear hd
    first | refine g_need Tk Tryz.func78 (by exact ⟨by omega, by show (i : Int) < (m.moves.length : Int); omega⟩) ?_ | refine s_need Tk (by exact ⟨by omega, by show (i : Int) < (m.moves.length : Int); omega⟩) ?_
    first | refine g_elem Tk Tryz.func78 (hg) ?_ | refine s_elem Tk (hg) ?_
    first | refine g_cnd Tk Tryz.func78 rfl (fun h2 => ?_) (fun h2 => ?_) | refine g_know Tk Tryz.func78 rfl (fun h2 => ?_) (fun h2 => ?_) | refine s_know Tk (fun h2 => ?_) (fun h2 => ?_)
    · have h2 : xf ≠ loc := bneT h2
      rw [if_pos (.inl h2)] at hno
      repeat (first | refine g_cnd Tk Tryz.func78 rfl (fun _ => ?_) (fun h => absurd h (by decide)) | refine g_know Tk Tryz.func78 rfl (fun _ => ?_) (fun h => absurd h (by decide)) | refine s_know Tk (fun _ => ?_) (fun h => absurd h (by decide)) | refine g_cnd Tk Tryz.func78 rfl (fun h => absurd h (by decide)) (fun _ => ?_) | refine g_know Tk Tryz.func78 rfl (fun h => absurd h (by decide)) (fun _ => ?_) | refine s_know Tk (fun h => absurd h (by decide)) (fun _ => ?_) | refine g_cnd Tk Tryz.func78 rfl (fun _ => ?_) (fun h => absurd (show true = false from h) (by decide)) | refine g_know Tk Tryz.func78 rfl (fun _ => ?_) (fun h => absurd (show true = false from h) (by decide)) | refine s_know Tk (fun _ => ?_) (fun h => absurd (show true = false from h) (by decide)) | refine g_cnd Tk Tryz.func78 rfl (fun h => absurd (show false = true from h) (by decide)) (fun _ => ?_) | refine g_know Tk Tryz.func78 rfl (fun h => absurd (show false = true from h) (by decide)) (fun _ => ?_) | refine s_know Tk (fun h => absurd (show false = true from h) (by decide)) (fun _ => ?_))
      refine g_loop ?_
      exact ih (i + 1, c, k) _ _ ⟨h1, by simp only; omega, hno⟩ (by simp only; omega) ⟨rfl, rfl, rfl, rfl, rfl, rfl, rfl, rfl, hi1, trivial⟩ rfl ⟨rfl, rfl, trivial⟩ (by cases k <;> rfl) rfl
    have h2 : xf = loc := bneF h2
    first | refine g_cnd Tk Tryz.func78 rfl (fun h3 => ?_) (fun h3 => ?_) | refine g_know Tk Tryz.func78 rfl (fun h3 => ?_) (fun h3 => ?_) | refine s_know Tk (fun h3 => ?_) (fun h3 => ?_)
    · have h3 : xe ≠ ev := bneT h3
      rw [if_pos (.inr h3)] at hno
      refine g_loop ?_
      exact ih (i + 1, c, k) _ _ ⟨h1, by simp only; omega, hno⟩ (by simp only; omega) ⟨rfl, rfl, rfl, rfl, rfl, rfl, rfl, rfl, hi1, trivial⟩ rfl ⟨rfl, rfl, trivial⟩ (by cases k <;> rfl) rfl
    have h3 : xe = ev := bneF h3
    rw [if_neg (by simp [h2, h3])] at hno
    first | refine g_call Tk Tryz.func78 (hev _) rfl rfl rfl rfl rfl ?_ | refine s_callq Tk (fun _ => hev _) rfl rfl rfl ?_
    first | refine g_cnd Tk Tryz.func78 rfl (fun h4 => ?_) (fun h4 => ?_) | refine g_know Tk Tryz.func78 rfl (fun h4 => ?_) (fun h4 => ?_) | refine s_know Tk (fun h4 => ?_) (fun h4 => ?_)
    · have h4 : e ≠ 0 := bneT h4
      rw [if_pos h4] at hno
      subst hno
      cases k with
      | none =>
        refine g_ret_co Tk (r := .tup [.agg mvZ, bb false, ii e]) rfl rfl rfl trivial rfl rfl ?_
        exact coMvZ
      | some k =>
        refine g_ret Tk (r := .tup [mvF (mvAt m.moves (some k)), bb false, ii e]) rfl rfl rfl trivial rfl rfl ?_
        rfl
    have h4 : e = 0 := bneF h4
    rw [if_neg (by simpa using h4)] at hno
    first | refine g_cnd Tk Tryz.func78 rfl (fun h5 => ?_) (fun h5 => ?_) | refine g_know Tk Tryz.func78 rfl (fun h5 => ?_) (fun h5 => ?_) | refine s_know Tk (fun h5 => ?_) (fun h5 => ?_)
    · have h5 : y = 1 := beqT h5
      rw [if_pos h5] at hno
      cases k with
      | none =>
        refine g_loop ?_
        refine ih (i + 1, c + 1, some i) _ _ ⟨h1, by simp only; omega, hno⟩ (by simp only; omega) ⟨rfl, rfl, rfl, rfl, rfl, congrArg ii (wsucc (n := max63) (i := c) (by omega) (Nat.le_refl _)), rfl, rfl, hi1, trivial⟩ rfl ⟨?_, rfl, trivial⟩ rfl rfl
        exact congrArg (fun y => some (Ob.box (mvC y))) hgd.symm
      | some k =>
        refine g_loop ?_
        refine ih (i + 1, c + 1, some i) _ _ ⟨h1, by simp only; omega, hno⟩ (by simp only; omega) ⟨rfl, rfl, rfl, rfl, rfl, congrArg ii (wsucc (n := max63) (i := c) (by omega) (Nat.le_refl _)), rfl, rfl, hi1, trivial⟩ rfl ⟨?_, rfl, trivial⟩ rfl rfl
        exact congrArg (fun y => some (Ob.box (mvC y))) hgd.symm
    · have h5 : y ≠ 1 := beqF h5
      rw [if_neg h5] at hno
      refine g_loop ?_
      exact ih (i + 1, c, k) _ _ ⟨h1, by simp only; omega, hno⟩ (by simp only; omega) ⟨rfl, rfl, rfl, rfl, rfl, rfl, rfl, rfl, hi1, trivial⟩ rfl ⟨rfl, rfl, trivial⟩ (by cases k <;> rfl) rfl
  · have h1 : m.moves.length ≤ i := by simpa using g1
    clear g1
    rw [List.drop_eq_nil_of_le h1] at hno
    simp only [scanMv] at hno
    subst hno
    have hb : ((c : Int) == 1) = decide (c = 1) := by
      rw [Bool.eq_iff_iff]
      simp
      omega
    cases k with
    | none =>
      first | refine g_cnd Tk Tryz.func78 rfl (fun h2 => ?_) (fun h2 => ?_) | refine g_know Tk Tryz.func78 rfl (fun h2 => ?_) (fun h2 => ?_) | refine s_know Tk (fun h2 => ?_) (fun h2 => ?_)
      · have h2 : c > 1 := by have : (c : Int) > 1 := of_decide_eq_true h2; omega
        simp only [if_pos h2]
        refine g_ret_co Tk (r := .tup [.agg mvZ, bb false, ii 18]) rfl rfl rfl trivial rfl rfl ?_
        exact coMvZ
      · have h2 : ¬ c > 1 := by have : ¬ (c : Int) > 1 := of_decide_eq_false h2; omega
        simp only [if_neg h2]
        rw [← hb]
        refine g_ret_co Tk (r := .tup [.agg mvZ, bb ((c : Int) == 1), ii 0]) rfl rfl rfl trivial rfl rfl ?_
        exact coMvZ
    | some k =>
      first | refine g_cnd Tk Tryz.func78 rfl (fun h2 => ?_) (fun h2 => ?_) | refine g_know Tk Tryz.func78 rfl (fun h2 => ?_) (fun h2 => ?_) | refine s_know Tk (fun h2 => ?_) (fun h2 => ?_)
      · have h2 : c > 1 := by have : (c : Int) > 1 := of_decide_eq_true h2; omega
        simp only [if_pos h2]
        refine g_ret_co Tk (r := .tup [.agg mvZ, bb false, ii 18]) rfl rfl rfl trivial rfl rfl ?_
        exact coMvZ
      · have h2 : ¬ c > 1 := by have : ¬ (c : Int) > 1 := of_decide_eq_false h2; omega
        simp only [if_neg h2]
        rw [← hb]
        refine g_ret Tk (r := .tup [mvF (mvAt m.moves (some k)), bb ((c : Int) == 1), ii 0]) rfl rfl rfl trivial rfl rfl ?_
        rfl
abbrev gmap (G : List Int) : List (Value × Bool) := G.map fun g => (.int .i64 g, true)
theorem gm_look (v : Int) : ∀ G : List Int, mlook (gmap G) (.int .i64 v) = if v ∈ G then some true else none
  | [] => by simp [mlook]
  | g :: r => by
    simp only [gmap, List.map_cons, mlook, keyB, List.mem_cons]
    have ih : mlook (r.map fun g => ((.int .i64 g : Value), true)) (.int .i64 v) = _ := gm_look v r
    rw [ih]
    by_cases h : v = g
    · subst h; simp
    · have : (v == g) = false := by simpa using h
      rw [this]; simp [h]
theorem gm_get (G : List Int) (v : Int) : mgetB (gmap G) (.int .i64 v) = decide (v ∈ G) := by
  unfold mgetB
  rw [gm_look]
  by_cases h : v ∈ G <;> simp [h]
theorem gm_set (v : Int) : ∀ G : List Int, mset (gmap G) (.int .i64 v) true = gmap (if v ∈ G then G else G ++ [v])
  | [] => by simp [mset]
  | g :: r => by
    simp only [gmap, List.map_cons, mset, keyB, List.mem_cons]
    have ih : mset (r.map fun g => ((.int .i64 g : Value), true)) (.int .i64 v) true = _ := gm_set v r
    rw [ih]
    by_cases h : v = g
    · subst h; simp
    · have : (v == g) = false := by simpa using h
      rw [this]
      by_cases hr : v ∈ r <;> simp [h, hr]
theorem coNoL {e : Int} : CoD (.tup [.i (.v (.slice none 0 0)), ii e]) (.tup [ints [], ii e]) := coD_tup (.cons (coD_i coI_nil) (CoDL.refl _))
def asgD : Except Int (List Int × List Int) → D
  | .error e => .tup [ints [], ii e]
  | .ok (a, _) => .tup [ints a, ii 0]
set_option maxHeartbeats 4000000 in
theorem assigned79 (O : List Heap) (vars : List Vr) (ms : List Mv) (vals : List Int) (hl : vals.length = vars.length) (hl16 : vars.length ≤ 16) (hm : ms.length ≤ max63)
    (hus : ∀ x ∈ ms, x.us.length ≤ max63 ∧ ∀ u ∈ x.us, exOk u.x ∧ 0 ≤ u.v ∧ u.v < vars.length) : ASpec Tryz.prog 79 [vrs vars, mvs ms, ints vals] O (asgD (asgM vars vals ms vals [])) [] O := by
  have hR0 : asgM vars vals ms vals [] = asgM vars vals (ms.drop 0) vals [] := rfl
  generalize asgM vars vals ms vals [] = R at *
  refine aspec_stop [14] Tk Tryz.func79 rfl Tryz.call79 Tryz.ntmps79 (Nat.le_of_ble_eq_true rfl) fun E => ?_
  refine g_run Tk Tryz.func79 ?_
  first | refine g_call Tk Tryz.func79 (clone57 90 _ vals (by simp only [big]; omega)) rfl rfl rfl rfl rfl ?_ | refine s_callq Tk (fun _ => clone57 90 _ vals (by simp only [big]; omega)) rfl rfl rfl ?_
  refine g_loop ?_
  refine rch_loop2 (fun x : Nat × List Int × List Int => [(0, vrs vars), (2, ints vals), (8, .osl 0 90), (9, .osl 0 18), (19, mvs ms), (20, ii ms.length), (21, ii x.1)]) (fun x => [(90, oints x.2.1), (18, .mp (.int .i64) (.b (gmap x.2.2)))]) (fun _ => O) 85
    (fun x => x.1 ≤ ms.length ∧ x.2.1.length = vars.length ∧ R = asgM vars vals (ms.drop x.1) x.2.1 x.2.2) (fun x => ms.length - x.1) (0, vals, []) ⟨Nat.zero_le _, hl, hR0⟩ ⟨rfl, rfl, rfl, rfl, rfl, rfl, rfl, trivial⟩ rfl ⟨rfl, rfl, trivial⟩ rfl rfl ?_
  clear hR0
  rintro ⟨j, out, G⟩ ⟨hj, ho, hno⟩ ih
  simp only at hj ho hno
  refine g_run Tk Tryz.func79 ?_
  first | refine g_cnd Tk Tryz.func79 rfl (fun g1 => ?_) (fun g1 => ?_) | refine g_know Tk Tryz.func79 rfl (fun g1 => ?_) (fun g1 => ?_) | refine s_know Tk (fun g1 => ?_) (fun g1 => ?_)
  rotate_left
  · have h1 : ms.length ≤ j := by simpa using g1
    rw [List.drop_eq_nil_of_le h1] at hno
    simp only [asgM] at hno
    subst hno
    refine g_rwk (wk_freeze 90 rfl rfl) ?_
    refine g_ret Tk (r := .tup [ints out, ii 0]) rfl rfl rfl trivial rfl rfl ?_
    rfl
  have h1 : j < ms.length := by simpa using g1
  clear g1
  have gx : (ms.map mvI)[(j : Int).toNat]? = some (mvI ms[j]) := get_mapZ h1
  have dx : ms.drop j = ms[j] :: ms.drop (j + 1) := List.drop_eq_getElem_cons h1
  have hux := hus _ (List.getElem_mem h1)
  rw [dx] at hno
  simp only [asgM] at hno
  clear dx
  generalize ms[j] = x at *
  obtain ⟨xf, xe, xt, xg, us⟩ := x
  simp only at hux hno
  obtain ⟨hul, hux⟩ := hux
  have hj1 : ii (IntKind.i64.wrap ((j : Int) + 1)) = ii ((j + 1 : Nat) : Int) := congrArg ii (wsucc h1 hm)
  first | refine g_need Tk Tryz.func79 (by exact ⟨by omega, by show (j : Int) < (ms.length : Int); omega⟩) ?_ | refine s_need Tk (by exact ⟨by omega, by show (j : Int) < (ms.length : Int); omega⟩) ?_
  first | refine g_elem Tk Tryz.func79 (gx) ?_ | refine s_elem Tk (gx) ?_
  have hV0 : asgU vars vals us out G = asgU vars vals (us.drop 0) out G := rfl
  generalize asgU vars vals us out G = V at *
  refine g_loop ?_
  refine rch_loop2 (fun x : Nat × List Int × List Int => [(0, vrs vars), (2, ints vals), (8, .osl 0 90), (9, .osl 0 18), (19, mvs ms), (20, ii ms.length), (21, ii j), (26, upds us), (27, ii us.length), (28, ii x.1)]) (fun x => [(90, oints x.2.1), (18, .mp (.int .i64) (.b (gmap x.2.2)))]) (fun _ => O) 85
    (fun x => x.1 ≤ us.length ∧ x.2.1.length = vars.length ∧ V = asgU vars vals (us.drop x.1) x.2.1 x.2.2) (fun x => us.length - x.1) (0, out, G) ⟨Nat.zero_le _, ho, hV0⟩ ⟨rfl, rfl, rfl, rfl, rfl, rfl, rfl, rfl, rfl, rfl, trivial⟩ rfl ⟨rfl, rfl, trivial⟩ rfl rfl ?_
  clear hV0 ho
  rintro ⟨i, out, G⟩ ⟨hi, hc, hV⟩ ih2
  simp only at hi hc hV
  refine g_run Tk Tryz.func79 ?_
  first | refine g_cnd Tk Tryz.func79 rfl (fun g2 => ?_) (fun g2 => ?_) | refine g_know Tk Tryz.func79 rfl (fun g2 => ?_) (fun g2 => ?_) | refine s_know Tk (fun g2 => ?_) (fun g2 => ?_)
  rotate_left
  · have h2 : us.length ≤ i := by simpa using g2
    rw [List.drop_eq_nil_of_le h2] at hV
    simp only [asgU] at hV
    subst hV
    simp only at hno
    refine g_loop ?_
    exact ih (j + 1, out, G) _ _ ⟨h1, hc, hno⟩ (by simp only; omega) ⟨rfl, rfl, rfl, rfl, rfl, rfl, hj1, trivial⟩ rfl ⟨rfl, rfl, trivial⟩ rfl rfl
  have h2 : i < us.length := by simpa using g2
  clear g2
  have gu : (us.map updI)[(i : Int).toNat]? = some (updI us[i]) := get_mapZ h2
  have du : us.drop i = us[i] :: us.drop (i + 1) := List.drop_eq_getElem_cons h2
  have hux := hux _ (List.getElem_mem h2)
  rw [du] at hV
  simp only [asgU] at hV
  clear du
  generalize us[i] = u at *
  have hev := fun O => evaluate51A O u.x vals hux.1 (by simp only [max63]; omega)
  generalize evalX u.x vals = W at *
  obtain ⟨uv, ux⟩ := u
  obtain ⟨xo, xv, xi, xa⟩ := ux
  obtain ⟨y, e⟩ := W
  simp only at hV hev hux
  obtain ⟨k, rfl⟩ := Int.eq_ofNat_of_zero_le hux.2.1
  have hk : k < vars.length := by omega
  have gv : (vars.map vrI)[(k : Int).toNat]? = some (vrI vars[k]) := get_mapZ hk
  have lk : vars[(k : Int).toNat]? = some vars[k] := by rw [Int.toNat_natCast]; exact List.getElem?_eq_getElem hk
  have gy : (out.map fun x => [vi x])[(k : Int).toNat]? = some [vi (out.getD k 0)] := by
    rw [get_mapZ (f := fun x => [vi x]) (show k < out.length by omega), List.getD_eq_getElem?_getD, List.getElem?_eq_getElem (show k < out.length by omega)]
    rfl
  rw [lk] at hV
  simp only [Option.any_some, Int.toNat_natCast] at hV
  clear lk
  generalize vars[k] = a at *
  obtain ⟨an, al, ah, aj⟩ := a
  simp only at hV
  have n1 : 0 ≤ (i : Int) ∧ (i : Int) < (us.length : Int) := by omega
  have n2 : 0 ≤ (k : Int) ∧ (k : Int) < (vars.length : Int) := by omega
  have n3 : 0 ≤ (k : Int) ∧ (k : Int) < (out.length : Int) := by omega
  have hi1 : ii (IntKind.i64.wrap ((i : Int) + 1)) = ii ((i + 1 : Nat) : Int) := congrArg ii (wsucc h2 hul)
  have hset := gm_set (k : Int) G
  have hget := gm_get G (k : Int)
  first | refine g_need Tk Tryz.func79 (n1) ?_ | refine s_need Tk (n1) ?_
  first | refine g_elem Tk Tryz.func79 (gu) ?_ | refine s_elem Tk (gu) ?_
  first | refine g_call Tk Tryz.func79 (hev _) rfl rfl rfl rfl rfl ?_ | refine s_callq Tk (fun _ => hev _) rfl rfl rfl ?_
  first | refine g_cnd Tk Tryz.func79 rfl (fun g2 => ?_) (fun g2 => ?_) | refine g_know Tk Tryz.func79 rfl (fun g2 => ?_) (fun g2 => ?_) | refine s_know Tk (fun g2 => ?_) (fun g2 => ?_)
  · have g2 := bneT g2
    rw [if_pos (.inl g2)] at hV
    subst hV
    simp only at hno
    subst hno
    repeat (first | refine g_cnd Tk Tryz.func79 rfl (fun _ => ?_) (fun h => absurd h (by decide)) | refine g_know Tk Tryz.func79 rfl (fun _ => ?_) (fun h => absurd h (by decide)) | refine s_know Tk (fun _ => ?_) (fun h => absurd h (by decide)) | refine g_cnd Tk Tryz.func79 rfl (fun h => absurd h (by decide)) (fun _ => ?_) | refine g_know Tk Tryz.func79 rfl (fun h => absurd h (by decide)) (fun _ => ?_) | refine s_know Tk (fun h => absurd h (by decide)) (fun _ => ?_) | refine g_cnd Tk Tryz.func79 rfl (fun _ => ?_) (fun h => absurd (show true = false from h) (by decide)) | refine g_know Tk Tryz.func79 rfl (fun _ => ?_) (fun h => absurd (show true = false from h) (by decide)) | refine s_know Tk (fun _ => ?_) (fun h => absurd (show true = false from h) (by decide)) | refine g_cnd Tk Tryz.func79 rfl (fun h => absurd (show false = true from h) (by decide)) (fun _ => ?_) | refine g_know Tk Tryz.func79 rfl (fun h => absurd (show false = true from h) (by decide)) (fun _ => ?_) | refine s_know Tk (fun h => absurd (show false = true from h) (by decide)) (fun _ => ?_))
    refine g_ret_co Tk (r := .tup [.i (.v (.slice none 0 0)), ii 17]) rfl rfl rfl trivial rfl rfl ?_
    exact coNoL
  have g2 := bneF g2
  first | refine g_need Tk Tryz.func79 (n2) ?_ | refine s_need Tk (n2) ?_
  first | refine g_elem Tk Tryz.func79 (gv) ?_ | refine s_elem Tk (gv) ?_
  first | refine g_cnd Tk Tryz.func79 rfl (fun g3 => ?_) (fun g3 => ?_) | refine g_know Tk Tryz.func79 rfl (fun g3 => ?_) (fun g3 => ?_) | refine s_know Tk (fun g3 => ?_) (fun g3 => ?_)
  · have g3 : y < al := of_decide_eq_true g3
    rw [if_pos (by simp [g3])] at hV
    subst hV
    simp only at hno
    subst hno
    repeat (first | refine g_cnd Tk Tryz.func79 rfl (fun _ => ?_) (fun h => absurd h (by decide)) | refine g_know Tk Tryz.func79 rfl (fun _ => ?_) (fun h => absurd h (by decide)) | refine s_know Tk (fun _ => ?_) (fun h => absurd h (by decide)) | refine g_cnd Tk Tryz.func79 rfl (fun h => absurd h (by decide)) (fun _ => ?_) | refine g_know Tk Tryz.func79 rfl (fun h => absurd h (by decide)) (fun _ => ?_) | refine s_know Tk (fun h => absurd h (by decide)) (fun _ => ?_) | refine g_cnd Tk Tryz.func79 rfl (fun _ => ?_) (fun h => absurd (show true = false from h) (by decide)) | refine g_know Tk Tryz.func79 rfl (fun _ => ?_) (fun h => absurd (show true = false from h) (by decide)) | refine s_know Tk (fun _ => ?_) (fun h => absurd (show true = false from h) (by decide)) | refine g_cnd Tk Tryz.func79 rfl (fun h => absurd (show false = true from h) (by decide)) (fun _ => ?_) | refine g_know Tk Tryz.func79 rfl (fun h => absurd (show false = true from h) (by decide)) (fun _ => ?_) | refine s_know Tk (fun h => absurd (show false = true from h) (by decide)) (fun _ => ?_))
    refine g_ret_co Tk (r := .tup [.i (.v (.slice none 0 0)), ii 17]) rfl rfl rfl trivial rfl rfl ?_
    exact coNoL
  have g3 : ¬ y < al := of_decide_eq_false g3
  first | refine g_need Tk Tryz.func79 (n2) ?_ | refine s_need Tk (n2) ?_
  first | refine g_elem Tk Tryz.func79 (gv) ?_ | refine s_elem Tk (gv) ?_
  first | refine g_cnd Tk Tryz.func79 rfl (fun g4 => ?_) (fun g4 => ?_) | refine g_know Tk Tryz.func79 rfl (fun g4 => ?_) (fun g4 => ?_) | refine s_know Tk (fun g4 => ?_) (fun g4 => ?_)
  · have g4 : y > ah := of_decide_eq_true g4
    rw [if_pos (by simp [g4])] at hV
    subst hV
    simp only at hno
    subst hno
    refine g_ret_co Tk (r := .tup [.i (.v (.slice none 0 0)), ii 17]) rfl rfl rfl trivial rfl rfl ?_
    exact coNoL
  have g4 : ¬ y > ah := of_decide_eq_false g4
  rw [if_neg (by simp [g2]; omega)] at hV
  apply join_p (P := ¬ ((k : Int) ∈ G ∧ out.getD k 0 ≠ y)) (s6 := { σ := [(0, vrs vars), (2, ints vals), (8, .osl 0 90), (9, .osl 0 18), (14, ii y), (13, .own 0 13 0 0), (19, mvs ms), (20, ii ms.length), (21, ii j), (26, upds us), (27, ii us.length), (28, ii i)], S := [(13, .box [ii k, ii xo, ii xv, ii xi, exs xa]), (90, oints out), (18, .mp (.int .i64) (.b (gmap G)))] :: O, n := 85 })
  · intro J
    first | refine g_cnd Tk Tryz.func79 rfl (fun g5 => ?_) (fun g5 => ?_) | refine g_know Tk Tryz.func79 rfl (fun g5 => ?_) (fun g5 => ?_) | refine s_know Tk (fun g5 => ?_) (fun g5 => ?_)
    · have g5 : (k : Int) ∈ G := of_decide_eq_true (hget.symm.trans g5)
      first | refine g_need Tk Tryz.func79 (n3) ?_ | refine s_need Tk (n3) ?_
      first | refine g_elem Tk Tryz.func79 (gy) ?_ | refine s_elem Tk (gy) ?_
      first | refine g_cnd Tk Tryz.func79 rfl (fun g6 => ?_) (fun g6 => ?_) | refine g_know Tk Tryz.func79 rfl (fun g6 => ?_) (fun g6 => ?_) | refine s_know Tk (fun g6 => ?_) (fun g6 => ?_)
      · have g6 : out.getD k 0 ≠ y := bneT g6
        rw [if_pos ⟨g5, g6⟩] at hV
        subst hV
        simp only at hno
        subst hno
        refine g_ret_co Tk (r := .tup [.i (.v (.slice none 0 0)), ii 13]) rfl rfl rfl trivial rfl rfl ?_
        exact coNoL
      have g6 : out.getD k 0 = y := bneF g6
      refine g_stop ?_
      refine rch_meet (J (fun h => h.2 g6)) ⟨rfl, rfl, rfl, rfl, rfl, rfl, rfl, rfl, rfl, rfl, rfl, rfl, trivial⟩ rfl ⟨rfl, rfl, rfl, trivial⟩ rfl rfl
    · have g5 : (k : Int) ∉ G := of_decide_eq_false (hget.symm.trans g5)
      repeat (first | refine g_cnd Tk Tryz.func79 rfl (fun _ => ?_) (fun h => absurd h (by decide)) | refine g_know Tk Tryz.func79 rfl (fun _ => ?_) (fun h => absurd h (by decide)) | refine s_know Tk (fun _ => ?_) (fun h => absurd h (by decide)) | refine g_cnd Tk Tryz.func79 rfl (fun h => absurd h (by decide)) (fun _ => ?_) | refine g_know Tk Tryz.func79 rfl (fun h => absurd h (by decide)) (fun _ => ?_) | refine s_know Tk (fun h => absurd h (by decide)) (fun _ => ?_) | refine g_cnd Tk Tryz.func79 rfl (fun _ => ?_) (fun h => absurd (show true = false from h) (by decide)) | refine g_know Tk Tryz.func79 rfl (fun _ => ?_) (fun h => absurd (show true = false from h) (by decide)) | refine s_know Tk (fun _ => ?_) (fun h => absurd (show true = false from h) (by decide)) | refine g_cnd Tk Tryz.func79 rfl (fun h => absurd (show false = true from h) (by decide)) (fun _ => ?_) | refine g_know Tk Tryz.func79 rfl (fun h => absurd (show false = true from h) (by decide)) (fun _ => ?_) | refine s_know Tk (fun h => absurd (show false = true from h) (by decide)) (fun _ => ?_))
      refine g_stop ?_
      refine rch_meet (J (fun h => g5 h.1)) ⟨rfl, rfl, rfl, rfl, rfl, rfl, rfl, rfl, rfl, rfl, rfl, rfl, trivial⟩ rfl ⟨rfl, rfl, rfl, trivial⟩ rfl rfl
  intro hP
  rw [if_neg hP] at hV
  refine g_run Tk Tryz.func79 ?_
  refine g_go Tk Tryz.func79 ?_
  refine g_drawn Tk Tryz.func79 mixedT rfl ?_
  first | refine g_need Tk Tryz.func79 (n3) ?_ | refine s_need Tk (n3) ?_
  refine s_put Tk rfl rfl rfl ?_
  refine e_tail Tk Tryz.func79 ([9]) (by kernel_rfl) (by kernel_rfl) ?_
  refine g_loop ?_
  refine ih2 (i + 1, out.set k y, if (k : Int) ∈ G then G else G ++ [(k : Int)]) _ _ ⟨h2, by simpa using hc, hV⟩ (by simp only; omega) ⟨rfl, rfl, rfl, rfl, rfl, rfl, rfl, rfl, rfl, hi1, trivial⟩ rfl ⟨?_, congrArg (fun x => some (Ob.mp (.int .i64) (.b x))) hset, trivial⟩ rfl rfl
  show some (Ob.arr 3 1 out.length ((out.map fun x => [vi x]).set k [vi y]) true) = some (oints (out.set k y))
  simp [List.map_set]
end Go.AI
