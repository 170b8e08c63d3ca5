/- The layer of abstract runs, part 49. -/
import Derived.Test.YtmhllkmceipdcaaGreatDoorYewZV
import Derived.Test.YtmhllkmceipdcaaGreatDoorTie
import Derived.Test.YtmhllkmceipdcaaGreatDoorCards
import Derived.ProofKit
import Derived.LaidMore
import Derived.OpenShut
import Derived.Lay
import Derived.SevenTiedAt
import Derived.Stop.Joined
import Derived.Stop.LaidErr
import Derived.Lib.LaidTab
import Derived.WideKeyArgs
import Derived.Lib.SmallJoins
import Derived.Deep.Slices
set_option linter.unusedSimpArgs false
set_option linter.unusedVariables false
set_option linter.all false

namespace Go.AI
open Go.Proofs
set_option maxRecDepth 20000
theorem kept46o (O : List Heap) (a : Aut) (on un : List Int) (R : List (List Edg)) (hal : a.alpha.length ≤ 1000000) (hl : on.length ≤ max63) : ASpec Tryz.prog 46 [.i (vptr a on un R)] O (.osl 0 63) [(63, oints (keptR a on))] O := by
  have e : keptR a on = a.alpha.filter fun x => !(!decide (x ∈ on)) := by simp [keptR]
  rw [e]
  refine aspec_stop [200010] Tk Tryz.func46 rfl Tryz.call46 Tryz.ntmps46 (Nat.le_of_ble_eq_true rfl) fun E => ?_
  refine g_run Tk Tryz.func46 ?_
  first | refine g_elem Tk Tryz.func46 (rfl) ?_ | refine s_elem Tk (rfl) ?_
  first | refine g_call Tk Tryz.func46 (clone57 63 _ a.alpha (by simp only [big]; omega)) rfl rfl rfl rfl rfl ?_ | refine s_callq Tk (fun _ => clone57 63 _ a.alpha (by simp only [big]; omega)) rfl rfl rfl ?_
  refine g_callP Tk Tryz.func46 rfl rfl rfl rfl (does_delF (R := [(1, .box [.i (vptr a on un R)])]) (B := .box [.i (vptr a on un R)]) rfl (fun x => !decide (x ∈ on)) hal (by decide) rfl rfl (fun x _ d O ho => kept87 O x d 1 a on un R hl ho) rfl (show 10 < 11 by decide) rfl) ?_
  exact ⟨m_ret' (hT := Tk) (r := .osl 0 63) rfl rfl rfl ⟨⟨_, rfl, rfl⟩, trivial⟩ (ret_osl _ _ _) rfl rfl⟩
def ext1 (a : Aut) (un : List Int) (n : Nat) : List Int → List Int → List Int → Int ⊕ (List Int × List Int)
  | [], set, ad => .inr (set, ad)
  | x :: r, set, ad => if (hldR a un n set).2 ≠ 0 then .inl (hldR a un n set).2 else if (hldR a un n set).1 = true then .inr (set, ad) else if x ∈ set then ext1 a un n r set ad else ext1 a un n r (sortI (set ++ [x])) (ad ++ [x])
def ext2 (a : Aut) (un : List Int) (n : Nat) : List Int → List Int → Int ⊕ List Int
  | [], set => .inr set
  | x :: r, set => if (hldR a un n (set.filter fun y => !(y == x))).2 ≠ 0 then .inl (hldR a un n (set.filter fun y => !(y == x))).2 else ext2 a un n r (if (hldR a un n (set.filter fun y => !(y == x))).1 = true then set.filter fun y => !(y == x) else set)
def exF2 : Int ⊕ List Int → List Int × Int
  | .inl e => ([], e)
  | .inr l => (l, 0)
def exF1 (a : Aut) (un : List Int) (n : Nat) : Int ⊕ (List Int × List Int) → List Int × Int
  | .inl e => ([], e)
  | .inr x => exF2 (ext2 a un n x.2 x.1)
def extR (a : Aut) (on un : List Int) (n : Nat) : List Int × Int := exF1 a un n (ext1 a un n a.alpha (keptR a on) [])
set_option maxHeartbeats 4000000 in
theorem extend14 {g : Nat} (hg : IsTab g) {ty : TypeId} {fr : Nat × Nat} (O : List Heap) (a : Aut) (on un : List Int) (n : Nat) (hst : a.states = n) (hn : n ≤ 5) (h : smallA a) (hon : on.length ≤ max63) (hun : un.length ≤ max63) (he : opE a on un = 0) (hA : a.alpha.length ≤ 500000) :
    ASpecT g (ptab ty fr) Tryz.prog 14 [autD a, ints on, ints un] O (.tup [ints (extR a on un n).1, ii (extR a on un n).2]) [] O := by
  have h1 := fun O => opened42v O a on un n hst (by omega) h hon hun he
  have hk := fun O => kept46o O a on un (outOf n a.edges) h.al hon
  have hkl : (keptR a on).length ≤ 500000 := by
    have := List.length_filter_le (fun x => decide (x ∈ on)) a.alpha
    have := h.al
    unfold keptR
    omega
  have hH := fun O set hs => holds43 hg (ty := ty) (fr := fr) O a set un n hst hn h hs hun
  have hal := h.al
  unfold extR
  generalize keptR a on = kp at *
  generalize hK : exF1 a un n (ext1 a un n a.alpha kp []) = KK
  unfold vptr at h1 hk
  generalize [[intsI a.alpha, vi a.states, intsI a.marked, .sl 3 a.edges.length (a.edges.map edgI), intsI on, intsI un, rowsI (outOf n a.edges)]] = VP at *
  refine aspecT_stop [200032, 200045, 200054, 17, 19, 200076, 23] Tk Tryz.func14 rfl Tryz.call14 Tryz.ntmps14 (Nat.le_of_ble_eq_true rfl) fun E hE => ?_
  refine g_run Tk Tryz.func14 ?_
  first | refine g_call Tk Tryz.func14 (h1 _) rfl rfl rfl rfl rfl ?_ | refine s_callq Tk (fun _ => h1 _) rfl rfl rfl ?_
  first | refine gcF Tk Tryz.func14 rfl ?_ | refine gkF Tk Tryz.func14 rfl ?_ | refine skF Tk ?_
  refine g_wkpause (wk_frzbox 3 [intsI a.alpha, vi a.states, intsI a.marked, .sl 3 a.edges.length (a.edges.map edgI)] rfl rfl) ?_
  refine g_pause Tk Tryz.func14 rfl rfl (wk_frzbox 5 [intsI un] rfl rfl) ?_
  first | refine g_call Tk Tryz.func14 (hk _) rfl rfl rfl rfl rfl ?_ | refine s_callq Tk (fun _ => hk _) rfl rfl rfl ?_
  first | refine g_elem Tk Tryz.func14 (rfl) ?_ | refine s_elem Tk (rfl) ?_
  refine g_loop ?_
  refine rch_wk (wk_nil 12 59 3 1 rfl rfl rfl) ?_
  apply join_q (α := List Int × List Int) (P := fun y => exF2 (ext2 a un n y.2 y.1) = KK ∧ y.1.length ≤ 1000000 ∧ y.2.length ≤ 1000000) (s6 := fun y => { σ := [(10, .fn (.func 43) [] [.i (autI a), .i (lstI un)]), (11, ints y.1), (12, ints y.2)], S := [] :: O, n := 90 })
  · intro J
    refine rch_loop2 (fun x : Nat × List Int × List Int => [(10, .fn (.func 43) [] [.i (autI a), .i (lstI un)]), (11, .osl 0 63), (12, .osl 0 59), (36, ints a.alpha), (37, ii a.alpha.length), (38, ii x.1)])
      (fun x => [(63, oints x.2.1), (59, oints x.2.2)]) (fun _ => O) 90
      (fun x => x.1 ≤ a.alpha.length ∧ x.2.1.length ≤ 500000 + x.1 ∧ x.2.2.length ≤ x.1 ∧ exF1 a un n (ext1 a un n (a.alpha.drop x.1) x.2.1 x.2.2) = KK) (fun x => a.alpha.length - x.1) (0, kp, [])
      ⟨Nat.zero_le _, by simp only; omega, Nat.le_refl _, by simpa using hK⟩ ⟨rfl, rfl, rfl, rfl, rfl, rfl, trivial⟩ rfl ⟨rfl, rfl, trivial⟩ rfl rfl ?_
    rintro ⟨k, set, ad⟩ ⟨hk1, hsl, hadl, hno⟩ ih
    simp only at hk1 hsl hadl hno
    have hj1 : ii (IntKind.i64.wrap ((k : Int) + 1)) = ii ((k + 1 : Nat) : Int) := congrArg ii (wsucc (n := 1000001) (by omega) (by decide))
    refine g_run Tk Tryz.func14 ?_
    first | refine g_cnd Tk Tryz.func14 rfl (fun g1 => ?_) (fun g1 => ?_) | refine g_know Tk Tryz.func14 rfl (fun g1 => ?_) (fun g1 => ?_) | refine s_know Tk (fun g1 => ?_) (fun g1 => ?_)
    · have g1 : k < a.alpha.length := by simpa using g1
      have gx : (a.alpha.map fun x => [vi x])[(k : Int).toNat]? = some [vi a.alpha[k]] := get_mapZ (f := fun x => [vi x]) g1
      rw [List.drop_eq_getElem_cons g1] at hno
      simp only [ext1] at hno
      have hh := hH [] set (by simp only [max63]; omega)
      generalize a.alpha[k] = x at *
      generalize hldR a un n set = hr at *
      obtain ⟨hb, he1⟩ := hr
      simp only at hno
      first | refine g_need Tk Tryz.func14 (by exact ⟨by omega, by show (k : Int) < (a.alpha.length : Int); omega⟩) ?_ | refine s_need Tk (by exact ⟨by omega, by show (k : Int) < (a.alpha.length : Int); omega⟩) ?_
      first | refine g_elem Tk Tryz.func14 (gx) ?_ | refine s_elem Tk (gx) ?_
      refine g_callP Tk Tryz.func14 rfl rfl rfl rfl (does_forget hE hh (shut_2 _ _) (.osl (.i (.i .nil))) rfl (show 45 < 90 by decide) rfl rfl rfl) ?_
      first | refine g_cnd Tk Tryz.func14 rfl (fun c1 => ?_) (fun c1 => ?_) | refine g_know Tk Tryz.func14 rfl (fun c1 => ?_) (fun c1 => ?_) | refine s_know Tk (fun c1 => ?_) (fun c1 => ?_)
      · have c1 : he1 ≠ 0 := bneT c1
        rw [if_pos c1] at hno
        have hno : (([], he1) : List Int × Int) = KK := hno
        subst hno
        refine g_ret_co Tk (r := .tup [.i (.v (.slice none 0 0)), ii he1]) rfl rfl rfl trivial rfl rfl ?_
        repeat' (first | refine coD_tup ?_ | refine coD_agg ?_ | refine coD_i ?_ | refine CoDL.cons ?_ ?_ | exact CoDL.nil | exact coI_nil | refine coI_sl ?_ | refine CoLL.cons ?_ ?_ | exact CoLL.nil | refine CoL.cons ?_ ?_ | exact CoL.nil | exact CoI.refl _ | exact CoL.refl _ | exact CoLL.refl _ | exact CoDL.refl _ | exact CoD.refl _)
      have c1 : he1 = 0 := bneF c1
      rw [if_neg (fun h => h c1)] at hno
      first | refine g_cnd Tk Tryz.func14 rfl (fun c2 => ?_) (fun c2 => ?_) | refine g_know Tk Tryz.func14 rfl (fun c2 => ?_) (fun c2 => ?_) | refine s_know Tk (fun c2 => ?_) (fun c2 => ?_)
      · have c2 : hb = true := c2
        rw [if_pos c2] at hno
        refine g_stop ?_
        refine rch_wk (wk_freeze 63 rfl rfl) ?_
        refine rch_wk (wk_freeze 59 rfl rfl) ?_
        refine rch_meet (J (set, ad) ⟨hno, by simp only; omega, by simp only; omega⟩) ⟨rfl, rfl, rfl, trivial⟩ rfl trivial rfl rfl
      have c2 : hb = false := c2
      rw [if_neg (by rw [c2]; decide)] at hno
      refine g_callP Tk Tryz.func14 rfl rfl rfl rfl (does_forget hE (contains110 [] set x (by simp only [max63]; omega)).tab (shut_v _) (.osl (.i .nil)) rfl (show 54 < 90 by decide) rfl rfl rfl) ?_
      first | refine g_cnd Tk Tryz.func14 rfl (fun c3 => ?_) (fun c3 => ?_) | refine g_know Tk Tryz.func14 rfl (fun c3 => ?_) (fun c3 => ?_) | refine s_know Tk (fun c3 => ?_) (fun c3 => ?_)
      · have c3 : x ∉ set := of_decide_eq_false (notT c3)
        rw [if_neg c3] at hno
        first | refine g_need Tk Tryz.func14 (by exact ⟨by show (ad.length + 1) * 8 ≤ 140737488355328; omega, by show ad.length + 1 ≤ 9223372036854775807; omega⟩) ?_ | refine s_need Tk (by exact ⟨by show (ad.length + 1) * 8 ≤ 140737488355328; omega, by show ad.length + 1 ≤ 9223372036854775807; omega⟩) ?_
        first | refine g_need Tk Tryz.func14 (by exact ⟨by show (set.length + 1) * 8 ≤ 140737488355328; omega, by show set.length + 1 ≤ 9223372036854775807; omega⟩) ?_ | refine s_need Tk (by exact ⟨by show (set.length + 1) * 8 ≤ 140737488355328; omega, by show set.length + 1 ≤ 9223372036854775807; omega⟩) ?_
        refine g_stop ?_
        refine rch_wk (wk_cut (l := [(10, .fn (.func 43) [] [.i (autI a), .i (lstI un)]), (11, .osl 0 63), (12, .osl 0 59), (36, ints a.alpha), (37, ii a.alpha.length), (38, ii k)])
          (Hv := [(63, oints (set ++ [x])), (59, oints (ad ++ [x]))]) ⟨rfl, rfl, rfl, rfl, rfl, rfl, trivial⟩ rfl ⟨congrArg some (oints_app set x), congrArg some (oints_app ad x), trivial⟩ rfl rfl) ?_
        have hpos : 0 < (set ++ [x]).length := by simp
        have hml : (set ++ [x]).length ≤ 2000001 := by rw [List.length_append, List.length_singleton]; omega
        have hal2 : (ad ++ [x]).length ≤ k + 1 := by rw [List.length_append, List.length_singleton]; omega
        have hml2 : (set ++ [x]).length ≤ 500000 + (k + 1) := by rw [List.length_append, List.length_singleton]; omega
        generalize set ++ [x] = m at *
        generalize ad ++ [x] = ad2 at *
        refine g_run Tk Tryz.func14 ?_
        refine g_go Tk Tryz.func14 ?_
        refine g_call Tk Tryz.func14 (sort48 _ 0 63 m hpos (by omega) rfl) rfl rfl rfl (shape_over (ob := oints m) rfl (by simp [Ob.sh, sortI_len])) rfl ?_
        refine g_loop ?_
        exact ih (k + 1, sortI m, ad2) _ _ ⟨g1, by simp only [sortI_len]; exact hml2, hal2, hno⟩ (by simp only; omega) ⟨rfl, rfl, rfl, rfl, rfl, hj1, trivial⟩ rfl ⟨rfl, rfl, trivial⟩ rfl rfl
      · have c3 : x ∈ set := of_decide_eq_true (notF c3)
        rw [if_pos c3] at hno
        refine g_loop ?_
        exact ih (k + 1, set, ad) _ _ ⟨g1, by simp only; omega, by simp only; omega, hno⟩ (by simp only; omega) ⟨rfl, rfl, rfl, rfl, rfl, hj1, trivial⟩ rfl ⟨rfl, rfl, trivial⟩ rfl rfl
    · have g1 : a.alpha.length ≤ k := by simpa using g1
      rw [List.drop_of_length_le g1] at hno
      refine g_stop ?_
      refine rch_wk (wk_freeze 63 rfl rfl) ?_
      refine rch_wk (wk_freeze 59 rfl rfl) ?_
      refine rch_meet (J (set, ad) ⟨hno, by simp only; omega, by simp only; omega⟩) ⟨rfl, rfl, rfl, trivial⟩ rfl trivial rfl rfl
  rintro ⟨set, ad⟩ ⟨hno, hsl, hadl⟩
  simp only at hno hsl hadl
  refine g_run Tk Tryz.func14 ?_
  refine g_go Tk Tryz.func14 ?_
  refine g_loop ?_
  refine rch_loop2 (fun x : Nat × List Int => [(10, .fn (.func 43) [] [.i (autI a), .i (lstI un)]), (11, ints x.2), (67, ints ad), (68, ii ad.length), (69, ii x.1)])
    (fun x => []) (fun _ => O) 90
    (fun x => x.1 ≤ ad.length ∧ x.2.length ≤ 1000000 ∧ exF2 (ext2 a un n (ad.drop x.1) x.2) = KK) (fun x => ad.length - x.1) (0, set)
    ⟨Nat.zero_le _, hsl, by simpa using hno⟩ ⟨rfl, rfl, rfl, rfl, rfl, trivial⟩ rfl trivial rfl rfl ?_
  clear hno hsl
  rintro ⟨k, set⟩ ⟨hk1, hsl, hno⟩ ih
  simp only at hk1 hsl hno
  have hj1 : ii (IntKind.i64.wrap ((k : Int) + 1)) = ii ((k + 1 : Nat) : Int) := congrArg ii (wsucc (n := 1000001) (by omega) (by decide))
  refine g_run Tk Tryz.func14 ?_
  first | refine g_cnd Tk Tryz.func14 rfl (fun g1 => ?_) (fun g1 => ?_) | refine g_know Tk Tryz.func14 rfl (fun g1 => ?_) (fun g1 => ?_) | refine s_know Tk (fun g1 => ?_) (fun g1 => ?_)
  · have g1 : k < ad.length := by simpa using g1
    have gx : (ad.map fun x => [vi x])[(k : Int).toNat]? = some [vi ad[k]] := get_mapZ (f := fun x => [vi x]) g1
    rw [List.drop_eq_getElem_cons g1] at hno
    simp only [ext2] at hno
    generalize ad[k] = x at *
    first | refine g_need Tk Tryz.func14 (by exact ⟨by omega, by show (k : Int) < (ad.length : Int); omega⟩) ?_ | refine s_need Tk (by exact ⟨by omega, by show (k : Int) < (ad.length : Int); omega⟩) ?_
    first | refine g_elem Tk Tryz.func14 (gx) ?_ | refine s_elem Tk (gx) ?_
    first | refine g_call Tk Tryz.func14 (clone57 74 _ set (by simp only [big]; omega)) rfl rfl rfl rfl rfl ?_ | refine s_callq Tk (fun _ => clone57 74 _ set (by simp only [big]; omega)) rfl rfl rfl ?_
    refine g_callP Tk Tryz.func14 rfl rfl rfl rfl (does_delF (R := [(18, .box [ii x]), (18, .box [ii 0])]) (B := .box [ii x]) (l := set) rfl (fun y => y == x) hsl (by decide) rfl rfl (fun y _ d O ho => del51 O y x d 18 ho) rfl (show 76 < 90 by decide) rfl) ?_
    have hll : (set.filter fun y => !(y == x)).length ≤ 1000000 := Nat.le_trans (List.length_filter_le _ _) hsl
    have hh := fun O => hH O (set.filter fun y => !(y == x)) (by simp only [max63]; omega)
    generalize (set.filter fun y => !(y == x)) = ls at *
    generalize hldR a un n ls = hr at *
    obtain ⟨hb, he1⟩ := hr
    simp only at hno
    refine g_stop ?_
    refine rch_wk (wk_freeze 74 rfl rfl) ?_
    refine g_run Tk Tryz.func14 ?_
    refine g_go Tk Tryz.func14 ?_
    refine g_callT Tk Tryz.func14 hE (hh _) rfl rfl rfl rfl rfl rfl ?_
    first | refine g_cnd Tk Tryz.func14 rfl (fun c1 => ?_) (fun c1 => ?_) | refine g_know Tk Tryz.func14 rfl (fun c1 => ?_) (fun c1 => ?_) | refine s_know Tk (fun c1 => ?_) (fun c1 => ?_)
    · have c1 : he1 ≠ 0 := bneT c1
      rw [if_pos c1] at hno
      have hno : (([], he1) : List Int × Int) = KK := hno
      subst hno
      refine g_ret_co Tk (r := .tup [.i (.v (.slice none 0 0)), ii he1]) rfl rfl rfl trivial rfl rfl ?_
      repeat' (first | refine coD_tup ?_ | refine coD_agg ?_ | refine coD_i ?_ | refine CoDL.cons ?_ ?_ | exact CoDL.nil | exact coI_nil | refine coI_sl ?_ | refine CoLL.cons ?_ ?_ | exact CoLL.nil | refine CoL.cons ?_ ?_ | exact CoL.nil | exact CoI.refl _ | exact CoL.refl _ | exact CoLL.refl _ | exact CoDL.refl _ | exact CoD.refl _)
    have c1 : he1 = 0 := bneF c1
    rw [if_neg (fun h => h c1)] at hno
    first | refine g_cnd Tk Tryz.func14 rfl (fun c2 => ?_) (fun c2 => ?_) | refine g_know Tk Tryz.func14 rfl (fun c2 => ?_) (fun c2 => ?_) | refine s_know Tk (fun c2 => ?_) (fun c2 => ?_)
    · have c2 : hb = true := c2
      rw [if_pos c2] at hno
      refine g_loop ?_
      exact ih (k + 1, ls) _ _ ⟨g1, hll, hno⟩ (by simp only; omega) ⟨rfl, rfl, rfl, rfl, hj1, trivial⟩ rfl trivial rfl rfl
    · have c2 : hb = false := c2
      rw [if_neg (by rw [c2]; decide)] at hno
      refine g_loop ?_
      exact ih (k + 1, set) _ _ ⟨g1, hsl, hno⟩ (by simp only; omega) ⟨rfl, rfl, rfl, rfl, hj1, trivial⟩ rfl trivial rfl rfl
  · have g1 : ad.length ≤ k := by simpa using g1
    rw [List.drop_of_length_le g1] at hno
    have hno : ((set, 0) : List Int × Int) = KK := hno
    subst hno
    refine g_ret Tk (r := .tup [ints set, ii 0]) rfl rfl rfl trivial rfl rfl ?_
    rfl
end Go.AI


namespace Go.AI
open Go.Proofs
set_option maxRecDepth 100000
def forkA : Aut := { alpha := [0, 1, 2, 3], states := 4, marked := [3], edges := [(0, 0, 1), (0, 1, 2), (1, 2, 3), (2, 3, 3)] }
theorem fork_small : smallA forkA := ⟨by decide, by decide, by decide⟩
theorem fork_obs : obsO forkA [2, 3] [] 4 (obsR forkA [2, 3] [] 4) = ([0], [3], false) := by kernel_rfl
theorem fork_cs : csO forkA [2, 3] [2] 4 (csR forkA [2, 3] [2] 4) = ([], 2, false) := by kernel_rfl
theorem fork_op : opE forkA [2, 3] [] = 0 := by kernel_rfl
theorem fork_op2 : opE forkA [2, 3] [2] = 0 := by kernel_rfl
theorem fork_h1 : hldR forkA [] 4 [2, 3] = (false, 0) := by kernel_rfl
theorem fork_h2 : hldR forkA [] 4 [0, 2, 3] = (false, 0) := by kernel_rfl
theorem fork_h3 : hldR forkA [] 4 [0, 1, 2, 3] = (true, 0) := by kernel_rfl
theorem fork_h4 : hldR forkA [] 4 [1, 2, 3] = (false, 0) := by kernel_rfl
theorem fork_kp : keptR forkA [2, 3] = [2, 3] := by kernel_rfl
theorem fork_s1 : sortI [2, 3, 0] = [0, 2, 3] := by simp [sortI, List.mergeSort, List.MergeSort.Internal.splitInTwo]
theorem fork_s2 : sortI [0, 2, 3, 1] = [0, 1, 2, 3] := by simp [sortI, List.mergeSort, List.MergeSort.Internal.splitInTwo]
theorem fork_al : forkA.alpha = [0, 1, 2, 3] := rfl
theorem fork_ext : extR forkA [2, 3] [] 4 = ([0, 1, 2, 3], 0) := by
  unfold extR
  rw [fork_kp, fork_al]
  have e1 : ext1 forkA [] 4 [0, 1, 2, 3] [2, 3] [] = ext1 forkA [] 4 [1, 2, 3] (sortI [2, 3, 0]) [0] := by
    rw [ext1, fork_h1]; rfl
  have e2 : ext1 forkA [] 4 [1, 2, 3] [0, 2, 3] [0] = ext1 forkA [] 4 [2, 3] (sortI [0, 2, 3, 1]) [0, 1] := by
    rw [ext1, fork_h2]; rfl
  have e3 : ext1 forkA [] 4 [2, 3] [0, 1, 2, 3] [0, 1] = .inr ([0, 1, 2, 3], [0, 1]) := by
    rw [ext1, fork_h3]; rfl
  rw [e1, fork_s1, e2, fork_s2, e3]
  show exF2 (ext2 forkA [] 4 [0, 1] [0, 1, 2, 3]) = _
  have f1 : ext2 forkA [] 4 [0, 1] [0, 1, 2, 3] = ext2 forkA [] 4 [1] [0, 1, 2, 3] := by
    rw [ext2, show ([0, 1, 2, 3] : List Int).filter (fun y => !(y == 0)) = [1, 2, 3] from rfl, fork_h4]; rfl
  have f2 : ext2 forkA [] 4 [1] [0, 1, 2, 3] = .inr [0, 1, 2, 3] := by
    rw [ext2, show ([0, 1, 2, 3] : List Int).filter (fun y => !(y == 1)) = [0, 2, 3] from rfl, fork_h2]; rfl
  rw [f1, f2]
  rfl
theorem fork39 (O : List Heap) : ASpec Tryz.prog 39 [] O (autD forkA) [] O := by
  refine aspec_intro Tk Tryz.func39 rfl Tryz.call39 Tryz.ntmps39 (Nat.le_of_ble_eq_true rfl) fun E => ?_
  refine g_run Tk Tryz.func39 ?_
  refine g_ret Tk (r := autD forkA) rfl rfl rfl trivial rfl rfl ?_
  rfl
theorem extNil {g : Nat} {tab : Obj} {P : Program} {f : FuncId} {x y : D} {O O' : List Heap} {res : D} {Hr : Heap} (h : ASpecT g tab P f [x, y, ints []] O res Hr O') : ASpecT g tab P f [x, y, .i (.v (.slice none 0 0))] O res Hr O' :=
  fun E K ρ w vs hw ht hr => h E K ρ w vs hw ht ((CoDL.cons (CoD.refl _) (.cons (CoD.refl _) (.cons (coD_i coI_nil) .nil))).rep hr)
theorem known11 {g : Nat} (hg : IsTab g) {ty : TypeId} {fr : Nat × Nat} (O : List Heap) : ASpecT g (ptab ty fr) Tryz.prog 11 [] O (bb true) [] O := by
  have ho := fun O => observer17 hg (ty := ty) (fr := fr) O forkA [2, 3] 4 rfl (by decide) fork_small (by decide) fork_op
  simp only [fork_obs] at ho
  have hx := fun O => extNil (extend14 hg (ty := ty) (fr := fr) O forkA [2, 3] [] 4 rfl (by decide) fork_small (by decide) (by decide) fork_op (by decide))
  simp only [fork_ext] at hx
  have hc := fun O => consistent18 O forkA [2, 3] [2] 4 rfl (by decide) fork_small (by decide) (by decide) fork_op2
  simp only [fork_cs] at hc
  have hf := fun O => fork39 O
  have h1 := fun O => sameInts36 O [0] [0] (by decide)
  have h2 := fun O => sameInts36 O [3] [3] (by decide)
  have h3 := fun O => sameInts36 O [0, 1, 2, 3] [0, 1, 2, 3] (by decide)
  refine aspecT_stop [] Tk Tryz.func11 rfl Tryz.call11 Tryz.ntmps11 (Nat.le_of_ble_eq_true rfl) fun E hE => ?_
  refine g_run Tk Tryz.func11 ?_
  first | refine g_call Tk Tryz.func11 (hf _) rfl rfl rfl rfl rfl ?_ | refine s_callq Tk (fun _ => hf _) rfl rfl rfl ?_
  refine g_callT Tk Tryz.func11 hE (ho _) rfl rfl rfl rfl rfl rfl ?_
  first | refine g_call Tk Tryz.func11 (hf _) rfl rfl rfl rfl rfl ?_ | refine s_callq Tk (fun _ => hf _) rfl rfl rfl ?_
  refine g_callT Tk Tryz.func11 hE (hx _) rfl rfl rfl rfl rfl rfl ?_
  first | refine g_call Tk Tryz.func11 (hf _) rfl rfl rfl rfl rfl ?_ | refine s_callq Tk (fun _ => hf _) rfl rfl rfl ?_
  first | refine g_call Tk Tryz.func11 (hc _) rfl rfl rfl rfl rfl ?_ | refine s_callq Tk (fun _ => hc _) rfl rfl rfl ?_
  repeat (first | refine gcT Tk Tryz.func11 rfl ?_ | refine gkT Tk Tryz.func11 rfl ?_ | refine skT Tk ?_ | refine gcF Tk Tryz.func11 rfl ?_ | refine gkF Tk Tryz.func11 rfl ?_ | refine skF Tk ?_)
  first | refine g_call Tk Tryz.func11 (h1 _) rfl rfl rfl rfl rfl ?_ | refine s_callq Tk (fun _ => h1 _) rfl rfl rfl ?_
  repeat (first | refine gcT Tk Tryz.func11 rfl ?_ | refine gkT Tk Tryz.func11 rfl ?_ | refine skT Tk ?_ | refine gcF Tk Tryz.func11 rfl ?_ | refine gkF Tk Tryz.func11 rfl ?_ | refine skF Tk ?_)
  first | refine g_call Tk Tryz.func11 (h2 _) rfl rfl rfl rfl rfl ?_ | refine s_callq Tk (fun _ => h2 _) rfl rfl rfl ?_
  repeat (first | refine gcT Tk Tryz.func11 rfl ?_ | refine gkT Tk Tryz.func11 rfl ?_ | refine skT Tk ?_ | refine gcF Tk Tryz.func11 rfl ?_ | refine gkF Tk Tryz.func11 rfl ?_ | refine skF Tk ?_)
  first | refine g_call Tk Tryz.func11 (h3 _) rfl rfl rfl rfl rfl ?_ | refine s_callq Tk (fun _ => h3 _) rfl rfl rfl ?_
  repeat (first | refine gcT Tk Tryz.func11 rfl ?_ | refine gkT Tk Tryz.func11 rfl ?_ | refine skT Tk ?_ | refine gcF Tk Tryz.func11 rfl ?_ | refine gkF Tk Tryz.func11 rfl ?_ | refine skF Tk ?_)
  refine g_ret Tk (r := bb true) rfl rfl rfl trivial rfl rfl ?_
  rfl
end Go.AI


namespace Go.Proofs.YtmhllkmceipdcaaGreatDoor
open Go.ChangeShapes Go.WideShapes Go.ChangeAt Go.RowKit
set_option maxRecDepth 100000
theorem Tryz.own : ownKnob Tryz.prog.godebug = none := by kernel_rfl
theorem powG : Tryz.prog.globalNamed "internal/strconv.uint64pow10" = some 0 := by kernel_rfl
theorem isTab0 : AI.IsTab 0 := fun _ _ _ h => AI.tabIs_of powG h
theorem tab_of_laid {W : World} (h : laidMetH Tryz.prog [("math/bits.deBruijn32tab", Rows.laid_math_bits_deBruijn32tab), ("math/bits.deBruijn64tab", Rows.laid_math_bits_deBruijn64tab), ("internal/strconv.uint64pow10", Rows.laid_internal_strconv_uint64pow10)] W) :
    ∃ ty fr, W.heap[0]? = some (AI.ptab ty fr) := by
  rw [MakeChecks.laidMetH_plain _ _ _ (by kernel_rfl)] at h
  have h3 := laidMet.tail (laidMet.tail h)
  have hT : Lib.TabIs Tryz.prog W "internal/strconv.uint64pow10" .u64 Lib.pow10Tab :=
    Lib.tabIs_of_head (t := 197) (e := 176) (n := 20) powG (by kernel_rfl) (by kernel_rfl) (by kernel_rfl) (by kernel_rfl) (by kernel_rfl) (rest := []) h3
  unfold Lib.TabIs World.var? at hT
  rw [powG] at hT
  simp only [Option.bind_some] at hT
  cases hc : W.heap[0]? with
  | none => rw [hc] at hT; cases hT
  | some o =>
    rw [hc] at hT
    cases o with
    | cells cs ty fr =>
      simp only [Option.some.injEq] at hT
      subst hT
      exact ⟨ty, fr, rfl⟩
    | _ => cases hT
theorem calls_of {f : FuncId} {args : List AI.D} {vs : List Value} {b : Bool} {W : World} {ty : TypeId} {fr : Nat × Nat} (h0 : W.heap[0]? = some (AI.ptab ty fr))
    (hcall : ∀ a w, (callFunc f a).run Tryz.prog w = .ok (.enter f a) w) (hs : AI.ASpecT 0 (AI.ptab ty fr) Tryz.prog f args [] (AI.bb b) [] [])
    {K : AI.Kn} (hK : ∀ bl o x, K bl o = some x → W.cell? ⟨bl, o, none⟩ = some x) (hr : ∀ ρ sh, AI.RepDL K ρ sh vs args) :
    Calls Tryz.prog f vs.toArray W fun e W' => e = .returned (.bool b) ∧ (∀ i, i < W.heap.size → W'.heap[i]? = W.heap[i]?) ∧ W'.os = W.os ∧ W'.output = W.output := by
  let ρ : Nat → Nat → AI.Loc := fun _ _ => ⟨0, 0, none⟩
  have hobj : ∀ d n, AI.objAt [] d n = none := fun d n => by simp [AI.objAt]
  have hI : AI.HInv (AI.Env.of K ρ W) K ρ [] W :=
    ⟨hK, (fun d n ob e => absurd ((hobj d n).symm.trans e) (by simp)), (fun d n ob d' n' ob' e => absurd ((hobj d n).symm.trans e) (by simp)), Nat.le_refl _, fun _ _ _ => rfl, (fun n ob e => absurd ((hobj 0 n).symm.trans e) (by simp)), fun _ => rfl, fun _ _ _ h => h, fun _ _ _ h => .inl h, rfl, rfl, rfl⟩
  have ht : AI.TabQ 0 (AI.ptab ty fr) [] ρ W := ⟨h0, fun d n x e => by simp [AI.shape, hobj] at e⟩
  rcases hs _ K ρ W vs hI ht (hr _ _) with ⟨_, h⟩ | ⟨v, w', h, _⟩
  · refine h.mono fun e W' => ?_
    rintro ⟨v, rfl, K', ρ', h1, h2⟩
    obtain rfl := AI.inv_v h2
    refine ⟨rfl, fun i hi => h1.old i hi fun d n ob e => ?_, h1.rest.2.1, h1.rest.2.2⟩
    simp [AI.objAt] at e
  · rw [hcall] at h
    cases h
theorem kept_of {W W' : World} {P : MemPlace → Prop} (h : ∀ i, i < W.heap.size → W'.heap[i]? = W.heap[i]?) (h1 : W'.os = W.os) (h2 : W'.output = W.output) : W.keptBut W' P := by
  refine ⟨h1, h2, fun i hi => ?_⟩
  rw [h i hi]
  exact (World.keptBut_refl W P).2.2 i hi
end Go.Proofs.YtmhllkmceipdcaaGreatDoor


namespace Go.Proofs.YtmhllkmceipdcaaGreatDoor
open Go.ChangeShapes Go.WideShapes Go.ChangeAt Go.RowKit Go.Deep Go.WideElems
set_option maxRecDepth 100000
def KW (W : World) : AI.Kn := fun b o => W.cell? ⟨b, o, none⟩
theorem KW_ok (W : World) : ∀ bl o x, KW W bl o = some x → W.cell? ⟨bl, o, none⟩ = some x := fun _ _ _ h => h
section
variable {H : Type} {enc : TypeId × Value → H} {P : Program} {W : World}
def Opn (enc : TypeId × Value → H) (P : Program) (W : World) (t : TypeId) (R : List AI.I → Prop) : Prop :=
  ∀ n cs x, DataW.trod enc P W 0 (fun _ => true) true n t cs = some x → ∃ is, AI.RepL (KW W) cs is ∧ R is
theorem repL_app {K : AI.Kn} {a b : List Value} {c d : List AI.I} (h : AI.RepL K a c) (h' : AI.RepL K b d) : AI.RepL K (a ++ b) (c ++ d) := h.append h'
theorem opn_int {t : TypeId} {k : IntKind} (ht : P.underlying t = some (.int k)) : Opn enc P W t fun is => ∃ z, is = [.v (.int k z)] ∧ (Lit.int k z).wf = true := by
  intro n cs x h
  obtain ⟨z, rfl, rfl, hw⟩ := DataW.trod_int ht h
  exact ⟨[.v (.int k z)], .cons (.v rfl) .nil, z, rfl, hw⟩
theorem ints_rep {K : AI.Kn} {k : IntKind} : ∀ {cs : List Value}, (∀ i, i < cs.length → ∃ z, cs[i]? = some (.int k z) ∧ (Lit.int k z).wf = true) → ∃ zs : List Int, zs.length = cs.length ∧ AI.RepL K cs (zs.map fun z => .v (.int k z)) ∧ ∀ z ∈ zs, (Lit.int k z).wf = true
  | [], _ => ⟨[], rfl, .nil, by simp⟩
  | c :: cs, h => by
    obtain ⟨z, hz, hw⟩ := h 0 (by simp)
    simp only [List.getElem?_cons_zero, Option.some.injEq] at hz
    subst hz
    obtain ⟨zs, h1, h2, h3⟩ := ints_rep (cs := cs) fun i hi => by
      have := h (i + 1) (by simp; omega)
      simpa using this
    exact ⟨z :: zs, by simp [h1], .cons (.v rfl) h2, fun y hy => by
      rcases List.mem_cons.1 hy with rfl | hy
      · exact hw
      · exact h3 y hy⟩
theorem opn_array {t e : TypeId} {k : IntKind} {m : Nat} (ht : P.underlying t = some (.array m e)) (he : P.underlying e = some (.int k)) (hc : P.cellsOf e = 1) (hct : P.cellsOf t = m) :
    Opn enc P W t fun is => ∃ zs : List Int, zs.length = m ∧ is = zs.map (fun z => .v (.int k z)) ∧ ∀ z ∈ zs, (Lit.int k z).wf = true := by
  intro n cs x h
  obtain ⟨xs, f, rfl, rfl, hl, hlen, hx⟩ := DataW.trod_array ht h
  rw [hct] at hl
  obtain ⟨zs, h1, h2, h3⟩ := ints_rep (K := KW W) (k := k) (cs := cs) fun i hi => by
    have h0 := hx i (by omega)
    rw [hc, Nat.mul_one, List.getElem?_eq_getElem (by omega)] at h0
    obtain ⟨z, hz, _, hw⟩ := DataW.trod_int he h0
    refine ⟨z, ?_, hw⟩
    have := congrArg (fun l => l[0]?) hz
    simpa [List.getElem?_take, List.getElem?_drop] using this
  exact ⟨_, h2, zs, by omega, rfl, h3⟩
theorem opn_struct3 {t : TypeId} {f0 f1 f2 : Field} {R0 R1 R2 : List AI.I → Prop} {z0 z1 z2 : Nat} (ht : P.underlying t = some (.struct #[f0, f1, f2])) (hc : P.cellsOf t = z0 + z1 + z2)
    (c0 : P.cellsOf f0.type = z0) (c1 : P.cellsOf f1.type = z1) (c2 : P.cellsOf f2.type = z2) (o0 : f0.offset = 0) (o1 : f1.offset = z0) (o2 : f2.offset = z0 + z1)
    (h0 : Opn enc P W f0.type R0) (h1 : Opn enc P W f1.type R1) (h2 : Opn enc P W f2.type R2) : Opn enc P W t fun is => ∃ a b c, is = a ++ b ++ c ∧ R0 a ∧ R1 b ∧ R2 c := by
  intro n cs x h
  obtain ⟨y0, y1, y2, m, _, hl, g0, g1, g2⟩ := trod_struct3 ht h
  obtain ⟨a, ra, ha⟩ := h0 _ _ _ g0
  obtain ⟨b, rb, hb⟩ := h1 _ _ _ g1
  obtain ⟨c, rc, hcc⟩ := h2 _ _ _ g2
  refine ⟨a ++ b ++ c, ?_, a, b, c, rfl, ha, hb, hcc⟩
  have e : cs = (cs.drop f0.offset).take (P.cellsOf f0.type) ++ (cs.drop f1.offset).take (P.cellsOf f1.type) ++ (cs.drop f2.offset).take (P.cellsOf f2.type) := by
    rw [c0, c1, c2, o0, o1, o2, List.drop_zero]
    have e1 : (cs.drop (z0 + z1)).take z2 = cs.drop (z0 + z1) := List.take_of_length_le (by simp; omega)
    rw [e1]
    have e2 : cs.drop (z0 + z1) = (cs.drop z0).drop z1 := by rw [List.drop_drop]
    rw [e2, List.append_assoc, List.take_append_drop, List.take_append_drop]
  rw [e]
  exact repL_app (repL_app ra rb) rc
theorem args_again {t : TypeId} (hl : laidOutB P = true) (hr : P.readableRec t = true) (hrow : decide (t < P.types.size) = true) {W' : World} {v : Value} {d : DataW H} {ps : List MemPlace}
    (h : DataW.Trod enc P W 0 (fun _ => true) true t v d ps) (hold : ∀ i, i < W.heap.size → W'.heap[i]? = W.heap[i]?) : DataW.Trod enc P W' 0 (fun b => decide (b < W.heap.size)) true t v d ps := by
  have hlt : ∀ p ∈ ps, p.block < W.heap.size := by
    obtain ⟨n, hn⟩ := h
    exact DataW.trod_lt n t _ _ hn
  refine Trod_stays hl hr (of_decide_eq_true hrow) h (fun p hp => ?_) (fun p hp => decide_eq_true (hlt p hp))
  have hb := hlt p hp
  cases p with
  | cell b off =>
    show W'.cell? ⟨b, off, none⟩ = W.cell? ⟨b, off, none⟩
    unfold World.cell?
    rw [hold b hb]
  | map b => exact hold b hb
end
end Go.Proofs.YtmhllkmceipdcaaGreatDoor


namespace Go.Proofs.YtmhllkmceipdcaaGreatDoor
open Go.ChangeShapes Go.WideShapes Go.ChangeAt Go.RowKit Go.Deep Go.WideElems
set_option maxRecDepth 100000
section
variable {H : Type} {enc : TypeId × Value → H} {W : World}
theorem wf_u8 {z : Int} (h : (Lit.int .u8 z).wf = true) : 0 ≤ z ∧ z ≤ 255 := by
  simp only [Lit.wf, Bool.and_eq_true, decide_eq_true_eq] at h
  have e1 : IntKind.u8.min = 0 := rfl
  have e2 : IntKind.u8.max = 255 := rfl
  rw [e1, e2] at h
  exact h
structure autLen (x : AI.Aut) : Prop where
  e : x.edges.length ≤ AI.max63
  a : x.alpha.length ≤ AI.max63
  m : x.marked.length ≤ AI.max63
end
end Go.Proofs.YtmhllkmceipdcaaGreatDoor


namespace Go.AI
open Go.Proofs
set_option maxRecDepth 20000
structure gAut (a : Aut) (n : Nat) : Prop where
  st : a.states = n
  sm : smallA a
  c : chkA a = 0
theorem gAut.to {a : Aut} {n : Nat} (h : gAut a n) : ∀ e ∈ a.edges, 0 ≤ e.2.2 ∧ e.2.2 < (n : Int) := fun e he => by have := (chk_rng h.c).2.1 e he; rw [h.st] at this; exact this
theorem gAut.fr {a : Aut} {n : Nat} (h : gAut a n) : ∀ e ∈ a.edges, 0 ≤ e.1 ∧ e.1 < (n : Int) := fun e he => by have := (chk_rng h.c).1 e he; rw [h.st] at this; exact this
theorem gAut.ev {a : Aut} {n : Nat} (h : gAut a n) : ∀ e ∈ a.edges, e.2.1 ∈ a.alpha := (chk_rng h.c).2.2
theorem gAut.pw {a : Aut} {n : Nat} (h : gAut a n) : a.edges.Pairwise ltE := (chkEds_sorted (chk_parts h.c).2.2.2).1
abbrev erasR (a : Aut) (on : List Int) : List Int := a.alpha.filter fun x => !decide (x ∈ on)
theorem erasR_low {a : Aut} {n : Nat} (h : gAut a n) (on un l : List Int) : clo a.edges (fun x => decide (x ∈ erasR a on)) n l = clo a.edges (lowP on un false) n l :=
  clo_congr h.to (fun e he => by
    have h1 := h.ev e he
    show decide (e.2.1 ∈ a.alpha.filter fun x => !decide (x ∈ on)) = (!decide (e.2.1 ∈ on) && (!false || _))
    simp [List.mem_filter, h1]) fun _ => Iff.rfl
theorem clo_len (es : List Edg) (p : Int → Bool) (n : Nat) (l : List Int) : (clo es p n l).length ≤ n := sortedBelow_len _ _
theorem reachS33 (O : List Heap) (a : Aut) (on : List Int) (s : Int) (n : Nat) (h : gAut a n) (hn : n ≤ 4096) (hon : on.length ≤ max63) :
    ASpec Tryz.prog 33 [autD a, ints on, ii s] O (ints (clo a.edges (lowP on [] false) n [s])) [] O := by
  have h1 : ∀ O, ASpec Tryz.prog 74 [autD a, ints on] O (ints (erasR a on)) [] O := fun O => erased74 O a on h.sm.al hon
  have h2 := fun O => reach20 O a [s] (erasR a on) n h.st hn h.sm.ed h.to (by simp) (Nat.le_trans (List.length_filter_le _ _) (by have := h.sm.al; simp only [max63]; omega))
  rw [erasR_low h on []] at h2
  generalize clo a.edges (lowP on [] false) n [s] = R at *
  generalize erasR a on = er at *
  obtain ⟨al, st, mk, es⟩ := a
  refine aspec_intro Tk Tryz.func33 rfl Tryz.call33 Tryz.ntmps33 (Nat.le_of_ble_eq_true rfl) fun E => ?_
  refine g_run Tk Tryz.func33 ?_
  refine g_drawn Tk Tryz.func33 mixedT rfl ?_
  first | refine g_call Tk Tryz.func33 (h1 _) rfl rfl rfl rfl rfl ?_ | refine s_callq Tk (fun _ => h1 _) rfl rfl rfl ?_
  first | refine g_call Tk Tryz.func33 (h2 _) rfl rfl rfl rfl rfl ?_ | refine s_callq Tk (fun _ => h2 _) rfl rfl rfl ?_
  refine e_done Tk Tryz.func33 (by kernel_rfl) ?_
  refine g_ret Tk (r := ints R) rfl rfl rfl trivial rfl rfl ?_
  rfl
def begR (a : Aut) (on : List Int) (n : Nat) : List Int := if n = 0 then [] else clo a.edges (lowP on [] false) n [0]
theorem begin73 (O : List Heap) (a : Aut) (on : List Int) (n : Nat) (h : gAut a n) (hn : n ≤ 4096) (hon : on.length ≤ max63) :
    ASpec Tryz.prog 73 [autD a, ints on] O (ints (begR a on n)) [] O := by
  have h1 : ∀ O, ASpec Tryz.prog 74 [autD a, ints on] O (ints (erasR a on)) [] O := fun O => erased74 O a on h.sm.al hon
  have h2 := fun O => reach20 O a [0] (erasR a on) n h.st hn h.sm.ed h.to (by simp) (Nat.le_trans (List.length_filter_le _ _) (by have := h.sm.al; simp only [max63]; omega))
  rw [erasR_low h on []] at h2
  unfold begR
  generalize clo a.edges (lowP on [] false) n [0] = R at *
  generalize erasR a on = er at *
  have hst := h.st
  clear h
  obtain ⟨al, st, mk, es⟩ := a
  simp only at hst
  refine aspec_intro Tk Tryz.func73 rfl Tryz.call73 Tryz.ntmps73 (Nat.le_of_ble_eq_true rfl) fun E => ?_
  refine g_run Tk Tryz.func73 ?_
  first | refine g_cnd Tk Tryz.func73 rfl (fun g1 => ?_) (fun g1 => ?_) | refine g_know Tk Tryz.func73 rfl (fun g1 => ?_) (fun g1 => ?_) | refine s_know Tk (fun g1 => ?_) (fun g1 => ?_)
  · have g1 : st = 0 := beqT g1
    rw [if_pos (by omega)]
    refine g_ret_co Tk (r := .i (.v (.slice none 0 0))) rfl rfl rfl trivial rfl rfl ?_
    repeat' (first | refine coD_tup ?_ | refine coD_agg ?_ | refine coD_i ?_ | refine CoDL.cons ?_ ?_ | exact CoDL.nil | exact coI_nil | refine coI_sl ?_ | refine CoLL.cons ?_ ?_ | exact CoLL.nil | refine CoL.cons ?_ ?_ | exact CoL.nil | exact CoI.refl _ | exact CoL.refl _ | exact CoLL.refl _ | exact CoDL.refl _ | exact CoD.refl _)
  have g1 : st ≠ 0 := beqF g1
  rw [if_neg (by omega)]
  refine g_drawn Tk Tryz.func73 mixedT rfl ?_
  first | refine g_call Tk Tryz.func73 (h1 _) rfl rfl rfl rfl rfl ?_ | refine s_callq Tk (fun _ => h1 _) rfl rfl rfl ?_
  first | refine g_call Tk Tryz.func73 (h2 _) rfl rfl rfl rfl rfl ?_ | refine s_callq Tk (fun _ => h2 _) rfl rfl rfl ?_
  refine e_done Tk Tryz.func73 (by kernel_rfl) ?_
  refine g_ret Tk (r := ints R) rfl rfl rfl trivial rfl rfl ?_
  rfl
set_option maxHeartbeats 4000000 in
theorem next34 (O : List Heap) (a : Aut) (on est : List Int) (ev : Int) (n : Nat) (h : gAut a n) (hn : n ≤ 4096) (hel : est.length ≤ max63) (hon : on.length ≤ max63) :
    ASpec Tryz.prog 34 [autD a, ints on, ints est, ii ev] O (ints (nxt a.edges (lowP on [] false) n est ev)) [] O := by
  have h1 : ∀ O, ASpec Tryz.prog 74 [autD a, ints on] O (ints (erasR a on)) [] O := fun O => erased74 O a on h.sm.al hon
  have h2 := fun O l hl => reach20 O a l (erasR a on) n h.st hn h.sm.ed h.to hl (Nat.le_trans (List.length_filter_le _ _) (by have := h.sm.al; simp only [max63]; omega))
  have hed := h.sm.ed
  have h2 : ∀ O l, l.length ≤ 1000000 → ASpec Tryz.prog 20 [autD a, ints l, ints (erasR a on)] O (ints (clo a.edges (lowP on [] false) n l)) [] O := fun O l hl => by
    have := h2 O l hl
    rwa [erasR_low h on []] at this
  unfold nxt
  generalize lowP on [] false = lp at *
  generalize erasR a on = er at *
  clear h
  obtain ⟨al, st, mk, es⟩ := a
  simp only at hed
  generalize hK : clo es lp n (tgtE es est ev) = KK
  refine aspec_stop [7] Tk Tryz.func34 rfl Tryz.call34 Tryz.ntmps34 (Nat.le_of_ble_eq_true rfl) fun E => ?_
  refine g_run Tk Tryz.func34 ?_
  refine g_loop ?_
  refine rch_wk (wk_nil 9 44 3 1 rfl rfl rfl) ?_
  refine rch_loop2 (fun x : Nat × List Int => [(1, ints on), (2, ints est), (3, ii ev), (4, .own 0 4 0 0), (9, .osl 0 44), (10, ii x.1)]) (fun x => [(4, .box [ints al, ii st, ints mk, edgs es]), (44, oints x.2)]) (fun _ => O) 51
    (fun x => x.1 ≤ es.length ∧ x.2.length ≤ x.1 ∧ clo es lp n (x.2 ++ tgtE (es.drop x.1) est ev) = KK) (fun x => es.length - x.1) (0, []) ⟨Nat.zero_le _, Nat.le_refl _, by simpa using hK⟩ ⟨rfl, rfl, rfl, rfl, rfl, rfl, trivial⟩ rfl ⟨rfl, rfl, trivial⟩ rfl rfl ?_
  clear hK
  rintro ⟨i, l⟩ ⟨hi, hl, hno⟩ ih
  simp only at hi hl hno
  have hj1 : ii (IntKind.i64.wrap ((i : Int) + 1)) = ii ((i + 1 : Nat) : Int) := congrArg ii (wsucc (n := 1000001) (by omega) (by decide))
  refine g_run Tk Tryz.func34 ?_
  first | refine g_cnd Tk Tryz.func34 rfl (fun g1 => ?_) (fun g1 => ?_) | refine g_know Tk Tryz.func34 rfl (fun g1 => ?_) (fun g1 => ?_) | refine s_know Tk (fun g1 => ?_) (fun g1 => ?_)
  · have h3 : i < es.length := by simpa using g1
    have ge : (es.map edgI)[(i : Int).toNat]? = some (edgI es[i]) := get_mapZ h3
    rw [List.drop_eq_getElem_cons h3] at hno
    generalize es[i] = e at *
    obtain ⟨ef, ee, et⟩ := e
    have htg : ∀ r, tgtE ((ef, ee, et) :: r) est ev = if ee = ev ∧ ef ∈ est then et :: tgtE r est ev else tgtE r est ev := fun r => by
      unfold tgtE
      rw [List.filter_cons]
      by_cases c : ee = ev ∧ ef ∈ est
      · rw [if_pos (by simpa using c), if_pos c, List.map_cons]
      · rw [if_neg (by simpa using c), if_neg c]
    rw [htg] at hno
    clear htg
    first | refine g_need Tk Tryz.func34 (by exact ⟨by omega, by show (i : Int) < (es.length : Int); omega⟩) ?_ | refine s_need Tk (by exact ⟨by omega, by show (i : Int) < (es.length : Int); omega⟩) ?_
    first | refine g_elem Tk Tryz.func34 (ge) ?_ | refine s_elem Tk (ge) ?_
    first | refine g_cnd Tk Tryz.func34 rfl (fun c1 => ?_) (fun c1 => ?_) | refine g_know Tk Tryz.func34 rfl (fun c1 => ?_) (fun c1 => ?_) | refine s_know Tk (fun c1 => ?_) (fun c1 => ?_)
    · have c1 : ee = ev := beqT c1
      first | refine g_need Tk Tryz.func34 (by exact ⟨by omega, by show (i : Int) < (es.length : Int); omega⟩) ?_ | refine s_need Tk (by exact ⟨by omega, by show (i : Int) < (es.length : Int); omega⟩) ?_
      first | refine g_elem Tk Tryz.func34 (ge) ?_ | refine s_elem Tk (ge) ?_
      first | refine g_call Tk Tryz.func34 (has55 _ est ef hel) rfl rfl rfl rfl rfl ?_ | refine s_callq Tk (fun _ => has55 _ est ef hel) rfl rfl rfl ?_
      first | refine g_cnd Tk Tryz.func34 rfl (fun c2 => ?_) (fun c2 => ?_) | refine g_know Tk Tryz.func34 rfl (fun c2 => ?_) (fun c2 => ?_) | refine s_know Tk (fun c2 => ?_) (fun c2 => ?_)
      · have c2 : ef ∈ est := of_decide_eq_true c2
        rw [if_pos ⟨c1, c2⟩] at hno
        first | refine g_need Tk Tryz.func34 (by exact ⟨by omega, by show (i : Int) < (es.length : Int); omega⟩) ?_ | refine s_need Tk (by exact ⟨by omega, by show (i : Int) < (es.length : Int); omega⟩) ?_
        first | refine g_elem Tk Tryz.func34 (ge) ?_ | refine s_elem Tk (ge) ?_
        first | refine g_need Tk Tryz.func34 (by exact ⟨by show (l.length + 1) * 8 ≤ 140737488355328; omega, by show l.length + 1 ≤ 9223372036854775807; omega⟩) ?_ | refine s_need Tk (by exact ⟨by show (l.length + 1) * 8 ≤ 140737488355328; omega, by show l.length + 1 ≤ 9223372036854775807; omega⟩) ?_
        refine g_loop ?_
        refine ih (i + 1, l ++ [et]) _ _ ⟨h3, by simp; omega, by simpa using hno⟩ (by simp only; omega) ⟨rfl, rfl, rfl, rfl, rfl, hj1, trivial⟩ rfl ⟨rfl, congrArg some (oints_app l et), trivial⟩ rfl rfl
      · have c2 : ef ∉ est := of_decide_eq_false c2
        rw [if_neg (fun h => c2 h.2)] at hno
        refine g_loop ?_
        exact ih (i + 1, l) _ _ ⟨h3, by simp only; omega, hno⟩ (by simp only; omega) ⟨rfl, rfl, rfl, rfl, rfl, hj1, trivial⟩ rfl ⟨rfl, rfl, trivial⟩ rfl rfl
    · have c1 : ee ≠ ev := beqF c1
      rw [if_neg (fun h => c1 h.1)] at hno
      repeat (first | refine gcT Tk Tryz.func34 rfl ?_ | refine gkT Tk Tryz.func34 rfl ?_ | refine skT Tk ?_ | refine gcF Tk Tryz.func34 rfl ?_ | refine gkF Tk Tryz.func34 rfl ?_ | refine skF Tk ?_)
      refine g_loop ?_
      exact ih (i + 1, l) _ _ ⟨h3, by simp only; omega, hno⟩ (by simp only; omega) ⟨rfl, rfl, rfl, rfl, rfl, hj1, trivial⟩ rfl ⟨rfl, rfl, trivial⟩ rfl rfl
  · have h3 : es.length ≤ i := by simpa using g1
    rw [List.drop_eq_nil_of_le h3] at hno
    have hno : clo es lp n l = KK := by simpa [tgtE] using hno
    have h2 := fun O => h2 O l (by omega)
    rw [hno] at h2
    refine g_stop ?_
    refine rch_wk (wk_freeze 44 rfl rfl) ?_
    refine g_run Tk Tryz.func34 ?_
    refine g_go Tk Tryz.func34 ?_
    refine g_drawn Tk Tryz.func34 mixedT rfl ?_
    first | refine g_call Tk Tryz.func34 (h1 _) rfl rfl rfl rfl rfl ?_ | refine s_callq Tk (fun _ => h1 _) rfl rfl rfl ?_
    first | refine g_call Tk Tryz.func34 (h2 _) rfl rfl rfl rfl rfl ?_ | refine s_callq Tk (fun _ => h2 _) rfl rfl rfl ?_
    refine e_done Tk Tryz.func34 (by kernel_rfl) ?_
    refine g_ret Tk (r := ints KK) rfl rfl rfl trivial rfl rfl ?_
    rfl
end Go.AI


namespace Go.AI
open Go.Proofs
set_option maxRecDepth 20000
end Go.AI


namespace Go.AI
open Go.Proofs
set_option maxRecDepth 20000
end Go.AI


namespace Go.AI
open Go.Proofs
set_option maxRecDepth 20000
end Go.AI


namespace Go.AI
open Go.Proofs
set_option maxRecDepth 20000
section
variable {S : Type} [DecidableEq S]
def bfull (nx : S → Int → S) (ok : S → Bool) (evs : S → List Int) : Nat → Nat → List (S × List Int) → List (S × List Int)
  | 0, _, l => l
  | f + 1, i, l => match l[i]? with
    | none => l
    | some x => bfull nx ok evs f (i + 1) (bvis nx ok x (evs x.1) l)
end
end Go.AI


namespace Go.AI
section
variable {S : Type} [DecidableEq S]
theorem bvis_pre (nx : S → Int → S) (ok : S → Bool) (x : S × List Int) : ∀ (es : List Int) (l : List (S × List Int)), l <+: bvis nx ok x es l
  | [], l => List.prefix_refl l
  | ev :: r, l => by
    simp only [bvis]
    split
    · exact (List.prefix_append _ _).trans (bvis_pre nx ok x r _)
    · exact bvis_pre nx ok x r l
theorem bfull_pre (nx : S → Int → S) (ok : S → Bool) (evs : S → List Int) : ∀ (f i : Nat) (l : List (S × List Int)), l <+: bfull nx ok evs f i l
  | 0, _, l => List.prefix_refl l
  | f + 1, i, l => by
    simp only [bfull]
    split
    · exact List.prefix_refl l
    · exact (bvis_pre nx ok _ _ l).trans (bfull_pre nx ok evs f (i + 1) _)
theorem bvis_ok {V : List S} {nx : S → Int → S} {ok : S → Bool} {x : S × List Int} {i : Nat} : ∀ {es : List Int} {l : List (S × List Int)}, (∀ ev ∈ es, ok (nx x.1 ev) = true → nx x.1 ev ∈ V) → bOk V l → l[i]? = some x → bOk V (bvis nx ok x es l)
  | [], l, _, h, _ => h
  | ev :: r, l, hv, h, hi => by
    have hv2 : ∀ ev ∈ r, ok (nx x.1 ev) = true → nx x.1 ev ∈ V := fun e he => hv e (by simp [he])
    simp only [bvis]
    split
    · rename_i hc
      refine bvis_ok (i := i) hv2 (bOk_app h hi (hv ev (by simp) hc.1) hc.2 ev) ?_
      have : i < l.length := (List.getElem?_eq_some_iff.1 hi).1
      rw [List.getElem?_append_left this]
      exact hi
    · exact bvis_ok hv2 h hi
theorem bsr_find {V : List S} {nx : S → Int → S} {ok : S → Bool} {evs : S → List Int} {bad : S → Bool} (hv : ∀ x ∈ V, ∀ ev ∈ evs x, ok (nx x ev) = true → nx x ev ∈ V) {N : Nat} (hN : V.length < N) : ∀ (f i : Nat) (l : List (S × List Int)), f + i = N → i ≤ l.length → bOk V l → (∀ z ∈ l.take i, bad z.1 = false) →
    bsr nx ok evs bad f i l = (bfull nx ok evs f i l).find? fun z => bad z.1
  | 0, i, l, hf, hi, h, _ => by
    have := bOk_len h
    omega
  | f + 1, i, l, hf, hi, h, hb => by
    simp only [bsr, bfull]
    cases hg : l[i]? with
    | none =>
      have : l.length ≤ i := by
        rcases Nat.lt_or_ge i l.length with h1 | h1
        · rw [List.getElem?_eq_getElem h1] at hg; cases hg
        · exact h1
      rw [List.take_of_length_le this] at hb
      simp only
      symm
      rw [List.find?_eq_none]
      intro z hz
      rw [hb z hz]; simp
    | some x =>
      have hlt : i < l.length := (List.getElem?_eq_some_iff.1 hg).1
      have hx : x.1 ∈ V := h.el x (List.mem_of_getElem? hg)
      have htk : l.take (i + 1) = l.take i ++ [x] := by rw [List.take_add_one, hg]; rfl
      simp only
      by_cases hbx : bad x.1 = true
      · rw [if_pos hbx]
        obtain ⟨r1, hr1⟩ := bvis_pre nx ok x (evs x.1) l
        obtain ⟨r2, hr2⟩ := bfull_pre nx ok evs f (i + 1) (bvis nx ok x (evs x.1) l)
        rw [← hr2, ← hr1]
        have hl : l = l.take i ++ (x :: l.drop (i + 1)) := by
          have h0 := List.take_append_drop (i + 1) l
          rw [htk, List.append_assoc] at h0
          exact h0.symm
        symm
        rw [hl, List.append_assoc, List.append_assoc, List.find?_append, List.find?_eq_none.2 (fun z hz => by rw [hb z hz]; simp), Option.none_or, List.cons_append, List.find?_cons, hbx]
      · rw [if_neg hbx]
        have hp := bvis_pre nx ok x (evs x.1) l
        refine bsr_find hv hN f (i + 1) _ (by omega) (Nat.le_trans hlt hp.length_le) (bvis_ok (hv x.1 hx) h hg) fun z hz => ?_
        have e : (bvis nx ok x (evs x.1) l).take (i + 1) = l.take (i + 1) := by
          obtain ⟨r, hr⟩ := hp
          rw [← hr, List.take_append_of_le_length (by omega)]
        rw [e, htk, List.mem_append, List.mem_singleton] at hz
        rcases hz with hz | rfl
        · exact hb z hz
        · simpa using hbx
end
section
variable {S : Type} [DecidableEq S]
theorem bvis_has {nx : S → Int → S} {ok : S → Bool} {x : S × List Int} : ∀ {es : List Int} {l : List (S × List Int)} {ev : Int}, ev ∈ es → ok (nx x.1 ev) = true → ∃ w ∈ bvis nx ok x es l, w.1 = nx x.1 ev
  | e :: r, l, ev, h, c => by
    rcases List.mem_cons.1 h with rfl | h
    · simp only [bvis]
      by_cases c2 : ∀ z ∈ l, z.1 ≠ nx x.1 ev
      · rw [if_pos ⟨c, c2⟩]
        exact ⟨(nx x.1 ev, x.2 ++ [ev]), (bvis_pre nx ok x r _).subset (by simp), rfl⟩
      · rw [if_neg (fun h => c2 h.2)]
        by_cases c3 : ∃ z ∈ l, z.1 = nx x.1 ev
        · obtain ⟨z, hz, e⟩ := c3
          exact ⟨z, (bvis_pre nx ok x r l).subset hz, e⟩
        · exact absurd (fun z hz e => c3 ⟨z, hz, e⟩) c2
    · simp only [bvis]
      exact bvis_has h c
end
section
variable {S T : Type} [DecidableEq S] [DecidableEq T]
end
end Go.AI


namespace Go.AI
open Go.Proofs
set_option maxRecDepth 20000
end Go.AI


namespace Go.AI
open Go.Proofs
set_option maxRecDepth 20000
theorem checkSet_aux {n : Int} : ∀ {l : List Int} {y : Int}, checkSet n l (some y) = 0 → y + 1 ≤ n → (l.length : Int) ≤ n - 1 - y
  | [], y, _, h => by simp only [List.length_nil]; omega
  | x :: r, y, h, hy => by
    simp only [checkSet] at h
    by_cases h1 : x < 0 ∨ x ≥ n
    · rw [if_pos h1] at h; exact absurd h (by decide)
    rw [if_neg h1] at h
    by_cases h2 : (some y).any (x ≤ ·) = true
    · rw [if_pos h2] at h; exact absurd h (by decide)
    rw [if_neg h2] at h
    have hxy : y < x := by simpa using h2
    have := checkSet_aux h (by omega)
    simp only [List.length_cons]
    omega
theorem checkSet_len {n : Int} (hn : 0 ≤ n) : ∀ {l : List Int}, checkSet n l none = 0 → (l.length : Int) ≤ n
  | [], _ => by simpa using hn
  | x :: r, h => by
    simp only [checkSet] at h
    by_cases h1 : x < 0 ∨ x ≥ n
    · rw [if_pos h1] at h; exact absurd h (by decide)
    rw [if_neg h1] at h
    have h' : checkSet n r (some x) = 0 := by simpa using h
    have := checkSet_aux h' (by omega)
    simp only [List.length_cons]
    omega
theorem checkSet_of {n : Int} : ∀ {l : List Int} {p : Option Int}, l.Pairwise (· < ·) → (∀ x ∈ l, 0 ≤ x ∧ x < n) → (∀ y, p = some y → ∀ x ∈ l, y < x) → checkSet n l p = 0
  | [], _, _, _, _ => rfl
  | x :: r, p, hs, hr, hp => by
    simp only [checkSet]
    have h1 := hr x (by simp)
    rw [if_neg (by omega), if_neg]
    · rw [List.pairwise_cons] at hs
      refine checkSet_of hs.2 (fun y hy => hr y (by simp [hy])) (fun y e z hz => ?_)
      simp only [Option.some.injEq] at e
      subst e
      exact hs.1 z hz
    · cases p with
      | none => simp
      | some y =>
        have := hp y rfl x (by simp)
        simp only [Option.any_some, decide_eq_true_eq]
        omega
end Go.AI


namespace Go.AI
open Go.Proofs
set_option maxRecDepth 20000
abbrev zBox : Ob := .box [.i (.v (.slice none 0 0)), ii 0, .i (.v (.slice none 0 0)), .i (.v (.slice none 0 0))]
def cOf (es : List Edg) (F : List Int) (k : Nat) (s ev : Int) : Option Edg := if 0 ≤ stp3 es s ev then some ((k : Int), ev, idxI (stp3 es s ev) F 0) else none
def cMk (F marked : List Int) (i : Nat) : List Int := ((List.range i).filter fun k => match F[k]? with
  | none => false
  | some s => decide (s ∈ marked)).map fun (k : Nat) => (k : Int)
def cEd (es : List Edg) (F al : List Int) (i : Nat) : List Edg := (List.range i).flatMap fun k => match F[k]? with
  | none => []
  | some s => al.filterMap (cOf es F k s)
def canR (a : Aut) (F : List Int) : Aut := ⟨a.alpha, F.length, cMk F a.marked F.length, cEd a.edges F a.alpha F.length⟩
theorem cMk_succ {F marked : List Int} {i : Nat} {s : Int} (h : F[i]? = some s) : cMk F marked (i + 1) = cMk F marked i ++ (if s ∈ marked then [(i : Int)] else []) := by
  unfold cMk
  rw [List.range_succ, List.filter_append, List.map_append]
  congr 1
  simp only [List.filter_cons, List.filter_nil, h]
  by_cases hm : s ∈ marked <;> simp [hm]
theorem cEd_succ {es : List Edg} {F al : List Int} {i : Nat} {s : Int} (h : F[i]? = some s) : cEd es F al (i + 1) = cEd es F al i ++ al.filterMap (cOf es F i s) := by
  unfold cEd
  rw [List.range_succ, List.flatMap_append]
  simp only [List.flatMap_cons, List.flatMap_nil, List.append_nil, h]
theorem flat_lenN {α β : Type} {f : α → List β} {N : Nat} : ∀ {l : List α}, (∀ x ∈ l, (f x).length ≤ N) → (l.flatMap f).length ≤ N * l.length
  | [], _ => by simp
  | x :: r, h => by
    have h1 := h x (by simp)
    have h2 := flat_lenN (l := r) fun y hy => h y (by simp [hy])
    simp only [List.flatMap_cons, List.length_append, List.length_cons, Nat.mul_succ]
    omega
theorem cEd_len {es : List Edg} {F al : List Int} {i : Nat} (h : al.length ≤ 32) : (cEd es F al i).length ≤ 32 * i := by
  unfold cEd
  refine Nat.le_trans (flat_lenN (N := 32) fun k _ => ?_) (by rw [List.length_range]; exact Nat.le_refl _)
  split
  · simp
  · exact Nat.le_trans (List.length_filterMap_le _ _) h
theorem cMk_len {F marked : List Int} {i : Nat} : (cMk F marked i).length ≤ i := by
  unfold cMk
  rw [List.length_map]
  exact Nat.le_trans (List.length_filter_le _ _) (by simp)
set_option maxHeartbeats 4000000 in
theorem canonical58 (O : List Heap) (a : Aut) (ha : autOk a) (h1 : 1 ≤ a.states) (F : List Int) (hF : foundR a = F) (hFl : F.length ≤ 4096) : ASpec Tryz.prog 41 [autD a] O (autD (canR a F)) [] O := by
  obtain ⟨c1, c2, c3, c4⟩ := chk_parts ha.chk
  have hed := ha.ed
  have hmk := ha.mkd
  have hal := checkSet_len (by decide) c1
  have hal : a.alpha.length ≤ 32 := by omega
  have hst := fun O s ev => step121 O a s ev (by simp only [max63]; omega)
  have hfo := fun O => found119 O a ha h1
  rw [hF] at hfo
  have hem := fun O => empty120 O a.alpha (by omega)
  have hho := fun O x => has118 O a.marked x (by simp only [max63]; omega)
  have hix := fun O x => index122 O F x (by simp only [max63]; omega)
  have hR : canR a F = ⟨a.alpha, F.length, cMk F a.marked F.length, cEd a.edges F a.alpha F.length⟩ := rfl
  rw [hR]
  clear hR c1 c2 c3 c4 hF
  obtain ⟨al, n, mk, es⟩ := a
  simp only at *
  refine aspec_stop [9, 14] Tk Tryz.func41 rfl Tryz.call41 Tryz.ntmps41 (Nat.le_of_ble_eq_true rfl) fun E => ?_
  refine g_run Tk Tryz.func41 ?_
  first | refine g_call Tk Tryz.func41 (hfo _) rfl rfl rfl rfl rfl ?_ | refine s_callq Tk (fun _ => hfo _) rfl rfl rfl ?_
  first | refine g_call Tk Tryz.func41 (hem _) rfl rfl rfl rfl rfl ?_ | refine s_callq Tk (fun _ => hem _) rfl rfl rfl ?_
  refine g_loop ?_
  refine rch_wk (wk_nilbox2 4 33 3 1 (pre := [ints al, ii F.length]) (post := [.i (.v (.slice none 0 0))]) rfl rfl rfl) ?_
  refine rch_wk (wk_nilbox2 4 68 79 3 (pre := [ints al, ii F.length, .osl 0 33]) (post := []) rfl rfl rfl) ?_
  refine rch_loop2 (fun i : Nat => [(1, .own 0 1 0 0), (2, .own 0 2 0 0), (3, ints F), (4, .own 0 4 0 0), (5, ii i)]) (fun i => [(1, .box [ints al, ii n, ints mk, edgs es]), (2, zBox), (4, .box [ints al, ii F.length, .osl 0 33, .osl 0 68]), (33, oints (cMk F mk i)), (68, oedgs (cEd es F al i))]) (fun _ => O) 71
    (fun i => i ≤ F.length) (fun i => F.length - i) 0 (Nat.zero_le _) ⟨rfl, rfl, rfl, rfl, rfl, trivial⟩ rfl ⟨rfl, rfl, rfl, rfl, rfl, trivial⟩ rfl rfl ?_
  intro i hi ih
  refine g_run Tk Tryz.func41 ?_
  first | refine g_cnd Tk Tryz.func41 rfl (fun g1 => ?_) (fun g1 => ?_) | refine g_know Tk Tryz.func41 rfl (fun g1 => ?_) (fun g1 => ?_) | refine s_know Tk (fun g1 => ?_) (fun g1 => ?_)
  · have h2 : i < F.length := by simpa using g1
    clear g1
    have hs0 : F[i]? = some F[i] := List.getElem?_eq_getElem h2
    have gs : (F.map fun x => [vi x])[(i : Int).toNat]? = some [vi F[i]] := get_mapZ (f := fun x => [vi x]) h2
    generalize F[i] = s at *
    have hm3 := cMk_succ (marked := mk) hs0
    have hml := cMk_len (F := F) (marked := mk) (i := i)
    have n1 : 0 ≤ (i : Int) ∧ (i : Int) < (F.length : Int) := by omega
    have hh1 := fun O => hho O s
    refine g_drawn Tk Tryz.func41 mixedT rfl ?_
    first | refine g_need Tk Tryz.func41 (by exact n1) ?_ | refine s_need Tk (by exact n1) ?_
    first | refine g_elem Tk Tryz.func41 (gs) ?_ | refine s_elem Tk (gs) ?_
    first | refine g_call Tk Tryz.func41 (hh1 _) rfl rfl rfl rfl rfl ?_ | refine s_callq Tk (fun _ => hh1 _) rfl rfl rfl ?_
    refine e_done Tk Tryz.func41 (by kernel_rfl) ?_
    apply join_p (P := True) (s6 := { σ := [(1, .own 0 1 0 0), (2, .own 0 2 0 0), (3, ints F), (4, .own 0 4 0 0), (5, ii i)], S := [(1, .box [ints al, ii n, ints mk, edgs es]), (2, zBox), (4, .box [ints al, ii F.length, .osl 0 33, .osl 0 68]), (33, oints (cMk F mk (i + 1))), (68, oedgs (cEd es F al i))] :: O, n := 71 })
    · intro J
      first | refine g_cnd Tk Tryz.func41 rfl (fun d1 => ?_) (fun d1 => ?_) | refine g_know Tk Tryz.func41 rfl (fun d1 => ?_) (fun d1 => ?_) | refine s_know Tk (fun d1 => ?_) (fun d1 => ?_)
      · have d1 : s ∈ mk := of_decide_eq_true d1
        rw [if_pos d1] at hm3
        first | refine g_need Tk Tryz.func41 (by exact ⟨by show ((cMk F mk i).length + 1) * 8 ≤ 140737488355328; omega, by show (cMk F mk i).length + 1 ≤ 9223372036854775807; omega⟩) ?_ | refine s_need Tk (by exact ⟨by show ((cMk F mk i).length + 1) * 8 ≤ 140737488355328; omega, by show (cMk F mk i).length + 1 ≤ 9223372036854775807; omega⟩) ?_
        refine g_stop ?_
        refine rch_meet (J trivial) ⟨rfl, rfl, rfl, rfl, rfl, trivial⟩ rfl ⟨rfl, rfl, rfl, ?_, rfl, trivial⟩ rfl rfl
        rw [hm3]
        exact congrArg some (oints_app (cMk F mk i) (i : Int))
      · have d1 : s ∉ mk := of_decide_eq_false d1
        rw [if_neg d1, List.append_nil] at hm3
        refine g_stop ?_
        refine rch_meet (J trivial) ⟨rfl, rfl, rfl, rfl, rfl, trivial⟩ rfl ⟨rfl, rfl, rfl, by rw [hm3]; rfl, rfl, trivial⟩ rfl rfl
    · intro _
      clear hm3 hml hh1
      have hE := cEd_succ (es := es) (al := al) hs0
      have hEl := cEd_len (es := es) (F := F) (i := i) hal
      have hst1 := fun O ev => hst O s ev
      refine g_run Tk Tryz.func41 ?_
      refine g_go Tk Tryz.func41 ?_
      refine g_loop ?_
      refine rch_loop2 (fun j : Nat => [(1, .own 0 1 0 0), (2, .own 0 2 0 0), (3, ints F), (4, .own 0 4 0 0), (5, ii i), (6, ii j)]) (fun j => [(1, .box [ints al, ii n, ints mk, edgs es]), (2, zBox), (4, .box [ints al, ii F.length, .osl 0 33, .osl 0 68]), (33, oints (cMk F mk (i + 1))), (68, oedgs (cEd es F al i ++ (al.take j).filterMap (cOf es F i s)))]) (fun _ => O) 71
        (fun j => j ≤ al.length) (fun j => al.length - j) 0 (Nat.zero_le _) ⟨rfl, rfl, rfl, rfl, rfl, rfl, trivial⟩ rfl ⟨rfl, rfl, rfl, rfl, by show some (oedgs (cEd es F al i)) = some (oedgs (cEd es F al i ++ [])); rw [List.append_nil], trivial⟩ rfl rfl ?_
      intro j hj ih2
      refine g_run Tk Tryz.func41 ?_
      first | refine g_cnd Tk Tryz.func41 rfl (fun g2 => ?_) (fun g2 => ?_) | refine g_know Tk Tryz.func41 rfl (fun g2 => ?_) (fun g2 => ?_) | refine s_know Tk (fun g2 => ?_) (fun g2 => ?_)
      · have h3 : j < al.length := by simpa using g2
        clear g2
        have ga : (al.map fun x => [vi x])[(j : Int).toNat]? = some [vi al[j]] := get_mapZ (f := fun x => [vi x]) h3
        have htk : (al.take (j + 1)).filterMap (cOf es F i s) = (al.take j).filterMap (cOf es F i s) ++ [al[j]].filterMap (cOf es F i s) := by
          rw [List.take_succ_eq_append_getElem h3, List.filterMap_append]
        have hpl : ((al.take j).filterMap (cOf es F i s)).length ≤ 32 := Nat.le_trans (List.length_filterMap_le _ _) (by rw [List.length_take]; omega)
        have n2 : 0 ≤ (j : Int) ∧ (j : Int) < (al.length : Int) := by omega
        have hj1 : ii (IntKind.i64.wrap ((j : Int) + 1)) = ii ((j + 1 : Nat) : Int) := congrArg ii (wsucc (n := 1000001) (by omega) (by decide))
        generalize al[j] = ev at *
        have hst2 := fun O => hst1 O ev
        have hco : [ev].filterMap (cOf es F i s) = if 0 ≤ stp3 es s ev then [((i : Int), ev, idxI (stp3 es s ev) F 0)] else [] := by
          unfold cOf
          by_cases h : 0 ≤ stp3 es s ev <;> simp [h]
        rw [hco] at htk
        clear hco
        have hix1 := fun O => hix O (stp3 es s ev)
        generalize stp3 es s ev = t at *
        refine g_drawn Tk Tryz.func41 mixedT rfl ?_
        first | refine g_need Tk Tryz.func41 (by exact n1) ?_ | refine s_need Tk (by exact n1) ?_
        first | refine g_elem Tk Tryz.func41 (gs) ?_ | refine s_elem Tk (gs) ?_
        first | refine g_need Tk Tryz.func41 (by exact n2) ?_ | refine s_need Tk (by exact n2) ?_
        first | refine g_elem Tk Tryz.func41 (ga) ?_ | refine s_elem Tk (ga) ?_
        first | refine g_call Tk Tryz.func41 (hst2 _) rfl rfl rfl rfl rfl ?_ | refine s_callq Tk (fun _ => hst2 _) rfl rfl rfl ?_
        refine e_done Tk Tryz.func41 (by kernel_rfl) ?_
        first | refine g_cnd Tk Tryz.func41 rfl (fun d1 => ?_) (fun d1 => ?_) | refine g_know Tk Tryz.func41 rfl (fun d1 => ?_) (fun d1 => ?_) | refine s_know Tk (fun d1 => ?_) (fun d1 => ?_)
        · have d1 : t ≥ 0 := of_decide_eq_true d1
          rw [if_pos d1] at htk
          refine g_stop ?_
          refine g_run Tk Tryz.func41 ?_
          refine g_go Tk Tryz.func41 ?_
          refine g_drawn Tk Tryz.func41 mixedT rfl ?_
          first | refine g_need Tk Tryz.func41 (by exact n2) ?_ | refine s_need Tk (by exact n2) ?_
          first | refine g_elem Tk Tryz.func41 (ga) ?_ | refine s_elem Tk (ga) ?_
          first | refine g_call Tk Tryz.func41 (hix1 _) rfl rfl rfl rfl rfl ?_ | refine s_callq Tk (fun _ => hix1 _) rfl rfl rfl ?_
          refine e_tail Tk Tryz.func41 ([13, 14, 15]) (by kernel_rfl) (by kernel_rfl) ?_
          first | refine g_need Tk Tryz.func41 (by exact ⟨by show ((cEd es F al i ++ (al.take j).filterMap (cOf es F i s)).length + 1) * 24 ≤ 140737488355328; rw [List.length_append]; omega, by show (cEd es F al i ++ (al.take j).filterMap (cOf es F i s)).length + 1 ≤ 9223372036854775807; rw [List.length_append]; omega⟩) ?_ | refine s_need Tk (by exact ⟨by show ((cEd es F al i ++ (al.take j).filterMap (cOf es F i s)).length + 1) * 24 ≤ 140737488355328; rw [List.length_append]; omega, by show (cEd es F al i ++ (al.take j).filterMap (cOf es F i s)).length + 1 ≤ 9223372036854775807; rw [List.length_append]; omega⟩) ?_
          refine g_loop ?_
          refine ih2 (j + 1) _ _ h3 (by omega) ⟨rfl, rfl, rfl, rfl, rfl, hj1, trivial⟩ rfl ⟨rfl, rfl, rfl, rfl, ?_, trivial⟩ rfl rfl
          rw [htk, ← List.append_assoc]
          exact congrArg some (oedgs_app (cEd es F al i ++ (al.take j).filterMap (cOf es F i s)) ((i : Int), ev, idxI t F 0))
        · have d1 : ¬ t ≥ 0 := of_decide_eq_false d1
          rw [if_neg d1, List.append_nil] at htk
          refine g_loop ?_
          refine ih2 (j + 1) _ _ h3 (by omega) ⟨rfl, rfl, rfl, rfl, rfl, hj1, trivial⟩ rfl ⟨rfl, rfl, rfl, rfl, by rw [htk]; rfl, trivial⟩ rfl rfl
      · have h3 : al.length ≤ j := by simpa using g2
        refine g_loop ?_
        refine ih (i + 1) _ _ h2 (by omega) ⟨rfl, rfl, rfl, rfl, congrArg ii (wsucc (n := 5000) (by omega) (by decide)), trivial⟩ rfl ⟨rfl, rfl, rfl, rfl, ?_, trivial⟩ rfl rfl
        show some (oedgs (cEd es F al i ++ (al.take j).filterMap (cOf es F i s))) = _
        rw [List.take_of_length_le h3, hE]
  · have h2 : F.length ≤ i := by simpa using g1
    obtain rfl : i = F.length := by omega
    refine g_rwk (wk_freeze 33 rfl rfl) ?_
    refine g_rwk (wk_freeze 68 rfl rfl) ?_
    refine g_rwk (wk_imm rfl) ?_
    refine g_ret Tk (r := autD ⟨al, F.length, cMk F mk F.length, cEd es F al F.length⟩) rfl rfl rfl trivial rfl rfl ?_
    rfl
end Go.AI


namespace Go.AI
open Go.Proofs
set_option maxRecDepth 20000
abbrev u8D (x : Int) : D := .i (.v (.int .u8 x))
abbrev grC (gs gm : Int) (gt : Nat → Int) : List D := [u8D gs, u8D gm, u8D (gt 0), u8D (gt 1), u8D (gt 2), u8D (gt 3), u8D (gt 4), u8D (gt 5), u8D (gt 6), u8D (gt 7), u8D (gt 8), u8D (gt 9), u8D (gt 10), u8D (gt 11), u8D (gt 12), u8D (gt 13), u8D (gt 14), u8D (gt 15), u8D (gt 16), u8D (gt 17), u8D (gt 18), u8D (gt 19), u8D (gt 20), u8D (gt 21), u8D (gt 22), u8D (gt 23), u8D (gt 24)]
def bitP (b : Int) (i : Nat) : Bool := bits BinOp.and IntKind.u8 (b / 2 ^ Int.toNat (i : Int)) 1 == 1
def rawM (b : Int) (n : Nat) : List Int := ((List.range n).filter fun i => bitP b i).map fun (i : Nat) => (i : Int)
theorem rawM_succ (b : Int) (n : Nat) : rawM b (n + 1) = rawM b n ++ if bitP b n = true then [(n : Int)] else [] := by
  unfold rawM
  rw [List.range_succ, List.filter_append, List.map_append]
  congr 1
  by_cases h : bitP b n = true <;> simp [h]
theorem rawM_len (b : Int) (n : Nat) : (rawM b n).length ≤ n := by
  unfold rawM
  rw [List.length_map]
  exact Nat.le_trans (List.length_filter_le _ _) (by simp)
abbrev evsOf (b : Int) : List Int := rawM b 5
theorem events13 (O : List Heap) (b : Int) : ASpec Tryz.prog 13 [u8D b] O (ints (evsOf b)) [] O := by
  refine aspec_stop [7] Tk Tryz.func13 rfl Tryz.call13 Tryz.ntmps13 (Nat.le_of_ble_eq_true rfl) fun E => ?_
  refine g_run Tk Tryz.func13 ?_
  refine g_loop ?_
  refine rch_wk (wk_nil 3 17 3 1 rfl rfl rfl) ?_
  refine rch_loop2 (fun i : Nat => [(0, u8D b), (3, .osl 0 17), (4, ii i)]) (fun i => [(17, oints (rawM b i))]) (fun _ => O) 19
    (fun i => i ≤ 5) (fun i => 5 - i) 0 (Nat.zero_le _) ⟨rfl, rfl, rfl, trivial⟩ rfl ⟨rfl, trivial⟩ rfl rfl ?_
  intro i hi ih
  have hj1 : ii (IntKind.i64.wrap ((i : Int) + 1)) = ii ((i + 1 : Nat) : Int) := congrArg ii (wsucc (n := 1000001) (by omega) (by decide))
  have hs := rawM_succ b i
  have hl := rawM_len b i
  refine g_run Tk Tryz.func13 ?_
  first | refine g_cnd Tk Tryz.func13 rfl (fun g1 => ?_) (fun g1 => ?_) | refine g_know Tk Tryz.func13 rfl (fun g1 => ?_) (fun g1 => ?_) | refine s_know Tk (fun g1 => ?_) (fun g1 => ?_)
  · have g1 : (i : Int) < 5 := of_decide_eq_true g1
    first | refine g_need Tk Tryz.func13 (by exact ⟨by omega, by show (i : Int) ≤ (8 : Nat); omega⟩) ?_ | refine s_need Tk (by exact ⟨by omega, by show (i : Int) ≤ (8 : Nat); omega⟩) ?_
    first | refine g_cnd Tk Tryz.func13 rfl (fun g2 => ?_) (fun g2 => ?_) | refine g_know Tk Tryz.func13 rfl (fun g2 => ?_) (fun g2 => ?_) | refine s_know Tk (fun g2 => ?_) (fun g2 => ?_)
    · have g2 : bitP b i = true := g2
      rw [if_pos g2] at hs
      first | refine g_need Tk Tryz.func13 (by exact ⟨by show ((rawM b i).length + 1) * 8 ≤ 140737488355328; omega, by show (rawM b i).length + 1 ≤ 9223372036854775807; omega⟩) ?_ | refine s_need Tk (by exact ⟨by show ((rawM b i).length + 1) * 8 ≤ 140737488355328; omega, by show (rawM b i).length + 1 ≤ 9223372036854775807; omega⟩) ?_
      refine g_loop ?_
      refine ih (i + 1) _ _ (by omega) (by omega) ⟨rfl, rfl, hj1, trivial⟩ rfl ⟨?_, trivial⟩ rfl rfl
      rw [hs]
      exact congrArg some (oints_app (rawM b i) (i : Int))
    · have g2 : ¬ bitP b i = true := by intro h; exact absurd (g2.symm.trans h) (by decide)
      rw [if_neg g2, List.append_nil] at hs
      refine g_loop ?_
      exact ih (i + 1) _ _ (by omega) (by omega) ⟨rfl, rfl, hj1, trivial⟩ rfl ⟨by rw [hs]; rfl, trivial⟩ rfl rfl
  · have g1 : ¬ (i : Int) < 5 := of_decide_eq_false g1
    obtain rfl : i = 5 := by omega
    refine g_stop ?_
    refine rch_wk (wk_freeze 17 rfl rfl) ?_
    refine g_run Tk Tryz.func13 ?_
    refine g_go Tk Tryz.func13 ?_
    refine g_ret Tk (r := ints (evsOf b)) rfl rfl rfl trivial rfl rfl ?_
    rfl
def tgtV (x : Int) (n : Nat) : Int := (IntKind.i64.wrap x).tmod (IntKind.i64.wrap ((n : Int) + 2))
def rowE (gt : Nat → Int) (n i : Nat) (s : List Int) (k : Nat) : List Edg := (List.range k).filterMap fun k => match s[k]? with
  | some ev => if tgtV (gt (5 * i + k)) n < n then some ((i : Int), ev, tgtV (gt (5 * i + k)) n) else none
  | none => none
theorem rowE_succ {gt : Nat → Int} {n i : Nat} {s : List Int} {k : Nat} {ev : Int} (h : s[k]? = some ev) : rowE gt n i s (k + 1) = rowE gt n i s k ++ if tgtV (gt (5 * i + k)) n < n then [((i : Int), ev, tgtV (gt (5 * i + k)) n)] else [] := by
  unfold rowE
  rw [List.range_succ, List.filterMap_append]
  congr 1
  by_cases c : tgtV (gt (5 * i + k)) n < n <;> simp [h, c]
theorem rowE_len (gt : Nat → Int) (n i : Nat) (s : List Int) (k : Nat) : (rowE gt n i s k).length ≤ k := Nat.le_trans (List.length_filterMap_le _ _) (by simp)
def rawE (gt : Nat → Int) (n : Nat) (s : List Int) (i : Nat) : List Edg := (List.range i).flatMap fun i => rowE gt n i s s.length
theorem rawE_succ (gt : Nat → Int) (n : Nat) (s : List Int) (i : Nat) : rawE gt n s (i + 1) = rawE gt n s i ++ rowE gt n i s s.length := by
  unfold rawE
  rw [List.range_succ, List.flatMap_append]
  simp
theorem rawE_len (gt : Nat → Int) (n : Nat) (s : List Int) : ∀ i, (rawE gt n s i).length ≤ s.length * i
  | 0 => by simp [rawE]
  | i + 1 => by
    have := rawE_len gt n s i
    have := rowE_len gt n i s s.length
    rw [rawE_succ, List.length_append, Nat.mul_add, Nat.mul_one]
    omega
def rawN (gs : Int) : Nat := 1 + (gs % 5).toNat
def rawA (s : List Int) (gs gm : Int) (gt : Nat → Int) : Aut := ⟨s, rawN gs, rawM gm (rawN gs), rawE gt (rawN gs) s (rawN gs)⟩
def mkA (s : List Int) (gs gm : Int) (gt : Nat → Int) : Aut := if gs ≥ 250 then ⟨s, 0, [], []⟩ else canR (rawA s gs gm gt) (foundR (rawA s gs gm gt))
set_option maxHeartbeats 16000000 in
theorem make12 (O : List Heap) (s : List Int) (gs gm : Int) (gt : Nat → Int) (hsl : s.length ≤ 5) (hg0 : 0 ≤ gs) (hok : autOk (rawA s gs gm gt)) (hF : (foundR (rawA s gs gm gt)).length ≤ 4096) :
    ASpec Tryz.prog 12 [ints s, .agg (grC gs gm gt)] O (autD (mkA s gs gm gt)) [] O := by
  have hem := fun O => empty120 O s (by omega)
  have hcan := fun O => canonical58 O (rawA s gs gm gt) hok (by show (1 : Int) ≤ ((rawN gs : Nat) : Int); unfold rawN; omega) _ rfl hF
  have hn : IntKind.i64.wrap (1 + IntKind.i64.wrap (gs.tmod 5)) = ((rawN gs : Nat) : Int) := by
    rw [Int.tmod_eq_emod_of_nonneg hg0]
    have h1 : 0 ≤ gs % 5 ∧ gs % 5 < 5 := ⟨Int.emod_nonneg _ (by decide), Int.emod_lt_of_pos _ (by decide)⟩
    have w1 : IntKind.i64.wrap (gs % 5) = gs % 5 := w64 (by omega) (by omega)
    rw [w1, w64 (by omega) (by omega)]
    unfold rawN
    omega
  have hn5 : rawN gs ≤ 5 := by
    have h1 : 0 ≤ gs % 5 ∧ gs % 5 < 5 := ⟨Int.emod_nonneg _ (by decide), Int.emod_lt_of_pos _ (by decide)⟩
    unfold rawN
    omega
  unfold mkA
  refine aspec_stop [10, 13, 14, 16] Tk Tryz.func12 rfl Tryz.call12 Tryz.ntmps12 (Nat.le_of_ble_eq_true rfl) fun E => ?_
  refine g_run Tk Tryz.func12 ?_
  first | refine g_cnd Tk Tryz.func12 rfl (fun c1 => ?_) (fun c1 => ?_) | refine g_know Tk Tryz.func12 rfl (fun c1 => ?_) (fun c1 => ?_) | refine s_know Tk (fun c1 => ?_) (fun c1 => ?_)
  · rw [if_pos (of_decide_eq_true c1)]
    first | refine g_call Tk Tryz.func12 (hem _) rfl rfl rfl rfl rfl ?_ | refine s_callq Tk (fun _ => hem _) rfl rfl rfl ?_
    refine g_ret_co Tk (r := .agg [ints s, ii 0, .i (.v (.slice none 0 0)), .i (.v (.slice none 0 0))]) rfl rfl rfl trivial rfl rfl ?_
    repeat' (first | refine coD_tup ?_ | refine coD_agg ?_ | refine coD_i ?_ | refine CoDL.cons ?_ ?_ | exact CoDL.nil | exact coI_nil | refine coI_sl ?_ | refine CoLL.cons ?_ ?_ | exact CoLL.nil | refine CoL.cons ?_ ?_ | exact CoL.nil | exact CoI.refl _ | exact CoL.refl _ | exact CoLL.refl _ | exact CoDL.refl _ | exact CoD.refl _)
  rw [if_neg (of_decide_eq_false c1)]
  clear c1
  generalize canR (rawA s gs gm gt) (foundR (rawA s gs gm gt)) = R at *
  have hcan : ∀ O, ASpec Tryz.prog 41 [.agg [ints s, ii (rawN gs), ints (rawM gm (rawN gs)), edgs (rawE gt (rawN gs) s (rawN gs))]] O (autD R) [] O := hcan
  generalize rawN gs = n at *
  first | refine g_call Tk Tryz.func12 (hem _) rfl rfl rfl rfl rfl ?_ | refine s_callq Tk (fun _ => hem _) rfl rfl rfl ?_
  first | refine g_need Tk Tryz.func12 (by decide) ?_ | refine s_need Tk (by decide) ?_
  refine g_loop ?_
  refine rch_wk (wk_nilbox2 5 38 3 1 (pre := [ints s, ii _]) (post := [.i (.v (.slice none 0 0))]) rfl rfl rfl) ?_
  refine rch_wk (wk_nilbox2 5 75 79 3 (pre := [ints s, ii _, .osl 0 38]) (post := []) rfl rfl rfl) ?_
  refine rch_loop2 (fun i : Nat => [(0, ints s), (3, .own 0 3 0 0), (4, .own 0 4 0 0), (5, .own 0 5 0 0), (6, ii i)]) (fun i => [(3, .box (grC gs gm gt)), (4, zBox), (5, .box [ints s, ii n, .osl 0 38, .osl 0 75]), (38, oints (rawM gm i)), (75, oedgs (rawE gt n s i))]) (fun _ => O) 79
    (fun i => i ≤ n) (fun i => n - i) 0 (Nat.zero_le _) ⟨rfl, rfl, rfl, rfl, rfl, trivial⟩ rfl ⟨rfl, rfl, congrArg (fun z => some (Ob.box [ints s, ii z, .osl 0 38, .osl 0 75])) hn, rfl, rfl, trivial⟩ rfl rfl ?_
  intro i hi ih
  have hi1 : ii (IntKind.i64.wrap ((i : Int) + 1)) = ii ((i + 1 : Nat) : Int) := congrArg ii (wsucc (n := 1000001) (by omega) (by decide))
  refine g_run Tk Tryz.func12 ?_
  first | refine g_cnd Tk Tryz.func12 rfl (fun g1 => ?_) (fun g1 => ?_) | refine g_know Tk Tryz.func12 rfl (fun g1 => ?_) (fun g1 => ?_) | refine s_know Tk (fun g1 => ?_) (fun g1 => ?_)
  · have h2 : i < n := by simpa using g1
    clear g1
    have hm3 := rawM_succ gm i
    have hml := rawM_len gm i
    first | refine g_need Tk Tryz.func12 (by exact ⟨by omega, by show (i : Int) ≤ (8 : Nat); omega⟩) ?_ | refine s_need Tk (by exact ⟨by omega, by show (i : Int) ≤ (8 : Nat); omega⟩) ?_
    apply join_p (P := True) (s6 := { σ := [(0, ints s), (3, .own 0 3 0 0), (4, .own 0 4 0 0), (5, .own 0 5 0 0), (6, ii i)], S := [(3, .box (grC gs gm gt)), (4, zBox), (5, .box [ints s, ii n, .osl 0 38, .osl 0 75]), (38, oints (rawM gm (i + 1))), (75, oedgs (rawE gt n s i))] :: O, n := 79 })
    · intro J
      first | refine g_cnd Tk Tryz.func12 rfl (fun d1 => ?_) (fun d1 => ?_) | refine g_know Tk Tryz.func12 rfl (fun d1 => ?_) (fun d1 => ?_) | refine s_know Tk (fun d1 => ?_) (fun d1 => ?_)
      · have d1 : bitP gm i = true := d1
        rw [if_pos d1] at hm3
        first | refine g_need Tk Tryz.func12 (by exact ⟨by show ((rawM gm i).length + 1) * 8 ≤ 140737488355328; omega, by show (rawM gm i).length + 1 ≤ 9223372036854775807; omega⟩) ?_ | refine s_need Tk (by exact ⟨by show ((rawM gm i).length + 1) * 8 ≤ 140737488355328; omega, by show (rawM gm i).length + 1 ≤ 9223372036854775807; omega⟩) ?_
        refine g_stop ?_
        refine rch_meet (J trivial) ⟨rfl, rfl, rfl, rfl, rfl, trivial⟩ rfl ⟨rfl, rfl, rfl, ?_, rfl, trivial⟩ rfl rfl
        rw [hm3]
        exact congrArg some (oints_app (rawM gm i) (i : Int))
      · have d1 : ¬ bitP gm i = true := by intro h; exact absurd (d1.symm.trans h) (by decide)
        rw [if_neg d1, List.append_nil] at hm3
        refine g_stop ?_
        refine rch_meet (J trivial) ⟨rfl, rfl, rfl, rfl, rfl, trivial⟩ rfl ⟨rfl, rfl, rfl, by rw [hm3]; rfl, rfl, trivial⟩ rfl rfl
    intro _
    clear hm3 hml
    have hE := rawE_succ gt n s i
    have hEl := rawE_len gt n s i
    have hEl2 : s.length * i ≤ 5 * 5 := Nat.mul_le_mul hsl (by omega)
    refine g_run Tk Tryz.func12 ?_
    refine g_go Tk Tryz.func12 ?_
    refine g_loop ?_
    refine rch_loop2 (fun k : Nat => [(0, ints s), (3, .own 0 3 0 0), (4, .own 0 4 0 0), (5, .own 0 5 0 0), (6, ii i), (7, ii k)]) (fun k => [(3, .box (grC gs gm gt)), (4, zBox), (5, .box [ints s, ii n, .osl 0 38, .osl 0 75]), (38, oints (rawM gm (i + 1))), (75, oedgs (rawE gt n s i ++ rowE gt n i s k))]) (fun _ => O) 79
      (fun k => k ≤ s.length) (fun k => s.length - k) 0 (Nat.zero_le _) ⟨rfl, rfl, rfl, rfl, rfl, rfl, trivial⟩ rfl ⟨rfl, rfl, rfl, rfl, by show some (oedgs (rawE gt n s i)) = some (oedgs (rawE gt n s i ++ [])); rw [List.append_nil], trivial⟩ rfl rfl ?_
    intro k hk ih2
    refine g_run Tk Tryz.func12 ?_
    first | refine g_cnd Tk Tryz.func12 rfl (fun g2 => ?_) (fun g2 => ?_) | refine g_know Tk Tryz.func12 rfl (fun g2 => ?_) (fun g2 => ?_) | refine s_know Tk (fun g2 => ?_) (fun g2 => ?_)
    · have h3 : k < s.length := by simpa using g2
      clear g2
      first | refine g_cnd Tk Tryz.func12 rfl (fun g3 => ?_) (fun g3 => ?_) | refine g_know Tk Tryz.func12 rfl (fun g3 => ?_) (fun g3 => ?_) | refine s_know Tk (fun g3 => ?_) (fun g3 => ?_)
      rotate_left
      · have g3 : ¬ (k : Int) < 5 := of_decide_eq_false g3
        omega
      clear g3
      have ga : (s.map fun x => [vi x])[(k : Int).toNat]? = some [vi s[k]] := get_mapZ (f := fun x => [vi x]) h3
      have htk := rowE_succ (gt := gt) (n := n) (i := i) (List.getElem?_eq_getElem h3)
      have hpl := rowE_len gt n i s k
      have n2 : 0 ≤ (k : Int) ∧ (k : Int) < (s.length : Int) := by omega
      have hj1 : ii (IntKind.i64.wrap ((k : Int) + 1)) = ii ((k + 1 : Nat) : Int) := congrArg ii (wsucc (n := 1000001) (by omega) (by decide))
      generalize s[k] = ev at *
      have hnz : IntKind.i64.wrap ((n : Int) + 2) ≠ 0 := by rw [w64 (by omega) (by omega)]; omega
      apply join_p (P := True) (s6 := { σ := [(0, ints s), (3, .own 0 3 0 0), (4, .own 0 4 0 0), (5, .own 0 5 0 0), (6, ii i), (7, ii k), (8, ii (tgtV (gt (5 * i + k)) n))], S := [(3, .box (grC gs gm gt)), (4, zBox), (5, .box [ints s, ii n, .osl 0 38, .osl 0 75]), (38, oints (rawM gm (i + 1))), (75, oedgs (rawE gt n s i ++ rowE gt n i s k))] :: O, n := 79 })
      · intro J
        have hi5 : i = 0 ∨ i = 1 ∨ i = 2 ∨ i = 3 ∨ i = 4 := by omega
        have hk5 : k = 0 ∨ k = 1 ∨ k = 2 ∨ k = 3 ∨ k = 4 := by omega
        rcases hi5 with rfl | rfl | rfl | rfl | rfl <;> rcases hk5 with rfl | rfl | rfl | rfl | rfl <;>
          (refine g_go Tk Tryz.func12 ?_
           refine g_drawn Tk Tryz.func12 mixedT rfl ?_
           refine s_need Tk (by decide) ?_
           refine s_need Tk (by decide) ?_
           refine s_need Tk hnz ?_
           refine e_done Tk Tryz.func12 (by kernel_rfl) ?_
           refine g_stop ?_
           exact rch_meet (J trivial) ⟨rfl, rfl, rfl, rfl, rfl, rfl, rfl, trivial⟩ rfl ⟨rfl, rfl, rfl, rfl, rfl, trivial⟩ rfl rfl)
      intro _
      refine g_run Tk Tryz.func12 ?_
      refine g_go Tk Tryz.func12 ?_
      first | refine g_cnd Tk Tryz.func12 rfl (fun d1 => ?_) (fun d1 => ?_) | refine g_know Tk Tryz.func12 rfl (fun d1 => ?_) (fun d1 => ?_) | refine s_know Tk (fun d1 => ?_) (fun d1 => ?_)
      · have d1 : tgtV (gt (5 * i + k)) n < n := of_decide_eq_true d1
        rw [if_pos d1] at htk
        refine g_drawn Tk Tryz.func12 mixedT rfl ?_
        first | refine g_need Tk Tryz.func12 (by exact n2) ?_ | refine s_need Tk (by exact n2) ?_
        first | refine g_elem Tk Tryz.func12 (ga) ?_ | refine s_elem Tk (ga) ?_
        refine e_tail Tk Tryz.func12 ([10, 11, 12]) (by kernel_rfl) (by kernel_rfl) ?_
        first | refine g_need Tk Tryz.func12 (by exact ⟨by show ((rawE gt n s i ++ rowE gt n i s k).length + 1) * 24 ≤ 140737488355328; rw [List.length_append]; omega, by show (rawE gt n s i ++ rowE gt n i s k).length + 1 ≤ 9223372036854775807; rw [List.length_append]; omega⟩) ?_ | refine s_need Tk (by exact ⟨by show ((rawE gt n s i ++ rowE gt n i s k).length + 1) * 24 ≤ 140737488355328; rw [List.length_append]; omega, by show (rawE gt n s i ++ rowE gt n i s k).length + 1 ≤ 9223372036854775807; rw [List.length_append]; omega⟩) ?_
        refine g_loop ?_
        refine ih2 (k + 1) _ _ h3 (by omega) ⟨rfl, rfl, rfl, rfl, rfl, hj1, trivial⟩ rfl ⟨rfl, rfl, rfl, rfl, ?_, trivial⟩ rfl rfl
        rw [htk, ← List.append_assoc]
        exact congrArg some (oedgs_app (rawE gt n s i ++ rowE gt n i s k) ((i : Int), ev, tgtV (gt (5 * i + k)) n))
      · have d1 : ¬ tgtV (gt (5 * i + k)) n < n := of_decide_eq_false d1
        rw [if_neg d1, List.append_nil] at htk
        refine g_loop ?_
        exact ih2 (k + 1) _ _ h3 (by omega) ⟨rfl, rfl, rfl, rfl, rfl, hj1, trivial⟩ rfl ⟨rfl, rfl, rfl, rfl, by rw [htk]; rfl, trivial⟩ rfl rfl
    · have h3 : s.length ≤ k := by simpa using g2
      have hk2 : k = s.length := by omega
      repeat (first | refine gcT Tk Tryz.func12 rfl ?_ | refine gkT Tk Tryz.func12 rfl ?_ | refine skT Tk ?_ | refine gcF Tk Tryz.func12 rfl ?_ | refine gkF Tk Tryz.func12 rfl ?_ | refine skF Tk ?_)
      refine g_loop ?_
      refine ih (i + 1) _ _ h2 (by omega) ⟨rfl, rfl, rfl, rfl, hi1, trivial⟩ rfl ⟨rfl, rfl, rfl, rfl, ?_, trivial⟩ rfl rfl
      show some (oedgs (rawE gt n s i ++ rowE gt n i s k)) = _
      rw [hk2, hE]
  · have h2 : n ≤ i := by simpa using g1
    obtain rfl : i = n := by omega
    refine g_stop ?_
    refine rch_wk (wk_freeze 38 rfl rfl) ?_
    refine rch_wk (wk_freeze 75 rfl rfl) ?_
    refine rch_wk (wk_imm rfl) ?_
    refine g_run Tk Tryz.func12 ?_
    refine g_go Tk Tryz.func12 ?_
    first | refine g_call Tk Tryz.func12 (hcan _) rfl rfl rfl rfl rfl ?_ | refine s_callq Tk (fun _ => hcan _) rfl rfl rfl ?_
    refine g_ret Tk (r := autD R) rfl rfl rfl trivial rfl rfl ?_
    rfl
end Go.AI


namespace Go.AI
theorem chkA_of {a : Aut} (h1 : checkSet 32 a.alpha none = 0) (h2 : 0 ≤ a.states ∧ a.states ≤ 4096) (h3 : checkSet a.states a.marked none = 0) (h4 : chkEds a.alpha a.states none a.edges = 0) : chkA a = 0 := by
  unfold chkA
  rw [if_neg (by rw [h1]; simp), if_neg (by omega), if_neg (by omega)]
  first
    | (rw [if_neg (by rw [h3]; simp)]; exact h4)
    | (simp only [h3, h4]; simp)
theorem rows_lt {f : Nat → List Edg} (h1 : ∀ i, ∀ x ∈ f i, x.1 = (i : Int)) (h2 : ∀ i, (f i).Pairwise fun x y => x.2.1 < y.2.1) : ∀ n, ((List.range n).flatMap f).Pairwise ltE
  | 0 => by simp
  | n + 1 => by
    rw [List.range_succ, List.flatMap_append, List.pairwise_append]
    refine ⟨rows_lt h1 h2 n, ?_, ?_⟩
    · rw [List.flatMap_cons, List.flatMap_nil, List.append_nil]
      have : (f n).Pairwise fun x y => (x ∈ f n ∧ y ∈ f n) ∧ x.2.1 < y.2.1 := List.Pairwise.imp_of_mem (fun {a b} ha hb h => ⟨⟨ha, hb⟩, h⟩) (h2 n)
      exact this.imp fun {x y} h => .inr ⟨by rw [h1 n x h.1.1, h1 n y h.1.2], h.2⟩
    · intro x hx y hy
      obtain ⟨i, hi, hx⟩ := List.mem_flatMap.1 hx
      rw [List.flatMap_cons, List.flatMap_nil, List.append_nil] at hy
      have := List.mem_range.1 hi
      exact .inl (by rw [h1 i x hx, h1 n y hy]; omega)
theorem rawM_ok (b : Int) (n : Nat) : (rawM b n).Pairwise (· < ·) ∧ ∀ x ∈ rawM b n, 0 ≤ x ∧ x < (n : Int) := by
  unfold rawM
  refine ⟨?_, fun x hx => ?_⟩
  · rw [List.pairwise_map]
    have : (List.range n).Pairwise (· < ·) := List.pairwise_lt_range
    exact (this.filter _).imp fun {a b} h => by omega
  · obtain ⟨i, hi, rfl⟩ := List.mem_map.1 hx
    have := List.mem_range.1 (List.mem_filter.1 hi).1
    omega
theorem tgtV_nn {x : Int} {n : Nat} (hx : 0 ≤ x ∧ x ≤ 255) (hn : n ≤ 5) : 0 ≤ tgtV x n := by
  unfold tgtV
  rw [w64 (by omega) (by omega), w64 (by omega) (by omega)]
  exact Int.tmod_nonneg _ hx.1
theorem rawN_b (gs : Int) : 1 ≤ rawN gs ∧ rawN gs ≤ 5 := by
  have h1 : 0 ≤ gs % 5 ∧ gs % 5 < 5 := ⟨Int.emod_nonneg _ (by decide), Int.emod_lt_of_pos _ (by decide)⟩
  unfold rawN
  omega
theorem mem_rowE {gt : Nat → Int} {n i : Nat} {s : List Int} {k : Nat} {x : Edg} (h : x ∈ rowE gt n i s k) : ∃ j, j < k ∧ ∃ ev, s[j]? = some ev ∧ tgtV (gt (5 * i + j)) n < n ∧ x = ((i : Int), ev, tgtV (gt (5 * i + j)) n) := by
  unfold rowE at h
  obtain ⟨j, hj, hx⟩ := List.mem_filterMap.1 h
  refine ⟨j, List.mem_range.1 hj, ?_⟩
  cases hs : s[j]? with
  | none => rw [hs] at hx; cases hx
  | some ev =>
    rw [hs] at hx
    by_cases c : tgtV (gt (5 * i + j)) n < n
    · simp only [c, if_true, Option.some.injEq] at hx
      exact ⟨ev, rfl, c, hx.symm⟩
    · simp only [c, if_false] at hx
      cases hx
theorem raw_ok {s : List Int} {gs gm : Int} {gt : Nat → Int} (hs : s.Pairwise (· < ·)) (hr : ∀ x ∈ s, 0 ≤ x ∧ x < 32) (hsl : s.length ≤ 5) (hg : ∀ j, 0 ≤ gt j ∧ gt j ≤ 255) : autOk (rawA s gs gm gt) := by
  obtain ⟨n1, n5⟩ := rawN_b gs
  have hm := rawM_ok gm (rawN gs)
  have hml := rawM_len gm (rawN gs)
  have hel := rawE_len gt (rawN gs) s (rawN gs)
  have hel2 : s.length * rawN gs ≤ 5 * 5 := Nat.mul_le_mul hsl n5
  refine ⟨by show (rawE gt (rawN gs) s (rawN gs)).length ≤ 1000000; omega, by show s.length ≤ 1000000; omega, by show (rawM gm (rawN gs)).length ≤ 1000000; omega, chkA_of ?_ ?_ ?_ ?_⟩
  · exact checkSet_of hs hr (fun y e => by cases e)
  · show (0 : Int) ≤ ((rawN gs : Nat) : Int) ∧ ((rawN gs : Nat) : Int) ≤ 4096
    omega
  · exact checkSet_of hm.1 hm.2 (fun y e => by cases e)
  · refine chkEds_of ?_ ?_ (fun y e => by cases e)
    · refine rows_lt (fun i x hx => ?_) (fun i => ?_) _
      · obtain ⟨j, _, ev, _, _, rfl⟩ := mem_rowE hx
        rfl
      · unfold rowE
        have hrg : (List.range s.length).Pairwise (· < ·) := List.pairwise_lt_range
        refine List.Pairwise.filterMap _ (fun a b hab x hx y hy => ?_) hrg
        have hget : ∀ {a : Nat} {x : Edg}, (match s[a]? with
            | some ev => if tgtV (gt (5 * i + a)) (rawN gs) < (rawN gs : Int) then some ((i : Int), ev, tgtV (gt (5 * i + a)) (rawN gs)) else none
            | none => none) = some x → s[a]? = some x.2.1 := by
          intro a x hx
          cases hs : s[a]? with
          | none => rw [hs] at hx; cases hx
          | some ev =>
            rw [hs] at hx
            by_cases c : tgtV (gt (5 * i + a)) (rawN gs) < (rawN gs : Int)
            · simp only [c, if_true, Option.some.injEq] at hx
              rw [← hx]
            · simp only [c, if_false] at hx
              cases hx
        have hx := hget hx
        have hy := hget hy
        obtain ⟨ha, ha2⟩ := List.getElem?_eq_some_iff.1 hx
        obtain ⟨hb, hb2⟩ := List.getElem?_eq_some_iff.1 hy
        rw [← ha2, ← hb2]
        exact List.pairwise_iff_getElem.1 hs a b ha hb hab
    · intro x hx
      obtain ⟨i, hi, hx⟩ := List.mem_flatMap.1 hx
      have hi := List.mem_range.1 hi
      obtain ⟨j, _, ev, he, ht, rfl⟩ := mem_rowE hx
      have := tgtV_nn (hg (5 * i + j)) n5
      refine ⟨⟨by simp only; omega, ?_⟩, ⟨this, ht⟩, List.mem_of_getElem? he⟩
      show (i : Int) < ((rawN gs : Nat) : Int)
      omega
theorem fvis_ok {es : List Edg} {s n : Int} (hes : ∀ x ∈ es, 0 ≤ x.2.2 ∧ x.2.2 < n) : ∀ {al out : List Int}, fOk n out → fOk n (fvis es s al out)
  | [], out, h => h
  | ev :: r, out, h => by
    simp only [fvis]
    split
    · rename_i c
      refine fvis_ok hes (fOk_app h ?_ c.2)
      rcases stp3_b (n := n) (es := es) (s := s) (ev := ev) hes with h1 | h1
      · rw [h1] at c; exact absurd c.1 (by decide)
      · exact h1
    · exact fvis_ok hes h
theorem fvis_pre {es : List Edg} {s : Int} : ∀ {al out : List Int}, out <+: fvis es s al out
  | [], out => List.prefix_refl _
  | ev :: r, out => by
    simp only [fvis]
    split
    · exact (List.prefix_append _ _).trans fvis_pre
    · exact fvis_pre
theorem fvis_has {es : List Edg} {s : Int} : ∀ {al out : List Int} {ev : Int}, ev ∈ al → 0 ≤ stp3 es s ev → stp3 es s ev ∈ fvis es s al out
  | e :: r, out, ev, h, c => by
    simp only [fvis]
    rcases List.mem_cons.1 h with rfl | h
    · by_cases c2 : stp3 es s ev ∈ out
      · rw [if_neg (fun h => h.2 c2)]
        exact fvis_pre.subset c2
      · rw [if_pos ⟨c, c2⟩]
        exact fvis_pre.subset (by simp)
    · exact fvis_has h c
theorem fndL_ok {es : List Edg} {al : List Int} {n : Nat} (hn : 1 ≤ n) (hes : ∀ x ∈ es, 0 ≤ x.2.2 ∧ x.2.2 < (n : Int)) {N : Nat} (hN : n < N) : ∀ (f i : Nat) (out : List Int), f + i = N → i ≤ out.length → fOk n out → (∀ s ∈ out.take i, ∀ ev ∈ al, 0 ≤ stp3 es s ev → stp3 es s ev ∈ out) →
    fOk n (fndL es al f i out) ∧ (∀ s ∈ fndL es al f i out, ∀ ev ∈ al, 0 ≤ stp3 es s ev → stp3 es s ev ∈ fndL es al f i out) ∧ out <+: fndL es al f i out
  | 0, i, out, hf, hi, h, _ => by
    rcases fOk_len h with h1 | h1
    · omega
    · rw [h1] at hi
      simp at hi
      omega
  | f + 1, i, out, hf, hi, h, hc => by
    simp only [fndL]
    cases hg : out[i]? with
    | none =>
      have : out.length ≤ i := by
        rcases Nat.lt_or_ge i out.length with h1 | h1
        · rw [List.getElem?_eq_getElem h1] at hg; cases hg
        · exact h1
      rw [List.take_of_length_le this] at hc
      exact ⟨h, hc, List.prefix_refl _⟩
    | some s =>
      have hlt : i < out.length := (List.getElem?_eq_some_iff.1 hg).1
      have hp := fvis_pre (es := es) (s := s) (al := al) (out := out)
      obtain ⟨r, hr⟩ := hp
      have htk : (fvis es s al out).take (i + 1) = out.take i ++ [s] := by
        rw [← hr, List.take_append_of_le_length (by omega), List.take_add_one, hg]; rfl
      obtain ⟨h1, h2, h3⟩ := fndL_ok hn hes hN f (i + 1) (fvis es s al out) (by omega) (by rw [← hr, List.length_append]; omega) (fvis_ok hes h) (fun t ht ev he c => by
        rw [htk, List.mem_append, List.mem_singleton] at ht
        rcases ht with ht | rfl
        · exact fvis_pre.subset (hc t ht ev he c)
        · exact fvis_has he c)
      exact ⟨h1, h2, fvis_pre.trans h3⟩
theorem found_ok {a : Aut} {n : Nat} (hst : a.states = n) (hn : 1 ≤ n ∧ n ≤ 4096) (hes : ∀ x ∈ a.edges, 0 ≤ x.2.2 ∧ x.2.2 < (n : Int)) :
    fOk n (foundR a) ∧ (∀ s ∈ foundR a, ∀ ev ∈ a.alpha, 0 ≤ stp3 a.edges s ev → stp3 a.edges s ev ∈ foundR a) ∧ [(0 : Int)] <+: foundR a :=
  fndL_ok hn.1 hes (N := 4097) (by omega) 4097 0 [0] rfl (by simp) ⟨by simp, fun x hx => by rw [List.mem_singleton] at hx; subst hx; constructor <;> omega⟩ (by simp)
theorem idxI_lt {t : Int} : ∀ {l : List Int} {i : Nat}, t ∈ l → (i : Int) ≤ idxI t l i ∧ idxI t l i < (i + l.length : Nat)
  | [], _, h => by simp at h
  | y :: r, i, h => by
    simp only [idxI]
    split
    · constructor
      · omega
      · simp only [List.length_cons]; omega
    · rename_i hne
      have hr : t ∈ r := by
        rcases List.mem_cons.1 h with rfl | h
        · simp at hne
        · exact h
      have := idxI_lt (i := i + 1) hr
      simp only [List.length_cons]
      constructor <;> omega
theorem can_ok {a : Aut} {n : Nat} (ha : autOk a) (hst : a.states = n) (hn : 1 ≤ n ∧ n ≤ 4096) : gAut (canR a (foundR a)) (foundR a).length ∧ (foundR a).length ≤ n := by
  obtain ⟨c1, c2, c3, c4⟩ := chk_parts ha.chk
  obtain ⟨_, eb, _⟩ := chkEds_sorted c4
  have hes : ∀ x ∈ a.edges, 0 ≤ x.2.2 ∧ x.2.2 < (n : Int) := fun x hx => by have := (eb x hx).2.1; rw [hst] at this; exact this
  obtain ⟨f1, f2, f3⟩ := found_ok hst hn hes
  have hal := checkSet_len (by decide) c1
  have hal : a.alpha.length ≤ 32 := by omega
  have hpw := (checkSet_sorted c1).1
  have hF : (foundR a).length ≤ n := by
    rcases fOk_len f1 with h | h
    · omega
    · rw [h]; simp
  generalize foundR a = F at *
  have hce := cEd_len (es := a.edges) (F := F) (al := a.alpha) (i := F.length) hal
  have hcm := cMk_len (F := F) (marked := a.marked) (i := F.length)
  refine ⟨⟨rfl, ⟨?_, ?_, ?_⟩, chkA_of c1 ?_ ?_ ?_⟩, hF⟩
  · show (cEd a.edges F a.alpha F.length).length ≤ 1000000
    omega
  · exact ha.al
  · show (cMk F a.marked F.length).length ≤ 1000000
    omega
  · show (0 : Int) ≤ (F.length : Int) ∧ (F.length : Int) ≤ 4096
    omega
  · show checkSet (F.length : Int) (cMk F a.marked F.length) none = 0
    unfold cMk
    refine checkSet_of ?_ (fun x hx => ?_) (fun y e => by cases e)
    · rw [List.pairwise_map]
      have : (List.range F.length).Pairwise (· < ·) := List.pairwise_lt_range
      exact (this.filter _).imp fun {a b} h => by omega
    · obtain ⟨i, hi, rfl⟩ := List.mem_map.1 hx
      have := List.mem_range.1 (List.mem_filter.1 hi).1
      omega
  · show chkEds a.alpha (F.length : Int) none (cEd a.edges F a.alpha F.length) = 0
    have hmem : ∀ {k : Nat} {x : Edg}, x ∈ (match F[k]? with
        | none => []
        | some s => a.alpha.filterMap (cOf a.edges F k s)) → ∃ s, F[k]? = some s ∧ x.1 = (k : Int) ∧ x.2.1 ∈ a.alpha ∧ 0 ≤ stp3 a.edges s x.2.1 ∧ x.2.2 = idxI (stp3 a.edges s x.2.1) F 0 := by
      intro k x hx
      cases hs : F[k]? with
      | none => rw [hs] at hx; cases hx
      | some s =>
        rw [hs] at hx
        obtain ⟨ev, he, hx⟩ := List.mem_filterMap.1 hx
        unfold cOf at hx
        by_cases c : 0 ≤ stp3 a.edges s ev
        · rw [if_pos c] at hx
          obtain rfl := Option.some.inj hx
          exact ⟨s, rfl, rfl, he, c, rfl⟩
        · rw [if_neg c] at hx; cases hx
    unfold cEd
    refine chkEds_of (rows_lt (fun i x hx => ?_) (fun i => ?_) _) (fun x hx => ?_) (fun y e => by cases e)
    · obtain ⟨_, _, h, _⟩ := hmem hx
      exact h
    · cases hs : F[i]? with
      | none => exact .nil
      | some s =>
        refine List.Pairwise.filterMap _ (fun p q hpq x hx y hy => ?_) hpw
        unfold cOf at hx hy
        by_cases cp : 0 ≤ stp3 a.edges s p
        · by_cases cq : 0 ≤ stp3 a.edges s q
          · rw [if_pos cp] at hx
            rw [if_pos cq] at hy
            obtain rfl := Option.some.inj hx
            obtain rfl := Option.some.inj hy
            exact hpq
          · rw [if_neg cq] at hy; cases hy
        · rw [if_neg cp] at hx; cases hx
    · obtain ⟨i, hi, hx⟩ := List.mem_flatMap.1 hx
      have hi := List.mem_range.1 hi
      obtain ⟨s, hs, h1, h2, h3, h4⟩ := hmem hx
      have h5 := f2 s (List.mem_of_getElem? hs) _ h2 h3
      have h6 := idxI_lt (i := 0) h5
      refine ⟨by rw [h1]; omega, ?_, h2⟩
      rw [h4]
      constructor
      · have := h6.1; omega
      · have := h6.2; omega
theorem mkA_ok {s : List Int} {gs gm : Int} {gt : Nat → Int} (hs : s.Pairwise (· < ·)) (hr : ∀ x ∈ s, 0 ≤ x ∧ x < 32) (hsl : s.length ≤ 5) (hg : ∀ j, 0 ≤ gt j ∧ gt j ≤ 255) :
    (autOk (rawA s gs gm gt) ∧ (foundR (rawA s gs gm gt)).length ≤ 4096) ∧ (∃ n, n ≤ 5 ∧ gAut (mkA s gs gm gt) n) ∧ (mkA s gs gm gt).alpha = s := by
  have hok := raw_ok (gs := gs) (gm := gm) hs hr hsl hg
  obtain ⟨n1, n5⟩ := rawN_b gs
  obtain ⟨h1, h2⟩ := can_ok hok (n := rawN gs) rfl ⟨n1, by omega⟩
  refine ⟨⟨hok, by omega⟩, ?_, ?_⟩
  · unfold mkA
    split
    · refine ⟨0, by omega, rfl, ⟨by simp, by simp only; omega, by simp⟩, chkA_of (checkSet_of hs hr (fun y e => by cases e)) ⟨by simp, by simp⟩ rfl rfl⟩
    · exact ⟨_, by omega, h1⟩
  · unfold mkA
    split <;> rfl
theorem evs_ok (b : Int) : (evsOf b).Pairwise (· < ·) ∧ (∀ x ∈ evsOf b, 0 ≤ x ∧ x < 32) ∧ (evsOf b).length ≤ 5 := by
  obtain ⟨h1, h2⟩ := rawM_ok b 5
  exact ⟨h1, fun x hx => by have := h2 x hx; omega, rawM_len b 5⟩
end Go.AI


namespace Go.AI
section
variable {S : Type} [DecidableEq S]
def runG (nx : S → Int → S) (ok : S → Bool) (evs : S → List Int) : S → List Int → Option S
  | x, [] => some x
  | x, ev :: w => if ev ∈ evs x ∧ ok (nx x ev) = true then runG nx ok evs (nx x ev) w else none
theorem runG_snoc {nx : S → Int → S} {ok : S → Bool} {evs : S → List Int} {ev : Int} : ∀ (w : List Int) (x0 x : S), runG nx ok evs x0 w = some x → ev ∈ evs x → ok (nx x ev) = true → runG nx ok evs x0 (w ++ [ev]) = some (nx x ev)
  | [], x0, x, h, h1, h2 => by
    simp only [runG, Option.some.injEq] at h
    subst h
    simp only [List.nil_append, runG]
    rw [if_pos ⟨h1, h2⟩]
  | e :: w, x0, x, h, h1, h2 => by
    simp only [runG] at h
    by_cases c : e ∈ evs x0 ∧ ok (nx x0 e) = true
    · rw [if_pos c] at h
      simp only [List.cons_append, runG]
      rw [if_pos c]
      exact runG_snoc w _ x h h1 h2
    · rw [if_neg c] at h; cases h
theorem bvis_run {nx : S → Int → S} {ok : S → Bool} {evs : S → List Int} {x0 : S} {x : S × List Int} (hx : runG nx ok evs x0 x.2 = some x.1) : ∀ {es : List Int} {l : List (S × List Int)}, (∀ ev ∈ es, ev ∈ evs x.1) → (∀ z ∈ l, runG nx ok evs x0 z.2 = some z.1) → ∀ z ∈ bvis nx ok x es l, runG nx ok evs x0 z.2 = some z.1
  | [], l, _, h => h
  | ev :: r, l, he, h => by
    simp only [bvis]
    refine bvis_run hx (fun e h => he e (by simp [h])) ?_
    split
    · rename_i c
      intro z hz
      rcases List.mem_append.1 hz with hz | hz
      · exact h z hz
      · rw [List.mem_singleton] at hz
        subst hz
        exact runG_snoc _ _ _ hx (he ev (by simp)) c.1
    · exact h
theorem bfull_run {nx : S → Int → S} {ok : S → Bool} {evs : S → List Int} {x0 : S} : ∀ (f i : Nat) (l : List (S × List Int)), (∀ z ∈ l, runG nx ok evs x0 z.2 = some z.1) → ∀ z ∈ bfull nx ok evs f i l, runG nx ok evs x0 z.2 = some z.1
  | 0, _, l, h => h
  | f + 1, i, l, h => by
    simp only [bfull]
    cases hi : l[i]? with
    | none => exact h
    | some x => exact bfull_run f (i + 1) _ (bvis_run (h x (List.mem_of_getElem? hi)) (fun _ h => h) h)
end
theorem clo_nil (es : List Edg) (p : Int → Bool) (n : Nat) : clo es p n [] = [] := by
  have : reachB es p n [] = [] := rlB_done (by simp) _
  unfold clo
  rw [this]
  refine List.eq_nil_iff_forall_not_mem.2 fun x hx => ?_
  have := (mem_sortedBelow.1 hx).2
  cases this
theorem nxt_nil (es : List Edg) (p : Int → Bool) (n : Nat) (ev : Int) : nxt es p n [] ev = [] := by
  unfold nxt
  have : tgtE es [] ev = [] := by simp [tgtE]
  rw [this, clo_nil]
end Go.AI


namespace Go.AI
end Go.AI


namespace Go.AI
open Go.Proofs
set_option maxRecDepth 20000
abbrev grOkB (gs : Int) (gt : Nat → Int) : Prop := 0 ≤ gs ∧ ∀ j, 0 ≤ gt j ∧ gt j ≤ 255
theorem opE_good {a : Aut} {on un : List Int} (h : chkA a = 0) (h1 : checkSet 32 on none = 0) (h2 : checkSet 32 un none = 0) : opE a on un = 0 := by
  unfold opE
  rw [if_neg (fun c => c h), if_neg (fun c => c h1), h2]
theorem evs_chk (b : Int) : checkSet 32 (evsOf b) none = 0 := checkSet_of (evs_ok b).1 (evs_ok b).2.1 (fun y e => by cases e)
end Go.AI


namespace Go.Proofs.YtmhllkmceipdcaaGreatDoor
open Go.ChangeShapes Go.WideShapes Go.ChangeAt Go.RowKit Go.Deep Go.WideElems
set_option maxRecDepth 100000
section
variable {H : Type} {enc : TypeId × Value → H} {P : Program} {W : World}
theorem okWide_array {r : Reach} {b0 n : Nat} {t e : TypeId} {v : Value} (ht : P.underlying t = some (.array n e)) (h : Value.okWide P W r b0 t v) : ∃ cs, v = .agg cs := by
  simp only [Value.okWide, ht] at h
  obtain ⟨cs, rfl, _⟩ := h
  exact ⟨cs, rfl⟩
theorem opn_arrayG {t e : TypeId} {m z : Nat} {R : List AI.I → Prop} (ht : P.underlying t = some (.array m e)) (hc : P.cellsOf e = z) (hct : P.cellsOf t = m * z) (he : Opn enc P W e R) :
    Opn enc P W t fun is => ∃ xs : List (List AI.I), xs.length = m ∧ is = xs.flatten ∧ ∀ x ∈ xs, R x := by
  intro n cs x h
  obtain ⟨xs, f, rfl, rfl, hl, hlen, hx⟩ := DataW.trod_array ht h
  rw [hct] at hl
  have build : ∀ k, k ≤ m → ∃ ys : List (List AI.I), ys.length = k ∧ AI.RepL (KW W) (cs.take (k * z)) ys.flatten ∧ ∀ y ∈ ys, R y := by
    intro k
    induction k with
    | zero => intro _; exact ⟨[], rfl, by rw [Nat.zero_mul, List.take_zero]; exact .nil, by simp⟩
    | succ k ih =>
      intro hk
      obtain ⟨ys, h1, h2, h3⟩ := ih (by omega)
      have h0 := hx k (by omega)
      rw [hc, List.getElem?_eq_getElem (by omega)] at h0
      obtain ⟨is, hr, hR⟩ := he _ _ _ h0
      refine ⟨ys ++ [is], by simp [h1], ?_, fun y hy => ?_⟩
      · rw [Nat.succ_mul, List.take_add, List.flatten_append]
        simpa using repL_app h2 hr
      · rcases List.mem_append.1 hy with hy | hy
        · exact h3 y hy
        · rw [List.mem_singleton] at hy
          subst hy
          exact hR
  obtain ⟨ys, h1, h2, h3⟩ := build m (Nat.le_refl _)
  rw [List.take_of_length_le (by omega)] at h2
  exact ⟨_, h2, ys, h1, rfl, h3⟩
theorem flat_u8 : ∀ {xs : List (List AI.I)}, (∀ x ∈ xs, ∃ zs : List Int, zs.length = 5 ∧ x = zs.map (fun z => AI.I.v (.int .u8 z)) ∧ ∀ z ∈ zs, (Lit.int .u8 z).wf = true) → ∃ L : List Int, L.length = 5 * xs.length ∧ xs.flatten = L.map (fun z => AI.I.v (.int .u8 z)) ∧ ∀ z ∈ L, 0 ≤ z ∧ z ≤ 255
  | [], _ => ⟨[], rfl, rfl, by simp⟩
  | x :: r, h => by
    obtain ⟨zs, h1, h2, h3⟩ := h x (by simp)
    obtain ⟨L, g1, g2, g3⟩ := flat_u8 (xs := r) fun y hy => h y (by simp [hy])
    refine ⟨zs ++ L, by rw [List.length_append, h1, g1, List.length_cons]; omega, by rw [List.flatten_cons, h2, g2, List.map_append], fun z hz => ?_⟩
    rcases List.mem_append.1 hz with hz | hz
    · exact wf_u8 (h3 z hz)
    · exact g3 z hz
end
section
variable {H : Type} {enc : TypeId × Value → H} {W : World}
theorem open_set2 {r : Reach} {b0 : Nat} {v : Value} {d : DataW H} {p : List MemPlace} (hv : Value.okWide Tryz.prog W r b0 45 v) (h : DataW.Trod enc Tryz.prog W 0 (fun _ => true) true 45 v d p) :
    ∃ b : Int × Int, True ∧ ∀ ρ sh, AI.RepD (KW W) ρ sh v (.agg [AI.u8D b.1, AI.u8D b.2]) := by
  obtain ⟨cs, rfl⟩ := okWide_array Tryz.underlying45 hv
  obtain ⟨n, hn⟩ := h
  obtain ⟨is, hr, zs, hz, rfl, _⟩ := opn_array Tryz.underlying45 Tryz.underlying22 (by kernel_rfl) (by kernel_rfl) n _ _ hn
  match zs, hz with
  | [x, y], _ =>
    refine ⟨(x, y), trivial, fun ρ sh => ?_⟩
    have := AI.RepD.agg (AI.RepDL.ofL (ρ := ρ) (sh := sh) hr)
    simpa [Value.cells] using this
theorem open_graph {r : Reach} {b0 : Nat} {v : Value} {d : DataW H} {p : List MemPlace} (hv : Value.okWide Tryz.prog W r b0 27 v) (h : DataW.Trod enc Tryz.prog W 0 (fun _ => true) true 27 v d p) :
    ∃ g : Int × Int × (Nat → Int), AI.grOkB g.1 g.2.2 ∧ ∀ ρ sh, AI.RepD (KW W) ρ sh v (.agg (AI.grC g.1 g.2.1 g.2.2)) := by
  obtain ⟨cs, rfl, _⟩ := okWide_struct Tryz.underlying27 hv
  obtain ⟨n, hn⟩ := h
  obtain ⟨is, hr, a, b, c, rfl, ⟨x, rfl, hx⟩, ⟨y, rfl, _⟩, ⟨xs, h5, rfl, hxs⟩⟩ := opn_struct3 Tryz.underlying27 (z0 := 1) (z1 := 1) (z2 := 25) (by kernel_rfl) (by kernel_rfl) (by kernel_rfl) (by kernel_rfl) rfl rfl rfl
    (opn_int Tryz.underlying5) (opn_int Tryz.underlying5) (opn_arrayG Tryz.underlying25 (z := 5) (by kernel_rfl) (by kernel_rfl) (opn_array Tryz.underlying24 Tryz.underlying5 (by kernel_rfl) (by kernel_rfl))) n _ _ hn
  obtain ⟨L, g1, g2, g3⟩ := flat_u8 hxs
  rw [h5] at g1
  rw [g2] at hr
  refine ⟨(x, y, fun j => L.getD j 0), ⟨(wf_u8 hx).1, fun j => ?_⟩, fun ρ sh => ?_⟩
  · show 0 ≤ L.getD j 0 ∧ L.getD j 0 ≤ 255
    rw [List.getD_eq_getElem?_getD]
    cases hj : L[j]? with
    | none => exact ⟨by decide, by decide⟩
    | some z => exact g3 z (List.mem_of_getElem? hj)
  · have := AI.RepD.agg (AI.RepDL.ofL (ρ := ρ) (sh := sh) hr)
    match L, g1 with
    | [a0, a1, a2, a3, a4, a5, a6, a7, a8, a9, a10, a11, a12, a13, a14, a15, a16, a17, a18, a19, a20, a21, a22, a23, a24], _ => exact (by simpa [Value.cells] using this : AI.RepD (KW W) ρ sh (.agg cs) (.agg [AI.u8D x, AI.u8D y, AI.u8D a0, AI.u8D a1, AI.u8D a2, AI.u8D a3, AI.u8D a4, AI.u8D a5, AI.u8D a6, AI.u8D a7, AI.u8D a8, AI.u8D a9, AI.u8D a10, AI.u8D a11, AI.u8D a12, AI.u8D a13, AI.u8D a14, AI.u8D a15, AI.u8D a16, AI.u8D a17, AI.u8D a18, AI.u8D a19, AI.u8D a20, AI.u8D a21, AI.u8D a22, AI.u8D a23, AI.u8D a24]))
end
end Go.Proofs.YtmhllkmceipdcaaGreatDoor


namespace Go.AI
end Go.AI


namespace Go.AI
end Go.AI


namespace Go.AI
section
variable {S : Type} [DecidableEq S]
theorem bfull_closed {V : List S} {nx : S → Int → S} {ok : S → Bool} {evs : S → List Int} (hv : ∀ x ∈ V, ∀ ev ∈ evs x, ok (nx x ev) = true → nx x ev ∈ V) {N : Nat} (hN : V.length < N) : ∀ (f i : Nat) (l : List (S × List Int)), f + i = N → i ≤ l.length → bOk V l →
    (∀ z ∈ l.take i, ∀ ev ∈ evs z.1, ok (nx z.1 ev) = true → ∃ w ∈ l, w.1 = nx z.1 ev) → ∀ z ∈ bfull nx ok evs f i l, ∀ ev ∈ evs z.1, ok (nx z.1 ev) = true → ∃ w ∈ bfull nx ok evs f i l, w.1 = nx z.1 ev
  | 0, i, l, hf, hi, h, _ => by
    have := bOk_len h
    omega
  | f + 1, i, l, hf, hi, h, hc => by
    simp only [bfull]
    cases hg : l[i]? with
    | none =>
      have : l.length ≤ i := by
        rcases Nat.lt_or_ge i l.length with h1 | h1
        · rw [List.getElem?_eq_getElem h1] at hg; cases hg
        · exact h1
      rw [List.take_of_length_le this] at hc
      exact hc
    | some x =>
      have hlt : i < l.length := (List.getElem?_eq_some_iff.1 hg).1
      have hx : x.1 ∈ V := h.el x (List.mem_of_getElem? hg)
      have hp := bvis_pre nx ok x (evs x.1) l
      obtain ⟨r, hr⟩ := hp
      have htk : (bvis nx ok x (evs x.1) l).take (i + 1) = l.take i ++ [x] := by
        rw [← hr, List.take_append_of_le_length (by omega), List.take_add_one, hg]; rfl
      refine bfull_closed hv hN f (i + 1) _ (by omega) (by rw [← hr, List.length_append]; omega) (bvis_ok (hv x.1 hx) h hg) fun z hz ev he c => ?_
      rw [htk, List.mem_append, List.mem_singleton] at hz
      rcases hz with hz | rfl
      · obtain ⟨w, hw, e⟩ := hc z hz ev he c
        exact ⟨w, (bvis_pre nx ok x (evs x.1) l).subset hw, e⟩
      · exact bvis_has he c
end
def mrk (a : Aut) (n : Nat) (i : Int) : Bool := marksR a (clo a.edges (lowP [] [] false) n [i])
end Go.AI


namespace Go.AI
end Go.AI


namespace Go.AI
theorem nxtL_nil (es : List Edg) (p : Int → Bool) (n : Nat) : ∀ t : List Int, nxtL es p n [] t = []
  | [] => rfl
  | ev :: r => by
    show nxtL es p n (nxt es p n [] ev) r = []
    rw [nxt_nil]
    exact nxtL_nil es p n r
end Go.AI
