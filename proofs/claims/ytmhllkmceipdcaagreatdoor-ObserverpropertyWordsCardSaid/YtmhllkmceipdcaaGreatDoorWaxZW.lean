/- The layer of abstract runs, part 49. -/
import Derived.Test.YtmhllkmceipdcaaGreatDoorWaxZV
import Derived.Test.YtmhllkmceipdcaaGreatDoorTie
import Derived.Test.YtmhllkmceipdcaaGreatDoorCards
import Derived.ProofKit
import Derived.LaidMore
import Derived.OpenShut
import Derived.Lay
import Derived.SevenTiedAt
import Derived.Stop.Joined
import Derived.Stop.LaidErr
import Derived.Lib.LaidTab
import Derived.WideKeyArgs
import Derived.Lib.SmallJoins
import Derived.Deep.Slices
set_option linter.unusedSimpArgs false
set_option linter.unusedVariables false
set_option linter.all false

/- observerproperty: Extend. -/
namespace Go.AI
open Go.Proofs
set_option maxRecDepth 20000
theorem kept46o (O : List Heap) (a : Aut) (on un : List Int) (R : List (List Edg)) (hal : a.alpha.length ≤ 1000000) (hl : on.length ≤ max63) : ASpec Tryz.prog 46 [.i (vptr a on un R)] O (.osl 0 63) [(63, oints (keptR a on))] O := by
  have e : keptR a on = a.alpha.filter fun x => !(!decide (x ∈ on)) := by simp [keptR]
  rw [e]
  refine aspec_stop [200010] Tk Tryz.func46 rfl Tryz.call46 Tryz.ntmps46 (Nat.le_of_ble_eq_true rfl) fun E => ?_
  refine g_run Tk Tryz.func46 ?_
  first | refine g_elem Tk Tryz.func46 (rfl) ?_ | refine s_elem Tk (rfl) ?_
  first | refine g_call Tk Tryz.func46 (clone57 63 _ a.alpha (by simp only [big]; omega)) rfl rfl rfl rfl rfl ?_ | refine s_callq Tk (fun _ => clone57 63 _ a.alpha (by simp only [big]; omega)) rfl rfl rfl ?_
  refine g_callP Tk Tryz.func46 rfl rfl rfl rfl (does_delF (R := [(1, .box [.i (vptr a on un R)])]) (B := .box [.i (vptr a on un R)]) rfl (fun x => !decide (x ∈ on)) hal (by decide) rfl rfl (fun x _ d O ho => kept87 O x d 1 a on un R hl ho) rfl (show 10 < 11 by decide) rfl) ?_
  exact ⟨m_ret' (hT := Tk) (r := .osl 0 63) rfl rfl rfl ⟨⟨_, rfl, rfl⟩, trivial⟩ (ret_osl _ _ _) rfl rfl⟩
def ext1 (a : Aut) (un : List Int) (n : Nat) : List Int → List Int → List Int → Int ⊕ (List Int × List Int)
  | [], set, ad => .inr (set, ad)
  | x :: r, set, ad => if (hldR a un n set).2 ≠ 0 then .inl (hldR a un n set).2 else if (hldR a un n set).1 = true then .inr (set, ad) else if x ∈ set then ext1 a un n r set ad else ext1 a un n r (sortI (set ++ [x])) (ad ++ [x])
def ext2 (a : Aut) (un : List Int) (n : Nat) : List Int → List Int → Int ⊕ List Int
  | [], set => .inr set
  | x :: r, set => if (hldR a un n (set.filter fun y => !(y == x))).2 ≠ 0 then .inl (hldR a un n (set.filter fun y => !(y == x))).2 else ext2 a un n r (if (hldR a un n (set.filter fun y => !(y == x))).1 = true then set.filter fun y => !(y == x) else set)
def exF2 : Int ⊕ List Int → List Int × Int
  | .inl e => ([], e)
  | .inr l => (l, 0)
def exF1 (a : Aut) (un : List Int) (n : Nat) : Int ⊕ (List Int × List Int) → List Int × Int
  | .inl e => ([], e)
  | .inr x => exF2 (ext2 a un n x.2 x.1)
def extR (a : Aut) (on un : List Int) (n : Nat) : List Int × Int := exF1 a un n (ext1 a un n a.alpha (keptR a on) [])
set_option maxHeartbeats 4000000 in
theorem extend14 {g : Nat} (hg : IsTab g) {ty : TypeId} {fr : Nat × Nat} (O : List Heap) (a : Aut) (on un : List Int) (n : Nat) (hst : a.states = n) (hn : n ≤ 5) (h : smallA a) (hon : on.length ≤ max63) (hun : un.length ≤ max63) (he : opE a on un = 0) (hA : a.alpha.length ≤ 500000) :
    ASpecT g (ptab ty fr) Tryz.prog 14 [autD a, ints on, ints un] O (.tup [ints (extR a on un n).1, ii (extR a on un n).2]) [] O := by
  have h1 := fun O => opened42v O a on un n hst (by omega) h hon hun he
  have hk := fun O => kept46o O a on un (outOf n a.edges) h.al hon
  have hkl : (keptR a on).length ≤ 500000 := by
    have := List.length_filter_le (fun x => decide (x ∈ on)) a.alpha
    have := h.al
    unfold keptR
    omega
  have hH := fun O set hs => holds43 hg (ty := ty) (fr := fr) O a set un n hst hn h hs hun
  have hal := h.al
  unfold extR
  generalize keptR a on = kp at *
  generalize hK : exF1 a un n (ext1 a un n a.alpha kp []) = KK
  unfold vptr at h1 hk
  generalize [[intsI a.alpha, vi a.states, intsI a.marked, .sl 3 a.edges.length (a.edges.map edgI), intsI on, intsI un, rowsI (outOf n a.edges)]] = VP at *
  refine aspecT_stop [200032, 200045, 200054, 17, 19, 200076, 23] Tk Tryz.func14 rfl Tryz.call14 Tryz.ntmps14 (Nat.le_of_ble_eq_true rfl) fun E hE => ?_
  refine g_run Tk Tryz.func14 ?_
  first | refine g_call Tk Tryz.func14 (h1 _) rfl rfl rfl rfl rfl ?_ | refine s_callq Tk (fun _ => h1 _) rfl rfl rfl ?_
  first | refine gcF Tk Tryz.func14 rfl ?_ | refine gkF Tk Tryz.func14 rfl ?_ | refine skF Tk ?_
  refine g_wkpause (wk_frzbox 3 [intsI a.alpha, vi a.states, intsI a.marked, .sl 3 a.edges.length (a.edges.map edgI)] rfl rfl) ?_
  refine g_pause Tk Tryz.func14 rfl rfl (wk_frzbox 5 [intsI un] rfl rfl) ?_
  first | refine g_call Tk Tryz.func14 (hk _) rfl rfl rfl rfl rfl ?_ | refine s_callq Tk (fun _ => hk _) rfl rfl rfl ?_
  first | refine g_elem Tk Tryz.func14 (rfl) ?_ | refine s_elem Tk (rfl) ?_
  refine g_loop ?_
  refine rch_wk (wk_nil 12 59 3 1 rfl rfl rfl) ?_
  apply join_q (α := List Int × List Int) (P := fun y => exF2 (ext2 a un n y.2 y.1) = KK ∧ y.1.length ≤ 1000000 ∧ y.2.length ≤ 1000000) (s6 := fun y => { σ := [(10, .fn (.func 43) [] [.i (autI a), .i (lstI un)]), (11, ints y.1), (12, ints y.2)], S := [] :: O, n := 90 })
  · intro J
    refine rch_loop2 (fun x : Nat × List Int × List Int => [(10, .fn (.func 43) [] [.i (autI a), .i (lstI un)]), (11, .osl 0 63), (12, .osl 0 59), (36, ints a.alpha), (37, ii a.alpha.length), (38, ii x.1)])
      (fun x => [(63, oints x.2.1), (59, oints x.2.2)]) (fun _ => O) 90
      (fun x => x.1 ≤ a.alpha.length ∧ x.2.1.length ≤ 500000 + x.1 ∧ x.2.2.length ≤ x.1 ∧ exF1 a un n (ext1 a un n (a.alpha.drop x.1) x.2.1 x.2.2) = KK) (fun x => a.alpha.length - x.1) (0, kp, [])
      ⟨Nat.zero_le _, by simp only; omega, Nat.le_refl _, by simpa using hK⟩ ⟨rfl, rfl, rfl, rfl, rfl, rfl, trivial⟩ rfl ⟨rfl, rfl, trivial⟩ rfl rfl ?_
    rintro ⟨k, set, ad⟩ ⟨hk1, hsl, hadl, hno⟩ ih
    simp only at hk1 hsl hadl hno
    have hj1 : ii (IntKind.i64.wrap ((k : Int) + 1)) = ii ((k + 1 : Nat) : Int) := congrArg ii (wsucc (n := 1000001) (by omega) (by decide))
    refine g_run Tk Tryz.func14 ?_
    first | refine g_cnd Tk Tryz.func14 rfl (fun g1 => ?_) (fun g1 => ?_) | refine g_know Tk Tryz.func14 rfl (fun g1 => ?_) (fun g1 => ?_) | refine s_know Tk (fun g1 => ?_) (fun g1 => ?_)
    · have g1 : k < a.alpha.length := by simpa using g1
      have gx : (a.alpha.map fun x => [vi x])[(k : Int).toNat]? = some [vi a.alpha[k]] := get_mapZ (f := fun x => [vi x]) g1
      rw [List.drop_eq_getElem_cons g1] at hno
      simp only [ext1] at hno
      have hh := hH [] set (by simp only [max63]; omega)
      generalize a.alpha[k] = x at *
      generalize hldR a un n set = hr at *
      obtain ⟨hb, he1⟩ := hr
      simp only at hno
      first | refine g_need Tk Tryz.func14 (by exact ⟨by omega, by show (k : Int) < (a.alpha.length : Int); omega⟩) ?_ | refine s_need Tk (by exact ⟨by omega, by show (k : Int) < (a.alpha.length : Int); omega⟩) ?_
      first | refine g_elem Tk Tryz.func14 (gx) ?_ | refine s_elem Tk (gx) ?_
      refine g_callP Tk Tryz.func14 rfl rfl rfl rfl (does_forget hE hh (shut_2 _ _) (.osl (.i (.i .nil))) rfl (show 45 < 90 by decide) rfl rfl rfl) ?_
      first | refine g_cnd Tk Tryz.func14 rfl (fun c1 => ?_) (fun c1 => ?_) | refine g_know Tk Tryz.func14 rfl (fun c1 => ?_) (fun c1 => ?_) | refine s_know Tk (fun c1 => ?_) (fun c1 => ?_)
      · have c1 : he1 ≠ 0 := bneT c1
        rw [if_pos c1] at hno
        have hno : (([], he1) : List Int × Int) = KK := hno
        subst hno
        refine g_ret_co Tk (r := .tup [.i (.v (.slice none 0 0)), ii he1]) rfl rfl rfl trivial rfl rfl ?_
        repeat' (first | refine coD_tup ?_ | refine coD_agg ?_ | refine coD_i ?_ | refine CoDL.cons ?_ ?_ | exact CoDL.nil | exact coI_nil | refine coI_sl ?_ | refine CoLL.cons ?_ ?_ | exact CoLL.nil | refine CoL.cons ?_ ?_ | exact CoL.nil | exact CoI.refl _ | exact CoL.refl _ | exact CoLL.refl _ | exact CoDL.refl _ | exact CoD.refl _)
      have c1 : he1 = 0 := bneF c1
      rw [if_neg (fun h => h c1)] at hno
      first | refine g_cnd Tk Tryz.func14 rfl (fun c2 => ?_) (fun c2 => ?_) | refine g_know Tk Tryz.func14 rfl (fun c2 => ?_) (fun c2 => ?_) | refine s_know Tk (fun c2 => ?_) (fun c2 => ?_)
      · have c2 : hb = true := c2
        rw [if_pos c2] at hno
        refine g_stop ?_
        refine rch_wk (wk_freeze 63 rfl rfl) ?_
        refine rch_wk (wk_freeze 59 rfl rfl) ?_
        refine rch_meet (J (set, ad) ⟨hno, by simp only; omega, by simp only; omega⟩) ⟨rfl, rfl, rfl, trivial⟩ rfl trivial rfl rfl
      have c2 : hb = false := c2
      rw [if_neg (by rw [c2]; decide)] at hno
      refine g_callP Tk Tryz.func14 rfl rfl rfl rfl (does_forget hE (contains110 [] set x (by simp only [max63]; omega)).tab (shut_v _) (.osl (.i .nil)) rfl (show 54 < 90 by decide) rfl rfl rfl) ?_
      first | refine g_cnd Tk Tryz.func14 rfl (fun c3 => ?_) (fun c3 => ?_) | refine g_know Tk Tryz.func14 rfl (fun c3 => ?_) (fun c3 => ?_) | refine s_know Tk (fun c3 => ?_) (fun c3 => ?_)
      · have c3 : x ∉ set := of_decide_eq_false (notT c3)
        rw [if_neg c3] at hno
        first | refine g_need Tk Tryz.func14 (by exact ⟨by show (ad.length + 1) * 8 ≤ 140737488355328; omega, by show ad.length + 1 ≤ 9223372036854775807; omega⟩) ?_ | refine s_need Tk (by exact ⟨by show (ad.length + 1) * 8 ≤ 140737488355328; omega, by show ad.length + 1 ≤ 9223372036854775807; omega⟩) ?_
        first | refine g_need Tk Tryz.func14 (by exact ⟨by show (set.length + 1) * 8 ≤ 140737488355328; omega, by show set.length + 1 ≤ 9223372036854775807; omega⟩) ?_ | refine s_need Tk (by exact ⟨by show (set.length + 1) * 8 ≤ 140737488355328; omega, by show set.length + 1 ≤ 9223372036854775807; omega⟩) ?_
        refine g_stop ?_
        refine rch_wk (wk_cut (l := [(10, .fn (.func 43) [] [.i (autI a), .i (lstI un)]), (11, .osl 0 63), (12, .osl 0 59), (36, ints a.alpha), (37, ii a.alpha.length), (38, ii k)])
          (Hv := [(63, oints (set ++ [x])), (59, oints (ad ++ [x]))]) ⟨rfl, rfl, rfl, rfl, rfl, rfl, trivial⟩ rfl ⟨congrArg some (oints_app set x), congrArg some (oints_app ad x), trivial⟩ rfl rfl) ?_
        have hpos : 0 < (set ++ [x]).length := by simp
        have hml : (set ++ [x]).length ≤ 2000001 := by rw [List.length_append, List.length_singleton]; omega
        have hal2 : (ad ++ [x]).length ≤ k + 1 := by rw [List.length_append, List.length_singleton]; omega
        have hml2 : (set ++ [x]).length ≤ 500000 + (k + 1) := by rw [List.length_append, List.length_singleton]; omega
        generalize set ++ [x] = m at *
        generalize ad ++ [x] = ad2 at *
        refine g_run Tk Tryz.func14 ?_
        refine g_go Tk Tryz.func14 ?_
        refine g_call Tk Tryz.func14 (sort48 _ 0 63 m hpos (by omega) rfl) rfl rfl rfl (shape_over (ob := oints m) rfl (by simp [Ob.sh, sortI_len])) rfl ?_
        refine g_loop ?_
        exact ih (k + 1, sortI m, ad2) _ _ ⟨g1, by simp only [sortI_len]; exact hml2, hal2, hno⟩ (by simp only; omega) ⟨rfl, rfl, rfl, rfl, rfl, hj1, trivial⟩ rfl ⟨rfl, rfl, trivial⟩ rfl rfl
      · have c3 : x ∈ set := of_decide_eq_true (notF c3)
        rw [if_pos c3] at hno
        refine g_loop ?_
        exact ih (k + 1, set, ad) _ _ ⟨g1, by simp only; omega, by simp only; omega, hno⟩ (by simp only; omega) ⟨rfl, rfl, rfl, rfl, rfl, hj1, trivial⟩ rfl ⟨rfl, rfl, trivial⟩ rfl rfl
    · have g1 : a.alpha.length ≤ k := by simpa using g1
      rw [List.drop_of_length_le g1] at hno
      refine g_stop ?_
      refine rch_wk (wk_freeze 63 rfl rfl) ?_
      refine rch_wk (wk_freeze 59 rfl rfl) ?_
      refine rch_meet (J (set, ad) ⟨hno, by simp only; omega, by simp only; omega⟩) ⟨rfl, rfl, rfl, trivial⟩ rfl trivial rfl rfl
  rintro ⟨set, ad⟩ ⟨hno, hsl, hadl⟩
  simp only at hno hsl hadl
  refine g_run Tk Tryz.func14 ?_
  refine g_go Tk Tryz.func14 ?_
  refine g_loop ?_
  refine rch_loop2 (fun x : Nat × List Int => [(10, .fn (.func 43) [] [.i (autI a), .i (lstI un)]), (11, ints x.2), (67, ints ad), (68, ii ad.length), (69, ii x.1)])
    (fun x => []) (fun _ => O) 90
    (fun x => x.1 ≤ ad.length ∧ x.2.length ≤ 1000000 ∧ exF2 (ext2 a un n (ad.drop x.1) x.2) = KK) (fun x => ad.length - x.1) (0, set)
    ⟨Nat.zero_le _, hsl, by simpa using hno⟩ ⟨rfl, rfl, rfl, rfl, rfl, trivial⟩ rfl trivial rfl rfl ?_
  clear hno hsl
  rintro ⟨k, set⟩ ⟨hk1, hsl, hno⟩ ih
  simp only at hk1 hsl hno
  have hj1 : ii (IntKind.i64.wrap ((k : Int) + 1)) = ii ((k + 1 : Nat) : Int) := congrArg ii (wsucc (n := 1000001) (by omega) (by decide))
  refine g_run Tk Tryz.func14 ?_
  first | refine g_cnd Tk Tryz.func14 rfl (fun g1 => ?_) (fun g1 => ?_) | refine g_know Tk Tryz.func14 rfl (fun g1 => ?_) (fun g1 => ?_) | refine s_know Tk (fun g1 => ?_) (fun g1 => ?_)
  · have g1 : k < ad.length := by simpa using g1
    have gx : (ad.map fun x => [vi x])[(k : Int).toNat]? = some [vi ad[k]] := get_mapZ (f := fun x => [vi x]) g1
    rw [List.drop_eq_getElem_cons g1] at hno
    simp only [ext2] at hno
    generalize ad[k] = x at *
    first | refine g_need Tk Tryz.func14 (by exact ⟨by omega, by show (k : Int) < (ad.length : Int); omega⟩) ?_ | refine s_need Tk (by exact ⟨by omega, by show (k : Int) < (ad.length : Int); omega⟩) ?_
    first | refine g_elem Tk Tryz.func14 (gx) ?_ | refine s_elem Tk (gx) ?_
    first | refine g_call Tk Tryz.func14 (clone57 74 _ set (by simp only [big]; omega)) rfl rfl rfl rfl rfl ?_ | refine s_callq Tk (fun _ => clone57 74 _ set (by simp only [big]; omega)) rfl rfl rfl ?_
    refine g_callP Tk Tryz.func14 rfl rfl rfl rfl (does_delF (R := [(18, .box [ii x]), (18, .box [ii 0])]) (B := .box [ii x]) (l := set) rfl (fun y => y == x) hsl (by decide) rfl rfl (fun y _ d O ho => del51 O y x d 18 ho) rfl (show 76 < 90 by decide) rfl) ?_
    have hll : (set.filter fun y => !(y == x)).length ≤ 1000000 := Nat.le_trans (List.length_filter_le _ _) hsl
    have hh := fun O => hH O (set.filter fun y => !(y == x)) (by simp only [max63]; omega)
    generalize (set.filter fun y => !(y == x)) = ls at *
    generalize hldR a un n ls = hr at *
    obtain ⟨hb, he1⟩ := hr
    simp only at hno
    refine g_stop ?_
    refine rch_wk (wk_freeze 74 rfl rfl) ?_
    refine g_run Tk Tryz.func14 ?_
    refine g_go Tk Tryz.func14 ?_
    refine g_callT Tk Tryz.func14 hE (hh _) rfl rfl rfl rfl rfl rfl ?_
    first | refine g_cnd Tk Tryz.func14 rfl (fun c1 => ?_) (fun c1 => ?_) | refine g_know Tk Tryz.func14 rfl (fun c1 => ?_) (fun c1 => ?_) | refine s_know Tk (fun c1 => ?_) (fun c1 => ?_)
    · have c1 : he1 ≠ 0 := bneT c1
      rw [if_pos c1] at hno
      have hno : (([], he1) : List Int × Int) = KK := hno
      subst hno
      refine g_ret_co Tk (r := .tup [.i (.v (.slice none 0 0)), ii he1]) rfl rfl rfl trivial rfl rfl ?_
      repeat' (first | refine coD_tup ?_ | refine coD_agg ?_ | refine coD_i ?_ | refine CoDL.cons ?_ ?_ | exact CoDL.nil | exact coI_nil | refine coI_sl ?_ | refine CoLL.cons ?_ ?_ | exact CoLL.nil | refine CoL.cons ?_ ?_ | exact CoL.nil | exact CoI.refl _ | exact CoL.refl _ | exact CoLL.refl _ | exact CoDL.refl _ | exact CoD.refl _)
    have c1 : he1 = 0 := bneF c1
    rw [if_neg (fun h => h c1)] at hno
    first | refine g_cnd Tk Tryz.func14 rfl (fun c2 => ?_) (fun c2 => ?_) | refine g_know Tk Tryz.func14 rfl (fun c2 => ?_) (fun c2 => ?_) | refine s_know Tk (fun c2 => ?_) (fun c2 => ?_)
    · have c2 : hb = true := c2
      rw [if_pos c2] at hno
      refine g_loop ?_
      exact ih (k + 1, ls) _ _ ⟨g1, hll, hno⟩ (by simp only; omega) ⟨rfl, rfl, rfl, rfl, hj1, trivial⟩ rfl trivial rfl rfl
    · have c2 : hb = false := c2
      rw [if_neg (by rw [c2]; decide)] at hno
      refine g_loop ?_
      exact ih (k + 1, set) _ _ ⟨g1, hsl, hno⟩ (by simp only; omega) ⟨rfl, rfl, rfl, rfl, hj1, trivial⟩ rfl trivial rfl rfl
  · have g1 : ad.length ≤ k := by simpa using g1
    rw [List.drop_of_length_le g1] at hno
    have hno : ((set, 0) : List Int × Int) = KK := hno
    subst hno
    refine g_ret Tk (r := .tup [ints set, ii 0]) rfl rfl rfl trivial rfl rfl ?_
    rfl
end Go.AI


/- The first law's example: known. -/
namespace Go.AI
open Go.Proofs
set_option maxRecDepth 100000
def forkA : Aut := { alpha := [0, 1, 2, 3], states := 4, marked := [3], edges := [(0, 0, 1), (0, 1, 2), (1, 2, 3), (2, 3, 3)] }
theorem fork_small : smallA forkA := ⟨by decide, by decide, by decide⟩
theorem fork_obs : obsO forkA [2, 3] [] 4 (obsR forkA [2, 3] [] 4) = ([0], [3], false) := by kernel_rfl
theorem fork_cs : csO forkA [2, 3] [2] 4 (csR forkA [2, 3] [2] 4) = ([], 2, false) := by kernel_rfl
theorem fork_op : opE forkA [2, 3] [] = 0 := by kernel_rfl
theorem fork_op2 : opE forkA [2, 3] [2] = 0 := by kernel_rfl
theorem fork_h1 : hldR forkA [] 4 [2, 3] = (false, 0) := by kernel_rfl
theorem fork_h2 : hldR forkA [] 4 [0, 2, 3] = (false, 0) := by kernel_rfl
theorem fork_h3 : hldR forkA [] 4 [0, 1, 2, 3] = (true, 0) := by kernel_rfl
theorem fork_h4 : hldR forkA [] 4 [1, 2, 3] = (false, 0) := by kernel_rfl
theorem fork_kp : keptR forkA [2, 3] = [2, 3] := by kernel_rfl
theorem fork_s1 : sortI [2, 3, 0] = [0, 2, 3] := by simp [sortI, List.mergeSort, List.MergeSort.Internal.splitInTwo]
theorem fork_s2 : sortI [0, 2, 3, 1] = [0, 1, 2, 3] := by simp [sortI, List.mergeSort, List.MergeSort.Internal.splitInTwo]
theorem fork_al : forkA.alpha = [0, 1, 2, 3] := rfl
theorem fork_ext : extR forkA [2, 3] [] 4 = ([0, 1, 2, 3], 0) := by
  unfold extR
  rw [fork_kp, fork_al]
  have e1 : ext1 forkA [] 4 [0, 1, 2, 3] [2, 3] [] = ext1 forkA [] 4 [1, 2, 3] (sortI [2, 3, 0]) [0] := by
    rw [ext1, fork_h1]; rfl
  have e2 : ext1 forkA [] 4 [1, 2, 3] [0, 2, 3] [0] = ext1 forkA [] 4 [2, 3] (sortI [0, 2, 3, 1]) [0, 1] := by
    rw [ext1, fork_h2]; rfl
  have e3 : ext1 forkA [] 4 [2, 3] [0, 1, 2, 3] [0, 1] = .inr ([0, 1, 2, 3], [0, 1]) := by
    rw [ext1, fork_h3]; rfl
  rw [e1, fork_s1, e2, fork_s2, e3]
  show exF2 (ext2 forkA [] 4 [0, 1] [0, 1, 2, 3]) = _
  have f1 : ext2 forkA [] 4 [0, 1] [0, 1, 2, 3] = ext2 forkA [] 4 [1] [0, 1, 2, 3] := by
    rw [ext2, show ([0, 1, 2, 3] : List Int).filter (fun y => !(y == 0)) = [1, 2, 3] from rfl, fork_h4]; rfl
  have f2 : ext2 forkA [] 4 [1] [0, 1, 2, 3] = .inr [0, 1, 2, 3] := by
    rw [ext2, show ([0, 1, 2, 3] : List Int).filter (fun y => !(y == 1)) = [0, 2, 3] from rfl, fork_h2]; rfl
  rw [f1, f2]
  rfl
theorem fork39 (O : List Heap) : ASpec Tryz.prog 39 [] O (autD forkA) [] O := by
  refine aspec_intro Tk Tryz.func39 rfl Tryz.call39 Tryz.ntmps39 (Nat.le_of_ble_eq_true rfl) fun E => ?_
  refine g_run Tk Tryz.func39 ?_
  refine g_ret Tk (r := autD forkA) rfl rfl rfl trivial rfl rfl ?_
  rfl
theorem extNil {g : Nat} {tab : Obj} {P : Program} {f : FuncId} {x y : D} {O O' : List Heap} {res : D} {Hr : Heap} (h : ASpecT g tab P f [x, y, ints []] O res Hr O') : ASpecT g tab P f [x, y, .i (.v (.slice none 0 0))] O res Hr O' :=
  fun E K ρ w vs hw ht hr => h E K ρ w vs hw ht ((CoDL.cons (CoD.refl _) (.cons (CoD.refl _) (.cons (coD_i coI_nil) .nil))).rep hr)
theorem known11 {g : Nat} (hg : IsTab g) {ty : TypeId} {fr : Nat × Nat} (O : List Heap) : ASpecT g (ptab ty fr) Tryz.prog 11 [] O (bb true) [] O := by
  have ho := fun O => observer17 hg (ty := ty) (fr := fr) O forkA [2, 3] 4 rfl (by decide) fork_small (by decide) fork_op
  simp only [fork_obs] at ho
  have hx := fun O => extNil (extend14 hg (ty := ty) (fr := fr) O forkA [2, 3] [] 4 rfl (by decide) fork_small (by decide) (by decide) fork_op (by decide))
  simp only [fork_ext] at hx
  have hc := fun O => consistent18 O forkA [2, 3] [2] 4 rfl (by decide) fork_small (by decide) (by decide) fork_op2
  simp only [fork_cs] at hc
  have hf := fun O => fork39 O
  have h1 := fun O => sameInts36 O [0] [0] (by decide)
  have h2 := fun O => sameInts36 O [3] [3] (by decide)
  have h3 := fun O => sameInts36 O [0, 1, 2, 3] [0, 1, 2, 3] (by decide)
  refine aspecT_stop [] Tk Tryz.func11 rfl Tryz.call11 Tryz.ntmps11 (Nat.le_of_ble_eq_true rfl) fun E hE => ?_
  refine g_run Tk Tryz.func11 ?_
  first | refine g_call Tk Tryz.func11 (hf _) rfl rfl rfl rfl rfl ?_ | refine s_callq Tk (fun _ => hf _) rfl rfl rfl ?_
  refine g_callT Tk Tryz.func11 hE (ho _) rfl rfl rfl rfl rfl rfl ?_
  first | refine g_call Tk Tryz.func11 (hf _) rfl rfl rfl rfl rfl ?_ | refine s_callq Tk (fun _ => hf _) rfl rfl rfl ?_
  refine g_callT Tk Tryz.func11 hE (hx _) rfl rfl rfl rfl rfl rfl ?_
  first | refine g_call Tk Tryz.func11 (hf _) rfl rfl rfl rfl rfl ?_ | refine s_callq Tk (fun _ => hf _) rfl rfl rfl ?_
  first | refine g_call Tk Tryz.func11 (hc _) rfl rfl rfl rfl rfl ?_ | refine s_callq Tk (fun _ => hc _) rfl rfl rfl ?_
  repeat (first | refine gcT Tk Tryz.func11 rfl ?_ | refine gkT Tk Tryz.func11 rfl ?_ | refine skT Tk ?_ | refine gcF Tk Tryz.func11 rfl ?_ | refine gkF Tk Tryz.func11 rfl ?_ | refine skF Tk ?_)
  first | refine g_call Tk Tryz.func11 (h1 _) rfl rfl rfl rfl rfl ?_ | refine s_callq Tk (fun _ => h1 _) rfl rfl rfl ?_
  repeat (first | refine gcT Tk Tryz.func11 rfl ?_ | refine gkT Tk Tryz.func11 rfl ?_ | refine skT Tk ?_ | refine gcF Tk Tryz.func11 rfl ?_ | refine gkF Tk Tryz.func11 rfl ?_ | refine skF Tk ?_)
  first | refine g_call Tk Tryz.func11 (h2 _) rfl rfl rfl rfl rfl ?_ | refine s_callq Tk (fun _ => h2 _) rfl rfl rfl ?_
  repeat (first | refine gcT Tk Tryz.func11 rfl ?_ | refine gkT Tk Tryz.func11 rfl ?_ | refine skT Tk ?_ | refine gcF Tk Tryz.func11 rfl ?_ | refine gkF Tk Tryz.func11 rfl ?_ | refine skF Tk ?_)
  first | refine g_call Tk Tryz.func11 (h3 _) rfl rfl rfl rfl rfl ?_ | refine s_callq Tk (fun _ => h3 _) rfl rfl rfl ?_
  repeat (first | refine gcT Tk Tryz.func11 rfl ?_ | refine gkT Tk Tryz.func11 rfl ?_ | refine skT Tk ?_ | refine gcF Tk Tryz.func11 rfl ?_ | refine gkF Tk Tryz.func11 rfl ?_ | refine skF Tk ?_)
  refine g_ret Tk (r := bb true) rfl rfl rfl trivial rfl rfl ?_
  rfl
end Go.AI


/- The way from a row to a contract. -/
namespace Go.Proofs.YtmhllkmceipdcaaGreatDoor
open Go.ChangeShapes Go.WideShapes Go.ChangeAt Go.RowKit
set_option maxRecDepth 100000
theorem Tryz.own : ownKnob Tryz.prog.godebug = none := by kernel_rfl
theorem powG : Tryz.prog.globalNamed "internal/strconv.uint64pow10" = some 0 := by kernel_rfl
theorem isTab0 : AI.IsTab 0 := fun _ _ _ h => AI.tabIs_of powG h
theorem tab_of_laid {W : World} (h : laidMetH Tryz.prog [("math/bits.deBruijn32tab", Rows.laid_math_bits_deBruijn32tab), ("math/bits.deBruijn64tab", Rows.laid_math_bits_deBruijn64tab), ("internal/strconv.uint64pow10", Rows.laid_internal_strconv_uint64pow10)] W) :
    ∃ ty fr, W.heap[0]? = some (AI.ptab ty fr) := by
  rw [MakeChecks.laidMetH_plain _ _ _ (by kernel_rfl)] at h
  have h3 := laidMet.tail (laidMet.tail h)
  have hT : Lib.TabIs Tryz.prog W "internal/strconv.uint64pow10" .u64 Lib.pow10Tab :=
    Lib.tabIs_of_head (t := 197) (e := 176) (n := 20) powG (by kernel_rfl) (by kernel_rfl) (by kernel_rfl) (by kernel_rfl) (by kernel_rfl) (rest := []) h3
  unfold Lib.TabIs World.var? at hT
  rw [powG] at hT
  simp only [Option.bind_some] at hT
  cases hc : W.heap[0]? with
  | none => rw [hc] at hT; cases hT
  | some o =>
    rw [hc] at hT
    cases o with
    | cells cs ty fr =>
      simp only [Option.some.injEq] at hT
      subst hT
      exact ⟨ty, fr, rfl⟩
    | _ => cases hT
/-- A contract with no memory of one's own, from the outside. -/
theorem calls_of {f : FuncId} {args : List AI.D} {vs : List Value} {b : Bool} {W : World} {ty : TypeId} {fr : Nat × Nat} (h0 : W.heap[0]? = some (AI.ptab ty fr))
    (hcall : ∀ a w, (callFunc f a).run Tryz.prog w = .ok (.enter f a) w) (hs : AI.ASpecT 0 (AI.ptab ty fr) Tryz.prog f args [] (AI.bb b) [] [])
    {K : AI.Kn} (hK : ∀ bl o x, K bl o = some x → W.cell? ⟨bl, o, none⟩ = some x) (hr : ∀ ρ sh, AI.RepDL K ρ sh vs args) :
    Calls Tryz.prog f vs.toArray W fun e W' => e = .returned (.bool b) ∧ (∀ i, i < W.heap.size → W'.heap[i]? = W.heap[i]?) ∧ W'.os = W.os ∧ W'.output = W.output := by
  let ρ : Nat → Nat → AI.Loc := fun _ _ => ⟨0, 0, none⟩
  have hobj : ∀ d n, AI.objAt [] d n = none := fun d n => by simp [AI.objAt]
  have hI : AI.HInv (AI.Env.of K ρ W) K ρ [] W :=
    ⟨hK, (fun d n ob e => absurd ((hobj d n).symm.trans e) (by simp)), (fun d n ob d' n' ob' e => absurd ((hobj d n).symm.trans e) (by simp)), Nat.le_refl _, fun _ _ _ => rfl, (fun n ob e => absurd ((hobj 0 n).symm.trans e) (by simp)), fun _ => rfl, fun _ _ _ h => h, fun _ _ _ h => .inl h, rfl, rfl, rfl⟩
  have ht : AI.TabQ 0 (AI.ptab ty fr) [] ρ W := ⟨h0, fun d n x e => by simp [AI.shape, hobj] at e⟩
  rcases hs _ K ρ W vs hI ht (hr _ _) with ⟨_, h⟩ | ⟨v, w', h, _⟩
  · refine h.mono fun e W' => ?_
    rintro ⟨v, rfl, K', ρ', h1, h2⟩
    obtain rfl := AI.inv_v h2
    refine ⟨rfl, fun i hi => h1.old i hi fun d n ob e => ?_, h1.rest.2.1, h1.rest.2.2⟩
    simp [AI.objAt] at e
  · rw [hcall] at h
    cases h
theorem kept_of {W W' : World} {P : MemPlace → Prop} (h : ∀ i, i < W.heap.size → W'.heap[i]? = W.heap[i]?) (h1 : W'.os = W.os) (h2 : W'.output = W.output) : W.keptBut W' P := by
  refine ⟨h1, h2, fun i hi => ?_⟩
  rw [h i hi]
  exact (World.keptBut_refl W P).2.2 i hi
end Go.Proofs.YtmhllkmceipdcaaGreatDoor


/- Arguments: slices and structs of them, opened to data, and read again behind the call. -/

namespace Go.Proofs.YtmhllkmceipdcaaGreatDoor
open Go.ChangeShapes Go.WideShapes Go.ChangeAt Go.RowKit Go.Deep Go.WideElems
set_option maxRecDepth 100000
/-- All that memory holds. -/
def KW (W : World) : AI.Kn := fun b o => W.cell? ⟨b, o, none⟩
theorem KW_ok (W : World) : ∀ bl o x, KW W bl o = some x → W.cell? ⟨bl, o, none⟩ = some x := fun _ _ _ h => h
section
variable {H : Type} {enc : TypeId × Value → H} {P : Program} {W : World}
/-- What is read of a type is data of a kind. -/
def Opn (enc : TypeId × Value → H) (P : Program) (W : World) (t : TypeId) (R : List AI.I → Prop) : Prop :=
  ∀ n cs x, DataW.trod enc P W 0 (fun _ => true) true n t cs = some x → ∃ is, AI.RepL (KW W) cs is ∧ R is
theorem repL_app {K : AI.Kn} {a b : List Value} {c d : List AI.I} (h : AI.RepL K a c) (h' : AI.RepL K b d) : AI.RepL K (a ++ b) (c ++ d) := h.append h'
theorem opn_int {t : TypeId} {k : IntKind} (ht : P.underlying t = some (.int k)) : Opn enc P W t fun is => ∃ z, is = [.v (.int k z)] ∧ (Lit.int k z).wf = true := by
  intro n cs x h
  obtain ⟨z, rfl, rfl, hw⟩ := DataW.trod_int ht h
  exact ⟨[.v (.int k z)], .cons (.v rfl) .nil, z, rfl, hw⟩
theorem ints_rep {K : AI.Kn} {k : IntKind} : ∀ {cs : List Value}, (∀ i, i < cs.length → ∃ z, cs[i]? = some (.int k z) ∧ (Lit.int k z).wf = true) → ∃ zs : List Int, zs.length = cs.length ∧ AI.RepL K cs (zs.map fun z => .v (.int k z)) ∧ ∀ z ∈ zs, (Lit.int k z).wf = true
  | [], _ => ⟨[], rfl, .nil, by simp⟩
  | c :: cs, h => by
    obtain ⟨z, hz, hw⟩ := h 0 (by simp)
    simp only [List.getElem?_cons_zero, Option.some.injEq] at hz
    subst hz
    obtain ⟨zs, h1, h2, h3⟩ := ints_rep (cs := cs) fun i hi => by
      have := h (i + 1) (by simp; omega)
      simpa using this
    exact ⟨z :: zs, by simp [h1], .cons (.v rfl) h2, fun y hy => by
      rcases List.mem_cons.1 hy with rfl | hy
      · exact hw
      · exact h3 y hy⟩
theorem opn_array {t e : TypeId} {k : IntKind} {m : Nat} (ht : P.underlying t = some (.array m e)) (he : P.underlying e = some (.int k)) (hc : P.cellsOf e = 1) (hct : P.cellsOf t = m) :
    Opn enc P W t fun is => ∃ zs : List Int, zs.length = m ∧ is = zs.map (fun z => .v (.int k z)) ∧ ∀ z ∈ zs, (Lit.int k z).wf = true := by
  intro n cs x h
  obtain ⟨xs, f, rfl, rfl, hl, hlen, hx⟩ := DataW.trod_array ht h
  rw [hct] at hl
  obtain ⟨zs, h1, h2, h3⟩ := ints_rep (K := KW W) (k := k) (cs := cs) fun i hi => by
    have h0 := hx i (by omega)
    rw [hc, Nat.mul_one, List.getElem?_eq_getElem (by omega)] at h0
    obtain ⟨z, hz, _, hw⟩ := DataW.trod_int he h0
    refine ⟨z, ?_, hw⟩
    have := congrArg (fun l => l[0]?) hz
    simpa [List.getElem?_take, List.getElem?_drop] using this
  exact ⟨_, h2, zs, by omega, rfl, h3⟩
/-- A slice. -/
theorem opn_slice {t e : TypeId} {z : Nat} {R : List AI.I → Prop} (ht : P.underlying t = some (.slice e)) (hc : P.cellsOf e = z) (hz : 0 < z) (he : Opn enc P W e R) :
    Opn enc P W t fun is => ∃ xs : List (List AI.I), is = [.sl z xs.length xs] ∧ (∀ d ∈ xs, R d) ∧ xs.length ≤ maxLen := by
  intro n cs x h
  rcases open_slice ht h with ⟨rfl, _⟩ | ⟨a, len, cap, m, f, D, Pl, rfl, _, hle, hm, hmm, _, hx⟩
  · exact ⟨[.sl z 0 []], .cons .nil .nil, [], rfl, by simp, Nat.zero_le _⟩
  · simp only [if_true] at hmm
    subst hmm
    rw [hc] at hx
    by_cases h0 : m = 0
    · subst h0
      obtain rfl : len = 0 := by omega
      exact ⟨[.sl z 0 []], .cons .nil .nil, [], rfl, by simp, Nat.zero_le _⟩
    · have hspot : a.spot = none := by
        obtain ⟨cs', h1, _⟩ := hx 0 (by omega)
        obtain ⟨_, hl, hcell⟩ := World.cells?_some h1
        have := hcell 0 hz
        rw [Nat.zero_mul] at this
        have ha : (a.add 0).add 0 = a := by simp [Addr.add]
        rw [ha, List.getElem?_eq_getElem (by omega)] at this
        unfold World.cell? at this
        cases hsp : a.spot with
        | none => rfl
        | some s =>
          rw [hsp] at this
          split at this <;> simp at this
      obtain ⟨bl, o, sp⟩ := a
      simp only at hspot
      subst hspot
      have build : ∀ k, k ≤ len → ∃ (xs : List (List AI.I)) (vs : List Value), xs.length = k ∧ vs.length = k * z ∧ AI.RepL (KW W) vs xs.flatten ∧ (∀ d ∈ xs, R d) ∧ (∀ d ∈ xs, d.length = z) ∧ ∀ j c, vs[j]? = some c → KW W bl (o + j) = some c := by
        intro k
        induction k with
        | zero => intro _; exact ⟨[], [], rfl, by simp, .nil, by simp, by simp, by simp⟩
        | succ k ih =>
          intro hk
          obtain ⟨xs, vs, h1, h2, h3, h4, h5, h6⟩ := ih (by omega)
          obtain ⟨cs', hc1, hc2⟩ := hx k (by omega)
          obtain ⟨_, hl, hcell⟩ := World.cells?_some hc1
          obtain ⟨is, hr, hR⟩ := he f cs' _ hc2
          refine ⟨xs ++ [is], vs ++ cs', by simp [h1], by simp [h2, hl, Nat.add_mul], ?_, ?_, ?_, ?_⟩
          · rw [List.flatten_append]
            simpa using repL_app h3 hr
          · intro d hd
            rcases List.mem_append.1 hd with h | h
            · exact h4 d h
            · simp only [List.mem_singleton] at h
              subst h
              exact hR
          · intro d hd
            rcases List.mem_append.1 hd with h | h
            · exact h5 d h
            · simp only [List.mem_singleton] at h
              subst h
              rw [← hr.length, hl]
          · intro j c hj
            rw [List.getElem?_append] at hj
            split at hj
            · exact h6 j c hj
            · rename_i hge
              have hlt : j - vs.length < cs'.length := (List.getElem?_eq_some_iff.1 hj).1
              have := hcell (j - vs.length) (by omega)
              rw [hj] at this
              unfold KW
              rw [← this]
              have e : ((⟨bl, o, none⟩ : Addr).add (k * z)).add (j - vs.length) = ⟨bl, o + j, none⟩ := by
                have e1 : (⟨bl, o, none⟩ : Addr).add (k * z) = ⟨bl, o + k * z, none⟩ := by unfold Addr.add; split <;> simp_all
                rw [e1]
                unfold Addr.add
                split
                · simp <;> omega
                · simp <;> omega
              rw [e]
      obtain ⟨xs, vs, h1, h2, h3, h4, h5, h6⟩ := build len (Nat.le_refl _)
      refine ⟨[.sl z xs.length xs], .cons ?_ .nil, xs, rfl, h4, by omega⟩
      rw [h1]
      exact .sl h3 h5 h6 hle h1
/-- Structs of three fields, and of two. -/
theorem opn_struct3 {t : TypeId} {f0 f1 f2 : Field} {R0 R1 R2 : List AI.I → Prop} {z0 z1 z2 : Nat} (ht : P.underlying t = some (.struct #[f0, f1, f2])) (hc : P.cellsOf t = z0 + z1 + z2)
    (c0 : P.cellsOf f0.type = z0) (c1 : P.cellsOf f1.type = z1) (c2 : P.cellsOf f2.type = z2) (o0 : f0.offset = 0) (o1 : f1.offset = z0) (o2 : f2.offset = z0 + z1)
    (h0 : Opn enc P W f0.type R0) (h1 : Opn enc P W f1.type R1) (h2 : Opn enc P W f2.type R2) : Opn enc P W t fun is => ∃ a b c, is = a ++ b ++ c ∧ R0 a ∧ R1 b ∧ R2 c := by
  intro n cs x h
  obtain ⟨y0, y1, y2, m, _, hl, g0, g1, g2⟩ := trod_struct3 ht h
  obtain ⟨a, ra, ha⟩ := h0 _ _ _ g0
  obtain ⟨b, rb, hb⟩ := h1 _ _ _ g1
  obtain ⟨c, rc, hcc⟩ := h2 _ _ _ g2
  refine ⟨a ++ b ++ c, ?_, a, b, c, rfl, ha, hb, hcc⟩
  have e : cs = (cs.drop f0.offset).take (P.cellsOf f0.type) ++ (cs.drop f1.offset).take (P.cellsOf f1.type) ++ (cs.drop f2.offset).take (P.cellsOf f2.type) := by
    rw [c0, c1, c2, o0, o1, o2, List.drop_zero]
    have e1 : (cs.drop (z0 + z1)).take z2 = cs.drop (z0 + z1) := List.take_of_length_le (by simp; omega)
    rw [e1]
    have e2 : cs.drop (z0 + z1) = (cs.drop z0).drop z1 := by rw [List.drop_drop]
    rw [e2, List.append_assoc, List.take_append_drop, List.take_append_drop]
  rw [e]
  exact repL_app (repL_app ra rb) rc
/-- Read again behind the call. -/
theorem args_again {t : TypeId} (hl : laidOutB P = true) (hr : P.readableRec t = true) (hrow : decide (t < P.types.size) = true) {W' : World} {v : Value} {d : DataW H} {ps : List MemPlace}
    (h : DataW.Trod enc P W 0 (fun _ => true) true t v d ps) (hold : ∀ i, i < W.heap.size → W'.heap[i]? = W.heap[i]?) : DataW.Trod enc P W' 0 (fun b => decide (b < W.heap.size)) true t v d ps := by
  have hlt : ∀ p ∈ ps, p.block < W.heap.size := by
    obtain ⟨n, hn⟩ := h
    exact DataW.trod_lt n t _ _ hn
  refine Trod_stays hl hr (of_decide_eq_true hrow) h (fun p hp => ?_) (fun p hp => decide_eq_true (hlt p hp))
  have hb := hlt p hp
  cases p with
  | cell b off =>
    show W'.cell? ⟨b, off, none⟩ = W.cell? ⟨b, off, none⟩
    unfold World.cell?
    rw [hold b hb]
  | map b => exact hold b hb
end
end Go.Proofs.YtmhllkmceipdcaaGreatDoor


/- An automaton as an argument, and lists of ints: data. -/
namespace Go.Proofs.YtmhllkmceipdcaaGreatDoor
open Go.ChangeShapes Go.WideShapes Go.ChangeAt Go.RowKit Go.Deep Go.WideElems
set_option maxRecDepth 100000
section
variable {H : Type} {enc : TypeId × Value → H} {W : World}
theorem list_of {α β : Type} {f : α → β} {Q : α → Prop} : ∀ {xs : List β}, (∀ d ∈ xs, ∃ a, d = f a ∧ Q a) → ∃ l : List α, xs = l.map f ∧ ∀ a ∈ l, Q a
  | [], _ => ⟨[], rfl, by simp⟩
  | d :: xs, h => by
    obtain ⟨a, ha, hq⟩ := h d (by simp)
    obtain ⟨l, hl, hql⟩ := list_of (xs := xs) fun e he => h e (by simp [he])
    refine ⟨a :: l, by rw [ha, hl]; rfl, fun b hb => ?_⟩
    rcases List.mem_cons.1 hb with rfl | hb
    · exact hq
    · exact hql b hb
theorem wf_u8 {z : Int} (h : (Lit.int .u8 z).wf = true) : 0 ≤ z ∧ z ≤ 255 := by
  simp only [Lit.wf, Bool.and_eq_true, decide_eq_true_eq] at h
  have e1 : IntKind.u8.min = 0 := rfl
  have e2 : IntKind.u8.max = 255 := rfl
  rw [e1, e2] at h
  exact h
theorem maxLen63 {n : Nat} (h : n ≤ maxLen) : n ≤ AI.max63 := by
  simp only [maxLen] at h
  simp only [AI.max63]
  omega
theorem okWide_slice {P : Program} {W : World} {r : Reach} {b0 : Nat} {t e : TypeId} {v : Value} (ht : P.underlying t = some (.slice e)) (h : Value.okWide P W r b0 t v) : v.cells.toList = [v] := by
  simp only [Value.okWide, ht, Cell.okWide] at h
  cases v <;> simp_all [Cell.ok, Value.cells]
/-- Ints, and lists of them. -/
theorem opn_ints : Opn enc Tryz.prog W 29 fun is => ∃ l : List Int, is = [AI.intsI l] ∧ l.length ≤ AI.max63 := by
  intro n cs x h
  obtain ⟨is, hr, xs, rfl, hx, hl⟩ := opn_slice Tryz.underlying29 (z := 1) (by kernel_rfl) (by decide) (opn_int Tryz.underlying3) n cs x h
  obtain ⟨l, rfl, -⟩ := list_of (f := fun z : Int => [AI.vi z]) (Q := fun _ => True) (xs := xs) fun d hd => by
    obtain ⟨z, hz, _⟩ := hx d hd
    exact ⟨z, hz, trivial⟩
  refine ⟨_, hr, l, by simp, maxLen63 (by simpa using hl)⟩
theorem open_ints {r : Reach} {b0 : Nat} {v : Value} {d : DataW H} {p : List MemPlace} (hv : Value.okWide Tryz.prog W r b0 29 v) (h : DataW.Trod enc Tryz.prog W 0 (fun _ => true) true 29 v d p) :
    ∃ l : List Int, l.length ≤ AI.max63 ∧ ∀ ρ sh, AI.RepD (KW W) ρ sh v (AI.ints l) := by
  obtain ⟨n, hn⟩ := h
  obtain ⟨is, hr, l, rfl, hl⟩ := opn_ints n _ _ hn
  rw [okWide_slice Tryz.underlying29 hv] at hr
  cases hr with
  | cons h1 h2 => exact ⟨l, hl, fun ρ sh => .i h1⟩
structure autLen (x : AI.Aut) : Prop where
  e : x.edges.length ≤ AI.max63
  a : x.alpha.length ≤ AI.max63
  m : x.marked.length ≤ AI.max63
end
end Go.Proofs.YtmhllkmceipdcaaGreatDoor


/- The law's own estimates: reach, Begin, Next, Observe, Estimate. -/
namespace Go.AI
open Go.Proofs
set_option maxRecDepth 20000
/-- What is known of an automaton that passes the check. -/
structure gAut (a : Aut) (n : Nat) : Prop where
  st : a.states = n
  sm : smallA a
  c : chkA a = 0
theorem gAut.to {a : Aut} {n : Nat} (h : gAut a n) : ∀ e ∈ a.edges, 0 ≤ e.2.2 ∧ e.2.2 < (n : Int) := fun e he => by have := (chk_rng h.c).2.1 e he; rw [h.st] at this; exact this
theorem gAut.fr {a : Aut} {n : Nat} (h : gAut a n) : ∀ e ∈ a.edges, 0 ≤ e.1 ∧ e.1 < (n : Int) := fun e he => by have := (chk_rng h.c).1 e he; rw [h.st] at this; exact this
theorem gAut.ev {a : Aut} {n : Nat} (h : gAut a n) : ∀ e ∈ a.edges, e.2.1 ∈ a.alpha := (chk_rng h.c).2.2
theorem gAut.pw {a : Aut} {n : Nat} (h : gAut a n) : a.edges.Pairwise ltE := (chkEds_sorted (chk_parts h.c).2.2.2).1
abbrev erasR (a : Aut) (on : List Int) : List Int := a.alpha.filter fun x => !decide (x ∈ on)
theorem erasR_low {a : Aut} {n : Nat} (h : gAut a n) (on un l : List Int) : clo a.edges (fun x => decide (x ∈ erasR a on)) n l = clo a.edges (lowP on un false) n l :=
  clo_congr h.to (fun e he => by
    have h1 := h.ev e he
    show decide (e.2.1 ∈ a.alpha.filter fun x => !decide (x ∈ on)) = (!decide (e.2.1 ∈ on) && (!false || _))
    simp [List.mem_filter, h1]) fun _ => Iff.rfl
theorem low_un (on un : List Int) : lowP on un false = lowP on [] false := by funext x; simp [lowP]
theorem clo_len (es : List Edg) (p : Int → Bool) (n : Nat) (l : List Int) : (clo es p n l).length ≤ n := sortedBelow_len _ _
theorem reachS33 (O : List Heap) (a : Aut) (on : List Int) (s : Int) (n : Nat) (h : gAut a n) (hn : n ≤ 4096) (hon : on.length ≤ max63) :
    ASpec Tryz.prog 33 [autD a, ints on, ii s] O (ints (clo a.edges (lowP on [] false) n [s])) [] O := by
  have h1 : ∀ O, ASpec Tryz.prog 74 [autD a, ints on] O (ints (erasR a on)) [] O := fun O => erased74 O a on h.sm.al hon
  have h2 := fun O => reach20 O a [s] (erasR a on) n h.st hn h.sm.ed h.to (by simp) (Nat.le_trans (List.length_filter_le _ _) (by have := h.sm.al; simp only [max63]; omega))
  rw [erasR_low h on []] at h2
  generalize clo a.edges (lowP on [] false) n [s] = R at *
  generalize erasR a on = er at *
  obtain ⟨al, st, mk, es⟩ := a
  refine aspec_intro Tk Tryz.func33 rfl Tryz.call33 Tryz.ntmps33 (Nat.le_of_ble_eq_true rfl) fun E => ?_
  refine g_run Tk Tryz.func33 ?_
  refine g_drawn Tk Tryz.func33 mixedT rfl ?_
  first | refine g_call Tk Tryz.func33 (h1 _) rfl rfl rfl rfl rfl ?_ | refine s_callq Tk (fun _ => h1 _) rfl rfl rfl ?_
  first | refine g_call Tk Tryz.func33 (h2 _) rfl rfl rfl rfl rfl ?_ | refine s_callq Tk (fun _ => h2 _) rfl rfl rfl ?_
  refine e_done Tk Tryz.func33 (by kernel_rfl) ?_
  refine g_ret Tk (r := ints R) rfl rfl rfl trivial rfl rfl ?_
  rfl
def begR (a : Aut) (on : List Int) (n : Nat) : List Int := if n = 0 then [] else clo a.edges (lowP on [] false) n [0]
set_option maxHeartbeats 4000000 in
theorem next34 (O : List Heap) (a : Aut) (on est : List Int) (ev : Int) (n : Nat) (h : gAut a n) (hn : n ≤ 4096) (hel : est.length ≤ max63) (hon : on.length ≤ max63) :
    ASpec Tryz.prog 34 [autD a, ints on, ints est, ii ev] O (ints (nxt a.edges (lowP on [] false) n est ev)) [] O := by
  have h1 : ∀ O, ASpec Tryz.prog 74 [autD a, ints on] O (ints (erasR a on)) [] O := fun O => erased74 O a on h.sm.al hon
  have h2 := fun O l hl => reach20 O a l (erasR a on) n h.st hn h.sm.ed h.to hl (Nat.le_trans (List.length_filter_le _ _) (by have := h.sm.al; simp only [max63]; omega))
  have hed := h.sm.ed
  have h2 : ∀ O l, l.length ≤ 1000000 → ASpec Tryz.prog 20 [autD a, ints l, ints (erasR a on)] O (ints (clo a.edges (lowP on [] false) n l)) [] O := fun O l hl => by
    have := h2 O l hl
    rwa [erasR_low h on []] at this
  unfold nxt
  generalize lowP on [] false = lp at *
  generalize erasR a on = er at *
  clear h
  obtain ⟨al, st, mk, es⟩ := a
  simp only at hed
  generalize hK : clo es lp n (tgtE es est ev) = KK
  refine aspec_stop [7] Tk Tryz.func34 rfl Tryz.call34 Tryz.ntmps34 (Nat.le_of_ble_eq_true rfl) fun E => ?_
  refine g_run Tk Tryz.func34 ?_
  refine g_loop ?_
  refine rch_wk (wk_nil 9 44 3 1 rfl rfl rfl) ?_
  refine rch_loop2 (fun x : Nat × List Int => [(1, ints on), (2, ints est), (3, ii ev), (4, .own 0 4 0 0), (9, .osl 0 44), (10, ii x.1)]) (fun x => [(4, .box [ints al, ii st, ints mk, edgs es]), (44, oints x.2)]) (fun _ => O) 51
    (fun x => x.1 ≤ es.length ∧ x.2.length ≤ x.1 ∧ clo es lp n (x.2 ++ tgtE (es.drop x.1) est ev) = KK) (fun x => es.length - x.1) (0, []) ⟨Nat.zero_le _, Nat.le_refl _, by simpa using hK⟩ ⟨rfl, rfl, rfl, rfl, rfl, rfl, trivial⟩ rfl ⟨rfl, rfl, trivial⟩ rfl rfl ?_
  clear hK
  rintro ⟨i, l⟩ ⟨hi, hl, hno⟩ ih
  simp only at hi hl hno
  have hj1 : ii (IntKind.i64.wrap ((i : Int) + 1)) = ii ((i + 1 : Nat) : Int) := congrArg ii (wsucc (n := 1000001) (by omega) (by decide))
  refine g_run Tk Tryz.func34 ?_
  first | refine g_cnd Tk Tryz.func34 rfl (fun g1 => ?_) (fun g1 => ?_) | refine g_know Tk Tryz.func34 rfl (fun g1 => ?_) (fun g1 => ?_) | refine s_know Tk (fun g1 => ?_) (fun g1 => ?_)
  · have h3 : i < es.length := by simpa using g1
    have ge : (es.map edgI)[(i : Int).toNat]? = some (edgI es[i]) := get_mapZ h3
    rw [List.drop_eq_getElem_cons h3] at hno
    generalize es[i] = e at *
    obtain ⟨ef, ee, et⟩ := e
    have htg : ∀ r, tgtE ((ef, ee, et) :: r) est ev = if ee = ev ∧ ef ∈ est then et :: tgtE r est ev else tgtE r est ev := fun r => by
      unfold tgtE
      rw [List.filter_cons]
      by_cases c : ee = ev ∧ ef ∈ est
      · rw [if_pos (by simpa using c), if_pos c, List.map_cons]
      · rw [if_neg (by simpa using c), if_neg c]
    rw [htg] at hno
    clear htg
    first | refine g_need Tk Tryz.func34 (by exact ⟨by omega, by show (i : Int) < (es.length : Int); omega⟩) ?_ | refine s_need Tk (by exact ⟨by omega, by show (i : Int) < (es.length : Int); omega⟩) ?_
    first | refine g_elem Tk Tryz.func34 (ge) ?_ | refine s_elem Tk (ge) ?_
    first | refine g_cnd Tk Tryz.func34 rfl (fun c1 => ?_) (fun c1 => ?_) | refine g_know Tk Tryz.func34 rfl (fun c1 => ?_) (fun c1 => ?_) | refine s_know Tk (fun c1 => ?_) (fun c1 => ?_)
    · have c1 : ee = ev := beqT c1
      first | refine g_need Tk Tryz.func34 (by exact ⟨by omega, by show (i : Int) < (es.length : Int); omega⟩) ?_ | refine s_need Tk (by exact ⟨by omega, by show (i : Int) < (es.length : Int); omega⟩) ?_
      first | refine g_elem Tk Tryz.func34 (ge) ?_ | refine s_elem Tk (ge) ?_
      first | refine g_call Tk Tryz.func34 (has55 _ est ef hel) rfl rfl rfl rfl rfl ?_ | refine s_callq Tk (fun _ => has55 _ est ef hel) rfl rfl rfl ?_
      first | refine g_cnd Tk Tryz.func34 rfl (fun c2 => ?_) (fun c2 => ?_) | refine g_know Tk Tryz.func34 rfl (fun c2 => ?_) (fun c2 => ?_) | refine s_know Tk (fun c2 => ?_) (fun c2 => ?_)
      · have c2 : ef ∈ est := of_decide_eq_true c2
        rw [if_pos ⟨c1, c2⟩] at hno
        first | refine g_need Tk Tryz.func34 (by exact ⟨by omega, by show (i : Int) < (es.length : Int); omega⟩) ?_ | refine s_need Tk (by exact ⟨by omega, by show (i : Int) < (es.length : Int); omega⟩) ?_
        first | refine g_elem Tk Tryz.func34 (ge) ?_ | refine s_elem Tk (ge) ?_
        first | refine g_need Tk Tryz.func34 (by exact ⟨by show (l.length + 1) * 8 ≤ 140737488355328; omega, by show l.length + 1 ≤ 9223372036854775807; omega⟩) ?_ | refine s_need Tk (by exact ⟨by show (l.length + 1) * 8 ≤ 140737488355328; omega, by show l.length + 1 ≤ 9223372036854775807; omega⟩) ?_
        refine g_loop ?_
        refine ih (i + 1, l ++ [et]) _ _ ⟨h3, by simp; omega, by simpa using hno⟩ (by simp only; omega) ⟨rfl, rfl, rfl, rfl, rfl, hj1, trivial⟩ rfl ⟨rfl, congrArg some (oints_app l et), trivial⟩ rfl rfl
      · have c2 : ef ∉ est := of_decide_eq_false c2
        rw [if_neg (fun h => c2 h.2)] at hno
        refine g_loop ?_
        exact ih (i + 1, l) _ _ ⟨h3, by simp only; omega, hno⟩ (by simp only; omega) ⟨rfl, rfl, rfl, rfl, rfl, hj1, trivial⟩ rfl ⟨rfl, rfl, trivial⟩ rfl rfl
    · have c1 : ee ≠ ev := beqF c1
      rw [if_neg (fun h => c1 h.1)] at hno
      repeat (first | refine gcT Tk Tryz.func34 rfl ?_ | refine gkT Tk Tryz.func34 rfl ?_ | refine skT Tk ?_ | refine gcF Tk Tryz.func34 rfl ?_ | refine gkF Tk Tryz.func34 rfl ?_ | refine skF Tk ?_)
      refine g_loop ?_
      exact ih (i + 1, l) _ _ ⟨h3, by simp only; omega, hno⟩ (by simp only; omega) ⟨rfl, rfl, rfl, rfl, rfl, hj1, trivial⟩ rfl ⟨rfl, rfl, trivial⟩ rfl rfl
  · have h3 : es.length ≤ i := by simpa using g1
    rw [List.drop_eq_nil_of_le h3] at hno
    have hno : clo es lp n l = KK := by simpa [tgtE] using hno
    have h2 := fun O => h2 O l (by omega)
    rw [hno] at h2
    refine g_stop ?_
    refine rch_wk (wk_freeze 44 rfl rfl) ?_
    refine g_run Tk Tryz.func34 ?_
    refine g_go Tk Tryz.func34 ?_
    refine g_drawn Tk Tryz.func34 mixedT rfl ?_
    first | refine g_call Tk Tryz.func34 (h1 _) rfl rfl rfl rfl rfl ?_ | refine s_callq Tk (fun _ => h1 _) rfl rfl rfl ?_
    first | refine g_call Tk Tryz.func34 (h2 _) rfl rfl rfl rfl rfl ?_ | refine s_callq Tk (fun _ => h2 _) rfl rfl rfl ?_
    refine e_done Tk Tryz.func34 (by kernel_rfl) ?_
    refine g_ret Tk (r := ints KK) rfl rfl rfl trivial rfl rfl ?_
    rfl
end Go.AI


/- The law's own Estimate, Observe, Run, insert. -/
namespace Go.AI
open Go.Proofs
set_option maxRecDepth 20000
def estR (a : Aut) (on : List Int) (n : Nat) (obs : List Int) : List Int := obs.foldl (fun e ev => nxt a.edges (lowP on [] false) n e ev) (begR a on n)
set_option maxHeartbeats 4000000 in
theorem observe32 (O : List Heap) (on w : List Int) (hwl : w.length ≤ 1000000) (hon : on.length ≤ max63) :
    ASpec Tryz.prog 32 [ints on, ints w] O (ints (w.filter fun x => decide (x ∈ on))) [] O := by
  generalize hK : (w.filter fun x => decide (x ∈ on)) = KK
  refine aspec_stop [7] Tk Tryz.func32 rfl Tryz.call32 Tryz.ntmps32 (Nat.le_of_ble_eq_true rfl) fun E => ?_
  refine g_run Tk Tryz.func32 ?_
  refine g_loop ?_
  refine rch_wk (wk_nil 5 25 3 1 rfl rfl rfl) ?_
  refine rch_loop2 (fun x : Nat × List Int => [(0, ints on), (1, ints w), (5, .osl 0 25), (6, ii x.1)]) (fun x => [(25, oints x.2)]) (fun _ => O) 27
    (fun x => x.1 ≤ w.length ∧ x.2.length ≤ x.1 ∧ x.2 ++ (w.drop x.1).filter (fun x => decide (x ∈ on)) = KK) (fun x => w.length - x.1) (0, []) ⟨Nat.zero_le _, Nat.le_refl _, by simpa using hK⟩ ⟨rfl, rfl, rfl, rfl, trivial⟩ rfl ⟨rfl, trivial⟩ rfl rfl ?_
  rintro ⟨i, kp⟩ ⟨hi, hkl, hno⟩ ih
  simp only at hi hkl hno
  have hj1 : ii (IntKind.i64.wrap ((i : Int) + 1)) = ii ((i + 1 : Nat) : Int) := congrArg ii (wsucc (n := 1000001) (by omega) (by decide))
  refine g_run Tk Tryz.func32 ?_
  first | refine g_cnd Tk Tryz.func32 rfl (fun g2 => ?_) (fun g2 => ?_) | refine g_know Tk Tryz.func32 rfl (fun g2 => ?_) (fun g2 => ?_) | refine s_know Tk (fun g2 => ?_) (fun g2 => ?_)
  · have h3 : i < w.length := by simpa using g2
    have ga : (w.map fun x => [vi x])[(i : Int).toNat]? = some [vi w[i]] := get_mapZ h3
    rw [List.drop_eq_getElem_cons h3, List.filter_cons] at hno
    generalize w[i] = x at *
    first | refine g_need Tk Tryz.func32 (by exact ⟨by omega, by show (i : Int) < (w.length : Int); omega⟩) ?_ | refine s_need Tk (by exact ⟨by omega, by show (i : Int) < (w.length : Int); omega⟩) ?_
    first | refine g_elem Tk Tryz.func32 (ga) ?_ | refine s_elem Tk (ga) ?_
    first | refine g_call Tk Tryz.func32 (has55 _ on x hon) rfl rfl rfl rfl rfl ?_ | refine s_callq Tk (fun _ => has55 _ on x hon) rfl rfl rfl ?_
    first | refine g_cnd Tk Tryz.func32 rfl (fun g3 => ?_) (fun g3 => ?_) | refine g_know Tk Tryz.func32 rfl (fun g3 => ?_) (fun g3 => ?_) | refine s_know Tk (fun g3 => ?_) (fun g3 => ?_)
    · have g3 : (decide (x ∈ on)) = true := g3
      rw [if_pos g3] at hno
      first | refine g_need Tk Tryz.func32 (by exact ⟨by omega, by show (i : Int) < (w.length : Int); omega⟩) ?_ | refine s_need Tk (by exact ⟨by omega, by show (i : Int) < (w.length : Int); omega⟩) ?_
      first | refine g_elem Tk Tryz.func32 (ga) ?_ | refine s_elem Tk (ga) ?_
      first | refine g_need Tk Tryz.func32 (by exact ⟨by show (kp.length + 1) * 8 ≤ 140737488355328; omega, by show kp.length + 1 ≤ 9223372036854775807; omega⟩) ?_ | refine s_need Tk (by exact ⟨by show (kp.length + 1) * 8 ≤ 140737488355328; omega, by show kp.length + 1 ≤ 9223372036854775807; omega⟩) ?_
      refine g_loop ?_
      refine ih (i + 1, kp ++ [x]) _ _ ⟨h3, by simp; omega, by simpa using hno⟩ (by simp only; omega) ⟨rfl, rfl, rfl, hj1, trivial⟩ rfl ⟨congrArg some (oints_app kp x), trivial⟩ rfl rfl
    · have g3 : (decide (x ∈ on)) = false := g3
      rw [if_neg (by rw [g3]; decide)] at hno
      refine g_loop ?_
      exact ih (i + 1, kp) _ _ ⟨h3, by simp only; omega, hno⟩ (by simp only; omega) ⟨rfl, rfl, rfl, hj1, trivial⟩ rfl ⟨rfl, trivial⟩ rfl rfl
  · have h3 : w.length ≤ i := by simpa using g2
    rw [List.drop_eq_nil_of_le h3] at hno
    simp only [List.filter_nil, List.append_nil] at hno
    subst hno
    refine g_stop ?_
    refine rch_wk (wk_freeze 25 rfl rfl) ?_
    refine g_run Tk Tryz.func32 ?_
    refine g_go Tk Tryz.func32 ?_
    refine g_ret Tk (r := ints kp) rfl rfl rfl trivial rfl rfl ?_
    rfl
/-- Run: the state where it stops, and how many events were taken. -/
def runW (es : List Edg) : Int → List Int → Int → Int × Int
  | s, [], k => (s, k)
  | s, x :: r, k => if stp3 es s x < 0 then (s, k) else runW es (stp3 es s x) r (k + 1)
set_option maxHeartbeats 4000000 in
theorem run28 (O : List Heap) (a : Aut) (s : Int) (w : List Int) (hl : a.edges.length ≤ max63) (hwl : w.length ≤ 1000000) :
    ASpec Tryz.prog 28 [autD a, ii s, ints w] O (.tup [ii (runW a.edges s w 0).1, ii (runW a.edges s w 0).2]) [] O := by
  have h1 := fun O s ev => step121 O a s ev hl
  generalize hK : runW a.edges s w 0 = KK
  refine aspec_intro Tk Tryz.func28 rfl Tryz.call28 Tryz.ntmps28 (Nat.le_of_ble_eq_true rfl) fun E => ?_
  refine g_run Tk Tryz.func28 ?_
  refine g_loop ?_
  refine rch_loop2 (fun x : Nat × Int => [(1, ii x.2), (2, ints w), (3, .own 0 3 0 0), (8, ii x.1)]) (fun x => [(3, .box (autC a))]) (fun _ => O) 31
    (fun x => x.1 ≤ w.length ∧ runW a.edges x.2 (w.drop x.1) x.1 = KK) (fun x => w.length - x.1) (0, s) ⟨Nat.zero_le _, by simpa using hK⟩ ⟨rfl, rfl, rfl, rfl, trivial⟩ rfl ⟨rfl, trivial⟩ rfl rfl ?_
  clear hK
  rintro ⟨i, t⟩ ⟨hi, hno⟩ ih
  simp only at hi hno
  have hj1 : ii (IntKind.i64.wrap ((i : Int) + 1)) = ii ((i + 1 : Nat) : Int) := congrArg ii (wsucc (n := 1000001) (by omega) (by decide))
  refine g_run Tk Tryz.func28 ?_
  first | refine g_cnd Tk Tryz.func28 rfl (fun g2 => ?_) (fun g2 => ?_) | refine g_know Tk Tryz.func28 rfl (fun g2 => ?_) (fun g2 => ?_) | refine s_know Tk (fun g2 => ?_) (fun g2 => ?_)
  · have h3 : i < w.length := by simpa using g2
    have ga : (w.map fun x => [vi x])[(i : Int).toNat]? = some [vi w[i]] := get_mapZ h3
    rw [List.drop_eq_getElem_cons h3] at hno
    simp only [runW] at hno
    generalize w[i] = x at *
    have h1' := fun O => h1 O t x
    generalize stp3 a.edges t x = u at *
    refine g_drawn Tk Tryz.func28 mixedT rfl ?_
    first | refine g_need Tk Tryz.func28 (by exact ⟨by omega, by show (i : Int) < (w.length : Int); omega⟩) ?_ | refine s_need Tk (by exact ⟨by omega, by show (i : Int) < (w.length : Int); omega⟩) ?_
    first | refine g_elem Tk Tryz.func28 (ga) ?_ | refine s_elem Tk (ga) ?_
    first | refine g_call Tk Tryz.func28 (h1' _) rfl rfl rfl rfl rfl ?_ | refine s_callq Tk (fun _ => h1' _) rfl rfl rfl ?_
    refine e_done Tk Tryz.func28 (by kernel_rfl) ?_
    first | refine g_cnd Tk Tryz.func28 rfl (fun g3 => ?_) (fun g3 => ?_) | refine g_know Tk Tryz.func28 rfl (fun g3 => ?_) (fun g3 => ?_) | refine s_know Tk (fun g3 => ?_) (fun g3 => ?_)
    · have g3 : u < 0 := by simpa using g3
      rw [if_pos g3] at hno
      subst hno
      refine g_ret Tk (r := .tup [ii t, ii i]) rfl rfl rfl trivial rfl rfl ?_
      rfl
    · have g3 : ¬ u < 0 := by simpa using g3
      rw [if_neg g3] at hno
      refine g_loop ?_
      exact ih (i + 1, u) _ _ ⟨h3, by simpa using hno⟩ (by simp only; omega) ⟨rfl, rfl, rfl, hj1, trivial⟩ rfl ⟨rfl, trivial⟩ rfl rfl
  · have h3 : w.length ≤ i := by simpa using g2
    rw [List.drop_eq_nil_of_le h3] at hno
    have hno : (t, (i : Int)) = KK := hno
    subst hno
    have e : i = w.length := by omega
    refine g_ret Tk (r := .tup [ii t, ii w.length]) rfl rfl rfl trivial rfl rfl ?_
    rw [← e]
end Go.AI


/- The law's own enabled, contradicted. -/
namespace Go.AI
open Go.Proofs
set_option maxRecDepth 20000
end Go.AI


/- The law's own missing. -/
namespace Go.AI
open Go.Proofs
set_option maxRecDepth 20000
def okX (y : PS) : Bool := decide (y.1.length > 0)
def misR (a : Aut) (on : List Int) (n : Nat) (A B : List Int) : Option (PS × List Int) :=
  bsr (stepP a.edges (lowP on [] false) n) okX (fun _ => keptR a on) (fun y => badM a y.1 y.2) 4096 0 [((A, B), [])]
end Go.AI


/- The law's own pairs. -/
namespace Go.AI
open Go.Proofs
set_option maxRecDepth 20000
section
variable {S : Type} [DecidableEq S]
/-- The search, without a test: all nodes. -/
def bfull (nx : S → Int → S) (ok : S → Bool) (evs : S → List Int) : Nat → Nat → List (S × List Int) → List (S × List Int)
  | 0, _, l => l
  | f + 1, i, l => match l[i]? with
    | none => l
    | some x => bfull nx ok evs f (i + 1) (bvis nx ok x (evs x.1) l)
end
def okO (y : OS) : Bool := decide (0 ≤ y.1)
def prsR (a : Aut) (on : List Int) (n : Nat) : List (OS × List Int) := if n = 0 then [] else bfull (nxO a.edges on [] n) okO (fun _ => a.alpha) 4096 0 [((0, clo a.edges (lowP on [] false) n [0]), [])]
end Go.AI


/- Plain: the search and its list; searches that are images of one another. -/
namespace Go.AI
section
variable {S : Type} [DecidableEq S]
theorem bvis_pre (nx : S → Int → S) (ok : S → Bool) (x : S × List Int) : ∀ (es : List Int) (l : List (S × List Int)), l <+: bvis nx ok x es l
  | [], l => List.prefix_refl l
  | ev :: r, l => by
    simp only [bvis]
    split
    · exact (List.prefix_append _ _).trans (bvis_pre nx ok x r _)
    · exact bvis_pre nx ok x r l
theorem bfull_pre (nx : S → Int → S) (ok : S → Bool) (evs : S → List Int) : ∀ (f i : Nat) (l : List (S × List Int)), l <+: bfull nx ok evs f i l
  | 0, _, l => List.prefix_refl l
  | f + 1, i, l => by
    simp only [bfull]
    split
    · exact List.prefix_refl l
    · exact (bvis_pre nx ok _ _ l).trans (bfull_pre nx ok evs f (i + 1) _)
theorem bvis_ok {V : List S} {nx : S → Int → S} {ok : S → Bool} {x : S × List Int} {i : Nat} : ∀ {es : List Int} {l : List (S × List Int)}, (∀ ev ∈ es, ok (nx x.1 ev) = true → nx x.1 ev ∈ V) → bOk V l → l[i]? = some x → bOk V (bvis nx ok x es l)
  | [], l, _, h, _ => h
  | ev :: r, l, hv, h, hi => by
    have hv2 : ∀ ev ∈ r, ok (nx x.1 ev) = true → nx x.1 ev ∈ V := fun e he => hv e (by simp [he])
    simp only [bvis]
    split
    · rename_i hc
      refine bvis_ok (i := i) hv2 (bOk_app h hi (hv ev (by simp) hc.1) hc.2 ev) ?_
      have : i < l.length := (List.getElem?_eq_some_iff.1 hi).1
      rw [List.getElem?_append_left this]
      exact hi
    · exact bvis_ok hv2 h hi
theorem bfull_ok {V : List S} {nx : S → Int → S} {ok : S → Bool} {evs : S → List Int} (hv : ∀ x ∈ V, ∀ ev ∈ evs x, ok (nx x ev) = true → nx x ev ∈ V) : ∀ (f i : Nat) (l : List (S × List Int)), bOk V l → bOk V (bfull nx ok evs f i l)
  | 0, _, l, h => h
  | f + 1, i, l, h => by
    simp only [bfull]
    cases hi : l[i]? with
    | none => exact h
    | some x =>
      have hx : x.1 ∈ V := h.el x (List.mem_of_getElem? hi)
      exact bfull_ok hv f (i + 1) _ (bvis_ok (hv x.1 hx) h hi)
/-- The search finds the first bad node of its list. -/
theorem bsr_find {V : List S} {nx : S → Int → S} {ok : S → Bool} {evs : S → List Int} {bad : S → Bool} (hv : ∀ x ∈ V, ∀ ev ∈ evs x, ok (nx x ev) = true → nx x ev ∈ V) {N : Nat} (hN : V.length < N) : ∀ (f i : Nat) (l : List (S × List Int)), f + i = N → i ≤ l.length → bOk V l → (∀ z ∈ l.take i, bad z.1 = false) →
    bsr nx ok evs bad f i l = (bfull nx ok evs f i l).find? fun z => bad z.1
  | 0, i, l, hf, hi, h, _ => by
    have := bOk_len h
    omega
  | f + 1, i, l, hf, hi, h, hb => by
    simp only [bsr, bfull]
    cases hg : l[i]? with
    | none =>
      have : l.length ≤ i := by
        rcases Nat.lt_or_ge i l.length with h1 | h1
        · rw [List.getElem?_eq_getElem h1] at hg; cases hg
        · exact h1
      rw [List.take_of_length_le this] at hb
      simp only
      symm
      rw [List.find?_eq_none]
      intro z hz
      rw [hb z hz]; simp
    | some x =>
      have hlt : i < l.length := (List.getElem?_eq_some_iff.1 hg).1
      have hx : x.1 ∈ V := h.el x (List.mem_of_getElem? hg)
      have htk : l.take (i + 1) = l.take i ++ [x] := by rw [List.take_add_one, hg]; rfl
      simp only
      by_cases hbx : bad x.1 = true
      · rw [if_pos hbx]
        obtain ⟨r1, hr1⟩ := bvis_pre nx ok x (evs x.1) l
        obtain ⟨r2, hr2⟩ := bfull_pre nx ok evs f (i + 1) (bvis nx ok x (evs x.1) l)
        rw [← hr2, ← hr1]
        have hl : l = l.take i ++ (x :: l.drop (i + 1)) := by
          have h0 := List.take_append_drop (i + 1) l
          rw [htk, List.append_assoc] at h0
          exact h0.symm
        symm
        rw [hl, List.append_assoc, List.append_assoc, List.find?_append, List.find?_eq_none.2 (fun z hz => by rw [hb z hz]; simp), Option.none_or, List.cons_append, List.find?_cons, hbx]
      · rw [if_neg hbx]
        have hp := bvis_pre nx ok x (evs x.1) l
        refine bsr_find hv hN f (i + 1) _ (by omega) (Nat.le_trans hlt hp.length_le) (bvis_ok (hv x.1 hx) h hg) fun z hz => ?_
        have e : (bvis nx ok x (evs x.1) l).take (i + 1) = l.take (i + 1) := by
          obtain ⟨r, hr⟩ := hp
          rw [← hr, List.take_append_of_le_length (by omega)]
        rw [e, htk, List.mem_append, List.mem_singleton] at hz
        rcases hz with hz | rfl
        · exact hb z hz
        · simpa using hbx
/-- The events that lead nowhere may be left out. -/
theorem bvis_filter {nx : S → Int → S} {ok : S → Bool} {x : S × List Int} : ∀ {es : List Int} {l : List (S × List Int)}, bvis nx ok x es l = bvis nx (fun _ => true) x (es.filter fun ev => ok (nx x.1 ev)) l
  | [], l => rfl
  | ev :: r, l => by
    rw [List.filter_cons]
    cases hc : ok (nx x.1 ev) with
    | true =>
      simp only [bvis, hc, if_true, true_and]
      exact bvis_filter
    | false =>
      simp only [bvis, hc, Bool.false_eq_true, false_and, if_false]
      exact bvis_filter
theorem bfull_filter {V : List S} {nx : S → Int → S} {ok : S → Bool} {evs evs' : S → List Int} (hv : ∀ x ∈ V, ∀ ev ∈ evs x, ok (nx x ev) = true → nx x ev ∈ V) (he : ∀ x ∈ V, evs' x = (evs x).filter fun ev => ok (nx x ev)) : ∀ (f i : Nat) (l : List (S × List Int)), bOk V l → bfull nx ok evs f i l = bfull nx (fun _ => true) evs' f i l
  | 0, _, l, h => rfl
  | f + 1, i, l, h => by
    simp only [bfull]
    cases hi : l[i]? with
    | none => rfl
    | some x =>
      have hx : x.1 ∈ V := h.el x (List.mem_of_getElem? hi)
      simp only
      rw [he x.1 hx, ← bvis_filter]
      exact bfull_filter hv he f (i + 1) _ (bvis_ok (hv x.1 hx) h hi)
end
section
variable {S : Type} [DecidableEq S]
theorem bvis_has {nx : S → Int → S} {ok : S → Bool} {x : S × List Int} : ∀ {es : List Int} {l : List (S × List Int)} {ev : Int}, ev ∈ es → ok (nx x.1 ev) = true → ∃ w ∈ bvis nx ok x es l, w.1 = nx x.1 ev
  | e :: r, l, ev, h, c => by
    rcases List.mem_cons.1 h with rfl | h
    · simp only [bvis]
      by_cases c2 : ∀ z ∈ l, z.1 ≠ nx x.1 ev
      · rw [if_pos ⟨c, c2⟩]
        exact ⟨(nx x.1 ev, x.2 ++ [ev]), (bvis_pre nx ok x r _).subset (by simp), rfl⟩
      · rw [if_neg (fun h => c2 h.2)]
        by_cases c3 : ∃ z ∈ l, z.1 = nx x.1 ev
        · obtain ⟨z, hz, e⟩ := c3
          exact ⟨z, (bvis_pre nx ok x r l).subset hz, e⟩
        · exact absurd (fun z hz e => c3 ⟨z, hz, e⟩) c2
    · simp only [bvis]
      exact bvis_has h c
end
/- Images. -/
section
variable {S T : Type} [DecidableEq S] [DecidableEq T]
def addF (acc : List (T × List Int)) (z : T × List Int) : List (T × List Int) := if ∀ y ∈ acc, y.1 ≠ z.1 then acc ++ [z] else acc
/-- The nodes' images, each where it comes first. -/
def img (h : S → Option T) (l : List (S × List Int)) : List (T × List Int) := l.foldl (fun acc z => match h z.1 with
  | none => acc
  | some y => addF acc (y, z.2)) []
theorem img_snoc (h : S → Option T) (l : List (S × List Int)) (z : S × List Int) : img h (l ++ [z]) = match h z.1 with
    | none => img h l
    | some y => addF (img h l) (y, z.2) := by
  unfold img
  rw [List.foldl_append]
  rfl
theorem addF_pre (acc : List (T × List Int)) (z : T × List Int) : acc <+: addF acc z := by
  unfold addF
  split
  · exact List.prefix_append _ _
  · exact List.prefix_refl _
theorem img_pre (h : S → Option T) : ∀ (m l : List (S × List Int)), img h l <+: img h (l ++ m)
  | [], l => by rw [List.append_nil]; exact List.prefix_refl _
  | z :: r, l => by
    have e : l ++ z :: r = (l ++ [z]) ++ r := by simp
    rw [e]
    refine List.IsPrefix.trans ?_ (img_pre h r (l ++ [z]))
    rw [img_snoc]
    split
    · exact List.prefix_refl _
    · exact addF_pre _ _
theorem addF_mem (acc : List (T × List Int)) (z : T × List Int) (y : T) : (∃ w ∈ addF acc z, w.1 = y) ↔ (∃ w ∈ acc, w.1 = y) ∨ z.1 = y := by
  unfold addF
  split
  · constructor
    · rintro ⟨w, hw, e⟩
      rcases List.mem_append.1 hw with hw | hw
      · exact .inl ⟨w, hw, e⟩
      · rw [List.mem_singleton] at hw; subst hw; exact .inr e
    · rintro (⟨w, hw, e⟩ | e)
      · exact ⟨w, by simp [hw], e⟩
      · exact ⟨z, by simp, e⟩
  · rename_i hn
    constructor
    · exact .inl
    · rintro (hw | e)
      · exact hw
      · by_cases c : ∃ q ∈ acc, q.1 = z.1
        · obtain ⟨q, hq, e2⟩ := c
          exact ⟨q, hq, e2.trans e⟩
        · exact absurd (fun q hq e => c ⟨q, hq, e⟩) hn
theorem img_memA (h : S → Option T) (y : T) : ∀ (l : List (S × List Int)) (acc : List (T × List Int)), (∃ w ∈ l.foldl (fun acc z => match h z.1 with
  | none => acc
  | some y => addF acc (y, z.2)) acc, w.1 = y) ↔ (∃ w ∈ acc, w.1 = y) ∨ ∃ z ∈ l, h z.1 = some y
  | [], acc => by simp
  | z :: r, acc => by
    rw [List.foldl_cons, img_memA h y r]
    cases hz : h z.1 with
    | none =>
      simp only
      constructor
      · rintro (hw | ⟨w, hw, e⟩)
        · exact .inl hw
        · exact .inr ⟨w, by simp [hw], e⟩
      · rintro (hw | ⟨w, hw, e⟩)
        · exact .inl hw
        · rcases List.mem_cons.1 hw with rfl | hw
          · rw [hz] at e; cases e
          · exact .inr ⟨w, hw, e⟩
    | some u =>
      simp only [addF_mem]
      constructor
      · rintro ((hw | e) | ⟨w, hw, e⟩)
        · exact .inl hw
        · exact .inr ⟨z, by simp, by rw [hz, e]⟩
        · exact .inr ⟨w, by simp [hw], e⟩
      · rintro (hw | ⟨w, hw, e⟩)
        · exact .inl (.inl hw)
        · rcases List.mem_cons.1 hw with rfl | hw
          · rw [hz] at e; exact .inl (.inr (Option.some.inj e))
          · exact .inr ⟨w, hw, e⟩
theorem img_mem (h : S → Option T) (l : List (S × List Int)) (y : T) : (∃ w ∈ img h l, w.1 = y) ↔ ∃ z ∈ l, h z.1 = some y := by
  unfold img
  rw [img_memA]
  simp
/-- The first node with a property of its image. -/
theorem addF_find (p : T → Bool) (acc : List (T × List Int)) (z : T × List Int) : (addF acc z).find? (fun w => p w.1) = (acc ++ [z]).find? (fun w => p w.1) := by
  unfold addF
  split
  · rfl
  · rename_i hn
    rw [List.find?_append]
    cases hf : acc.find? (fun w => p w.1) with
    | some w => rfl
    | none =>
      by_cases c : ∃ q ∈ acc, q.1 = z.1
      · obtain ⟨q, hq, e⟩ := c
        have := List.find?_eq_none.1 hf q hq
        rw [Option.none_or, List.find?_cons]
        have e2 : p z.1 = false := by rw [← e]; simpa using this
        rw [e2]; rfl
      · exact absurd (fun q hq e => c ⟨q, hq, e⟩) hn
def optB {T : Type} (p : T → Bool) : Option T → Bool
  | none => false
  | some y => p y
theorem img_findA (h : S → Option T) (p : T → Bool) : ∀ (l : List (S × List Int)) (acc : List (T × List Int)), (l.foldl (fun acc z => match h z.1 with
  | none => acc
  | some y => addF acc (y, z.2)) acc).find? (fun w => p w.1) = (acc.find? fun w => p w.1).or ((l.find? fun z => optB p (h z.1)).bind fun z => (h z.1).map fun y => (y, z.2))
  | [], acc => by simp
  | z :: r, acc => by
    rw [List.foldl_cons, img_findA h p r, List.find?_cons]
    cases hz : h z.1 with
    | none => simp only [hz, optB]
    | some u =>
      simp only [hz, optB, addF_find, List.find?_append, List.find?_cons]
      cases hp : p u with
      | true =>
        simp only [hz]
        cases acc.find? (fun w => p w.1) with
        | some w => rfl
        | none => simp [hz]
      | false =>
        simp only [List.find?_nil]
        cases acc.find? (fun w => p w.1) with
        | some w => rfl
        | none => rfl
theorem img_find (h : S → Option T) (p : T → Bool) (l : List (S × List Int)) : (img h l).find? (fun w => p w.1) = (l.find? fun z => optB p (h z.1)).bind fun z => (h z.1).map fun y => (y, z.2) := by
  unfold img
  rw [img_findA]
  rfl
/-- One node's visits, seen in the image. -/
theorem bvis_img {nx : S → Int → S} {ok : S → Bool} {nx' : T → Int → T} {ok' : T → Bool} {h : S → Option T} {x : S × List Int} {y : T} (hstep : ∀ ev, (if ok (nx x.1 ev) = true then h (nx x.1 ev) else none) = if ok' (nx' y ev) = true then some (nx' y ev) else none) :
    ∀ (es : List Int) (l : List (S × List Int)), img h (bvis nx ok x es l) = bvis nx' ok' (y, x.2) es (img h l)
  | [], l => rfl
  | ev :: r, l => by
    simp only [bvis]
    rw [bvis_img hstep r]
    congr 1
    have hs := hstep ev
    by_cases c : ok' (nx' y ev) = true
    · rw [if_pos c] at hs
      have c1 : ok (nx x.1 ev) = true := by
        by_cases c1 : ok (nx x.1 ev) = true
        · exact c1
        · rw [if_neg c1] at hs; cases hs
      rw [if_pos c1] at hs
      by_cases c2 : ∀ z ∈ l, z.1 ≠ nx x.1 ev
      · rw [if_pos ⟨c1, c2⟩, img_snoc]
        simp only [hs, addF]
        by_cases c3 : ∀ w ∈ img h l, w.1 ≠ nx' y ev
        · rw [if_pos c3, if_pos ⟨c, c3⟩]
        · rw [if_neg c3, if_neg (fun h => c3 h.2)]
      · rw [if_neg (fun h => c2 h.2)]
        rw [if_neg]
        rintro ⟨_, c3⟩
        apply c2
        intro z hz e
        obtain ⟨w, hw, e2⟩ := (img_mem h l (nx' y ev)).2 ⟨z, hz, by rw [e, hs]⟩
        exact c3 w hw e2
    · rw [if_neg c] at hs
      have rhs : (if ok' (nx' y ev) = true ∧ ∀ z ∈ img h l, z.1 ≠ nx' y ev then img h l ++ [(nx' y ev, x.2 ++ [ev])] else img h l) = img h l := if_neg (fun h => c h.1)
      rw [rhs]
      by_cases c2 : ok (nx x.1 ev) = true ∧ ∀ z ∈ l, z.1 ≠ nx x.1 ev
      · rw [if_pos c2]
        rw [if_pos c2.1] at hs
        rw [img_snoc]
        simp only [hs]
      · rw [if_neg c2]
/-- Visits that the image does not see. -/
theorem bvis_img0 {nx : S → Int → S} {ok : S → Bool} {h : S → Option T} {x : S × List Int} : ∀ (es : List Int) (l : List (S × List Int)), (∀ ev ∈ es, ok (nx x.1 ev) = true → ∀ u, h (nx x.1 ev) = some u → ∃ w ∈ img h l, w.1 = u) → img h (bvis nx ok x es l) = img h l
  | [], l, _ => rfl
  | ev :: r, l, hs => by
    simp only [bvis]
    have e : img h (if ok (nx x.1 ev) = true ∧ ∀ z ∈ l, z.1 ≠ nx x.1 ev then l ++ [(nx x.1 ev, x.2 ++ [ev])] else l) = img h l := by
      split
      · rename_i c
        rw [img_snoc]
        cases hu : h (nx x.1 ev) with
        | none => rfl
        | some u =>
          simp only [addF]
          rw [if_neg]
          intro hn
          obtain ⟨w, hw, e⟩ := hs ev (by simp) c.1 u hu
          exact hn w hw e
      · rfl
    rw [bvis_img0 r _ fun ev he c u hu => by rw [e]; exact hs ev (by simp [he]) c u hu, e]
/-- A SEARCH AND ITS IMAGE. -/
theorem bfull_img {V : List S} {nx : S → Int → S} {ok : S → Bool} {evs : S → List Int} {nx' : T → Int → T} {ok' : T → Bool} {evs' : T → List Int} {h : S → Option T}
    (hv : ∀ x ∈ V, ∀ ev ∈ evs x, ok (nx x ev) = true → nx x ev ∈ V)
    (h0 : ∀ x ∈ V, h x = none → ∀ ev, ok (nx x ev) = true → h (nx x ev) = none)
    (h1 : ∀ x ∈ V, ∀ y, h x = some y → evs x = evs' y ∧ ∀ ev, (if ok (nx x ev) = true then h (nx x ev) else none) = if ok' (nx' y ev) = true then some (nx' y ev) else none)
    {N : Nat} (hN : V.length < N) : ∀ (f i f' : Nat) (l : List (S × List Int)), f + i = N → i ≤ l.length → f ≤ f' → bOk V l →
    (∀ z ∈ l.take i, ∀ y, h z.1 = some y → ∀ ev ∈ evs' y, ok' (nx' y ev) = true → ∃ w ∈ img h l, w.1 = nx' y ev) →
    img h (bfull nx ok evs f i l) = bfull nx' ok' evs' f' (img h (l.take i)).length (img h l)
  | 0, i, f', l, hf, hi, _, hb, _ => by
    have := bOk_len hb
    omega
  | f + 1, i, f', l, hf, hi, hff, hb, hcl => by
    obtain ⟨f', rfl⟩ : ∃ k, f' = k + 1 := ⟨f' - 1, by omega⟩
    cases hg : l[i]? with
    | none =>
      have : l.length ≤ i := by
        rcases Nat.lt_or_ge i l.length with h1 | h1
        · rw [List.getElem?_eq_getElem h1] at hg; cases hg
        · exact h1
      rw [List.take_of_length_le this]
      simp only [bfull, hg, List.getElem?_eq_none (Nat.le_refl _)]
    | some x =>
      have hlt : i < l.length := (List.getElem?_eq_some_iff.1 hg).1
      have hx : x.1 ∈ V := hb.el x (List.mem_of_getElem? hg)
      have htk : l.take (i + 1) = l.take i ++ [x] := by rw [List.take_add_one, hg]; rfl
      have hp := bvis_pre nx ok x (evs x.1) l
      have hb2 := bvis_ok (hv x.1 hx) hb hg
      have e : (bvis nx ok x (evs x.1) l).take (i + 1) = l.take (i + 1) := by
        obtain ⟨r, hr⟩ := hp
        rw [← hr, List.take_append_of_le_length (by omega)]
      have hmono : ∀ u, (∃ w ∈ img h l, w.1 = u) → ∃ w ∈ img h (bvis nx ok x (evs x.1) l), w.1 = u := by
        rintro u ⟨w, hw, e⟩
        obtain ⟨r, hr⟩ := hp
        exact ⟨w, (by rw [← hr]; exact (img_pre h r l).subset hw), e⟩
      have lhs : bfull nx ok evs (f + 1) i l = bfull nx ok evs f (i + 1) (bvis nx ok x (evs x.1) l) := by simp only [bfull, hg]
      rw [lhs]
      have skip : img h (bvis nx ok x (evs x.1) l) = img h l → (∀ y, h x.1 = some y → ∀ ev ∈ evs' y, ok' (nx' y ev) = true → ∃ w ∈ img h l, w.1 = nx' y ev) → img h (l.take (i + 1)) = img h (l.take i) →
          img h (bfull nx ok evs f (i + 1) (bvis nx ok x (evs x.1) l)) = bfull nx' ok' evs' (f' + 1) (img h (l.take i)).length (img h l) := fun e1 e2 e3 => by
        have := bfull_img hv h0 h1 hN f (i + 1) (f' + 1) (bvis nx ok x (evs x.1) l) (by omega) (Nat.le_trans hlt hp.length_le) (by omega) hb2 (fun z hz y hy ev he c => by
          rw [e, htk, List.mem_append, List.mem_singleton] at hz
          rw [e1]
          rcases hz with hz | rfl
          · exact hcl z hz y hy ev he c
          · exact e2 y hy ev he c)
        rw [this, e, e3, e1]
      cases hh : h x.1 with
      | none =>
        refine skip ?_ (fun y hy => by rw [hh] at hy; cases hy) ?_
        · refine bvis_img0 _ _ fun ev _ c u hu => ?_
          rw [h0 x.1 hx hh ev c] at hu
          cases hu
        · rw [htk, img_snoc]; simp only [hh]
      | some y =>
        obtain ⟨he, hst⟩ := h1 x.1 hx y hh
        by_cases c : ∃ w ∈ img h (l.take i), w.1 = y
        · obtain ⟨z, hz, hzy⟩ := (img_mem h (l.take i) y).1 c
          have hz2 := hcl z hz y hzy
          refine skip ?_ (fun y' hy' => by rw [hh] at hy'; cases hy'; exact hz2) ?_
          · refine bvis_img0 _ _ fun ev hev c u hu => ?_
            have hs := hst ev
            rw [if_pos c, hu] at hs
            by_cases c' : ok' (nx' y ev) = true
            · rw [if_pos c'] at hs
              rw [Option.some.inj hs]
              exact hz2 ev (by rw [← he]; exact hev) c'
            · rw [if_neg c'] at hs; cases hs
          · rw [htk, img_snoc]
            simp only [hh, addF]
            rw [if_neg]
            intro hn
            obtain ⟨w, hw, e⟩ := c
            exact hn w hw e
        · have hnew : img h (l.take (i + 1)) = img h (l.take i) ++ [(y, x.2)] := by
            rw [htk, img_snoc]
            simp only [hh, addF]
            rw [if_pos fun w hw e => c ⟨w, hw, e⟩]
          have hget : (img h l)[(img h (l.take i)).length]? = some (y, x.2) := by
            obtain ⟨r, hr⟩ := img_pre h (l.drop (i + 1)) (l.take (i + 1))
            rw [List.take_append_drop] at hr
            rw [← hr, hnew, List.append_assoc, List.getElem?_append_right (Nat.le_refl _), Nat.sub_self]
            rfl
          have e1 : img h (bvis nx ok x (evs x.1) l) = bvis nx' ok' (y, x.2) (evs' y) (img h l) := by
            rw [bvis_img hst, he]
          have := bfull_img hv h0 h1 hN f (i + 1) f' (bvis nx ok x (evs x.1) l) (by omega) (Nat.le_trans hlt hp.length_le) (by omega) hb2 (fun z hz y' hy ev hev c' => by
            rw [e, htk, List.mem_append, List.mem_singleton] at hz
            rcases hz with hz | rfl
            · exact hmono _ (hcl z hz y' hy ev hev c')
            · rw [hh] at hy
              cases hy
              rw [e1]
              exact bvis_has hev c')
          rw [this, e, hnew, e1, List.length_append]
          simp only [bfull, hget, List.length_singleton]
end
end Go.AI


/- The law's own observer, consistent, both, extend. -/
namespace Go.AI
open Go.Proofs
set_option maxRecDepth 20000
theorem nxO_in {a : Aut} {n : Nat} (h : gAut a n) (on : List Int) : ∀ x ∈ statesV n, ∀ (evs : List Int), ∀ ev ∈ evs, okO (nxO a.edges on [] n x ev) = true → nxO a.edges on [] n x ev ∈ statesV n := fun x hx evs ev _ hok => by
  have h0 : 0 ≤ stp3 a.edges x.1 ev := of_decide_eq_true hok
  refine mem_statesV.2 ⟨?_, ?_⟩
  · rcases stp3_b (n := (n : Int)) (es := a.edges) (s := x.1) (ev := ev) h.to with h1 | h1
    · rw [h1] at h0; omega
    · exact h1
  · show (if ev ∈ on then nxt a.edges (lowP on [] false) n x.2 ev else x.2) ∈ subs n
    split
    · exact sorted_subs _ _
    · exact (mem_statesV.1 hx).2
theorem prs_bOk {a : Aut} {n : Nat} (h : gAut a n) (on : List Int) : bOk (statesV n) (prsR a on n) := by
  unfold prsR
  split
  · exact ⟨by simp, by simp, by simp⟩
  · rename_i hn0
    exact bfull_ok (fun x hx ev he => nxO_in h on x hx a.alpha ev he) _ _ _ (bOk_one (mem_statesV.2 ⟨by simp only; omega, sorted_subs _ _⟩))
def obL (a : Aut) (on : List Int) (n : Nat) : List (OS × List Int) → List Int × List Int × Bool
  | [] => ([], [], true)
  | z :: r => match misR a on n z.1.2 (clo a.edges (lowP on [] false) n [z.1.1]) with
    | some t => (z.2, t.2, false)
    | none => obL a on n r
end Go.AI


/- Plain: sets that pass their check. -/
namespace Go.AI
open Go.Proofs
set_option maxRecDepth 20000
theorem checkSet_aux {n : Int} : ∀ {l : List Int} {y : Int}, checkSet n l (some y) = 0 → y + 1 ≤ n → (l.length : Int) ≤ n - 1 - y
  | [], y, _, h => by simp only [List.length_nil]; omega
  | x :: r, y, h, hy => by
    simp only [checkSet] at h
    by_cases h1 : x < 0 ∨ x ≥ n
    · rw [if_pos h1] at h; exact absurd h (by decide)
    rw [if_neg h1] at h
    by_cases h2 : (some y).any (x ≤ ·) = true
    · rw [if_pos h2] at h; exact absurd h (by decide)
    rw [if_neg h2] at h
    have hxy : y < x := by simpa using h2
    have := checkSet_aux h (by omega)
    simp only [List.length_cons]
    omega
theorem checkSet_len {n : Int} (hn : 0 ≤ n) : ∀ {l : List Int}, checkSet n l none = 0 → (l.length : Int) ≤ n
  | [], _ => by simpa using hn
  | x :: r, h => by
    simp only [checkSet] at h
    by_cases h1 : x < 0 ∨ x ≥ n
    · rw [if_pos h1] at h; exact absurd h (by decide)
    rw [if_neg h1] at h
    have h' : checkSet n r (some x) = 0 := by simpa using h
    have := checkSet_aux h' (by omega)
    simp only [List.length_cons]
    omega
theorem checkSet_of {n : Int} : ∀ {l : List Int} {p : Option Int}, l.Pairwise (· < ·) → (∀ x ∈ l, 0 ≤ x ∧ x < n) → (∀ y, p = some y → ∀ x ∈ l, y < x) → checkSet n l p = 0
  | [], _, _, _, _ => rfl
  | x :: r, p, hs, hr, hp => by
    simp only [checkSet]
    have h1 := hr x (by simp)
    rw [if_neg (by omega), if_neg]
    · rw [List.pairwise_cons] at hs
      refine checkSet_of hs.2 (fun y hy => hr y (by simp [hy])) (fun y e z hz => ?_)
      simp only [Option.some.injEq] at e
      subst e
      exact hs.1 z hz
    · cases p with
      | none => simp
      | some y =>
        have := hp y rfl x (by simp)
        simp only [Option.any_some, decide_eq_true_eq]
        omega
end Go.AI


/- overseerref03.Canonical. -/
namespace Go.AI
open Go.Proofs
set_option maxRecDepth 20000
abbrev zBox : Ob := .box [.i (.v (.slice none 0 0)), ii 0, .i (.v (.slice none 0 0)), .i (.v (.slice none 0 0))]
def cOf (es : List Edg) (F : List Int) (k : Nat) (s ev : Int) : Option Edg := if 0 ≤ stp3 es s ev then some ((k : Int), ev, idxI (stp3 es s ev) F 0) else none
def cMk (F marked : List Int) (i : Nat) : List Int := ((List.range i).filter fun k => match F[k]? with
  | none => false
  | some s => decide (s ∈ marked)).map fun (k : Nat) => (k : Int)
def cEd (es : List Edg) (F al : List Int) (i : Nat) : List Edg := (List.range i).flatMap fun k => match F[k]? with
  | none => []
  | some s => al.filterMap (cOf es F k s)
def canR (a : Aut) (F : List Int) : Aut := ⟨a.alpha, F.length, cMk F a.marked F.length, cEd a.edges F a.alpha F.length⟩
theorem cMk_succ {F marked : List Int} {i : Nat} {s : Int} (h : F[i]? = some s) : cMk F marked (i + 1) = cMk F marked i ++ (if s ∈ marked then [(i : Int)] else []) := by
  unfold cMk
  rw [List.range_succ, List.filter_append, List.map_append]
  congr 1
  simp only [List.filter_cons, List.filter_nil, h]
  by_cases hm : s ∈ marked <;> simp [hm]
theorem cEd_succ {es : List Edg} {F al : List Int} {i : Nat} {s : Int} (h : F[i]? = some s) : cEd es F al (i + 1) = cEd es F al i ++ al.filterMap (cOf es F i s) := by
  unfold cEd
  rw [List.range_succ, List.flatMap_append]
  simp only [List.flatMap_cons, List.flatMap_nil, List.append_nil, h]
theorem flat_lenN {α β : Type} {f : α → List β} {N : Nat} : ∀ {l : List α}, (∀ x ∈ l, (f x).length ≤ N) → (l.flatMap f).length ≤ N * l.length
  | [], _ => by simp
  | x :: r, h => by
    have h1 := h x (by simp)
    have h2 := flat_lenN (l := r) fun y hy => h y (by simp [hy])
    simp only [List.flatMap_cons, List.length_append, List.length_cons, Nat.mul_succ]
    omega
theorem cEd_len {es : List Edg} {F al : List Int} {i : Nat} (h : al.length ≤ 32) : (cEd es F al i).length ≤ 32 * i := by
  unfold cEd
  refine Nat.le_trans (flat_lenN (N := 32) fun k _ => ?_) (by rw [List.length_range]; exact Nat.le_refl _)
  split
  · simp
  · exact Nat.le_trans (List.length_filterMap_le _ _) h
theorem cMk_len {F marked : List Int} {i : Nat} : (cMk F marked i).length ≤ i := by
  unfold cMk
  rw [List.length_map]
  exact Nat.le_trans (List.length_filter_le _ _) (by simp)
set_option maxHeartbeats 4000000 in
theorem canonical58 (O : List Heap) (a : Aut) (ha : autOk a) (h1 : 1 ≤ a.states) (F : List Int) (hF : foundR a = F) (hFl : F.length ≤ 4096) : ASpec Tryz.prog 41 [autD a] O (autD (canR a F)) [] O := by
  obtain ⟨c1, c2, c3, c4⟩ := chk_parts ha.chk
  have hed := ha.ed
  have hmk := ha.mkd
  have hal := checkSet_len (by decide) c1
  have hal : a.alpha.length ≤ 32 := by omega
  have hst := fun O s ev => step121 O a s ev (by simp only [max63]; omega)
  have hfo := fun O => found119 O a ha h1
  rw [hF] at hfo
  have hem := fun O => empty120 O a.alpha (by omega)
  have hho := fun O x => has118 O a.marked x (by simp only [max63]; omega)
  have hix := fun O x => index122 O F x (by simp only [max63]; omega)
  have hR : canR a F = ⟨a.alpha, F.length, cMk F a.marked F.length, cEd a.edges F a.alpha F.length⟩ := rfl
  rw [hR]
  clear hR c1 c2 c3 c4 hF
  obtain ⟨al, n, mk, es⟩ := a
  simp only at *
  refine aspec_stop [9, 14] Tk Tryz.func41 rfl Tryz.call41 Tryz.ntmps41 (Nat.le_of_ble_eq_true rfl) fun E => ?_
  refine g_run Tk Tryz.func41 ?_
  first | refine g_call Tk Tryz.func41 (hfo _) rfl rfl rfl rfl rfl ?_ | refine s_callq Tk (fun _ => hfo _) rfl rfl rfl ?_
  first | refine g_call Tk Tryz.func41 (hem _) rfl rfl rfl rfl rfl ?_ | refine s_callq Tk (fun _ => hem _) rfl rfl rfl ?_
  refine g_loop ?_
  refine rch_wk (wk_nilbox2 4 33 3 1 (pre := [ints al, ii F.length]) (post := [.i (.v (.slice none 0 0))]) rfl rfl rfl) ?_
  refine rch_wk (wk_nilbox2 4 68 79 3 (pre := [ints al, ii F.length, .osl 0 33]) (post := []) rfl rfl rfl) ?_
  refine rch_loop2 (fun i : Nat => [(1, .own 0 1 0 0), (2, .own 0 2 0 0), (3, ints F), (4, .own 0 4 0 0), (5, ii i)]) (fun i => [(1, .box [ints al, ii n, ints mk, edgs es]), (2, zBox), (4, .box [ints al, ii F.length, .osl 0 33, .osl 0 68]), (33, oints (cMk F mk i)), (68, oedgs (cEd es F al i))]) (fun _ => O) 71
    (fun i => i ≤ F.length) (fun i => F.length - i) 0 (Nat.zero_le _) ⟨rfl, rfl, rfl, rfl, rfl, trivial⟩ rfl ⟨rfl, rfl, rfl, rfl, rfl, trivial⟩ rfl rfl ?_
  intro i hi ih
  refine g_run Tk Tryz.func41 ?_
  first | refine g_cnd Tk Tryz.func41 rfl (fun g1 => ?_) (fun g1 => ?_) | refine g_know Tk Tryz.func41 rfl (fun g1 => ?_) (fun g1 => ?_) | refine s_know Tk (fun g1 => ?_) (fun g1 => ?_)
  · have h2 : i < F.length := by simpa using g1
    clear g1
    have hs0 : F[i]? = some F[i] := List.getElem?_eq_getElem h2
    have gs : (F.map fun x => [vi x])[(i : Int).toNat]? = some [vi F[i]] := get_mapZ (f := fun x => [vi x]) h2
    generalize F[i] = s at *
    have hm3 := cMk_succ (marked := mk) hs0
    have hml := cMk_len (F := F) (marked := mk) (i := i)
    have n1 : 0 ≤ (i : Int) ∧ (i : Int) < (F.length : Int) := by omega
    have hh1 := fun O => hho O s
    refine g_drawn Tk Tryz.func41 mixedT rfl ?_
    first | refine g_need Tk Tryz.func41 (by exact n1) ?_ | refine s_need Tk (by exact n1) ?_
    first | refine g_elem Tk Tryz.func41 (gs) ?_ | refine s_elem Tk (gs) ?_
    first | refine g_call Tk Tryz.func41 (hh1 _) rfl rfl rfl rfl rfl ?_ | refine s_callq Tk (fun _ => hh1 _) rfl rfl rfl ?_
    refine e_done Tk Tryz.func41 (by kernel_rfl) ?_
    apply join_p (P := True) (s6 := { σ := [(1, .own 0 1 0 0), (2, .own 0 2 0 0), (3, ints F), (4, .own 0 4 0 0), (5, ii i)], S := [(1, .box [ints al, ii n, ints mk, edgs es]), (2, zBox), (4, .box [ints al, ii F.length, .osl 0 33, .osl 0 68]), (33, oints (cMk F mk (i + 1))), (68, oedgs (cEd es F al i))] :: O, n := 71 })
    · intro J
      first | refine g_cnd Tk Tryz.func41 rfl (fun d1 => ?_) (fun d1 => ?_) | refine g_know Tk Tryz.func41 rfl (fun d1 => ?_) (fun d1 => ?_) | refine s_know Tk (fun d1 => ?_) (fun d1 => ?_)
      · have d1 : s ∈ mk := of_decide_eq_true d1
        rw [if_pos d1] at hm3
        first | refine g_need Tk Tryz.func41 (by exact ⟨by show ((cMk F mk i).length + 1) * 8 ≤ 140737488355328; omega, by show (cMk F mk i).length + 1 ≤ 9223372036854775807; omega⟩) ?_ | refine s_need Tk (by exact ⟨by show ((cMk F mk i).length + 1) * 8 ≤ 140737488355328; omega, by show (cMk F mk i).length + 1 ≤ 9223372036854775807; omega⟩) ?_
        refine g_stop ?_
        refine rch_meet (J trivial) ⟨rfl, rfl, rfl, rfl, rfl, trivial⟩ rfl ⟨rfl, rfl, rfl, ?_, rfl, trivial⟩ rfl rfl
        rw [hm3]
        exact congrArg some (oints_app (cMk F mk i) (i : Int))
      · have d1 : s ∉ mk := of_decide_eq_false d1
        rw [if_neg d1, List.append_nil] at hm3
        refine g_stop ?_
        refine rch_meet (J trivial) ⟨rfl, rfl, rfl, rfl, rfl, trivial⟩ rfl ⟨rfl, rfl, rfl, by rw [hm3]; rfl, rfl, trivial⟩ rfl rfl
    · intro _
      clear hm3 hml hh1
      have hE := cEd_succ (es := es) (al := al) hs0
      have hEl := cEd_len (es := es) (F := F) (i := i) hal
      have hst1 := fun O ev => hst O s ev
      refine g_run Tk Tryz.func41 ?_
      refine g_go Tk Tryz.func41 ?_
      refine g_loop ?_
      refine rch_loop2 (fun j : Nat => [(1, .own 0 1 0 0), (2, .own 0 2 0 0), (3, ints F), (4, .own 0 4 0 0), (5, ii i), (6, ii j)]) (fun j => [(1, .box [ints al, ii n, ints mk, edgs es]), (2, zBox), (4, .box [ints al, ii F.length, .osl 0 33, .osl 0 68]), (33, oints (cMk F mk (i + 1))), (68, oedgs (cEd es F al i ++ (al.take j).filterMap (cOf es F i s)))]) (fun _ => O) 71
        (fun j => j ≤ al.length) (fun j => al.length - j) 0 (Nat.zero_le _) ⟨rfl, rfl, rfl, rfl, rfl, rfl, trivial⟩ rfl ⟨rfl, rfl, rfl, rfl, by show some (oedgs (cEd es F al i)) = some (oedgs (cEd es F al i ++ [])); rw [List.append_nil], trivial⟩ rfl rfl ?_
      intro j hj ih2
      refine g_run Tk Tryz.func41 ?_
      first | refine g_cnd Tk Tryz.func41 rfl (fun g2 => ?_) (fun g2 => ?_) | refine g_know Tk Tryz.func41 rfl (fun g2 => ?_) (fun g2 => ?_) | refine s_know Tk (fun g2 => ?_) (fun g2 => ?_)
      · have h3 : j < al.length := by simpa using g2
        clear g2
        have ga : (al.map fun x => [vi x])[(j : Int).toNat]? = some [vi al[j]] := get_mapZ (f := fun x => [vi x]) h3
        have htk : (al.take (j + 1)).filterMap (cOf es F i s) = (al.take j).filterMap (cOf es F i s) ++ [al[j]].filterMap (cOf es F i s) := by
          rw [List.take_succ_eq_append_getElem h3, List.filterMap_append]
        have hpl : ((al.take j).filterMap (cOf es F i s)).length ≤ 32 := Nat.le_trans (List.length_filterMap_le _ _) (by rw [List.length_take]; omega)
        have n2 : 0 ≤ (j : Int) ∧ (j : Int) < (al.length : Int) := by omega
        have hj1 : ii (IntKind.i64.wrap ((j : Int) + 1)) = ii ((j + 1 : Nat) : Int) := congrArg ii (wsucc (n := 1000001) (by omega) (by decide))
        generalize al[j] = ev at *
        have hst2 := fun O => hst1 O ev
        have hco : [ev].filterMap (cOf es F i s) = if 0 ≤ stp3 es s ev then [((i : Int), ev, idxI (stp3 es s ev) F 0)] else [] := by
          unfold cOf
          by_cases h : 0 ≤ stp3 es s ev <;> simp [h]
        rw [hco] at htk
        clear hco
        have hix1 := fun O => hix O (stp3 es s ev)
        generalize stp3 es s ev = t at *
        refine g_drawn Tk Tryz.func41 mixedT rfl ?_
        first | refine g_need Tk Tryz.func41 (by exact n1) ?_ | refine s_need Tk (by exact n1) ?_
        first | refine g_elem Tk Tryz.func41 (gs) ?_ | refine s_elem Tk (gs) ?_
        first | refine g_need Tk Tryz.func41 (by exact n2) ?_ | refine s_need Tk (by exact n2) ?_
        first | refine g_elem Tk Tryz.func41 (ga) ?_ | refine s_elem Tk (ga) ?_
        first | refine g_call Tk Tryz.func41 (hst2 _) rfl rfl rfl rfl rfl ?_ | refine s_callq Tk (fun _ => hst2 _) rfl rfl rfl ?_
        refine e_done Tk Tryz.func41 (by kernel_rfl) ?_
        first | refine g_cnd Tk Tryz.func41 rfl (fun d1 => ?_) (fun d1 => ?_) | refine g_know Tk Tryz.func41 rfl (fun d1 => ?_) (fun d1 => ?_) | refine s_know Tk (fun d1 => ?_) (fun d1 => ?_)
        · have d1 : t ≥ 0 := of_decide_eq_true d1
          rw [if_pos d1] at htk
          refine g_stop ?_
          refine g_run Tk Tryz.func41 ?_
          refine g_go Tk Tryz.func41 ?_
          refine g_drawn Tk Tryz.func41 mixedT rfl ?_
          first | refine g_need Tk Tryz.func41 (by exact n2) ?_ | refine s_need Tk (by exact n2) ?_
          first | refine g_elem Tk Tryz.func41 (ga) ?_ | refine s_elem Tk (ga) ?_
          first | refine g_call Tk Tryz.func41 (hix1 _) rfl rfl rfl rfl rfl ?_ | refine s_callq Tk (fun _ => hix1 _) rfl rfl rfl ?_
          refine e_tail Tk Tryz.func41 ([13, 14, 15]) (by kernel_rfl) (by kernel_rfl) ?_
          first | refine g_need Tk Tryz.func41 (by exact ⟨by show ((cEd es F al i ++ (al.take j).filterMap (cOf es F i s)).length + 1) * 24 ≤ 140737488355328; rw [List.length_append]; omega, by show (cEd es F al i ++ (al.take j).filterMap (cOf es F i s)).length + 1 ≤ 9223372036854775807; rw [List.length_append]; omega⟩) ?_ | refine s_need Tk (by exact ⟨by show ((cEd es F al i ++ (al.take j).filterMap (cOf es F i s)).length + 1) * 24 ≤ 140737488355328; rw [List.length_append]; omega, by show (cEd es F al i ++ (al.take j).filterMap (cOf es F i s)).length + 1 ≤ 9223372036854775807; rw [List.length_append]; omega⟩) ?_
          refine g_loop ?_
          refine ih2 (j + 1) _ _ h3 (by omega) ⟨rfl, rfl, rfl, rfl, rfl, hj1, trivial⟩ rfl ⟨rfl, rfl, rfl, rfl, ?_, trivial⟩ rfl rfl
          rw [htk, ← List.append_assoc]
          exact congrArg some (oedgs_app (cEd es F al i ++ (al.take j).filterMap (cOf es F i s)) ((i : Int), ev, idxI t F 0))
        · have d1 : ¬ t ≥ 0 := of_decide_eq_false d1
          rw [if_neg d1, List.append_nil] at htk
          refine g_loop ?_
          refine ih2 (j + 1) _ _ h3 (by omega) ⟨rfl, rfl, rfl, rfl, rfl, hj1, trivial⟩ rfl ⟨rfl, rfl, rfl, rfl, by rw [htk]; rfl, trivial⟩ rfl rfl
      · have h3 : al.length ≤ j := by simpa using g2
        refine g_loop ?_
        refine ih (i + 1) _ _ h2 (by omega) ⟨rfl, rfl, rfl, rfl, congrArg ii (wsucc (n := 5000) (by omega) (by decide)), trivial⟩ rfl ⟨rfl, rfl, rfl, rfl, ?_, trivial⟩ rfl rfl
        show some (oedgs (cEd es F al i ++ (al.take j).filterMap (cOf es F i s))) = _
        rw [List.take_of_length_le h3, hE]
  · have h2 : F.length ≤ i := by simpa using g1
    obtain rfl : i = F.length := by omega
    refine g_rwk (wk_freeze 33 rfl rfl) ?_
    refine g_rwk (wk_freeze 68 rfl rfl) ?_
    refine g_rwk (wk_imm rfl) ?_
    refine g_ret Tk (r := autD ⟨al, F.length, cMk F mk F.length, cEd es F al F.length⟩) rfl rfl rfl trivial rfl rfl ?_
    rfl
end Go.AI
