/- The layer of abstract runs, part 49. -/
import Derived.Test.YtmhllkmceipdcaaGreatDoorGumZV
import Derived.Test.YtmhllkmceipdcaaGreatDoorTie
import Derived.Test.YtmhllkmceipdcaaGreatDoorCards
import Derived.ProofKit
import Derived.LaidMore
import Derived.OpenShut
import Derived.Lay
import Derived.SevenTiedAt
import Derived.Stop.Joined
import Derived.Stop.LaidErr
import Derived.Lib.LaidTab
import Derived.WideKeyArgs
import Derived.Lib.SmallJoins
import Derived.Deep.Slices
set_option linter.unusedSimpArgs false
set_option linter.unusedVariables false
set_option linter.all false

/- observerproperty: Extend. -/
namespace Go.AI
open Go.Proofs
set_option maxRecDepth 20000
theorem kept46o (O : List Heap) (a : Aut) (on un : List Int) (R : List (List Edg)) (hal : a.alpha.length ≤ 1000000) (hl : on.length ≤ max63) : ASpec Tryz.prog 46 [.i (vptr a on un R)] O (.osl 0 63) [(63, oints (keptR a on))] O := by
  have e : keptR a on = a.alpha.filter fun x => !(!decide (x ∈ on)) := by simp [keptR]
  rw [e]
  refine aspec_stop [200010] Tk Tryz.func46 rfl Tryz.call46 Tryz.ntmps46 (Nat.le_of_ble_eq_true rfl) fun E => ?_
  refine g_run Tk Tryz.func46 ?_
  first | refine g_elem Tk Tryz.func46 (rfl) ?_ | refine s_elem Tk (rfl) ?_
  first | refine g_call Tk Tryz.func46 (clone57 63 _ a.alpha (by simp only [big]; omega)) rfl rfl rfl rfl rfl ?_ | refine s_callq Tk (fun _ => clone57 63 _ a.alpha (by simp only [big]; omega)) rfl rfl rfl ?_
  refine g_callP Tk Tryz.func46 rfl rfl rfl rfl (does_delF (R := [(1, .box [.i (vptr a on un R)])]) (B := .box [.i (vptr a on un R)]) rfl (fun x => !decide (x ∈ on)) hal (by decide) rfl rfl (fun x _ d O ho => kept87 O x d 1 a on un R hl ho) rfl (show 10 < 11 by decide) rfl) ?_
  exact ⟨m_ret' (hT := Tk) (r := .osl 0 63) rfl rfl rfl ⟨⟨_, rfl, rfl⟩, trivial⟩ (ret_osl _ _ _) rfl rfl⟩
def ext1 (a : Aut) (un : List Int) (n : Nat) : List Int → List Int → List Int → Int ⊕ (List Int × List Int)
  | [], set, ad => .inr (set, ad)
  | x :: r, set, ad => if (hldR a un n set).2 ≠ 0 then .inl (hldR a un n set).2 else if (hldR a un n set).1 = true then .inr (set, ad) else if x ∈ set then ext1 a un n r set ad else ext1 a un n r (sortI (set ++ [x])) (ad ++ [x])
def ext2 (a : Aut) (un : List Int) (n : Nat) : List Int → List Int → Int ⊕ List Int
  | [], set => .inr set
  | x :: r, set => if (hldR a un n (set.filter fun y => !(y == x))).2 ≠ 0 then .inl (hldR a un n (set.filter fun y => !(y == x))).2 else ext2 a un n r (if (hldR a un n (set.filter fun y => !(y == x))).1 = true then set.filter fun y => !(y == x) else set)
def exF2 : Int ⊕ List Int → List Int × Int
  | .inl e => ([], e)
  | .inr l => (l, 0)
def exF1 (a : Aut) (un : List Int) (n : Nat) : Int ⊕ (List Int × List Int) → List Int × Int
  | .inl e => ([], e)
  | .inr x => exF2 (ext2 a un n x.2 x.1)
def extR (a : Aut) (on un : List Int) (n : Nat) : List Int × Int := exF1 a un n (ext1 a un n a.alpha (keptR a on) [])
set_option maxHeartbeats 4000000 in
theorem extend14 {g : Nat} (hg : IsTab g) {ty : TypeId} {fr : Nat × Nat} (O : List Heap) (a : Aut) (on un : List Int) (n : Nat) (hst : a.states = n) (hn : n ≤ 5) (h : smallA a) (hon : on.length ≤ max63) (hun : un.length ≤ max63) (he : opE a on un = 0) (hA : a.alpha.length ≤ 500000) :
    ASpecT g (ptab ty fr) Tryz.prog 14 [autD a, ints on, ints un] O (.tup [ints (extR a on un n).1, ii (extR a on un n).2]) [] O := by
  have h1 := fun O => opened42v O a on un n hst (by omega) h hon hun he
  have hk := fun O => kept46o O a on un (outOf n a.edges) h.al hon
  have hkl : (keptR a on).length ≤ 500000 := by
    have := List.length_filter_le (fun x => decide (x ∈ on)) a.alpha
    have := h.al
    unfold keptR
    omega
  have hH := fun O set hs => holds43 hg (ty := ty) (fr := fr) O a set un n hst hn h hs hun
  have hal := h.al
  unfold extR
  generalize keptR a on = kp at *
  generalize hK : exF1 a un n (ext1 a un n a.alpha kp []) = KK
  unfold vptr at h1 hk
  generalize [[intsI a.alpha, vi a.states, intsI a.marked, .sl 3 a.edges.length (a.edges.map edgI), intsI on, intsI un, rowsI (outOf n a.edges)]] = VP at *
  refine aspecT_stop [200032, 200045, 200054, 17, 19, 200076, 23] Tk Tryz.func14 rfl Tryz.call14 Tryz.ntmps14 (Nat.le_of_ble_eq_true rfl) fun E hE => ?_
  refine g_run Tk Tryz.func14 ?_
  first | refine g_call Tk Tryz.func14 (h1 _) rfl rfl rfl rfl rfl ?_ | refine s_callq Tk (fun _ => h1 _) rfl rfl rfl ?_
  first | refine gcF Tk Tryz.func14 rfl ?_ | refine gkF Tk Tryz.func14 rfl ?_ | refine skF Tk ?_
  refine g_wkpause (wk_frzbox 3 [intsI a.alpha, vi a.states, intsI a.marked, .sl 3 a.edges.length (a.edges.map edgI)] rfl rfl) ?_
  refine g_pause Tk Tryz.func14 rfl rfl (wk_frzbox 5 [intsI un] rfl rfl) ?_
  first | refine g_call Tk Tryz.func14 (hk _) rfl rfl rfl rfl rfl ?_ | refine s_callq Tk (fun _ => hk _) rfl rfl rfl ?_
  first | refine g_elem Tk Tryz.func14 (rfl) ?_ | refine s_elem Tk (rfl) ?_
  refine g_loop ?_
  refine rch_wk (wk_nil 12 59 3 1 rfl rfl rfl) ?_
  apply join_q (α := List Int × List Int) (P := fun y => exF2 (ext2 a un n y.2 y.1) = KK ∧ y.1.length ≤ 1000000 ∧ y.2.length ≤ 1000000) (s6 := fun y => { σ := [(10, .fn (.func 43) [] [.i (autI a), .i (lstI un)]), (11, ints y.1), (12, ints y.2)], S := [] :: O, n := 90 })
  · intro J
    refine rch_loop2 (fun x : Nat × List Int × List Int => [(10, .fn (.func 43) [] [.i (autI a), .i (lstI un)]), (11, .osl 0 63), (12, .osl 0 59), (36, ints a.alpha), (37, ii a.alpha.length), (38, ii x.1)])
      (fun x => [(63, oints x.2.1), (59, oints x.2.2)]) (fun _ => O) 90
      (fun x => x.1 ≤ a.alpha.length ∧ x.2.1.length ≤ 500000 + x.1 ∧ x.2.2.length ≤ x.1 ∧ exF1 a un n (ext1 a un n (a.alpha.drop x.1) x.2.1 x.2.2) = KK) (fun x => a.alpha.length - x.1) (0, kp, [])
      ⟨Nat.zero_le _, by simp only; omega, Nat.le_refl _, by simpa using hK⟩ ⟨rfl, rfl, rfl, rfl, rfl, rfl, trivial⟩ rfl ⟨rfl, rfl, trivial⟩ rfl rfl ?_
    rintro ⟨k, set, ad⟩ ⟨hk1, hsl, hadl, hno⟩ ih
    simp only at hk1 hsl hadl hno
    have hj1 : ii (IntKind.i64.wrap ((k : Int) + 1)) = ii ((k + 1 : Nat) : Int) := congrArg ii (wsucc (n := 1000001) (by omega) (by decide))
    refine g_run Tk Tryz.func14 ?_
    first | refine g_cnd Tk Tryz.func14 rfl (fun g1 => ?_) (fun g1 => ?_) | refine g_know Tk Tryz.func14 rfl (fun g1 => ?_) (fun g1 => ?_) | refine s_know Tk (fun g1 => ?_) (fun g1 => ?_)
    · have g1 : k < a.alpha.length := by simpa using g1
      have gx : (a.alpha.map fun x => [vi x])[(k : Int).toNat]? = some [vi a.alpha[k]] := get_mapZ (f := fun x => [vi x]) g1
      rw [List.drop_eq_getElem_cons g1] at hno
      simp only [ext1] at hno
      have hh := hH [] set (by simp only [max63]; omega)
      generalize a.alpha[k] = x at *
      generalize hldR a un n set = hr at *
      obtain ⟨hb, he1⟩ := hr
      simp only at hno
      first | refine g_need Tk Tryz.func14 (by exact ⟨by omega, by show (k : Int) < (a.alpha.length : Int); omega⟩) ?_ | refine s_need Tk (by exact ⟨by omega, by show (k : Int) < (a.alpha.length : Int); omega⟩) ?_
      first | refine g_elem Tk Tryz.func14 (gx) ?_ | refine s_elem Tk (gx) ?_
      refine g_callP Tk Tryz.func14 rfl rfl rfl rfl (does_forget hE hh (shut_2 _ _) (.osl (.i (.i .nil))) rfl (show 45 < 90 by decide) rfl rfl rfl) ?_
      first | refine g_cnd Tk Tryz.func14 rfl (fun c1 => ?_) (fun c1 => ?_) | refine g_know Tk Tryz.func14 rfl (fun c1 => ?_) (fun c1 => ?_) | refine s_know Tk (fun c1 => ?_) (fun c1 => ?_)
      · have c1 : he1 ≠ 0 := bneT c1
        rw [if_pos c1] at hno
        have hno : (([], he1) : List Int × Int) = KK := hno
        subst hno
        refine g_ret_co Tk (r := .tup [.i (.v (.slice none 0 0)), ii he1]) rfl rfl rfl trivial rfl rfl ?_
        repeat' (first | refine coD_tup ?_ | refine coD_agg ?_ | refine coD_i ?_ | refine CoDL.cons ?_ ?_ | exact CoDL.nil | exact coI_nil | refine coI_sl ?_ | refine CoLL.cons ?_ ?_ | exact CoLL.nil | refine CoL.cons ?_ ?_ | exact CoL.nil | exact CoI.refl _ | exact CoL.refl _ | exact CoLL.refl _ | exact CoDL.refl _ | exact CoD.refl _)
      have c1 : he1 = 0 := bneF c1
      rw [if_neg (fun h => h c1)] at hno
      first | refine g_cnd Tk Tryz.func14 rfl (fun c2 => ?_) (fun c2 => ?_) | refine g_know Tk Tryz.func14 rfl (fun c2 => ?_) (fun c2 => ?_) | refine s_know Tk (fun c2 => ?_) (fun c2 => ?_)
      · have c2 : hb = true := c2
        rw [if_pos c2] at hno
        refine g_stop ?_
        refine rch_wk (wk_freeze 63 rfl rfl) ?_
        refine rch_wk (wk_freeze 59 rfl rfl) ?_
        refine rch_meet (J (set, ad) ⟨hno, by simp only; omega, by simp only; omega⟩) ⟨rfl, rfl, rfl, trivial⟩ rfl trivial rfl rfl
      have c2 : hb = false := c2
      rw [if_neg (by rw [c2]; decide)] at hno
      refine g_callP Tk Tryz.func14 rfl rfl rfl rfl (does_forget hE (contains110 [] set x (by simp only [max63]; omega)).tab (shut_v _) (.osl (.i .nil)) rfl (show 54 < 90 by decide) rfl rfl rfl) ?_
      first | refine g_cnd Tk Tryz.func14 rfl (fun c3 => ?_) (fun c3 => ?_) | refine g_know Tk Tryz.func14 rfl (fun c3 => ?_) (fun c3 => ?_) | refine s_know Tk (fun c3 => ?_) (fun c3 => ?_)
      · have c3 : x ∉ set := of_decide_eq_false (notT c3)
        rw [if_neg c3] at hno
        first | refine g_need Tk Tryz.func14 (by exact ⟨by show (ad.length + 1) * 8 ≤ 140737488355328; omega, by show ad.length + 1 ≤ 9223372036854775807; omega⟩) ?_ | refine s_need Tk (by exact ⟨by show (ad.length + 1) * 8 ≤ 140737488355328; omega, by show ad.length + 1 ≤ 9223372036854775807; omega⟩) ?_
        first | refine g_need Tk Tryz.func14 (by exact ⟨by show (set.length + 1) * 8 ≤ 140737488355328; omega, by show set.length + 1 ≤ 9223372036854775807; omega⟩) ?_ | refine s_need Tk (by exact ⟨by show (set.length + 1) * 8 ≤ 140737488355328; omega, by show set.length + 1 ≤ 9223372036854775807; omega⟩) ?_
        refine g_stop ?_
        refine rch_wk (wk_cut (l := [(10, .fn (.func 43) [] [.i (autI a), .i (lstI un)]), (11, .osl 0 63), (12, .osl 0 59), (36, ints a.alpha), (37, ii a.alpha.length), (38, ii k)])
          (Hv := [(63, oints (set ++ [x])), (59, oints (ad ++ [x]))]) ⟨rfl, rfl, rfl, rfl, rfl, rfl, trivial⟩ rfl ⟨congrArg some (oints_app set x), congrArg some (oints_app ad x), trivial⟩ rfl rfl) ?_
        have hpos : 0 < (set ++ [x]).length := by simp
        have hml : (set ++ [x]).length ≤ 2000001 := by rw [List.length_append, List.length_singleton]; omega
        have hal2 : (ad ++ [x]).length ≤ k + 1 := by rw [List.length_append, List.length_singleton]; omega
        have hml2 : (set ++ [x]).length ≤ 500000 + (k + 1) := by rw [List.length_append, List.length_singleton]; omega
        generalize set ++ [x] = m at *
        generalize ad ++ [x] = ad2 at *
        refine g_run Tk Tryz.func14 ?_
        refine g_go Tk Tryz.func14 ?_
        refine g_call Tk Tryz.func14 (sort48 _ 0 63 m hpos (by omega) rfl) rfl rfl rfl (shape_over (ob := oints m) rfl (by simp [Ob.sh, sortI_len])) rfl ?_
        refine g_loop ?_
        exact ih (k + 1, sortI m, ad2) _ _ ⟨g1, by simp only [sortI_len]; exact hml2, hal2, hno⟩ (by simp only; omega) ⟨rfl, rfl, rfl, rfl, rfl, hj1, trivial⟩ rfl ⟨rfl, rfl, trivial⟩ rfl rfl
      · have c3 : x ∈ set := of_decide_eq_true (notF c3)
        rw [if_pos c3] at hno
        refine g_loop ?_
        exact ih (k + 1, set, ad) _ _ ⟨g1, by simp only; omega, by simp only; omega, hno⟩ (by simp only; omega) ⟨rfl, rfl, rfl, rfl, rfl, hj1, trivial⟩ rfl ⟨rfl, rfl, trivial⟩ rfl rfl
    · have g1 : a.alpha.length ≤ k := by simpa using g1
      rw [List.drop_of_length_le g1] at hno
      refine g_stop ?_
      refine rch_wk (wk_freeze 63 rfl rfl) ?_
      refine rch_wk (wk_freeze 59 rfl rfl) ?_
      refine rch_meet (J (set, ad) ⟨hno, by simp only; omega, by simp only; omega⟩) ⟨rfl, rfl, rfl, trivial⟩ rfl trivial rfl rfl
  rintro ⟨set, ad⟩ ⟨hno, hsl, hadl⟩
  simp only at hno hsl hadl
  refine g_run Tk Tryz.func14 ?_
  refine g_go Tk Tryz.func14 ?_
  refine g_loop ?_
  refine rch_loop2 (fun x : Nat × List Int => [(10, .fn (.func 43) [] [.i (autI a), .i (lstI un)]), (11, ints x.2), (67, ints ad), (68, ii ad.length), (69, ii x.1)])
    (fun x => []) (fun _ => O) 90
    (fun x => x.1 ≤ ad.length ∧ x.2.length ≤ 1000000 ∧ exF2 (ext2 a un n (ad.drop x.1) x.2) = KK) (fun x => ad.length - x.1) (0, set)
    ⟨Nat.zero_le _, hsl, by simpa using hno⟩ ⟨rfl, rfl, rfl, rfl, rfl, trivial⟩ rfl trivial rfl rfl ?_
  clear hno hsl
  rintro ⟨k, set⟩ ⟨hk1, hsl, hno⟩ ih
  simp only at hk1 hsl hno
  have hj1 : ii (IntKind.i64.wrap ((k : Int) + 1)) = ii ((k + 1 : Nat) : Int) := congrArg ii (wsucc (n := 1000001) (by omega) (by decide))
  refine g_run Tk Tryz.func14 ?_
  first | refine g_cnd Tk Tryz.func14 rfl (fun g1 => ?_) (fun g1 => ?_) | refine g_know Tk Tryz.func14 rfl (fun g1 => ?_) (fun g1 => ?_) | refine s_know Tk (fun g1 => ?_) (fun g1 => ?_)
  · have g1 : k < ad.length := by simpa using g1
    have gx : (ad.map fun x => [vi x])[(k : Int).toNat]? = some [vi ad[k]] := get_mapZ (f := fun x => [vi x]) g1
    rw [List.drop_eq_getElem_cons g1] at hno
    simp only [ext2] at hno
    generalize ad[k] = x at *
    first | refine g_need Tk Tryz.func14 (by exact ⟨by omega, by show (k : Int) < (ad.length : Int); omega⟩) ?_ | refine s_need Tk (by exact ⟨by omega, by show (k : Int) < (ad.length : Int); omega⟩) ?_
    first | refine g_elem Tk Tryz.func14 (gx) ?_ | refine s_elem Tk (gx) ?_
    first | refine g_call Tk Tryz.func14 (clone57 74 _ set (by simp only [big]; omega)) rfl rfl rfl rfl rfl ?_ | refine s_callq Tk (fun _ => clone57 74 _ set (by simp only [big]; omega)) rfl rfl rfl ?_
    refine g_callP Tk Tryz.func14 rfl rfl rfl rfl (does_delF (R := [(18, .box [ii x]), (18, .box [ii 0])]) (B := .box [ii x]) (l := set) rfl (fun y => y == x) hsl (by decide) rfl rfl (fun y _ d O ho => del51 O y x d 18 ho) rfl (show 76 < 90 by decide) rfl) ?_
    have hll : (set.filter fun y => !(y == x)).length ≤ 1000000 := Nat.le_trans (List.length_filter_le _ _) hsl
    have hh := fun O => hH O (set.filter fun y => !(y == x)) (by simp only [max63]; omega)
    generalize (set.filter fun y => !(y == x)) = ls at *
    generalize hldR a un n ls = hr at *
    obtain ⟨hb, he1⟩ := hr
    simp only at hno
    refine g_stop ?_
    refine rch_wk (wk_freeze 74 rfl rfl) ?_
    refine g_run Tk Tryz.func14 ?_
    refine g_go Tk Tryz.func14 ?_
    refine g_callT Tk Tryz.func14 hE (hh _) rfl rfl rfl rfl rfl rfl ?_
    first | refine g_cnd Tk Tryz.func14 rfl (fun c1 => ?_) (fun c1 => ?_) | refine g_know Tk Tryz.func14 rfl (fun c1 => ?_) (fun c1 => ?_) | refine s_know Tk (fun c1 => ?_) (fun c1 => ?_)
    · have c1 : he1 ≠ 0 := bneT c1
      rw [if_pos c1] at hno
      have hno : (([], he1) : List Int × Int) = KK := hno
      subst hno
      refine g_ret_co Tk (r := .tup [.i (.v (.slice none 0 0)), ii he1]) rfl rfl rfl trivial rfl rfl ?_
      repeat' (first | refine coD_tup ?_ | refine coD_agg ?_ | refine coD_i ?_ | refine CoDL.cons ?_ ?_ | exact CoDL.nil | exact coI_nil | refine coI_sl ?_ | refine CoLL.cons ?_ ?_ | exact CoLL.nil | refine CoL.cons ?_ ?_ | exact CoL.nil | exact CoI.refl _ | exact CoL.refl _ | exact CoLL.refl _ | exact CoDL.refl _ | exact CoD.refl _)
    have c1 : he1 = 0 := bneF c1
    rw [if_neg (fun h => h c1)] at hno
    first | refine g_cnd Tk Tryz.func14 rfl (fun c2 => ?_) (fun c2 => ?_) | refine g_know Tk Tryz.func14 rfl (fun c2 => ?_) (fun c2 => ?_) | refine s_know Tk (fun c2 => ?_) (fun c2 => ?_)
    · have c2 : hb = true := c2
      rw [if_pos c2] at hno
      refine g_loop ?_
      exact ih (k + 1, ls) _ _ ⟨g1, hll, hno⟩ (by simp only; omega) ⟨rfl, rfl, rfl, rfl, hj1, trivial⟩ rfl trivial rfl rfl
    · have c2 : hb = false := c2
      rw [if_neg (by rw [c2]; decide)] at hno
      refine g_loop ?_
      exact ih (k + 1, set) _ _ ⟨g1, hsl, hno⟩ (by simp only; omega) ⟨rfl, rfl, rfl, rfl, hj1, trivial⟩ rfl trivial rfl rfl
  · have g1 : ad.length ≤ k := by simpa using g1
    rw [List.drop_of_length_le g1] at hno
    have hno : ((set, 0) : List Int × Int) = KK := hno
    subst hno
    refine g_ret Tk (r := .tup [ints set, ii 0]) rfl rfl rfl trivial rfl rfl ?_
    rfl
end Go.AI


/- The first law's example: known. -/
namespace Go.AI
open Go.Proofs
set_option maxRecDepth 100000
def forkA : Aut := { alpha := [0, 1, 2, 3], states := 4, marked := [3], edges := [(0, 0, 1), (0, 1, 2), (1, 2, 3), (2, 3, 3)] }
theorem fork_small : smallA forkA := ⟨by decide, by decide, by decide⟩
theorem fork_obs : obsO forkA [2, 3] [] 4 (obsR forkA [2, 3] [] 4) = ([0], [3], false) := by kernel_rfl
theorem fork_cs : csO forkA [2, 3] [2] 4 (csR forkA [2, 3] [2] 4) = ([], 2, false) := by kernel_rfl
theorem fork_op : opE forkA [2, 3] [] = 0 := by kernel_rfl
theorem fork_op2 : opE forkA [2, 3] [2] = 0 := by kernel_rfl
theorem fork_h1 : hldR forkA [] 4 [2, 3] = (false, 0) := by kernel_rfl
theorem fork_h2 : hldR forkA [] 4 [0, 2, 3] = (false, 0) := by kernel_rfl
theorem fork_h3 : hldR forkA [] 4 [0, 1, 2, 3] = (true, 0) := by kernel_rfl
theorem fork_h4 : hldR forkA [] 4 [1, 2, 3] = (false, 0) := by kernel_rfl
theorem fork_kp : keptR forkA [2, 3] = [2, 3] := by kernel_rfl
theorem fork_s1 : sortI [2, 3, 0] = [0, 2, 3] := by simp [sortI, List.mergeSort, List.MergeSort.Internal.splitInTwo]
theorem fork_s2 : sortI [0, 2, 3, 1] = [0, 1, 2, 3] := by simp [sortI, List.mergeSort, List.MergeSort.Internal.splitInTwo]
theorem fork_al : forkA.alpha = [0, 1, 2, 3] := rfl
theorem fork_ext : extR forkA [2, 3] [] 4 = ([0, 1, 2, 3], 0) := by
  unfold extR
  rw [fork_kp, fork_al]
  have e1 : ext1 forkA [] 4 [0, 1, 2, 3] [2, 3] [] = ext1 forkA [] 4 [1, 2, 3] (sortI [2, 3, 0]) [0] := by
    rw [ext1, fork_h1]; rfl
  have e2 : ext1 forkA [] 4 [1, 2, 3] [0, 2, 3] [0] = ext1 forkA [] 4 [2, 3] (sortI [0, 2, 3, 1]) [0, 1] := by
    rw [ext1, fork_h2]; rfl
  have e3 : ext1 forkA [] 4 [2, 3] [0, 1, 2, 3] [0, 1] = .inr ([0, 1, 2, 3], [0, 1]) := by
    rw [ext1, fork_h3]; rfl
  rw [e1, fork_s1, e2, fork_s2, e3]
  show exF2 (ext2 forkA [] 4 [0, 1] [0, 1, 2, 3]) = _
  have f1 : ext2 forkA [] 4 [0, 1] [0, 1, 2, 3] = ext2 forkA [] 4 [1] [0, 1, 2, 3] := by
    rw [ext2, show ([0, 1, 2, 3] : List Int).filter (fun y => !(y == 0)) = [1, 2, 3] from rfl, fork_h4]; rfl
  have f2 : ext2 forkA [] 4 [1] [0, 1, 2, 3] = .inr [0, 1, 2, 3] := by
    rw [ext2, show ([0, 1, 2, 3] : List Int).filter (fun y => !(y == 1)) = [0, 2, 3] from rfl, fork_h2]; rfl
  rw [f1, f2]
  rfl
theorem fork39 (O : List Heap) : ASpec Tryz.prog 39 [] O (autD forkA) [] O := by
  refine aspec_intro Tk Tryz.func39 rfl Tryz.call39 Tryz.ntmps39 (Nat.le_of_ble_eq_true rfl) fun E => ?_
  refine g_run Tk Tryz.func39 ?_
  refine g_ret Tk (r := autD forkA) rfl rfl rfl trivial rfl rfl ?_
  rfl
theorem extNil {g : Nat} {tab : Obj} {P : Program} {f : FuncId} {x y : D} {O O' : List Heap} {res : D} {Hr : Heap} (h : ASpecT g tab P f [x, y, ints []] O res Hr O') : ASpecT g tab P f [x, y, .i (.v (.slice none 0 0))] O res Hr O' :=
  fun E K ρ w vs hw ht hr => h E K ρ w vs hw ht ((CoDL.cons (CoD.refl _) (.cons (CoD.refl _) (.cons (coD_i coI_nil) .nil))).rep hr)
theorem known11 {g : Nat} (hg : IsTab g) {ty : TypeId} {fr : Nat × Nat} (O : List Heap) : ASpecT g (ptab ty fr) Tryz.prog 11 [] O (bb true) [] O := by
  have ho := fun O => observer17 hg (ty := ty) (fr := fr) O forkA [2, 3] 4 rfl (by decide) fork_small (by decide) fork_op
  simp only [fork_obs] at ho
  have hx := fun O => extNil (extend14 hg (ty := ty) (fr := fr) O forkA [2, 3] [] 4 rfl (by decide) fork_small (by decide) (by decide) fork_op (by decide))
  simp only [fork_ext] at hx
  have hc := fun O => consistent18 O forkA [2, 3] [2] 4 rfl (by decide) fork_small (by decide) (by decide) fork_op2
  simp only [fork_cs] at hc
  have hf := fun O => fork39 O
  have h1 := fun O => sameInts36 O [0] [0] (by decide)
  have h2 := fun O => sameInts36 O [3] [3] (by decide)
  have h3 := fun O => sameInts36 O [0, 1, 2, 3] [0, 1, 2, 3] (by decide)
  refine aspecT_stop [] Tk Tryz.func11 rfl Tryz.call11 Tryz.ntmps11 (Nat.le_of_ble_eq_true rfl) fun E hE => ?_
  refine g_run Tk Tryz.func11 ?_
  first | refine g_call Tk Tryz.func11 (hf _) rfl rfl rfl rfl rfl ?_ | refine s_callq Tk (fun _ => hf _) rfl rfl rfl ?_
  refine g_callT Tk Tryz.func11 hE (ho _) rfl rfl rfl rfl rfl rfl ?_
  first | refine g_call Tk Tryz.func11 (hf _) rfl rfl rfl rfl rfl ?_ | refine s_callq Tk (fun _ => hf _) rfl rfl rfl ?_
  refine g_callT Tk Tryz.func11 hE (hx _) rfl rfl rfl rfl rfl rfl ?_
  first | refine g_call Tk Tryz.func11 (hf _) rfl rfl rfl rfl rfl ?_ | refine s_callq Tk (fun _ => hf _) rfl rfl rfl ?_
  first | refine g_call Tk Tryz.func11 (hc _) rfl rfl rfl rfl rfl ?_ | refine s_callq Tk (fun _ => hc _) rfl rfl rfl ?_
  repeat (first | refine gcT Tk Tryz.func11 rfl ?_ | refine gkT Tk Tryz.func11 rfl ?_ | refine skT Tk ?_ | refine gcF Tk Tryz.func11 rfl ?_ | refine gkF Tk Tryz.func11 rfl ?_ | refine skF Tk ?_)
  first | refine g_call Tk Tryz.func11 (h1 _) rfl rfl rfl rfl rfl ?_ | refine s_callq Tk (fun _ => h1 _) rfl rfl rfl ?_
  repeat (first | refine gcT Tk Tryz.func11 rfl ?_ | refine gkT Tk Tryz.func11 rfl ?_ | refine skT Tk ?_ | refine gcF Tk Tryz.func11 rfl ?_ | refine gkF Tk Tryz.func11 rfl ?_ | refine skF Tk ?_)
  first | refine g_call Tk Tryz.func11 (h2 _) rfl rfl rfl rfl rfl ?_ | refine s_callq Tk (fun _ => h2 _) rfl rfl rfl ?_
  repeat (first | refine gcT Tk Tryz.func11 rfl ?_ | refine gkT Tk Tryz.func11 rfl ?_ | refine skT Tk ?_ | refine gcF Tk Tryz.func11 rfl ?_ | refine gkF Tk Tryz.func11 rfl ?_ | refine skF Tk ?_)
  first | refine g_call Tk Tryz.func11 (h3 _) rfl rfl rfl rfl rfl ?_ | refine s_callq Tk (fun _ => h3 _) rfl rfl rfl ?_
  repeat (first | refine gcT Tk Tryz.func11 rfl ?_ | refine gkT Tk Tryz.func11 rfl ?_ | refine skT Tk ?_ | refine gcF Tk Tryz.func11 rfl ?_ | refine gkF Tk Tryz.func11 rfl ?_ | refine skF Tk ?_)
  refine g_ret Tk (r := bb true) rfl rfl rfl trivial rfl rfl ?_
  rfl
end Go.AI


/- The way from a row to a contract. -/
namespace Go.Proofs.YtmhllkmceipdcaaGreatDoor
open Go.ChangeShapes Go.WideShapes Go.ChangeAt Go.RowKit
set_option maxRecDepth 100000
theorem Tryz.own : ownKnob Tryz.prog.godebug = none := by kernel_rfl
theorem powG : Tryz.prog.globalNamed "internal/strconv.uint64pow10" = some 0 := by kernel_rfl
theorem isTab0 : AI.IsTab 0 := fun _ _ _ h => AI.tabIs_of powG h
theorem tab_of_laid {W : World} (h : laidMetH Tryz.prog [("math/bits.deBruijn32tab", Rows.laid_math_bits_deBruijn32tab), ("math/bits.deBruijn64tab", Rows.laid_math_bits_deBruijn64tab), ("internal/strconv.uint64pow10", Rows.laid_internal_strconv_uint64pow10)] W) :
    ∃ ty fr, W.heap[0]? = some (AI.ptab ty fr) := by
  rw [MakeChecks.laidMetH_plain _ _ _ (by kernel_rfl)] at h
  have h3 := laidMet.tail (laidMet.tail h)
  have hT : Lib.TabIs Tryz.prog W "internal/strconv.uint64pow10" .u64 Lib.pow10Tab :=
    Lib.tabIs_of_head (t := 197) (e := 176) (n := 20) powG (by kernel_rfl) (by kernel_rfl) (by kernel_rfl) (by kernel_rfl) (by kernel_rfl) (rest := []) h3
  unfold Lib.TabIs World.var? at hT
  rw [powG] at hT
  simp only [Option.bind_some] at hT
  cases hc : W.heap[0]? with
  | none => rw [hc] at hT; cases hT
  | some o =>
    rw [hc] at hT
    cases o with
    | cells cs ty fr =>
      simp only [Option.some.injEq] at hT
      subst hT
      exact ⟨ty, fr, rfl⟩
    | _ => cases hT
/-- A contract with no memory of one's own, from the outside. -/
theorem calls_of {f : FuncId} {args : List AI.D} {vs : List Value} {b : Bool} {W : World} {ty : TypeId} {fr : Nat × Nat} (h0 : W.heap[0]? = some (AI.ptab ty fr))
    (hcall : ∀ a w, (callFunc f a).run Tryz.prog w = .ok (.enter f a) w) (hs : AI.ASpecT 0 (AI.ptab ty fr) Tryz.prog f args [] (AI.bb b) [] [])
    {K : AI.Kn} (hK : ∀ bl o x, K bl o = some x → W.cell? ⟨bl, o, none⟩ = some x) (hr : ∀ ρ sh, AI.RepDL K ρ sh vs args) :
    Calls Tryz.prog f vs.toArray W fun e W' => e = .returned (.bool b) ∧ (∀ i, i < W.heap.size → W'.heap[i]? = W.heap[i]?) ∧ W'.os = W.os ∧ W'.output = W.output := by
  let ρ : Nat → Nat → AI.Loc := fun _ _ => ⟨0, 0, none⟩
  have hobj : ∀ d n, AI.objAt [] d n = none := fun d n => by simp [AI.objAt]
  have hI : AI.HInv (AI.Env.of K ρ W) K ρ [] W :=
    ⟨hK, (fun d n ob e => absurd ((hobj d n).symm.trans e) (by simp)), (fun d n ob d' n' ob' e => absurd ((hobj d n).symm.trans e) (by simp)), Nat.le_refl _, fun _ _ _ => rfl, (fun n ob e => absurd ((hobj 0 n).symm.trans e) (by simp)), fun _ => rfl, fun _ _ _ h => h, fun _ _ _ h => .inl h, rfl, rfl, rfl⟩
  have ht : AI.TabQ 0 (AI.ptab ty fr) [] ρ W := ⟨h0, fun d n x e => by simp [AI.shape, hobj] at e⟩
  rcases hs _ K ρ W vs hI ht (hr _ _) with ⟨_, h⟩ | ⟨v, w', h, _⟩
  · refine h.mono fun e W' => ?_
    rintro ⟨v, rfl, K', ρ', h1, h2⟩
    obtain rfl := AI.inv_v h2
    refine ⟨rfl, fun i hi => h1.old i hi fun d n ob e => ?_, h1.rest.2.1, h1.rest.2.2⟩
    simp [AI.objAt] at e
  · rw [hcall] at h
    cases h
theorem kept_of {W W' : World} {P : MemPlace → Prop} (h : ∀ i, i < W.heap.size → W'.heap[i]? = W.heap[i]?) (h1 : W'.os = W.os) (h2 : W'.output = W.output) : W.keptBut W' P := by
  refine ⟨h1, h2, fun i hi => ?_⟩
  rw [h i hi]
  exact (World.keptBut_refl W P).2.2 i hi
end Go.Proofs.YtmhllkmceipdcaaGreatDoor


/- Arguments: slices and structs of them, opened to data, and read again behind the call. -/

namespace Go.Proofs.YtmhllkmceipdcaaGreatDoor
open Go.ChangeShapes Go.WideShapes Go.ChangeAt Go.RowKit Go.Deep Go.WideElems
set_option maxRecDepth 100000
/-- All that memory holds. -/
def KW (W : World) : AI.Kn := fun b o => W.cell? ⟨b, o, none⟩
theorem KW_ok (W : World) : ∀ bl o x, KW W bl o = some x → W.cell? ⟨bl, o, none⟩ = some x := fun _ _ _ h => h
section
variable {H : Type} {enc : TypeId × Value → H} {P : Program} {W : World}
/-- What is read of a type is data of a kind. -/
def Opn (enc : TypeId × Value → H) (P : Program) (W : World) (t : TypeId) (R : List AI.I → Prop) : Prop :=
  ∀ n cs x, DataW.trod enc P W 0 (fun _ => true) true n t cs = some x → ∃ is, AI.RepL (KW W) cs is ∧ R is
theorem repL_app {K : AI.Kn} {a b : List Value} {c d : List AI.I} (h : AI.RepL K a c) (h' : AI.RepL K b d) : AI.RepL K (a ++ b) (c ++ d) := h.append h'
theorem opn_int {t : TypeId} {k : IntKind} (ht : P.underlying t = some (.int k)) : Opn enc P W t fun is => ∃ z, is = [.v (.int k z)] ∧ (Lit.int k z).wf = true := by
  intro n cs x h
  obtain ⟨z, rfl, rfl, hw⟩ := DataW.trod_int ht h
  exact ⟨[.v (.int k z)], .cons (.v rfl) .nil, z, rfl, hw⟩
theorem ints_rep {K : AI.Kn} {k : IntKind} : ∀ {cs : List Value}, (∀ i, i < cs.length → ∃ z, cs[i]? = some (.int k z) ∧ (Lit.int k z).wf = true) → ∃ zs : List Int, zs.length = cs.length ∧ AI.RepL K cs (zs.map fun z => .v (.int k z)) ∧ ∀ z ∈ zs, (Lit.int k z).wf = true
  | [], _ => ⟨[], rfl, .nil, by simp⟩
  | c :: cs, h => by
    obtain ⟨z, hz, hw⟩ := h 0 (by simp)
    simp only [List.getElem?_cons_zero, Option.some.injEq] at hz
    subst hz
    obtain ⟨zs, h1, h2, h3⟩ := ints_rep (cs := cs) fun i hi => by
      have := h (i + 1) (by simp; omega)
      simpa using this
    exact ⟨z :: zs, by simp [h1], .cons (.v rfl) h2, fun y hy => by
      rcases List.mem_cons.1 hy with rfl | hy
      · exact hw
      · exact h3 y hy⟩
theorem opn_array {t e : TypeId} {k : IntKind} {m : Nat} (ht : P.underlying t = some (.array m e)) (he : P.underlying e = some (.int k)) (hc : P.cellsOf e = 1) (hct : P.cellsOf t = m) :
    Opn enc P W t fun is => ∃ zs : List Int, zs.length = m ∧ is = zs.map (fun z => .v (.int k z)) ∧ ∀ z ∈ zs, (Lit.int k z).wf = true := by
  intro n cs x h
  obtain ⟨xs, f, rfl, rfl, hl, hlen, hx⟩ := DataW.trod_array ht h
  rw [hct] at hl
  obtain ⟨zs, h1, h2, h3⟩ := ints_rep (K := KW W) (k := k) (cs := cs) fun i hi => by
    have h0 := hx i (by omega)
    rw [hc, Nat.mul_one, List.getElem?_eq_getElem (by omega)] at h0
    obtain ⟨z, hz, _, hw⟩ := DataW.trod_int he h0
    refine ⟨z, ?_, hw⟩
    have := congrArg (fun l => l[0]?) hz
    simpa [List.getElem?_take, List.getElem?_drop] using this
  exact ⟨_, h2, zs, by omega, rfl, h3⟩
/-- Structs of three fields, and of two. -/
theorem opn_struct3 {t : TypeId} {f0 f1 f2 : Field} {R0 R1 R2 : List AI.I → Prop} {z0 z1 z2 : Nat} (ht : P.underlying t = some (.struct #[f0, f1, f2])) (hc : P.cellsOf t = z0 + z1 + z2)
    (c0 : P.cellsOf f0.type = z0) (c1 : P.cellsOf f1.type = z1) (c2 : P.cellsOf f2.type = z2) (o0 : f0.offset = 0) (o1 : f1.offset = z0) (o2 : f2.offset = z0 + z1)
    (h0 : Opn enc P W f0.type R0) (h1 : Opn enc P W f1.type R1) (h2 : Opn enc P W f2.type R2) : Opn enc P W t fun is => ∃ a b c, is = a ++ b ++ c ∧ R0 a ∧ R1 b ∧ R2 c := by
  intro n cs x h
  obtain ⟨y0, y1, y2, m, _, hl, g0, g1, g2⟩ := trod_struct3 ht h
  obtain ⟨a, ra, ha⟩ := h0 _ _ _ g0
  obtain ⟨b, rb, hb⟩ := h1 _ _ _ g1
  obtain ⟨c, rc, hcc⟩ := h2 _ _ _ g2
  refine ⟨a ++ b ++ c, ?_, a, b, c, rfl, ha, hb, hcc⟩
  have e : cs = (cs.drop f0.offset).take (P.cellsOf f0.type) ++ (cs.drop f1.offset).take (P.cellsOf f1.type) ++ (cs.drop f2.offset).take (P.cellsOf f2.type) := by
    rw [c0, c1, c2, o0, o1, o2, List.drop_zero]
    have e1 : (cs.drop (z0 + z1)).take z2 = cs.drop (z0 + z1) := List.take_of_length_le (by simp; omega)
    rw [e1]
    have e2 : cs.drop (z0 + z1) = (cs.drop z0).drop z1 := by rw [List.drop_drop]
    rw [e2, List.append_assoc, List.take_append_drop, List.take_append_drop]
  rw [e]
  exact repL_app (repL_app ra rb) rc
/-- Read again behind the call. -/
theorem args_again {t : TypeId} (hl : laidOutB P = true) (hr : P.readableRec t = true) (hrow : decide (t < P.types.size) = true) {W' : World} {v : Value} {d : DataW H} {ps : List MemPlace}
    (h : DataW.Trod enc P W 0 (fun _ => true) true t v d ps) (hold : ∀ i, i < W.heap.size → W'.heap[i]? = W.heap[i]?) : DataW.Trod enc P W' 0 (fun b => decide (b < W.heap.size)) true t v d ps := by
  have hlt : ∀ p ∈ ps, p.block < W.heap.size := by
    obtain ⟨n, hn⟩ := h
    exact DataW.trod_lt n t _ _ hn
  refine Trod_stays hl hr (of_decide_eq_true hrow) h (fun p hp => ?_) (fun p hp => decide_eq_true (hlt p hp))
  have hb := hlt p hp
  cases p with
  | cell b off =>
    show W'.cell? ⟨b, off, none⟩ = W.cell? ⟨b, off, none⟩
    unfold World.cell?
    rw [hold b hb]
  | map b => exact hold b hb
end
end Go.Proofs.YtmhllkmceipdcaaGreatDoor


/- An automaton as an argument, and lists of ints: data. -/
namespace Go.Proofs.YtmhllkmceipdcaaGreatDoor
open Go.ChangeShapes Go.WideShapes Go.ChangeAt Go.RowKit Go.Deep Go.WideElems
set_option maxRecDepth 100000
section
variable {H : Type} {enc : TypeId × Value → H} {W : World}
theorem wf_u8 {z : Int} (h : (Lit.int .u8 z).wf = true) : 0 ≤ z ∧ z ≤ 255 := by
  simp only [Lit.wf, Bool.and_eq_true, decide_eq_true_eq] at h
  have e1 : IntKind.u8.min = 0 := rfl
  have e2 : IntKind.u8.max = 255 := rfl
  rw [e1, e2] at h
  exact h
structure autLen (x : AI.Aut) : Prop where
  e : x.edges.length ≤ AI.max63
  a : x.alpha.length ≤ AI.max63
  m : x.marked.length ≤ AI.max63
end
end Go.Proofs.YtmhllkmceipdcaaGreatDoor


/- The law's own estimates: reach, Begin, Next, Observe, Estimate. -/
namespace Go.AI
open Go.Proofs
set_option maxRecDepth 20000
/-- What is known of an automaton that passes the check. -/
structure gAut (a : Aut) (n : Nat) : Prop where
  st : a.states = n
  sm : smallA a
  c : chkA a = 0
theorem gAut.to {a : Aut} {n : Nat} (h : gAut a n) : ∀ e ∈ a.edges, 0 ≤ e.2.2 ∧ e.2.2 < (n : Int) := fun e he => by have := (chk_rng h.c).2.1 e he; rw [h.st] at this; exact this
theorem gAut.fr {a : Aut} {n : Nat} (h : gAut a n) : ∀ e ∈ a.edges, 0 ≤ e.1 ∧ e.1 < (n : Int) := fun e he => by have := (chk_rng h.c).1 e he; rw [h.st] at this; exact this
theorem gAut.ev {a : Aut} {n : Nat} (h : gAut a n) : ∀ e ∈ a.edges, e.2.1 ∈ a.alpha := (chk_rng h.c).2.2
theorem gAut.pw {a : Aut} {n : Nat} (h : gAut a n) : a.edges.Pairwise ltE := (chkEds_sorted (chk_parts h.c).2.2.2).1
abbrev erasR (a : Aut) (on : List Int) : List Int := a.alpha.filter fun x => !decide (x ∈ on)
theorem erasR_low {a : Aut} {n : Nat} (h : gAut a n) (on un l : List Int) : clo a.edges (fun x => decide (x ∈ erasR a on)) n l = clo a.edges (lowP on un false) n l :=
  clo_congr h.to (fun e he => by
    have h1 := h.ev e he
    show decide (e.2.1 ∈ a.alpha.filter fun x => !decide (x ∈ on)) = (!decide (e.2.1 ∈ on) && (!false || _))
    simp [List.mem_filter, h1]) fun _ => Iff.rfl
theorem low_un (on un : List Int) : lowP on un false = lowP on [] false := by funext x; simp [lowP]
theorem clo_len (es : List Edg) (p : Int → Bool) (n : Nat) (l : List Int) : (clo es p n l).length ≤ n := sortedBelow_len _ _
theorem reachS33 (O : List Heap) (a : Aut) (on : List Int) (s : Int) (n : Nat) (h : gAut a n) (hn : n ≤ 4096) (hon : on.length ≤ max63) :
    ASpec Tryz.prog 33 [autD a, ints on, ii s] O (ints (clo a.edges (lowP on [] false) n [s])) [] O := by
  have h1 : ∀ O, ASpec Tryz.prog 74 [autD a, ints on] O (ints (erasR a on)) [] O := fun O => erased74 O a on h.sm.al hon
  have h2 := fun O => reach20 O a [s] (erasR a on) n h.st hn h.sm.ed h.to (by simp) (Nat.le_trans (List.length_filter_le _ _) (by have := h.sm.al; simp only [max63]; omega))
  rw [erasR_low h on []] at h2
  generalize clo a.edges (lowP on [] false) n [s] = R at *
  generalize erasR a on = er at *
  obtain ⟨al, st, mk, es⟩ := a
  refine aspec_intro Tk Tryz.func33 rfl Tryz.call33 Tryz.ntmps33 (Nat.le_of_ble_eq_true rfl) fun E => ?_
  refine g_run Tk Tryz.func33 ?_
  refine g_drawn Tk Tryz.func33 mixedT rfl ?_
  first | refine g_call Tk Tryz.func33 (h1 _) rfl rfl rfl rfl rfl ?_ | refine s_callq Tk (fun _ => h1 _) rfl rfl rfl ?_
  first | refine g_call Tk Tryz.func33 (h2 _) rfl rfl rfl rfl rfl ?_ | refine s_callq Tk (fun _ => h2 _) rfl rfl rfl ?_
  refine e_done Tk Tryz.func33 (by kernel_rfl) ?_
  refine g_ret Tk (r := ints R) rfl rfl rfl trivial rfl rfl ?_
  rfl
def begR (a : Aut) (on : List Int) (n : Nat) : List Int := if n = 0 then [] else clo a.edges (lowP on [] false) n [0]
theorem begin73 (O : List Heap) (a : Aut) (on : List Int) (n : Nat) (h : gAut a n) (hn : n ≤ 4096) (hon : on.length ≤ max63) :
    ASpec Tryz.prog 73 [autD a, ints on] O (ints (begR a on n)) [] O := by
  have h1 : ∀ O, ASpec Tryz.prog 74 [autD a, ints on] O (ints (erasR a on)) [] O := fun O => erased74 O a on h.sm.al hon
  have h2 := fun O => reach20 O a [0] (erasR a on) n h.st hn h.sm.ed h.to (by simp) (Nat.le_trans (List.length_filter_le _ _) (by have := h.sm.al; simp only [max63]; omega))
  rw [erasR_low h on []] at h2
  unfold begR
  generalize clo a.edges (lowP on [] false) n [0] = R at *
  generalize erasR a on = er at *
  have hst := h.st
  clear h
  obtain ⟨al, st, mk, es⟩ := a
  simp only at hst
  refine aspec_intro Tk Tryz.func73 rfl Tryz.call73 Tryz.ntmps73 (Nat.le_of_ble_eq_true rfl) fun E => ?_
  refine g_run Tk Tryz.func73 ?_
  first | refine g_cnd Tk Tryz.func73 rfl (fun g1 => ?_) (fun g1 => ?_) | refine g_know Tk Tryz.func73 rfl (fun g1 => ?_) (fun g1 => ?_) | refine s_know Tk (fun g1 => ?_) (fun g1 => ?_)
  · have g1 : st = 0 := beqT g1
    rw [if_pos (by omega)]
    refine g_ret_co Tk (r := .i (.v (.slice none 0 0))) rfl rfl rfl trivial rfl rfl ?_
    repeat' (first | refine coD_tup ?_ | refine coD_agg ?_ | refine coD_i ?_ | refine CoDL.cons ?_ ?_ | exact CoDL.nil | exact coI_nil | refine coI_sl ?_ | refine CoLL.cons ?_ ?_ | exact CoLL.nil | refine CoL.cons ?_ ?_ | exact CoL.nil | exact CoI.refl _ | exact CoL.refl _ | exact CoLL.refl _ | exact CoDL.refl _ | exact CoD.refl _)
  have g1 : st ≠ 0 := beqF g1
  rw [if_neg (by omega)]
  refine g_drawn Tk Tryz.func73 mixedT rfl ?_
  first | refine g_call Tk Tryz.func73 (h1 _) rfl rfl rfl rfl rfl ?_ | refine s_callq Tk (fun _ => h1 _) rfl rfl rfl ?_
  first | refine g_call Tk Tryz.func73 (h2 _) rfl rfl rfl rfl rfl ?_ | refine s_callq Tk (fun _ => h2 _) rfl rfl rfl ?_
  refine e_done Tk Tryz.func73 (by kernel_rfl) ?_
  refine g_ret Tk (r := ints R) rfl rfl rfl trivial rfl rfl ?_
  rfl
set_option maxHeartbeats 4000000 in
theorem next34 (O : List Heap) (a : Aut) (on est : List Int) (ev : Int) (n : Nat) (h : gAut a n) (hn : n ≤ 4096) (hel : est.length ≤ max63) (hon : on.length ≤ max63) :
    ASpec Tryz.prog 34 [autD a, ints on, ints est, ii ev] O (ints (nxt a.edges (lowP on [] false) n est ev)) [] O := by
  have h1 : ∀ O, ASpec Tryz.prog 74 [autD a, ints on] O (ints (erasR a on)) [] O := fun O => erased74 O a on h.sm.al hon
  have h2 := fun O l hl => reach20 O a l (erasR a on) n h.st hn h.sm.ed h.to hl (Nat.le_trans (List.length_filter_le _ _) (by have := h.sm.al; simp only [max63]; omega))
  have hed := h.sm.ed
  have h2 : ∀ O l, l.length ≤ 1000000 → ASpec Tryz.prog 20 [autD a, ints l, ints (erasR a on)] O (ints (clo a.edges (lowP on [] false) n l)) [] O := fun O l hl => by
    have := h2 O l hl
    rwa [erasR_low h on []] at this
  unfold nxt
  generalize lowP on [] false = lp at *
  generalize erasR a on = er at *
  clear h
  obtain ⟨al, st, mk, es⟩ := a
  simp only at hed
  generalize hK : clo es lp n (tgtE es est ev) = KK
  refine aspec_stop [7] Tk Tryz.func34 rfl Tryz.call34 Tryz.ntmps34 (Nat.le_of_ble_eq_true rfl) fun E => ?_
  refine g_run Tk Tryz.func34 ?_
  refine g_loop ?_
  refine rch_wk (wk_nil 9 44 3 1 rfl rfl rfl) ?_
  refine rch_loop2 (fun x : Nat × List Int => [(1, ints on), (2, ints est), (3, ii ev), (4, .own 0 4 0 0), (9, .osl 0 44), (10, ii x.1)]) (fun x => [(4, .box [ints al, ii st, ints mk, edgs es]), (44, oints x.2)]) (fun _ => O) 51
    (fun x => x.1 ≤ es.length ∧ x.2.length ≤ x.1 ∧ clo es lp n (x.2 ++ tgtE (es.drop x.1) est ev) = KK) (fun x => es.length - x.1) (0, []) ⟨Nat.zero_le _, Nat.le_refl _, by simpa using hK⟩ ⟨rfl, rfl, rfl, rfl, rfl, rfl, trivial⟩ rfl ⟨rfl, rfl, trivial⟩ rfl rfl ?_
  clear hK
  rintro ⟨i, l⟩ ⟨hi, hl, hno⟩ ih
  simp only at hi hl hno
  have hj1 : ii (IntKind.i64.wrap ((i : Int) + 1)) = ii ((i + 1 : Nat) : Int) := congrArg ii (wsucc (n := 1000001) (by omega) (by decide))
  refine g_run Tk Tryz.func34 ?_
  first | refine g_cnd Tk Tryz.func34 rfl (fun g1 => ?_) (fun g1 => ?_) | refine g_know Tk Tryz.func34 rfl (fun g1 => ?_) (fun g1 => ?_) | refine s_know Tk (fun g1 => ?_) (fun g1 => ?_)
  · have h3 : i < es.length := by simpa using g1
    have ge : (es.map edgI)[(i : Int).toNat]? = some (edgI es[i]) := get_mapZ h3
    rw [List.drop_eq_getElem_cons h3] at hno
    generalize es[i] = e at *
    obtain ⟨ef, ee, et⟩ := e
    have htg : ∀ r, tgtE ((ef, ee, et) :: r) est ev = if ee = ev ∧ ef ∈ est then et :: tgtE r est ev else tgtE r est ev := fun r => by
      unfold tgtE
      rw [List.filter_cons]
      by_cases c : ee = ev ∧ ef ∈ est
      · rw [if_pos (by simpa using c), if_pos c, List.map_cons]
      · rw [if_neg (by simpa using c), if_neg c]
    rw [htg] at hno
    clear htg
    first | refine g_need Tk Tryz.func34 (by exact ⟨by omega, by show (i : Int) < (es.length : Int); omega⟩) ?_ | refine s_need Tk (by exact ⟨by omega, by show (i : Int) < (es.length : Int); omega⟩) ?_
    first | refine g_elem Tk Tryz.func34 (ge) ?_ | refine s_elem Tk (ge) ?_
    first | refine g_cnd Tk Tryz.func34 rfl (fun c1 => ?_) (fun c1 => ?_) | refine g_know Tk Tryz.func34 rfl (fun c1 => ?_) (fun c1 => ?_) | refine s_know Tk (fun c1 => ?_) (fun c1 => ?_)
    · have c1 : ee = ev := beqT c1
      first | refine g_need Tk Tryz.func34 (by exact ⟨by omega, by show (i : Int) < (es.length : Int); omega⟩) ?_ | refine s_need Tk (by exact ⟨by omega, by show (i : Int) < (es.length : Int); omega⟩) ?_
      first | refine g_elem Tk Tryz.func34 (ge) ?_ | refine s_elem Tk (ge) ?_
      first | refine g_call Tk Tryz.func34 (has55 _ est ef hel) rfl rfl rfl rfl rfl ?_ | refine s_callq Tk (fun _ => has55 _ est ef hel) rfl rfl rfl ?_
      first | refine g_cnd Tk Tryz.func34 rfl (fun c2 => ?_) (fun c2 => ?_) | refine g_know Tk Tryz.func34 rfl (fun c2 => ?_) (fun c2 => ?_) | refine s_know Tk (fun c2 => ?_) (fun c2 => ?_)
      · have c2 : ef ∈ est := of_decide_eq_true c2
        rw [if_pos ⟨c1, c2⟩] at hno
        first | refine g_need Tk Tryz.func34 (by exact ⟨by omega, by show (i : Int) < (es.length : Int); omega⟩) ?_ | refine s_need Tk (by exact ⟨by omega, by show (i : Int) < (es.length : Int); omega⟩) ?_
        first | refine g_elem Tk Tryz.func34 (ge) ?_ | refine s_elem Tk (ge) ?_
        first | refine g_need Tk Tryz.func34 (by exact ⟨by show (l.length + 1) * 8 ≤ 140737488355328; omega, by show l.length + 1 ≤ 9223372036854775807; omega⟩) ?_ | refine s_need Tk (by exact ⟨by show (l.length + 1) * 8 ≤ 140737488355328; omega, by show l.length + 1 ≤ 9223372036854775807; omega⟩) ?_
        refine g_loop ?_
        refine ih (i + 1, l ++ [et]) _ _ ⟨h3, by simp; omega, by simpa using hno⟩ (by simp only; omega) ⟨rfl, rfl, rfl, rfl, rfl, hj1, trivial⟩ rfl ⟨rfl, congrArg some (oints_app l et), trivial⟩ rfl rfl
      · have c2 : ef ∉ est := of_decide_eq_false c2
        rw [if_neg (fun h => c2 h.2)] at hno
        refine g_loop ?_
        exact ih (i + 1, l) _ _ ⟨h3, by simp only; omega, hno⟩ (by simp only; omega) ⟨rfl, rfl, rfl, rfl, rfl, hj1, trivial⟩ rfl ⟨rfl, rfl, trivial⟩ rfl rfl
    · have c1 : ee ≠ ev := beqF c1
      rw [if_neg (fun h => c1 h.1)] at hno
      repeat (first | refine gcT Tk Tryz.func34 rfl ?_ | refine gkT Tk Tryz.func34 rfl ?_ | refine skT Tk ?_ | refine gcF Tk Tryz.func34 rfl ?_ | refine gkF Tk Tryz.func34 rfl ?_ | refine skF Tk ?_)
      refine g_loop ?_
      exact ih (i + 1, l) _ _ ⟨h3, by simp only; omega, hno⟩ (by simp only; omega) ⟨rfl, rfl, rfl, rfl, rfl, hj1, trivial⟩ rfl ⟨rfl, rfl, trivial⟩ rfl rfl
  · have h3 : es.length ≤ i := by simpa using g1
    rw [List.drop_eq_nil_of_le h3] at hno
    have hno : clo es lp n l = KK := by simpa [tgtE] using hno
    have h2 := fun O => h2 O l (by omega)
    rw [hno] at h2
    refine g_stop ?_
    refine rch_wk (wk_freeze 44 rfl rfl) ?_
    refine g_run Tk Tryz.func34 ?_
    refine g_go Tk Tryz.func34 ?_
    refine g_drawn Tk Tryz.func34 mixedT rfl ?_
    first | refine g_call Tk Tryz.func34 (h1 _) rfl rfl rfl rfl rfl ?_ | refine s_callq Tk (fun _ => h1 _) rfl rfl rfl ?_
    first | refine g_call Tk Tryz.func34 (h2 _) rfl rfl rfl rfl rfl ?_ | refine s_callq Tk (fun _ => h2 _) rfl rfl rfl ?_
    refine e_done Tk Tryz.func34 (by kernel_rfl) ?_
    refine g_ret Tk (r := ints KK) rfl rfl rfl trivial rfl rfl ?_
    rfl
end Go.AI


/- The law's own Estimate, Observe, Run, insert. -/
namespace Go.AI
open Go.Proofs
set_option maxRecDepth 20000
def insR (l : List Int) (y : Int) : List Int := (l.filter fun x => decide (x < y)) ++ [y] ++ l.filter fun x => decide (x > y)
set_option maxHeartbeats 4000000 in
theorem insert53 (O : List Heap) (l : List Int) (y : Int) (hl : l.length ≤ 1000000) : ASpec Tryz.prog 53 [ints l, ii y] O (ints (insR l y)) [] O := by
  unfold insR
  generalize hK : (l.filter fun x => decide (x < y)) ++ [y] ++ (l.filter fun x => decide (x > y)) = KK
  refine aspec_stop [7, 13] Tk Tryz.func53 rfl Tryz.call53 Tryz.ntmps53 (Nat.le_of_ble_eq_true rfl) fun E => ?_
  refine g_run Tk Tryz.func53 ?_
  refine g_loop ?_
  refine rch_wk (wk_nil 5 26 3 1 rfl rfl rfl) ?_
  refine rch_loop2 (fun x : Nat × List Int => [(0, ints l), (1, ii y), (5, .osl 0 26), (6, ii x.1)]) (fun x => [(26, oints x.2)]) (fun _ => O) 51
    (fun x => x.1 ≤ l.length ∧ x.2.length ≤ x.1 ∧ x.2 ++ (l.drop x.1).filter (fun x => decide (x < y)) = l.filter fun x => decide (x < y)) (fun x => l.length - x.1) (0, []) ⟨Nat.zero_le _, Nat.le_refl _, by simp⟩ ⟨rfl, rfl, rfl, rfl, trivial⟩ rfl ⟨rfl, trivial⟩ rfl rfl ?_
  rintro ⟨i, kp⟩ ⟨hi, hkl, hno⟩ ih
  simp only at hi hkl hno
  have hj1 : ii (IntKind.i64.wrap ((i : Int) + 1)) = ii ((i + 1 : Nat) : Int) := congrArg ii (wsucc (n := 1000001) (by omega) (by decide))
  refine g_run Tk Tryz.func53 ?_
  first | refine g_cnd Tk Tryz.func53 rfl (fun g2 => ?_) (fun g2 => ?_) | refine g_know Tk Tryz.func53 rfl (fun g2 => ?_) (fun g2 => ?_) | refine s_know Tk (fun g2 => ?_) (fun g2 => ?_)
  · have h3 : i < l.length := by simpa using g2
    have ga : (l.map fun x => [vi x])[(i : Int).toNat]? = some [vi l[i]] := get_mapZ h3
    rw [List.drop_eq_getElem_cons h3, List.filter_cons] at hno
    generalize l[i] = x at *
    first | refine g_need Tk Tryz.func53 (by exact ⟨by omega, by show (i : Int) < (l.length : Int); omega⟩) ?_ | refine s_need Tk (by exact ⟨by omega, by show (i : Int) < (l.length : Int); omega⟩) ?_
    first | refine g_elem Tk Tryz.func53 (ga) ?_ | refine s_elem Tk (ga) ?_
    first | refine g_cnd Tk Tryz.func53 rfl (fun g3 => ?_) (fun g3 => ?_) | refine g_know Tk Tryz.func53 rfl (fun g3 => ?_) (fun g3 => ?_) | refine s_know Tk (fun g3 => ?_) (fun g3 => ?_)
    · have g3 : (decide (x < y)) = true := g3
      rw [if_pos g3] at hno
      first | refine g_need Tk Tryz.func53 (by exact ⟨by omega, by show (i : Int) < (l.length : Int); omega⟩) ?_ | refine s_need Tk (by exact ⟨by omega, by show (i : Int) < (l.length : Int); omega⟩) ?_
      first | refine g_elem Tk Tryz.func53 (ga) ?_ | refine s_elem Tk (ga) ?_
      first | refine g_need Tk Tryz.func53 (by exact ⟨by show (kp.length + 1) * 8 ≤ 140737488355328; omega, by show kp.length + 1 ≤ 9223372036854775807; omega⟩) ?_ | refine s_need Tk (by exact ⟨by show (kp.length + 1) * 8 ≤ 140737488355328; omega, by show kp.length + 1 ≤ 9223372036854775807; omega⟩) ?_
      refine g_loop ?_
      refine ih (i + 1, kp ++ [x]) _ _ ⟨h3, by simp; omega, by simpa using hno⟩ (by simp only; omega) ⟨rfl, rfl, rfl, hj1, trivial⟩ rfl ⟨congrArg some (oints_app kp x), trivial⟩ rfl rfl
    · have g3 : (decide (x < y)) = false := g3
      rw [if_neg (by rw [g3]; decide)] at hno
      refine g_loop ?_
      exact ih (i + 1, kp) _ _ ⟨h3, by simp only; omega, hno⟩ (by simp only; omega) ⟨rfl, rfl, rfl, hj1, trivial⟩ rfl ⟨rfl, trivial⟩ rfl rfl
  · have h3 : l.length ≤ i := by simpa using g2
    rw [List.drop_eq_nil_of_le h3] at hno
    simp only [List.filter_nil, List.append_nil] at hno
    rw [← hno] at hK
    clear ih hno
    refine g_stop ?_
    refine g_run Tk Tryz.func53 ?_
    refine g_go Tk Tryz.func53 ?_
    first | refine g_need Tk Tryz.func53 (by exact ⟨by show (kp.length + 1) * 8 ≤ 140737488355328; omega, by show kp.length + 1 ≤ 9223372036854775807; omega⟩) ?_ | refine s_need Tk (by exact ⟨by show (kp.length + 1) * 8 ≤ 140737488355328; omega, by show kp.length + 1 ≤ 9223372036854775807; omega⟩) ?_
    refine g_loop ?_
    refine rch_wk (wk_ren 30 49 rfl rfl rfl) ?_
    refine rch_loop2 (fun x : Nat × List Int => [(0, ints l), (1, ii y), (5, .osl 0 49), (7, ii x.1)]) (fun x => [(49, oints x.2)]) (fun _ => O) 51
      (fun x => x.1 ≤ l.length ∧ x.2.length ≤ i + 1 + x.1 ∧ x.2 ++ (l.drop x.1).filter (fun x => decide (x > y)) = KK) (fun x => l.length - x.1) (0, kp ++ [y]) ⟨Nat.zero_le _, by simp; omega, by simpa using hK⟩ ⟨rfl, rfl, rfl, rfl, trivial⟩ rfl ⟨congrArg some (oints_app kp y), trivial⟩ rfl rfl ?_
    clear hK
    rintro ⟨j, kq⟩ ⟨hj, hql, hno⟩ ih
    simp only at hj hql hno
    have hj1 : ii (IntKind.i64.wrap ((j : Int) + 1)) = ii ((j + 1 : Nat) : Int) := congrArg ii (wsucc (n := 1000001) (by omega) (by decide))
    refine g_run Tk Tryz.func53 ?_
    first | refine g_cnd Tk Tryz.func53 rfl (fun g2 => ?_) (fun g2 => ?_) | refine g_know Tk Tryz.func53 rfl (fun g2 => ?_) (fun g2 => ?_) | refine s_know Tk (fun g2 => ?_) (fun g2 => ?_)
    · have h3 : j < l.length := by simpa using g2
      have ga : (l.map fun x => [vi x])[(j : Int).toNat]? = some [vi l[j]] := get_mapZ h3
      rw [List.drop_eq_getElem_cons h3, List.filter_cons] at hno
      generalize l[j] = x at *
      first | refine g_need Tk Tryz.func53 (by exact ⟨by omega, by show (j : Int) < (l.length : Int); omega⟩) ?_ | refine s_need Tk (by exact ⟨by omega, by show (j : Int) < (l.length : Int); omega⟩) ?_
      first | refine g_elem Tk Tryz.func53 (ga) ?_ | refine s_elem Tk (ga) ?_
      first | refine g_cnd Tk Tryz.func53 rfl (fun g3 => ?_) (fun g3 => ?_) | refine g_know Tk Tryz.func53 rfl (fun g3 => ?_) (fun g3 => ?_) | refine s_know Tk (fun g3 => ?_) (fun g3 => ?_)
      · have g3 : (decide (x > y)) = true := g3
        rw [if_pos g3] at hno
        first | refine g_need Tk Tryz.func53 (by exact ⟨by omega, by show (j : Int) < (l.length : Int); omega⟩) ?_ | refine s_need Tk (by exact ⟨by omega, by show (j : Int) < (l.length : Int); omega⟩) ?_
        first | refine g_elem Tk Tryz.func53 (ga) ?_ | refine s_elem Tk (ga) ?_
        first | refine g_need Tk Tryz.func53 (by exact ⟨by show (kq.length + 1) * 8 ≤ 140737488355328; omega, by show kq.length + 1 ≤ 9223372036854775807; omega⟩) ?_ | refine s_need Tk (by exact ⟨by show (kq.length + 1) * 8 ≤ 140737488355328; omega, by show kq.length + 1 ≤ 9223372036854775807; omega⟩) ?_
        refine g_loop ?_
        refine ih (j + 1, kq ++ [x]) _ _ ⟨h3, by simp; omega, by simpa using hno⟩ (by simp only; omega) ⟨rfl, rfl, rfl, hj1, trivial⟩ rfl ⟨congrArg some (oints_app kq x), trivial⟩ rfl rfl
      · have g3 : (decide (x > y)) = false := g3
        rw [if_neg (by rw [g3]; decide)] at hno
        refine g_loop ?_
        exact ih (j + 1, kq) _ _ ⟨h3, by simp only; omega, hno⟩ (by simp only; omega) ⟨rfl, rfl, rfl, hj1, trivial⟩ rfl ⟨rfl, trivial⟩ rfl rfl
    · have h3 : l.length ≤ j := by simpa using g2
      rw [List.drop_eq_nil_of_le h3] at hno
      simp only [List.filter_nil, List.append_nil] at hno
      subst hno
      refine g_stop ?_
      refine rch_wk (wk_freeze 49 rfl rfl) ?_
      refine g_run Tk Tryz.func53 ?_
      refine g_go Tk Tryz.func53 ?_
      refine g_ret Tk (r := ints kq) rfl rfl rfl trivial rfl rfl ?_
      rfl
end Go.AI


/- The law's own enabled, contradicted. -/
namespace Go.AI
open Go.Proofs
set_option maxRecDepth 20000
def enbR (es : List Edg) (l : List Int) (ev : Int) : Bool := l.any fun s => decide (stp3 es s ev ≥ 0)
set_option maxHeartbeats 4000000 in
theorem enabled75 (O : List Heap) (a : Aut) (l : List Int) (ev : Int) (hed : a.edges.length ≤ max63) (hl : l.length ≤ max63) :
    ASpec Tryz.prog 75 [autD a, ints l, ii ev] O (bb (enbR a.edges l ev)) [] O := by
  have h1 := fun O s => step121 O a s ev hed
  unfold enbR
  generalize hK : (l.any fun s => decide (stp3 a.edges s ev ≥ 0)) = KK
  refine aspec_intro Tk Tryz.func75 rfl Tryz.call75 Tryz.ntmps75 (Nat.le_of_ble_eq_true rfl) fun E => ?_
  refine g_run Tk Tryz.func75 ?_
  refine g_loop ?_
  refine rch_loop2 (fun i : Nat => [(1, ints l), (2, ii ev), (3, .own 0 3 0 0), (7, ii i)]) (fun _ => [(3, .box (autC a))]) (fun _ => O) 22
    (fun i => i ≤ l.length ∧ (l.drop i).any (fun s => decide (stp3 a.edges s ev ≥ 0)) = KK) (fun i => l.length - i) 0 ⟨Nat.zero_le _, by simpa using hK⟩ ⟨rfl, rfl, rfl, rfl, trivial⟩ rfl ⟨rfl, trivial⟩ rfl rfl ?_
  clear hK
  rintro i ⟨hi, hno⟩ ih
  have hj1 : i < l.length → ii (IntKind.i64.wrap ((i : Int) + 1)) = ii ((i + 1 : Nat) : Int) := fun h => congrArg ii (wsucc h hl)
  refine g_run Tk Tryz.func75 ?_
  first | refine g_cnd Tk Tryz.func75 rfl (fun g2 => ?_) (fun g2 => ?_) | refine g_know Tk Tryz.func75 rfl (fun g2 => ?_) (fun g2 => ?_) | refine s_know Tk (fun g2 => ?_) (fun g2 => ?_)
  · have h3 : i < l.length := by simpa using g2
    have ga : (l.map fun x => [vi x])[(i : Int).toNat]? = some [vi l[i]] := get_mapZ h3
    rw [List.drop_eq_getElem_cons h3, List.any_cons] at hno
    generalize l[i] = x at *
    have h1' := fun O => h1 O x
    generalize stp3 a.edges x ev = u at *
    refine g_drawn Tk Tryz.func75 mixedT rfl ?_
    first | refine g_need Tk Tryz.func75 (by exact ⟨by omega, by show (i : Int) < (l.length : Int); omega⟩) ?_ | refine s_need Tk (by exact ⟨by omega, by show (i : Int) < (l.length : Int); omega⟩) ?_
    first | refine g_elem Tk Tryz.func75 (ga) ?_ | refine s_elem Tk (ga) ?_
    first | refine g_call Tk Tryz.func75 (h1' _) rfl rfl rfl rfl rfl ?_ | refine s_callq Tk (fun _ => h1' _) rfl rfl rfl ?_
    refine e_done Tk Tryz.func75 (by kernel_rfl) ?_
    first | refine g_cnd Tk Tryz.func75 rfl (fun g3 => ?_) (fun g3 => ?_) | refine g_know Tk Tryz.func75 rfl (fun g3 => ?_) (fun g3 => ?_) | refine s_know Tk (fun g3 => ?_) (fun g3 => ?_)
    · have g3 : decide (u ≥ 0) = true := g3
      rw [g3] at hno
      subst hno
      refine g_ret Tk (r := bb true) rfl rfl rfl trivial rfl rfl ?_
      rfl
    · have g3 : decide (u ≥ 0) = false := g3
      rw [g3, Bool.false_or] at hno
      refine g_loop ?_
      exact ih (i + 1) _ _ ⟨h3, hno⟩ (by omega) ⟨rfl, rfl, rfl, hj1 h3, trivial⟩ rfl ⟨rfl, trivial⟩ rfl rfl
  · have h3 : l.length ≤ i := by simpa using g2
    rw [List.drop_eq_nil_of_le h3] at hno
    have hno : false = KK := hno
    subst hno
    refine g_ret Tk (r := bb false) rfl rfl rfl trivial rfl rfl ?_
    rfl
theorem lowT_free {a : Aut} {n : Nat} (h : gAut a n) (on un l : List Int) : clo a.edges (fun x => decide (x ∈ (erasR a on).filter fun x => decide (x ∈ un))) n l = clo a.edges (lowP on un true) n l :=
  clo_congr h.to (fun e he => by
    have h1 := h.ev e he
    show decide (e.2.1 ∈ (a.alpha.filter fun x => !decide (x ∈ on)).filter fun x => decide (x ∈ un)) = (!decide (e.2.1 ∈ on) && (!true || _))
    simp [List.mem_filter, h1, Bool.and_comm]) fun _ => Iff.rfl
def ctrR (a : Aut) (on un : List Int) (n : Nat) (s ev : Int) : Bool := enbR a.edges (clo a.edges (lowP on [] false) n [s]) ev && !enbR a.edges (clo a.edges (lowP on un true) n [s]) ev
set_option maxHeartbeats 4000000 in
theorem contradicted35 (O : List Heap) (a : Aut) (on un : List Int) (s ev : Int) (n : Nat) (h : gAut a n) (hn : n ≤ 4096) (hon : on.length ≤ max63) (hun : un.length ≤ max63) :
    ASpec Tryz.prog 35 [autD a, ints on, ints un, ii s, ii ev] O (bb (ctrR a on un n s ev)) [] O := by
  have hal := h.sm.al
  have hel : (erasR a on).length ≤ 1000000 := Nat.le_trans (List.length_filter_le _ _) hal
  have h1 : ∀ O, ASpec Tryz.prog 74 [autD a, ints on] O (ints (erasR a on)) [] O := fun O => erased74 O a on hal hon
  have h2 := fun O ev hev => reach20 O a [s] ev n h.st hn h.sm.ed h.to (by simp) hev
  have h3 := fun O => h2 O (erasR a on) (by simp only [max63]; omega)
  have h4 := fun O => h2 O ((erasR a on).filter fun x => decide (x ∈ un)) (Nat.le_trans (List.length_filter_le _ _) (by simp only [max63]; omega))
  rw [erasR_low h on []] at h3
  rw [lowT_free h on un] at h4
  have h5 := fun O l hl => enabled75 O a l ev (by have := h.sm.ed; simp only [max63]; omega) hl
  have hc1 := clo_len a.edges (lowP on [] false) n [s]
  have hc2 := clo_len a.edges (lowP on un true) n [s]
  unfold ctrR
  generalize clo a.edges (lowP on [] false) n [s] = C1 at *
  generalize clo a.edges (lowP on un true) n [s] = C2 at *
  have h6 := fun O => h5 O C1 (by simp only [max63]; omega)
  have h7 := fun O => h5 O C2 (by simp only [max63]; omega)
  clear h2 h5
  generalize enbR a.edges C1 ev = b1 at *
  generalize enbR a.edges C2 ev = b2 at *
  generalize erasR a on = er at *
  generalize hK : (er.filter fun x => decide (x ∈ un)) = KK at *
  clear h
  obtain ⟨al, st, mk, es⟩ := a
  refine aspec_stop [8] Tk Tryz.func35 rfl Tryz.call35 Tryz.ntmps35 (Nat.le_of_ble_eq_true rfl) fun E => ?_
  refine g_run Tk Tryz.func35 ?_
  first | refine g_call Tk Tryz.func35 (h1 _) rfl rfl rfl rfl rfl ?_ | refine s_callq Tk (fun _ => h1 _) rfl rfl rfl ?_
  refine g_loop ?_
  refine rch_wk (wk_nil 12 35 3 1 rfl rfl rfl) ?_
  refine rch_loop2 (fun x : Nat × List Int => [(1, ints on), (2, ints un), (3, ii s), (4, ii ev), (5, .own 0 5 0 0), (11, ints er), (12, .osl 0 35), (13, ii x.1)]) (fun x => [(5, .box [ints al, ii st, ints mk, edgs es]), (35, oints x.2)]) (fun _ => O) 55
    (fun x => x.1 ≤ er.length ∧ x.2.length ≤ x.1 ∧ x.2 ++ (er.drop x.1).filter (fun x => decide (x ∈ un)) = KK) (fun x => er.length - x.1) (0, []) ⟨Nat.zero_le _, Nat.le_refl _, by simpa using hK⟩ ⟨rfl, rfl, rfl, rfl, rfl, rfl, rfl, rfl, trivial⟩ rfl ⟨rfl, rfl, trivial⟩ rfl rfl ?_
  rintro ⟨i, kp⟩ ⟨hi, hkl, hno⟩ ih
  simp only at hi hkl hno
  have hj1 : ii (IntKind.i64.wrap ((i : Int) + 1)) = ii ((i + 1 : Nat) : Int) := congrArg ii (wsucc (n := 1000001) (by omega) (by decide))
  refine g_run Tk Tryz.func35 ?_
  first | refine g_cnd Tk Tryz.func35 rfl (fun g2 => ?_) (fun g2 => ?_) | refine g_know Tk Tryz.func35 rfl (fun g2 => ?_) (fun g2 => ?_) | refine s_know Tk (fun g2 => ?_) (fun g2 => ?_)
  · have h3 : i < er.length := by simpa using g2
    have ga : (er.map fun x => [vi x])[(i : Int).toNat]? = some [vi er[i]] := get_mapZ h3
    rw [List.drop_eq_getElem_cons h3, List.filter_cons] at hno
    generalize er[i] = x at *
    first | refine g_need Tk Tryz.func35 (by exact ⟨by omega, by show (i : Int) < (er.length : Int); omega⟩) ?_ | refine s_need Tk (by exact ⟨by omega, by show (i : Int) < (er.length : Int); omega⟩) ?_
    first | refine g_elem Tk Tryz.func35 (ga) ?_ | refine s_elem Tk (ga) ?_
    first | refine g_call Tk Tryz.func35 (has30 _ un x hun) rfl rfl rfl rfl rfl ?_ | refine s_callq Tk (fun _ => has30 _ un x hun) rfl rfl rfl ?_
    first | refine g_cnd Tk Tryz.func35 rfl (fun g3 => ?_) (fun g3 => ?_) | refine g_know Tk Tryz.func35 rfl (fun g3 => ?_) (fun g3 => ?_) | refine s_know Tk (fun g3 => ?_) (fun g3 => ?_)
    · have g3 : (decide (x ∈ un)) = true := g3
      rw [if_pos g3] at hno
      first | refine g_need Tk Tryz.func35 (by exact ⟨by omega, by show (i : Int) < (er.length : Int); omega⟩) ?_ | refine s_need Tk (by exact ⟨by omega, by show (i : Int) < (er.length : Int); omega⟩) ?_
      first | refine g_elem Tk Tryz.func35 (ga) ?_ | refine s_elem Tk (ga) ?_
      first | refine g_need Tk Tryz.func35 (by exact ⟨by show (kp.length + 1) * 8 ≤ 140737488355328; omega, by show kp.length + 1 ≤ 9223372036854775807; omega⟩) ?_ | refine s_need Tk (by exact ⟨by show (kp.length + 1) * 8 ≤ 140737488355328; omega, by show kp.length + 1 ≤ 9223372036854775807; omega⟩) ?_
      refine g_loop ?_
      refine ih (i + 1, kp ++ [x]) _ _ ⟨h3, by simp; omega, by simpa using hno⟩ (by simp only; omega) ⟨rfl, rfl, rfl, rfl, rfl, rfl, rfl, hj1, trivial⟩ rfl ⟨rfl, congrArg some (oints_app kp x), trivial⟩ rfl rfl
    · have g3 : (decide (x ∈ un)) = false := g3
      rw [if_neg (by rw [g3]; decide)] at hno
      refine g_loop ?_
      exact ih (i + 1, kp) _ _ ⟨h3, by simp only; omega, hno⟩ (by simp only; omega) ⟨rfl, rfl, rfl, rfl, rfl, rfl, rfl, hj1, trivial⟩ rfl ⟨rfl, rfl, trivial⟩ rfl rfl
  · have h3' : er.length ≤ i := by simpa using g2
    rw [List.drop_eq_nil_of_le h3'] at hno
    simp only [List.filter_nil, List.append_nil] at hno
    subst hno
    refine g_stop ?_
    refine rch_wk (wk_freeze 35 rfl rfl) ?_
    refine g_run Tk Tryz.func35 ?_
    refine g_go Tk Tryz.func35 ?_
    refine g_drawn Tk Tryz.func35 mixedT rfl ?_
    first | refine g_call Tk Tryz.func35 (h3 _) rfl rfl rfl rfl rfl ?_ | refine s_callq Tk (fun _ => h3 _) rfl rfl rfl ?_
    first | refine g_call Tk Tryz.func35 (h6 _) rfl rfl rfl rfl rfl ?_ | refine s_callq Tk (fun _ => h6 _) rfl rfl rfl ?_
    first | refine g_cnd Tk Tryz.func35 rfl (fun c1 => ?_) (fun c1 => ?_) | refine g_know Tk Tryz.func35 rfl (fun c1 => ?_) (fun c1 => ?_) | refine s_know Tk (fun c1 => ?_) (fun c1 => ?_)
    · have c1 : b1 = true := c1
      subst c1
      first | refine g_call Tk Tryz.func35 (h4 _) rfl rfl rfl rfl rfl ?_ | refine s_callq Tk (fun _ => h4 _) rfl rfl rfl ?_
      first | refine g_call Tk Tryz.func35 (h7 _) rfl rfl rfl rfl rfl ?_ | refine s_callq Tk (fun _ => h7 _) rfl rfl rfl ?_
      refine e_done Tk Tryz.func35 (by kernel_rfl) ?_
      refine g_ret Tk (r := bb (!b2)) rfl rfl rfl trivial rfl rfl ?_
      rfl
    · have c1 : b1 = false := c1
      subst c1
      refine e_done Tk Tryz.func35 (by kernel_rfl) ?_
      refine g_ret Tk (r := bb false) rfl rfl rfl trivial rfl rfl ?_
      rfl
end Go.AI


/- The law's own missing. -/
namespace Go.AI
open Go.Proofs
set_option maxRecDepth 20000
abbrev otwos (l : List (PS × List Int)) : Ob := .arr 144 3 l.length (l.map bothI) true
theorem otwos_app (l : List (PS × List Int)) (z : PS × List Int) : Ob.arr 144 3 (l.length + 1) (l.map bothI ++ [bothI z]) true = otwos (l ++ [z]) := by simp
def okX (y : PS) : Bool := decide (y.1.length > 0)
def misR (a : Aut) (on : List Int) (n : Nat) (A B : List Int) : Option (PS × List Int) :=
  bsr (stepP a.edges (lowP on [] false) n) okX (fun _ => keptR a on) (fun y => badM a y.1 y.2) 4096 0 [((A, B), [])]
theorem nil_arr3 (K : Kn) (vs : List Value) (A B : List Int) (h : RepL K vs [intsI A, intsI B, .v (.slice none 0 0)]) : RepL K vs [intsI A, intsI B, .sl 1 0 []] := by
  cases h with
  | cons h1 h => cases h with
    | cons h2 h => cases h with
      | cons h3 h =>
        cases h
        refine .cons h1 (.cons h2 (.cons ?_ .nil))
        cases h3
        exact .nil
set_option maxHeartbeats 16000000 in
theorem missing69 (O : List Heap) (a : Aut) (on A B : List Int) (n : Nat) (h : gAut a n) (hn : n ≤ 5) (hon : on.length ≤ max63) (hA : A ∈ subs n) (hB : B ∈ subs n) :
    ASpec Tryz.prog 69 [autD a, ints on, ints A, ints B] O (difD (misR a on n A B)) [] O := by
  have hal := h.sm.al
  have hmk : a.marked.length ≤ max63 := by have := h.sm.mkd; simp only [max63]; omega
  have hkept : ∀ O, ASpec Tryz.prog 29 [autD a, ints on] O (ints (keptR a on)) [] O := fun O => kept29 O a on hal hon
  have hnext := fun x (hx : x ∈ subs n) ev O => next34 O a on x ev n h (by omega) (Nat.le_trans (mem_subs hx).1 (by simp only [max63]; omega)) hon
  have hmar := fun x (hx : x ∈ subs n) O => marked19 O a x hmk (Nat.le_trans (mem_subs hx).1 (by simp only [max63]; omega))
  have hsam := fun x (hx : x ∈ subs n) y O => sameInts36 O x y (Nat.le_trans (mem_subs hx).1 (by simp only [max63]; omega))
  have hst : ∀ x ev, (nxt a.edges (lowP on [] false) n x.1 ev, nxt a.edges (lowP on [] false) n x.2 ev) = stepP a.edges (lowP on [] false) n x ev := fun _ _ => rfl
  have hsi := stepP_in a.edges (lowP on [] false) n
  have hVl := pairsV_len hn
  have hns : ∀ x ev, nxt a.edges (lowP on [] false) n x ev ∈ subs n := fun x ev => sorted_subs _ _
  have hbm : ∀ x y, badM a x y = ((x.any fun x => decide (x ∈ a.marked)) && !(y.any fun x => decide (x ∈ a.marked))) := fun _ _ => rfl
  unfold misR
  generalize hK : bsr (stepP a.edges (lowP on [] false) n) okX (fun _ => keptR a on) (fun y => badM a y.1 y.2) 4096 0 [((A, B), [])] = KK
  have hB0 : bOk (pairsV n) [((A, B), ([] : List Int))] := bOk_one (mem_pairsV.2 ⟨hA, hB⟩)
  have hkr : (keptR a on).length ≤ 1000000 := Nat.le_trans (List.length_filter_le _ _) hal
  generalize keptR a on = kp at *
  refine aspec_stop [8, 12, 17] Tk Tryz.func69 rfl Tryz.call69 Tryz.ntmps69 (Nat.le_of_ble_eq_true rfl) fun E => ?_
  refine g_run Tk Tryz.func69 ?_
  first | refine g_call Tk Tryz.func69 (hkept _) rfl rfl rfl rfl rfl ?_ | refine s_callq Tk (fun _ => hkept _) rfl rfl rfl ?_
  refine g_loop ?_
  refine rch_wk (wk_ren 23 133 rfl rfl rfl) ?_
  refine rch_wk (wk_arrco 133 (ys := [bothI ((A, B), [])]) rfl rfl rfl (by simp; rfl) fun K vs h => nil_arr3 K vs A B h) ?_
  refine rch_loop2 (fun x : Nat × Nat × List (PS × List Int) => [(1, ints on), (4, .own 0 4 0 0), (10, ints kp), (11, .osl 0 133), (12, ii x.1)])
    (fun x => [(4, .box (autC a)), (133, otwos x.2.2)]) (fun _ => O) 134
    (fun x => x.1 ≤ x.2.2.length ∧ bOk (pairsV n) x.2.2 ∧ x.2.1 + x.1 = 4096 ∧ bsr (stepP a.edges (lowP on [] false) n) okX (fun _ => kp) (fun y => badM a y.1 y.2) x.2.1 x.1 x.2.2 = KK) (fun x => x.2.1) (0, 4096, [((A, B), [])])
    ⟨Nat.zero_le _, hB0, rfl, hK⟩ ⟨rfl, rfl, rfl, rfl, rfl, trivial⟩ rfl ⟨rfl, rfl, trivial⟩ rfl rfl ?_
  clear hB0 hK
  rintro ⟨i, fu, l⟩ ⟨hi, hb, hf, hno⟩ ih
  simp only at hi hb hf hno
  have hll := bOk_len hb
  refine g_run Tk Tryz.func69 ?_
  first | refine g_cnd Tk Tryz.func69 rfl (fun g1 => ?_) (fun g1 => ?_) | refine g_know Tk Tryz.func69 rfl (fun g1 => ?_) (fun g1 => ?_) | refine s_know Tk (fun g1 => ?_) (fun g1 => ?_)
  · have h1 : i < l.length := by simpa using g1
    clear g1
    obtain ⟨fu, rfl⟩ : ∃ f', fu = f' + 1 := ⟨fu - 1, by omega⟩
    have hgi : l[i]? = some l[i] := List.getElem?_eq_getElem h1
    have gl : (l.map bothI)[(i : Int).toNat]? = some (bothI l[i]) := get_mapZ h1
    have hzV := mem_pairsV.1 (hb.el _ (List.getElem_mem h1))
    simp only [bsr, hgi] at hno
    have hzw := hb.wl i _ hgi
    generalize l[i] = z at *
    obtain ⟨⟨za, zb⟩, zw⟩ := z
    simp only at hno hzV hzw
    have hm1 := hmar za hzV.1
    have hm2 := hmar zb hzV.2
    rw [hbm] at hno
    generalize (za.any fun x => decide (x ∈ a.marked)) = m1 at *
    generalize (zb.any fun x => decide (x ∈ a.marked)) = m2 at *
    apply join_p (P := (m1 && !m2) = false) (s6 := { σ := [(1, ints on), (4, .own 0 4 0 0), (10, ints kp), (11, .osl 0 133), (12, ii i)], S := [(4, .box (autC a)), (133, otwos l)] :: O, n := 134 })
    · intro J
      refine g_drawn Tk Tryz.func69 mixedT rfl ?_
      first | refine g_need Tk Tryz.func69 (by exact ⟨by omega, by show (i : Int) < (l.length : Int); omega⟩) ?_ | refine s_need Tk (by exact ⟨by omega, by show (i : Int) < (l.length : Int); omega⟩) ?_
      first | refine g_elem Tk Tryz.func69 (gl) ?_ | refine s_elem Tk (gl) ?_
      first | refine g_call Tk Tryz.func69 (hm1 _) rfl rfl rfl rfl rfl ?_ | refine s_callq Tk (fun _ => hm1 _) rfl rfl rfl ?_
      first | refine g_cnd Tk Tryz.func69 rfl (fun c1 => ?_) (fun c1 => ?_) | refine g_know Tk Tryz.func69 rfl (fun c1 => ?_) (fun c1 => ?_) | refine s_know Tk (fun c1 => ?_) (fun c1 => ?_)
      · have c1 : m1 = true := c1
        subst c1
        first | refine g_need Tk Tryz.func69 (by exact ⟨by omega, by show (i : Int) < (l.length : Int); omega⟩) ?_ | refine s_need Tk (by exact ⟨by omega, by show (i : Int) < (l.length : Int); omega⟩) ?_
        first | refine g_elem Tk Tryz.func69 (gl) ?_ | refine s_elem Tk (gl) ?_
        first | refine g_call Tk Tryz.func69 (hm2 _) rfl rfl rfl rfl rfl ?_ | refine s_callq Tk (fun _ => hm2 _) rfl rfl rfl ?_
        refine e_done Tk Tryz.func69 (by kernel_rfl) ?_
        first | refine g_cnd Tk Tryz.func69 rfl (fun c2 => ?_) (fun c2 => ?_) | refine g_know Tk Tryz.func69 rfl (fun c2 => ?_) (fun c2 => ?_) | refine s_know Tk (fun c2 => ?_) (fun c2 => ?_)
        · have c2 : m2 = false := notT c2
          subst c2
          rw [if_pos (show (true && !false) = true from rfl)] at hno
          subst hno
          first | refine g_need Tk Tryz.func69 (by exact ⟨by omega, by show (i : Int) < (l.length : Int); omega⟩) ?_ | refine s_need Tk (by exact ⟨by omega, by show (i : Int) < (l.length : Int); omega⟩) ?_
          first | refine g_elem Tk Tryz.func69 (gl) ?_ | refine s_elem Tk (gl) ?_
          refine g_ret Tk (r := .tup [ints zw, bb true]) rfl rfl rfl trivial rfl rfl ?_
          rfl
        · have c2 : m2 = true := notF c2
          subst c2
          refine g_stop ?_
          refine rch_meet (J rfl) ⟨rfl, rfl, rfl, rfl, rfl, trivial⟩ rfl ⟨rfl, rfl, trivial⟩ rfl rfl
      · have c1 : m1 = false := c1
        subst c1
        refine e_done Tk Tryz.func69 (by kernel_rfl) ?_
        repeat (first | refine gcT Tk Tryz.func69 rfl ?_ | refine gkT Tk Tryz.func69 rfl ?_ | refine skT Tk ?_ | refine gcF Tk Tryz.func69 rfl ?_ | refine gkF Tk Tryz.func69 rfl ?_ | refine skF Tk ?_)
        refine g_stop ?_
        refine rch_meet (J rfl) ⟨rfl, rfl, rfl, rfl, rfl, trivial⟩ rfl ⟨rfl, rfl, trivial⟩ rfl rfl
    intro hm
    rw [if_neg (by rw [hm]; simp)] at hno
    clear hm1 hm2 hm
    clear m1 m2
    refine g_run Tk Tryz.func69 ?_
    refine g_go Tk Tryz.func69 ?_
    refine g_loop ?_
    refine rch_loop2 (fun x : Nat × List (PS × List Int) => [(1, ints on), (4, .own 0 4 0 0), (10, ints kp), (11, .osl 0 133), (12, ii i), (13, ii x.1)])
      (fun x => [(4, .box (autC a)), (133, otwos x.2)]) (fun _ => O) 134
      (fun x => x.1 ≤ kp.length ∧ bOk (pairsV n) x.2 ∧ i < x.2.length ∧ x.2[i]? = some ((za, zb), zw) ∧ bsr (stepP a.edges (lowP on [] false) n) okX (fun _ => kp) (fun y => badM a y.1 y.2) fu (i + 1) (bvis (stepP a.edges (lowP on [] false) n) okX ((za, zb), zw) (kp.drop x.1) x.2) = KK) (fun x => kp.length - x.1) (0, l)
      ⟨Nat.zero_le _, hb, h1, hgi, by simpa using hno⟩ ⟨rfl, rfl, rfl, rfl, rfl, rfl, trivial⟩ rfl ⟨rfl, rfl, trivial⟩ rfl rfl ?_
    clear hb hno hgi gl h1 hll hi
    rintro ⟨j, l⟩ ⟨hj, hb, h1, hgi, hno⟩ ih2
    simp only at hj hb h1 hgi hno
    have hll := bOk_len hb
    have hj1 : ii (IntKind.i64.wrap ((j : Int) + 1)) = ii ((j + 1 : Nat) : Int) := congrArg ii (wsucc (n := 1000001) (by omega) (by decide))
    have gl : (l.map bothI)[(i : Int).toNat]? = some (bothI ((za, zb), zw)) := by rw [Int.toNat_natCast, List.getElem?_map, hgi]; rfl
    refine g_run Tk Tryz.func69 ?_
    first | refine g_cnd Tk Tryz.func69 rfl (fun g2 => ?_) (fun g2 => ?_) | refine g_know Tk Tryz.func69 rfl (fun g2 => ?_) (fun g2 => ?_) | refine s_know Tk (fun g2 => ?_) (fun g2 => ?_)
    · have h2 : j < kp.length := by simpa using g2
      clear g2
      have gk : (kp.map fun x => [vi x])[(j : Int).toNat]? = some [vi kp[j]] := get_mapZ (f := fun x => [vi x]) h2
      rw [List.drop_eq_getElem_cons h2] at hno
      simp only [bvis] at hno
      generalize kp[j] = ev at *
      have hna := hnext za hzV.1 ev
      have hnb := hnext zb hzV.2 ev
      have hsv := hsi (za, zb) ev
      rw [← hst] at hno hsv
      have hsa := hsam _ (hns za ev)
      simp only at hno hsv
      generalize nxt a.edges (lowP on [] false) n za ev = na at *
      generalize nxt a.edges (lowP on [] false) n zb ev = nb at *
      refine g_drawn Tk Tryz.func69 mixedT rfl ?_
      first | refine g_need Tk Tryz.func69 (by exact ⟨by omega, by show (i : Int) < (l.length : Int); omega⟩) ?_ | refine s_need Tk (by exact ⟨by omega, by show (i : Int) < (l.length : Int); omega⟩) ?_
      first | refine g_elem Tk Tryz.func69 (gl) ?_ | refine s_elem Tk (gl) ?_
      first | refine g_need Tk Tryz.func69 (by exact ⟨by omega, by show (j : Int) < (kp.length : Int); omega⟩) ?_ | refine s_need Tk (by exact ⟨by omega, by show (j : Int) < (kp.length : Int); omega⟩) ?_
      first | refine g_elem Tk Tryz.func69 (gk) ?_ | refine s_elem Tk (gk) ?_
      first | refine g_call Tk Tryz.func69 (hna _) rfl rfl rfl rfl rfl ?_ | refine s_callq Tk (fun _ => hna _) rfl rfl rfl ?_
      first | refine g_need Tk Tryz.func69 (by exact ⟨by omega, by show (i : Int) < (l.length : Int); omega⟩) ?_ | refine s_need Tk (by exact ⟨by omega, by show (i : Int) < (l.length : Int); omega⟩) ?_
      first | refine g_elem Tk Tryz.func69 (gl) ?_ | refine s_elem Tk (gl) ?_
      first | refine g_need Tk Tryz.func69 (by exact ⟨by omega, by show (j : Int) < (kp.length : Int); omega⟩) ?_ | refine s_need Tk (by exact ⟨by omega, by show (j : Int) < (kp.length : Int); omega⟩) ?_
      first | refine g_elem Tk Tryz.func69 (gk) ?_ | refine s_elem Tk (gk) ?_
      first | refine g_call Tk Tryz.func69 (hnb _) rfl rfl rfl rfl rfl ?_ | refine s_callq Tk (fun _ => hnb _) rfl rfl rfl ?_
      first | refine g_need Tk Tryz.func69 (by exact ⟨by omega, by show (i : Int) < (l.length : Int); omega⟩) ?_ | refine s_need Tk (by exact ⟨by omega, by show (i : Int) < (l.length : Int); omega⟩) ?_
      first | refine g_elem Tk Tryz.func69 (gl) ?_ | refine s_elem Tk (gl) ?_
      refine s_old Tk ?_
      refine d_need Tk (by exact ⟨by show (0 + zw.length) * 8 ≤ 140737488355328; omega, by show 0 + zw.length ≤ 9223372036854775807; omega⟩) ?_
      refine d_mod Tk (p := ⟨[(88, .osl 0 88), (82, .dead)], [(88, .arr 3 1 (0 + zw.length) ([] ++ zw.map fun x => [vi x]) true)], some 82⟩) rfl rfl rfl ?_
      refine d_need Tk (by exact ⟨by omega, by show (j : Int) < (kp.length : Int); omega⟩) ?_
      refine d_elem Tk gk ?_
      refine d_need Tk (by exact ⟨by show (0 + zw.length + 1) * 8 ≤ 140737488355328; omega, by show 0 + zw.length + 1 ≤ 9223372036854775807; omega⟩) ?_
      refine d_mod Tk (p := ⟨[(94, .osl 0 94), (88, .dead)], [(94, .arr 3 1 (0 + zw.length + 1) (([] ++ zw.map fun x => [vi x]) ++ [[vi ev]]) true)], some 88⟩) rfl rfl rfl ?_
      refine d_mod Tk (p := ⟨[], [(14, .box [ints na, ints nb, .osl 0 94])], none⟩) rfl rfl rfl ?_
      refine d_done Tk Tryz.func69 (by kernel_rfl) (GM.h ?_)
      have e94 : Ob.box [ints na, ints nb, .i (.sl 1 (0 + zw.length + 1) (([] ++ zw.map fun x => [vi x]) ++ [[vi ev]]))] = .box [ints na, ints nb, ints (zw ++ [ev])] := by simp
      refine g_stop ?_
      refine rch_wk (wk_freeze 94 rfl rfl) ?_
      refine rch_wk (wk_imm rfl) ?_
      refine rch_wk (wk_cut (l := [(1, ints on), (4, .own 0 4 0 0), (10, ints kp), (11, .osl 0 133), (12, ii i), (13, ii j), (14, .own 0 14 0 0)])
        (Hv := [(4, .box (autC a)), (133, otwos l), (14, .box [ints na, ints nb, ints (zw ++ [ev])])]) ⟨rfl, rfl, rfl, rfl, rfl, rfl, rfl, trivial⟩ rfl ⟨rfl, rfl, congrArg some e94, trivial⟩ rfl rfl) ?_
      have hnl := (mem_subs (mem_pairsV.1 hsv).1).1
      have hml := (mem_subs (mem_pairsV.1 hsv).2).1
      simp only at hnl hml
      have hzl : (zw ++ [ev]).length = zw.length + 1 := by simp
      have hbo : (∀ z ∈ l, z.1 ≠ (na, nb)) → bOk (pairsV n) (l ++ [((na, nb), zw ++ [ev])]) := fun h => bOk_app hb hgi hsv h ev
      generalize zw ++ [ev] = zw2 at *
      refine g_run Tk Tryz.func69 ?_
      refine g_go Tk Tryz.func69 ?_
      refine g_loop ?_
      refine rch_loop2 (fun x : Nat × Bool => [(1, ints on), (4, .own 0 4 0 0), (10, ints kp), (11, .osl 0 133), (12, ii i), (13, ii j), (14, .own 0 14 0 0), (15, bb x.2), (16, ii x.1)])
        (fun x => [(4, .box (autC a)), (133, otwos l), (14, .box [ints na, ints nb, ints zw2])]) (fun _ => O) 134
        (fun x => x.1 ≤ l.length ∧ (x.2 = true → na = [] ∨ ∃ z ∈ l, z.1 = (na, nb)) ∧ (x.2 = false → na ≠ [] ∧ ∀ z ∈ l.take x.1, z.1 ≠ (na, nb))) (fun x => l.length - x.1) (0, decide ((na.length : Int) = 0))
        ⟨Nat.zero_le _, fun e => .inl (List.eq_nil_of_length_eq_zero (by have := of_decide_eq_true e; omega)), fun e => ⟨fun e2 => of_decide_eq_false e (by rw [e2]; rfl), by simp⟩⟩ ⟨rfl, rfl, rfl, rfl, rfl, rfl, rfl, rfl, rfl, trivial⟩ rfl ⟨rfl, rfl, rfl, trivial⟩ rfl rfl ?_
      rintro ⟨k, sn⟩ ⟨hk, hs1, hs2⟩ ih3
      simp only at hk hs1 hs2
      have hfin : (sn = true ∨ l.length ≤ k) → sn = false → (na ≠ [] ∧ ∀ z ∈ l, z.1 ≠ (na, nb)) := fun h1 h2 => by
        rcases h1 with h1 | h1
        · rw [h1] at h2; cases h2
        · have := hs2 h2
          rw [List.take_of_length_le h1] at this
          exact this
      apply join_p (P := sn = true ∨ l.length ≤ k) (s6 := { σ := [(1, ints on), (4, .own 0 4 0 0), (10, ints kp), (11, .osl 0 133), (12, ii i), (13, ii j), (14, .own 0 14 0 0), (15, bb sn)], S := [(4, .box (autC a)), (133, otwos l), (14, .box [ints na, ints nb, ints zw2])] :: O, n := 134 })
      · intro J
        refine g_run Tk Tryz.func69 ?_
        first | refine g_cnd Tk Tryz.func69 rfl (fun c3 => ?_) (fun c3 => ?_) | refine g_know Tk Tryz.func69 rfl (fun c3 => ?_) (fun c3 => ?_) | refine s_know Tk (fun c3 => ?_) (fun c3 => ?_)
        · have h3 : k < l.length := by simpa using c3
          first | refine g_cnd Tk Tryz.func69 rfl (fun c4 => ?_) (fun c4 => ?_) | refine g_know Tk Tryz.func69 rfl (fun c4 => ?_) (fun c4 => ?_) | refine s_know Tk (fun c4 => ?_) (fun c4 => ?_)
          · have c4 : sn = false := notT c4
            obtain ⟨hne, htk⟩ := hs2 c4
            have gk2 : (l.map bothI)[(k : Int).toNat]? = some (bothI l[k]) := get_mapZ h3
            have hkV := mem_pairsV.1 (hb.el _ (List.getElem_mem h3))
            have htk1 : ∀ (e : l[k].1 ≠ (na, nb)), ∀ z ∈ l.take (k + 1), z.1 ≠ (na, nb) := fun e z hz => by
              rw [List.take_add_one, List.getElem?_eq_getElem h3, List.mem_append] at hz
              rcases hz with hz | hz
              · exact htk z hz
              · simp only [Option.toList_some, List.mem_singleton] at hz
                rw [hz]; exact e
            have hin : l[k].1 = (na, nb) → ∃ z ∈ l, z.1 = (na, nb) := fun e => ⟨_, List.getElem_mem h3, e⟩
            have s1 := fun O => hsam l[k].1.1 hkV.1 na O
            have s2 := fun O => hsam l[k].1.2 hkV.2 nb O
            generalize l[k] = q at *
            obtain ⟨⟨qa, qb⟩, qw⟩ := q
            simp only at htk1 hin s1 s2
            refine g_drawn Tk Tryz.func69 mixedT rfl ?_
            first | refine g_need Tk Tryz.func69 (by exact ⟨by omega, by show (k : Int) < (l.length : Int); omega⟩) ?_ | refine s_need Tk (by exact ⟨by omega, by show (k : Int) < (l.length : Int); omega⟩) ?_
            first | refine g_elem Tk Tryz.func69 (gk2) ?_ | refine s_elem Tk (gk2) ?_
            first | refine g_call Tk Tryz.func69 (s1 _) rfl rfl rfl rfl rfl ?_ | refine s_callq Tk (fun _ => s1 _) rfl rfl rfl ?_
            first | refine g_cnd Tk Tryz.func69 rfl (fun c5 => ?_) (fun c5 => ?_) | refine g_know Tk Tryz.func69 rfl (fun c5 => ?_) (fun c5 => ?_) | refine s_know Tk (fun c5 => ?_) (fun c5 => ?_)
            · have c5 : qa = na := of_decide_eq_true c5
              first | refine g_need Tk Tryz.func69 (by exact ⟨by omega, by show (k : Int) < (l.length : Int); omega⟩) ?_ | refine s_need Tk (by exact ⟨by omega, by show (k : Int) < (l.length : Int); omega⟩) ?_
              first | refine g_elem Tk Tryz.func69 (gk2) ?_ | refine s_elem Tk (gk2) ?_
              first | refine g_call Tk Tryz.func69 (s2 _) rfl rfl rfl rfl rfl ?_ | refine s_callq Tk (fun _ => s2 _) rfl rfl rfl ?_
              refine e_done Tk Tryz.func69 (by kernel_rfl) ?_
              refine g_loop ?_
              refine ih3 (k + 1, decide (qb = nb)) _ _ ⟨h3, fun e => .inr (hin (by rw [c5, of_decide_eq_true e])), fun e => ⟨hne, htk1 fun e2 => of_decide_eq_false e (Prod.mk.inj e2).2⟩⟩ (by simp only; omega) ⟨rfl, rfl, rfl, rfl, rfl, rfl, rfl, rfl, congrArg ii (wsucc (n := 1000001) (by omega) (by decide)), trivial⟩ rfl ⟨rfl, rfl, rfl, trivial⟩ rfl rfl
            · have c5 : qa ≠ na := of_decide_eq_false c5
              refine e_done Tk Tryz.func69 (by kernel_rfl) ?_
              refine g_loop ?_
              refine ih3 (k + 1, false) _ _ ⟨h3, (fun e => by cases e), fun e => ⟨hne, htk1 fun e2 => c5 (Prod.mk.inj e2).1⟩⟩ (by simp only; omega) ⟨rfl, rfl, rfl, rfl, rfl, rfl, rfl, rfl, congrArg ii (wsucc (n := 1000001) (by omega) (by decide)), trivial⟩ rfl ⟨rfl, rfl, rfl, trivial⟩ rfl rfl
          · have c4 : sn = true := notF c4
            refine g_stop ?_
            refine rch_meet (J (.inl c4)) ⟨rfl, rfl, rfl, rfl, rfl, rfl, rfl, rfl, trivial⟩ rfl ⟨rfl, rfl, rfl, trivial⟩ rfl rfl
        · have h3 : l.length ≤ k := by simpa using c3
          repeat (first | refine gcT Tk Tryz.func69 rfl ?_ | refine gkT Tk Tryz.func69 rfl ?_ | refine skT Tk ?_ | refine gcF Tk Tryz.func69 rfl ?_ | refine gkF Tk Tryz.func69 rfl ?_ | refine skF Tk ?_)
          refine g_stop ?_
          refine rch_meet (J (.inr h3)) ⟨rfl, rfl, rfl, rfl, rfl, rfl, rfl, rfl, trivial⟩ rfl ⟨rfl, rfl, rfl, trivial⟩ rfl rfl
      intro hsk
      have hfin := hfin hsk
      refine g_run Tk Tryz.func69 ?_
      refine g_go Tk Tryz.func69 ?_
      first | refine g_cnd Tk Tryz.func69 rfl (fun c5 => ?_) (fun c5 => ?_) | refine g_know Tk Tryz.func69 rfl (fun c5 => ?_) (fun c5 => ?_) | refine s_know Tk (fun c5 => ?_) (fun c5 => ?_)
      · have c5 : sn = false := notT c5
        obtain ⟨f1, f2⟩ := hfin c5
        rw [if_pos ⟨decide_eq_true (by cases na with | nil => exact absurd rfl f1 | cons x r => simp), f2⟩] at hno
        first | refine g_need Tk Tryz.func69 (by exact ⟨by show (l.length + 1) * 72 ≤ 140737488355328; omega, by show l.length + 1 ≤ 9223372036854775807; omega⟩) ?_ | refine s_need Tk (by exact ⟨by show (l.length + 1) * 72 ≤ 140737488355328; omega, by show l.length + 1 ≤ 9223372036854775807; omega⟩) ?_
        refine g_loop ?_
        refine ih2 (j + 1, l ++ [((na, nb), zw2)]) _ _ ⟨h2, hbo f2, by rw [List.length_append]; omega, by rw [List.getElem?_append_left h1]; exact hgi, hno⟩ (by simp only; omega) ⟨rfl, rfl, rfl, rfl, rfl, hj1, trivial⟩ rfl ⟨rfl, congrArg some (otwos_app l ((na, nb), zw2)), trivial⟩ rfl rfl
      · have c5 : sn = true := notF c5
        rw [if_neg (fun h => by
          rcases hs1 c5 with h3 | ⟨z, hz, h3⟩
          · have := of_decide_eq_true h.1
            rw [h3] at this
            simp at this
          · exact h.2 z hz h3)] at hno
        refine g_loop ?_
        exact ih2 (j + 1, l) _ _ ⟨h2, hb, h1, hgi, hno⟩ (by simp only; omega) ⟨rfl, rfl, rfl, rfl, rfl, hj1, trivial⟩ rfl ⟨rfl, rfl, trivial⟩ rfl rfl
    · have h2 : kp.length ≤ j := by simpa using g2
      rw [List.drop_eq_nil_of_le h2] at hno
      refine g_loop ?_
      exact ih (i + 1, fu, l) _ _ ⟨h1, hb, by simp only; omega, hno⟩ (by simp only; omega) ⟨rfl, rfl, rfl, rfl, congrArg ii (wsucc (n := 1000001) (by omega) (by decide)), trivial⟩ rfl ⟨rfl, rfl, trivial⟩ rfl rfl
  · have h1 : l.length ≤ i := by simpa using g1
    obtain ⟨fu, rfl⟩ : ∃ f', fu = f' + 1 := ⟨fu - 1, by omega⟩
    simp only [bsr, List.getElem?_eq_none h1] at hno
    subst hno
    refine g_ret_co Tk (r := .tup [.i (.v (.slice none 0 0)), bb false]) rfl rfl rfl trivial rfl rfl ?_
    repeat' (first | refine coD_tup ?_ | refine coD_agg ?_ | refine coD_i ?_ | refine CoDL.cons ?_ ?_ | exact CoDL.nil | exact coI_nil | refine coI_sl ?_ | refine CoLL.cons ?_ ?_ | exact CoLL.nil | refine CoL.cons ?_ ?_ | exact CoL.nil | exact CoI.refl _ | exact CoL.refl _ | exact CoLL.refl _ | exact CoDL.refl _ | exact CoD.refl _)
end Go.AI


/- The law's own pairs. -/
namespace Go.AI
open Go.Proofs
set_option maxRecDepth 20000
section
variable {S : Type} [DecidableEq S]
/-- The search, without a test: all nodes. -/
def bfull (nx : S → Int → S) (ok : S → Bool) (evs : S → List Int) : Nat → Nat → List (S × List Int) → List (S × List Int)
  | 0, _, l => l
  | f + 1, i, l => match l[i]? with
    | none => l
    | some x => bfull nx ok evs f (i + 1) (bvis nx ok x (evs x.1) l)
end
def okO (y : OS) : Bool := decide (0 ≤ y.1)
def prsR (a : Aut) (on : List Int) (n : Nat) : List (OS × List Int) := if n = 0 then [] else bfull (nxO a.edges on [] n) okO (fun _ => a.alpha) 4096 0 [((0, clo a.edges (lowP on [] false) n [0]), [])]
abbrev oprs (l : List (OS × List Int)) : Ob := .arr 106 3 l.length (l.map plI) true
theorem oprs_app (l : List (OS × List Int)) (z : OS × List Int) : Ob.arr 106 3 (l.length + 1) (l.map plI ++ [plI z]) true = oprs (l ++ [z]) := by simp
theorem nil_arr4 (K : Kn) (vs : List Value) (A : Int) (B : List Int) (h : RepL K vs [vi A, intsI B, .v (.slice none 0 0)]) : RepL K vs [vi A, intsI B, .sl 1 0 []] := by
  cases h with
  | cons h1 h => cases h with
    | cons h2 h => cases h with
      | cons h3 h =>
        cases h
        refine .cons h1 (.cons h2 (.cons ?_ .nil))
        cases h3
        exact .nil
abbrev prsD (l : List (OS × List Int)) : D := .i (.sl 3 l.length (l.map plI))
set_option maxHeartbeats 16000000 in
theorem pairs66 (O : List Heap) (a : Aut) (on : List Int) (n : Nat) (h : gAut a n) (hn : n ≤ 5) (hon : on.length ≤ max63) :
    ASpec Tryz.prog 66 [autD a, ints on] O (prsD (prsR a on n)) [] O := by
  have hal := h.sm.al
  have hst := h.st
  have hbeg := fun O => begin73 O a on n h (by omega) hon
  have hnext := fun x (hx : x ∈ subs n) ev O => next34 O a on x ev n h (by omega) (Nat.le_trans (mem_subs hx).1 (by simp only [max63]; omega)) hon
  have hstep := fun s ev O => step121 O a s ev (by have := h.sm.ed; simp only [max63]; omega)
  have hsb := fun s ev => stp3_b (n := (n : Int)) (es := a.edges) (s := s) (ev := ev) h.to
  have hsam := fun x (hx : x ∈ subs n) y O => sameInts36 O x y (Nat.le_trans (mem_subs hx).1 (by simp only [max63]; omega))
  have hVl := statesV_len hn
  have hns : ∀ x ev, nxt a.edges (lowP on [] false) n x ev ∈ subs n := fun x ev => sorted_subs _ _
  have hc0 : clo a.edges (lowP on [] false) n [0] ∈ subs n := sorted_subs _ _
  unfold begR at hbeg
  unfold prsR
  refine aspec_stop [200015, 12, 15, 20] Tk Tryz.func66 rfl Tryz.call66 Tryz.ntmps66 (Nat.le_of_ble_eq_true rfl) fun E => ?_
  refine g_run Tk Tryz.func66 ?_
  first | refine g_cnd Tk Tryz.func66 rfl (fun g0 => ?_) (fun g0 => ?_) | refine g_know Tk Tryz.func66 rfl (fun g0 => ?_) (fun g0 => ?_) | refine s_know Tk (fun g0 => ?_) (fun g0 => ?_)
  rotate_left
  · have g0 : ¬ a.states > 0 := of_decide_eq_false g0
    have hn0 : n = 0 := by omega
    rw [if_pos hn0]
    refine g_loop ?_
    refine g_run Tk Tryz.func66 ?_
    repeat (first | refine gcT Tk Tryz.func66 rfl ?_ | refine gkT Tk Tryz.func66 rfl ?_ | refine skT Tk ?_ | refine gcF Tk Tryz.func66 rfl ?_ | refine gkF Tk Tryz.func66 rfl ?_ | refine skF Tk ?_)
    refine g_ret_co Tk (r := .i (.v (.slice none 0 0))) rfl rfl rfl trivial rfl rfl ?_
    repeat' (first | refine coD_tup ?_ | refine coD_agg ?_ | refine coD_i ?_ | refine CoDL.cons ?_ ?_ | exact CoDL.nil | exact coI_nil | refine coI_sl ?_ | refine CoLL.cons ?_ ?_ | exact CoLL.nil | refine CoL.cons ?_ ?_ | exact CoL.nil | exact CoI.refl _ | exact CoL.refl _ | exact CoLL.refl _ | exact CoDL.refl _ | exact CoD.refl _)
  have g0 : a.states > 0 := of_decide_eq_true g0
  have hn0 : n ≠ 0 := by omega
  rw [if_neg hn0]
  simp only [if_neg hn0] at hbeg
  have hV0 : ((0, clo a.edges (lowP on [] false) n [0]) : OS) ∈ statesV n := mem_statesV.2 ⟨by simp only; omega, hc0⟩
  generalize clo a.edges (lowP on [] false) n [0] = c0 at *
  generalize hK : bfull (nxO a.edges on [] n) okO (fun _ => a.alpha) 4096 0 [((0, c0), [])] = KK
  have hB0 : bOk (statesV n) [((0, c0), ([] : List Int))] := bOk_one hV0
  refine g_pause Tk Tryz.func66 rfl rfl (wk_nil 5 21 106 3 rfl rfl rfl) ?_
  first | refine g_call Tk Tryz.func66 (hbeg _) rfl rfl rfl rfl rfl ?_ | refine s_callq Tk (fun _ => hbeg _) rfl rfl rfl ?_
  first | refine g_need Tk Tryz.func66 (by exact ⟨by decide, by decide⟩) ?_ | refine s_need Tk (by exact ⟨by decide, by decide⟩) ?_
  refine g_loop ?_
  refine rch_wk (wk_ren 21 113 rfl rfl rfl) ?_
  refine rch_wk (wk_arrco 113 (ys := [plI ((0, c0), [])]) rfl rfl rfl (by simp; rfl) fun K vs h => nil_arr4 K vs 0 c0 h) ?_
  refine rch_loop2 (fun x : Nat × Nat × List (OS × List Int) => [(1, ints on), (2, .own 0 2 0 0), (5, .osl 0 113), (6, ii x.1)])
    (fun x => [(2, .box (autC a)), (113, oprs x.2.2)]) (fun _ => O) 115
    (fun x => x.1 ≤ x.2.2.length ∧ bOk (statesV n) x.2.2 ∧ x.2.1 + x.1 = 4096 ∧ bfull (nxO a.edges on [] n) okO (fun _ => a.alpha) x.2.1 x.1 x.2.2 = KK) (fun x => x.2.1) (0, 4096, [((0, c0), [])])
    ⟨Nat.zero_le _, hB0, rfl, hK⟩ ⟨rfl, rfl, rfl, rfl, trivial⟩ rfl ⟨rfl, rfl, trivial⟩ rfl rfl ?_
  clear hB0 hK hV0 hc0 hbeg
  rintro ⟨i, fu, l⟩ ⟨hi, hb, hf, hno⟩ ih
  simp only at hi hb hf hno
  have hll := bOk_len hb
  refine g_run Tk Tryz.func66 ?_
  first | refine g_cnd Tk Tryz.func66 rfl (fun g1 => ?_) (fun g1 => ?_) | refine g_know Tk Tryz.func66 rfl (fun g1 => ?_) (fun g1 => ?_) | refine s_know Tk (fun g1 => ?_) (fun g1 => ?_)
  · have h1 : i < l.length := by simpa using g1
    clear g1
    obtain ⟨fu, rfl⟩ : ∃ f', fu = f' + 1 := ⟨fu - 1, by omega⟩
    have hgi : l[i]? = some l[i] := List.getElem?_eq_getElem h1
    have hzV := mem_statesV.1 (hb.el _ (List.getElem_mem h1))
    simp only [bfull, hgi] at hno
    have hzw := hb.wl i _ hgi
    generalize l[i] = z at *
    obtain ⟨⟨zs, ze⟩, zw⟩ := z
    simp only at hno hzV hzw
    refine g_loop ?_
    refine rch_loop2 (fun x : Nat × List (OS × List Int) => [(1, ints on), (2, .own 0 2 0 0), (5, .osl 0 113), (6, ii i), (7, ii x.1)])
      (fun x => [(2, .box (autC a)), (113, oprs x.2)]) (fun _ => O) 115
      (fun x => x.1 ≤ a.alpha.length ∧ bOk (statesV n) x.2 ∧ i < x.2.length ∧ x.2[i]? = some ((zs, ze), zw) ∧ bfull (nxO a.edges on [] n) okO (fun _ => a.alpha) fu (i + 1) (bvis (nxO a.edges on [] n) okO ((zs, ze), zw) (a.alpha.drop x.1) x.2) = KK) (fun x => a.alpha.length - x.1) (0, l)
      ⟨Nat.zero_le _, hb, h1, hgi, by simpa using hno⟩ ⟨rfl, rfl, rfl, rfl, rfl, trivial⟩ rfl ⟨rfl, rfl, trivial⟩ rfl rfl ?_
    clear hb hno hgi h1 hll hi
    rintro ⟨j, l⟩ ⟨hj, hb, h1, hgi, hno⟩ ih2
    simp only at hj hb h1 hgi hno
    have hll := bOk_len hb
    have hj1 : ii (IntKind.i64.wrap ((j : Int) + 1)) = ii ((j + 1 : Nat) : Int) := congrArg ii (wsucc (n := 1000001) (by omega) (by decide))
    have gl : (l.map plI)[(i : Int).toNat]? = some (plI ((zs, ze), zw)) := by rw [Int.toNat_natCast, List.getElem?_map, hgi]; rfl
    refine g_run Tk Tryz.func66 ?_
    first | refine g_cnd Tk Tryz.func66 rfl (fun g2 => ?_) (fun g2 => ?_) | refine g_know Tk Tryz.func66 rfl (fun g2 => ?_) (fun g2 => ?_) | refine s_know Tk (fun g2 => ?_) (fun g2 => ?_)
    · have h2 : j < a.alpha.length := by simpa using g2
      clear g2
      have gk : (a.alpha.map fun x => [vi x])[(j : Int).toNat]? = some [vi a.alpha[j]] := get_mapZ (f := fun x => [vi x]) h2
      rw [List.drop_eq_getElem_cons h2] at hno
      simp only [bvis] at hno
      generalize a.alpha[j] = ev at *
      have hs1 := hstep zs ev
      have hs2 := hsb zs ev
      have hn1 := hnext ze hzV.2 ev
      have hnx : nxO a.edges on [] n (zs, ze) ev = (stp3 a.edges zs ev, if ev ∈ on then nxt a.edges (lowP on [] false) n ze ev else ze) := rfl
      have hnS : (if ev ∈ on then nxt a.edges (lowP on [] false) n ze ev else ze) ∈ subs n := by
        split
        · exact hns _ _
        · exact hzV.2
      obtain ⟨ne, hne⟩ : ∃ ne, (if ev ∈ on then nxt a.edges (lowP on [] false) n ze ev else ze) = ne := ⟨_, rfl⟩
      rw [hnx, hne] at hno
      rw [hne] at hnS
      generalize stp3 a.edges zs ev = st at *
      first | refine g_need Tk Tryz.func66 (by exact ⟨by omega, by show (j : Int) < (a.alpha.length : Int); omega⟩) ?_ | refine s_need Tk (by exact ⟨by omega, by show (j : Int) < (a.alpha.length : Int); omega⟩) ?_
      first | refine g_elem Tk Tryz.func66 (gk) ?_ | refine s_elem Tk (gk) ?_
      refine g_drawn Tk Tryz.func66 mixedT rfl ?_
      first | refine g_need Tk Tryz.func66 (by exact ⟨by omega, by show (i : Int) < (l.length : Int); omega⟩) ?_ | refine s_need Tk (by exact ⟨by omega, by show (i : Int) < (l.length : Int); omega⟩) ?_
      first | refine g_elem Tk Tryz.func66 (gl) ?_ | refine s_elem Tk (gl) ?_
      first | refine g_call Tk Tryz.func66 (hs1 _) rfl rfl rfl rfl rfl ?_ | refine s_callq Tk (fun _ => hs1 _) rfl rfl rfl ?_
      first | refine g_need Tk Tryz.func66 (by exact ⟨by omega, by show (i : Int) < (l.length : Int); omega⟩) ?_ | refine s_need Tk (by exact ⟨by omega, by show (i : Int) < (l.length : Int); omega⟩) ?_
      first | refine g_elem Tk Tryz.func66 (gl) ?_ | refine s_elem Tk (gl) ?_
      first | refine g_need Tk Tryz.func66 (by exact ⟨by omega, by show (i : Int) < (l.length : Int); omega⟩) ?_ | refine s_need Tk (by exact ⟨by omega, by show (i : Int) < (l.length : Int); omega⟩) ?_
      first | refine g_elem Tk Tryz.func66 (gl) ?_ | refine s_elem Tk (gl) ?_
      refine s_old Tk ?_
      refine d_need Tk (by exact ⟨by show (0 + zw.length) * 8 ≤ 140737488355328; omega, by show 0 + zw.length ≤ 9223372036854775807; omega⟩) ?_
      refine d_mod Tk (p := ⟨[(59, .osl 0 59), (53, .dead)], [(59, .arr 3 1 (0 + zw.length) ([] ++ zw.map fun x => [vi x]) true)], some 53⟩) rfl rfl rfl ?_
      refine d_need Tk (by exact ⟨by show (0 + zw.length + 1) * 8 ≤ 140737488355328; omega, by show 0 + zw.length + 1 ≤ 9223372036854775807; omega⟩) ?_
      refine d_mod Tk (p := ⟨[(62, .osl 0 62), (59, .dead)], [(62, .arr 3 1 (0 + zw.length + 1) (([] ++ zw.map fun x => [vi x]) ++ [[vi ev]]) true)], some 59⟩) rfl rfl rfl ?_
      refine d_mod Tk (p := ⟨[], [(9, .box [ii st, ints ze, .osl 0 62])], none⟩) rfl rfl rfl ?_
      refine d_done Tk Tryz.func66 (by kernel_rfl) (GM.h ?_)
      have e94 : Ob.box [ii st, ints ze, .i (.sl 1 (0 + zw.length + 1) (([] ++ zw.map fun x => [vi x]) ++ [[vi ev]]))] = .box [ii st, ints ze, ints (zw ++ [ev])] := by simp
      refine g_stop ?_
      refine rch_wk (wk_freeze 62 rfl rfl) ?_
      refine rch_wk (wk_imm rfl) ?_
      refine rch_wk (wk_cut (l := [(1, ints on), (2, .own 0 2 0 0), (5, .osl 0 113), (6, ii i), (7, ii j), (8, ii ev), (9, .own 0 9 0 0)])
        (Hv := [(2, .box (autC a)), (113, oprs l), (9, .box [ii st, ints ze, ints (zw ++ [ev])])]) ⟨rfl, rfl, rfl, rfl, rfl, rfl, rfl, trivial⟩ rfl ⟨rfl, rfl, congrArg some e94, trivial⟩ rfl rfl) ?_
      have hzl : (zw ++ [ev]).length = zw.length + 1 := by simp
      have hbo : (0 ≤ st) → (∀ z ∈ l, z.1 ≠ (st, ne)) → bOk (statesV n) (l ++ [((st, ne), zw ++ [ev])]) := fun h0 h => bOk_app hb hgi (mem_statesV.2 ⟨by simp only; omega, hnS⟩) h ev
      generalize zw ++ [ev] = zw2 at *
      have hhas := fun O => has30 O on ev hon
      refine g_run Tk Tryz.func66 ?_
      refine g_go Tk Tryz.func66 ?_
      first | refine g_cnd Tk Tryz.func66 rfl (fun c2 => ?_) (fun c2 => ?_) | refine g_know Tk Tryz.func66 rfl (fun c2 => ?_) (fun c2 => ?_) | refine s_know Tk (fun c2 => ?_) (fun c2 => ?_)
      · have c2 : st < 0 := of_decide_eq_true c2
        rw [if_neg (fun h => by have := of_decide_eq_true h.1; simp only at this; omega)] at hno
        refine g_loop ?_
        exact ih2 (j + 1, l) _ _ ⟨h2, hb, h1, hgi, hno⟩ (by simp only; omega) ⟨rfl, rfl, rfl, rfl, hj1, trivial⟩ rfl ⟨rfl, rfl, trivial⟩ rfl rfl
      have c2 : 0 ≤ st := by have := of_decide_eq_false c2; omega
      apply join_p (P := True) (s6 := { σ := [(1, ints on), (2, .own 0 2 0 0), (5, .osl 0 113), (6, ii i), (7, ii j), (9, .own 0 9 0 0)], S := [(2, .box (autC a)), (113, oprs l), (9, .box [ii st, ints ne, ints zw2])] :: O, n := 115 })
      · intro J
        first | refine g_call Tk Tryz.func66 (hhas _) rfl rfl rfl rfl rfl ?_ | refine s_callq Tk (fun _ => hhas _) rfl rfl rfl ?_
        first | refine g_cnd Tk Tryz.func66 rfl (fun c3 => ?_) (fun c3 => ?_) | refine g_know Tk Tryz.func66 rfl (fun c3 => ?_) (fun c3 => ?_) | refine s_know Tk (fun c3 => ?_) (fun c3 => ?_)
        · have c3 : ev ∈ on := of_decide_eq_true c3
          rw [if_pos c3] at hne
          rw [hne] at hn1
          refine g_drawn Tk Tryz.func66 mixedT rfl ?_
          first | refine g_need Tk Tryz.func66 (by exact ⟨by omega, by show (i : Int) < (l.length : Int); omega⟩) ?_ | refine s_need Tk (by exact ⟨by omega, by show (i : Int) < (l.length : Int); omega⟩) ?_
          first | refine g_elem Tk Tryz.func66 (gl) ?_ | refine s_elem Tk (gl) ?_
          first | refine g_call Tk Tryz.func66 (hn1 _) rfl rfl rfl rfl rfl ?_ | refine s_callq Tk (fun _ => hn1 _) rfl rfl rfl ?_
          refine s_old Tk ?_
          refine d_mod Tk (p := ⟨[], [(9, .box [ii st, ints ne, ints zw2])], none⟩) rfl rfl rfl ?_
          refine d_done Tk Tryz.func66 (by kernel_rfl) (GM.h ?_)
          refine g_stop ?_
          refine rch_meet (J trivial) ⟨rfl, rfl, rfl, rfl, rfl, rfl, trivial⟩ rfl ⟨rfl, rfl, rfl, trivial⟩ rfl rfl
        · have c3 : ev ∉ on := of_decide_eq_false c3
          rw [if_neg c3] at hne
          subst hne
          refine g_stop ?_
          refine rch_meet (J trivial) ⟨rfl, rfl, rfl, rfl, rfl, rfl, trivial⟩ rfl ⟨rfl, rfl, rfl, trivial⟩ rfl rfl
      intro _
      clear hn1 hne hhas hs1
      refine g_run Tk Tryz.func66 ?_
      refine g_go Tk Tryz.func66 ?_
      refine g_loop ?_
      refine rch_loop2 (fun x : Nat × Bool => [(1, ints on), (2, .own 0 2 0 0), (5, .osl 0 113), (6, ii i), (7, ii j), (9, .own 0 9 0 0), (10, bb x.2), (11, ii x.1)])
        (fun x => [(2, .box (autC a)), (113, oprs l), (9, .box [ii st, ints ne, ints zw2])]) (fun _ => O) 115
        (fun x => x.1 ≤ l.length ∧ (x.2 = true → ∃ z ∈ l, z.1 = (st, ne)) ∧ (x.2 = false → ∀ z ∈ l.take x.1, z.1 ≠ (st, ne))) (fun x => l.length - x.1) (0, false)
        ⟨Nat.zero_le _, (fun e => by cases e), fun _ => by simp⟩ ⟨rfl, rfl, rfl, rfl, rfl, rfl, rfl, rfl, trivial⟩ rfl ⟨rfl, rfl, rfl, trivial⟩ rfl rfl ?_
      rintro ⟨k, sn⟩ ⟨hk, hs1, hs2⟩ ih3
      simp only at hk hs1 hs2
      have hfin : (sn = true ∨ l.length ≤ k) → sn = false → (∀ z ∈ l, z.1 ≠ (st, ne)) := fun h1 h2 => by
        rcases h1 with h1 | h1
        · rw [h1] at h2; cases h2
        · have := hs2 h2
          rw [List.take_of_length_le h1] at this
          exact this
      apply join_p (P := sn = true ∨ l.length ≤ k) (s6 := { σ := [(1, ints on), (2, .own 0 2 0 0), (5, .osl 0 113), (6, ii i), (7, ii j), (9, .own 0 9 0 0), (10, bb sn)], S := [(2, .box (autC a)), (113, oprs l), (9, .box [ii st, ints ne, ints zw2])] :: O, n := 115 })
      · intro J
        refine g_run Tk Tryz.func66 ?_
        first | refine g_cnd Tk Tryz.func66 rfl (fun c3 => ?_) (fun c3 => ?_) | refine g_know Tk Tryz.func66 rfl (fun c3 => ?_) (fun c3 => ?_) | refine s_know Tk (fun c3 => ?_) (fun c3 => ?_)
        · have h3 : k < l.length := by simpa using c3
          first | refine g_cnd Tk Tryz.func66 rfl (fun c4 => ?_) (fun c4 => ?_) | refine g_know Tk Tryz.func66 rfl (fun c4 => ?_) (fun c4 => ?_) | refine s_know Tk (fun c4 => ?_) (fun c4 => ?_)
          · have c4 : sn = false := notT c4
            have htk := hs2 c4
            have gk2 : (l.map plI)[(k : Int).toNat]? = some (plI l[k]) := get_mapZ h3
            have hkV := mem_statesV.1 (hb.el _ (List.getElem_mem h3))
            have htk1 : ∀ (e : l[k].1 ≠ (st, ne)), ∀ z ∈ l.take (k + 1), z.1 ≠ (st, ne) := fun e z hz => by
              rw [List.take_add_one, List.getElem?_eq_getElem h3, List.mem_append] at hz
              rcases hz with hz | hz
              · exact htk z hz
              · simp only [Option.toList_some, List.mem_singleton] at hz
                rw [hz]; exact e
            have hin : l[k].1 = (st, ne) → ∃ z ∈ l, z.1 = (st, ne) := fun e => ⟨_, List.getElem_mem h3, e⟩
            have s2 := fun O => hsam l[k].1.2 hkV.2 ne O
            generalize l[k] = q at *
            obtain ⟨⟨qa, qb⟩, qw⟩ := q
            simp only at htk1 hin s2
            refine g_drawn Tk Tryz.func66 mixedT rfl ?_
            first | refine g_need Tk Tryz.func66 (by exact ⟨by omega, by show (k : Int) < (l.length : Int); omega⟩) ?_ | refine s_need Tk (by exact ⟨by omega, by show (k : Int) < (l.length : Int); omega⟩) ?_
            first | refine g_elem Tk Tryz.func66 (gk2) ?_ | refine s_elem Tk (gk2) ?_
            first | refine g_cnd Tk Tryz.func66 rfl (fun c5 => ?_) (fun c5 => ?_) | refine g_know Tk Tryz.func66 rfl (fun c5 => ?_) (fun c5 => ?_) | refine s_know Tk (fun c5 => ?_) (fun c5 => ?_)
            · have c5 : qa = st := beqT c5
              first | refine g_need Tk Tryz.func66 (by exact ⟨by omega, by show (k : Int) < (l.length : Int); omega⟩) ?_ | refine s_need Tk (by exact ⟨by omega, by show (k : Int) < (l.length : Int); omega⟩) ?_
              first | refine g_elem Tk Tryz.func66 (gk2) ?_ | refine s_elem Tk (gk2) ?_
              first | refine g_call Tk Tryz.func66 (s2 _) rfl rfl rfl rfl rfl ?_ | refine s_callq Tk (fun _ => s2 _) rfl rfl rfl ?_
              refine e_done Tk Tryz.func66 (by kernel_rfl) ?_
              refine g_loop ?_
              refine ih3 (k + 1, decide (qb = ne)) _ _ ⟨h3, fun e => hin (by rw [c5, of_decide_eq_true e]), fun e => htk1 fun e2 => of_decide_eq_false e (Prod.mk.inj e2).2⟩ (by simp only; omega) ⟨rfl, rfl, rfl, rfl, rfl, rfl, rfl, congrArg ii (wsucc (n := 1000001) (by omega) (by decide)), trivial⟩ rfl ⟨rfl, rfl, rfl, trivial⟩ rfl rfl
            · have c5 : qa ≠ st := beqF c5
              refine e_done Tk Tryz.func66 (by kernel_rfl) ?_
              refine g_loop ?_
              refine ih3 (k + 1, false) _ _ ⟨h3, (fun e => by cases e), fun e => htk1 fun e2 => c5 (Prod.mk.inj e2).1⟩ (by simp only; omega) ⟨rfl, rfl, rfl, rfl, rfl, rfl, rfl, congrArg ii (wsucc (n := 1000001) (by omega) (by decide)), trivial⟩ rfl ⟨rfl, rfl, rfl, trivial⟩ rfl rfl
          · have c4 : sn = true := notF c4
            refine g_stop ?_
            refine rch_meet (J (.inl c4)) ⟨rfl, rfl, rfl, rfl, rfl, rfl, rfl, trivial⟩ rfl ⟨rfl, rfl, rfl, trivial⟩ rfl rfl
        · have h3 : l.length ≤ k := by simpa using c3
          repeat (first | refine gcT Tk Tryz.func66 rfl ?_ | refine gkT Tk Tryz.func66 rfl ?_ | refine skT Tk ?_ | refine gcF Tk Tryz.func66 rfl ?_ | refine gkF Tk Tryz.func66 rfl ?_ | refine skF Tk ?_)
          refine g_stop ?_
          refine rch_meet (J (.inr h3)) ⟨rfl, rfl, rfl, rfl, rfl, rfl, rfl, trivial⟩ rfl ⟨rfl, rfl, rfl, trivial⟩ rfl rfl
      intro hsk
      have hfin := hfin hsk
      refine g_run Tk Tryz.func66 ?_
      refine g_go Tk Tryz.func66 ?_
      first | refine g_cnd Tk Tryz.func66 rfl (fun c5 => ?_) (fun c5 => ?_) | refine g_know Tk Tryz.func66 rfl (fun c5 => ?_) (fun c5 => ?_) | refine s_know Tk (fun c5 => ?_) (fun c5 => ?_)
      · have c5 : sn = false := notT c5
        have f2 := hfin c5
        rw [if_pos ⟨decide_eq_true c2, f2⟩] at hno
        first | refine g_need Tk Tryz.func66 (by exact ⟨by show (l.length + 1) * 56 ≤ 140737488355328; omega, by show l.length + 1 ≤ 9223372036854775807; omega⟩) ?_ | refine s_need Tk (by exact ⟨by show (l.length + 1) * 56 ≤ 140737488355328; omega, by show l.length + 1 ≤ 9223372036854775807; omega⟩) ?_
        refine g_loop ?_
        refine ih2 (j + 1, l ++ [((st, ne), zw2)]) _ _ ⟨h2, hbo c2 f2, by rw [List.length_append]; omega, by rw [List.getElem?_append_left h1]; exact hgi, hno⟩ (by simp only; omega) ⟨rfl, rfl, rfl, rfl, hj1, trivial⟩ rfl ⟨rfl, congrArg some (oprs_app l ((st, ne), zw2)), trivial⟩ rfl rfl
      · have c5 : sn = true := notF c5
        rw [if_neg (fun h => by
          obtain ⟨z, hz, h3⟩ := hs1 c5
          exact h.2 z hz h3)] at hno
        refine g_loop ?_
        exact ih2 (j + 1, l) _ _ ⟨h2, hb, h1, hgi, hno⟩ (by simp only; omega) ⟨rfl, rfl, rfl, rfl, hj1, trivial⟩ rfl ⟨rfl, rfl, trivial⟩ rfl rfl
    · have h2 : a.alpha.length ≤ j := by simpa using g2
      rw [List.drop_eq_nil_of_le h2] at hno
      refine g_loop ?_
      exact ih (i + 1, fu, l) _ _ ⟨h1, hb, by simp only; omega, hno⟩ (by simp only; omega) ⟨rfl, rfl, rfl, congrArg ii (wsucc (n := 1000001) (by omega) (by decide)), trivial⟩ rfl ⟨rfl, rfl, trivial⟩ rfl rfl
  · have h1 : l.length ≤ i := by simpa using g1
    obtain ⟨fu, rfl⟩ : ∃ f', fu = f' + 1 := ⟨fu - 1, by omega⟩
    simp only [bfull, List.getElem?_eq_none h1] at hno
    subst hno
    refine g_rwk (wk_freeze 113 rfl rfl) ?_
    refine g_ret Tk (r := prsD l) rfl rfl rfl trivial rfl rfl ?_
    rfl
end Go.AI
