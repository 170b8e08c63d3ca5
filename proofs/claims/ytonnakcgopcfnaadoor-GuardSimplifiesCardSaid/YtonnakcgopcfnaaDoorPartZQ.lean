/- The layer of abstract runs, part 43. -/
import Derived.Test.YtonnakcgopcfnaaDoorPartZP
import Derived.KernelRfl
set_option linter.unusedSimpArgs false
set_option linter.unusedVariables false
set_option linter.all false

/- The examples of the chapter on guards. -/
namespace Go.AI
open Go.Proofs
set_option maxRecDepth 20000
def cmpE (op v n : Int) : Ex := .mk op 0 0 [.mk 1 0 v [], .mk 0 n 0 []]
def twoV : List Vr := [⟨⟨#[120]⟩, 0, 3, 0⟩, ⟨⟨#[121]⟩, 0, 1, 0⟩]
def xE : Ex := .mk 12 0 0 [cmpE 8 0 2, cmpE 6 1 1]
theorem compare69 (O : List Heap) (op v n : Int) : ASpec Tryd.prog 69 [ii op, ii v, ii n] O (exA (cmpE op v n)) [] O := by
  refine aspec_intro Tk Tryd.func69 rfl Tryd.call69 Tryd.ntmps69 (Nat.le_of_ble_eq_true rfl) fun E => ?_
  refine g_run Tk Tryd.func69 ?_
  refine g_ret_co Tk (r := _) rfl rfl rfl trivial rfl rfl ?_
  show CoD _ (.agg [ii op, ii 0, ii 0, .i (.sl 4 2 [[vi 1, vi 0, vi v, .sl 4 0 []], [vi 0, vi n, vi 0, .sl 4 0 []]])])
  repeat' (first | refine coD_tup ?_ | refine coD_agg ?_ | refine coD_i ?_ | refine CoDL.cons ?_ ?_ | exact CoDL.nil | exact coI_nil | refine coI_sl ?_ | refine CoLL.cons ?_ ?_ | exact CoLL.nil | refine CoL.cons ?_ ?_ | exact CoL.nil | exact CoI.refl _ | exact CoL.refl _ | exact CoLL.refl _ | exact CoDL.refl _ | exact CoD.refl _)
theorem two70 (O : List Heap) : ASpec Tryd.prog 70 [] O (vrs twoV) [] O := by
  refine aspec_intro Tk Tryd.func70 rfl Tryd.call70 Tryd.ntmps70 (Nat.le_of_ble_eq_true rfl) fun E => ?_
  refine g_run Tk Tryd.func70 ?_
  refine g_ret Tk (r := vrs twoV) rfl rfl rfl trivial rfl rfl ?_
  rfl
def tK : List Bool := [true, true, true, true, false, true, false, true]
def cK : List Bool := [true, true, true, true, true, true, true, true]
def bK : List Bx := [⟨[0, 0], [1, 1]⟩, ⟨[0, 1], [3, 1]⟩]
theorem known_t : tableG twoV xE = (tK, 0) := by kernel_rfl
theorem known_c : tableG twoV trueE = (cK, 0) := by kernel_rfl
theorem known_b : boxesG twoV tK cK = (bK, 0) := by kernel_rfl
theorem known_s : textR twoV bK = (⟨#[120, 32, 60, 61, 32, 49, 32, 111, 114, 32, 121, 32, 61, 32, 49]⟩, 0) := by kernel_rfl
theorem known_n : literalsR twoV bK = (2, 0) := by kernel_rfl
theorem known_i : cmpR (fun a b => a && !b) twoV (cmpE 8 0 3) (cmpE 8 0 2) = ([2, 0], false, 0) := by kernel_rfl
theorem known_y : simplR twoV xE (cmpE 6 1 1) = (trueE, 0) := by kernel_rfl
theorem exOk_cmp (op v n : Int) : exOk (cmpE op v n) := exOk_two (exOk_leaf _ _ _) (exOk_leaf _ _ _)
theorem exOk_xE : exOk xE := exOk_two (exOk_cmp _ _ _) (exOk_cmp _ _ _)
theorem two_len : twoV.length ≤ max63 := by decide
theorem two_nm : ∀ v ∈ twoV, v.name.size ≤ max63 := by
  intro v hv
  simp only [twoV, List.mem_cons, List.mem_nil_iff, or_false] at hv
  rcases hv with rfl | rfl <;> decide
theorem two_nm2 : ∀ v ∈ twoV, v.name.size ≤ 1000 := by
  intro v hv
  simp only [twoV, List.mem_cons, List.mem_nil_iff, or_false] at hv
  rcases hv with rfl | rfl <;> decide
theorem known15 {g : Nat} (hg : IsTab g) {ty : TypeId} {fr : Nat × Nat} (O : List Heap) : ASpecT g (ptab ty fr) Tryd.prog 15 [] O (bb true) [] O := by
  have ht := fun O => table31 O twoV xE two_len two_nm exOk_xE
  have hc := fun O => table31 O twoV trueE two_len two_nm exOk_true
  have hb := fun O => boxes19 O twoV tK cK two_len two_nm
  have hs := fun O => text40 hg (ty := ty) (fr := fr) O twoV bK two_len two_nm2 (by decide)
  have hn := fun O => literals41 O twoV bK two_len two_nm (by decide)
  have hi := fun O => implies34 O twoV (cmpE 8 0 3) (cmpE 8 0 2) two_len two_nm (exOk_cmp _ _ _) (exOk_cmp _ _ _)
  have hy := fun O => simplify24 O twoV xE (cmpE 6 1 1) two_len two_nm exOk_xE (exOk_cmp _ _ _)
  simp only [known_t] at ht
  simp only [known_c] at hc
  simp only [known_b] at hb
  simp only [known_s] at hs
  simp only [known_n] at hn
  simp only [known_i] at hi
  simp only [known_y] at hy
  have he := fun O => equal41 (SizeOf.sizeOf trueE + 1) trueE trueE (by omega) exOk_true O
  have hsi := fun O => sameInts36 O [2, 0] [2, 0] (by decide)
  refine aspecT_stop [] Tk Tryd.func15 rfl Tryd.call15 Tryd.ntmps15 (Nat.le_of_ble_eq_true rfl) fun E hE => ?_
  refine g_run Tk Tryd.func15 ?_
  first | refine g_call Tk Tryd.func15 (compare69 _ 8 0 2) rfl rfl rfl rfl rfl ?_ | refine s_callq Tk (fun _ => compare69 _ 8 0 2) rfl rfl rfl ?_
  first | refine g_call Tk Tryd.func15 (compare69 _ 6 1 1) rfl rfl rfl rfl rfl ?_ | refine s_callq Tk (fun _ => compare69 _ 6 1 1) rfl rfl rfl ?_
  refine g_drawn Tk Tryd.func15 mixedT rfl ?_
  first | refine g_call Tk Tryd.func15 (two70 _) rfl rfl rfl rfl rfl ?_ | refine s_callq Tk (fun _ => two70 _) rfl rfl rfl ?_
  first | refine g_call Tk Tryd.func15 (ht _) rfl rfl rfl rfl rfl ?_ | refine s_callq Tk (fun _ => ht _) rfl rfl rfl ?_
  refine e_done Tk Tryd.func15 (by kernel_rfl) ?_
  first | refine g_call Tk Tryd.func15 (two70 _) rfl rfl rfl rfl rfl ?_ | refine s_callq Tk (fun _ => two70 _) rfl rfl rfl ?_
  first | refine g_call Tk Tryd.func15 (true56A _) rfl rfl rfl rfl rfl ?_ | refine s_callq Tk (fun _ => true56A _) rfl rfl rfl ?_
  first | refine g_call Tk Tryd.func15 (hc _) rfl rfl rfl rfl rfl ?_ | refine s_callq Tk (fun _ => hc _) rfl rfl rfl ?_
  first | refine g_call Tk Tryd.func15 (two70 _) rfl rfl rfl rfl rfl ?_ | refine s_callq Tk (fun _ => two70 _) rfl rfl rfl ?_
  first | refine g_call Tk Tryd.func15 (hb _) rfl rfl rfl rfl rfl ?_ | refine s_callq Tk (fun _ => hb _) rfl rfl rfl ?_
  first | refine g_call Tk Tryd.func15 (two70 _) rfl rfl rfl rfl rfl ?_ | refine s_callq Tk (fun _ => two70 _) rfl rfl rfl ?_
  refine g_callT Tk Tryd.func15 hE (hs _) rfl rfl rfl rfl rfl rfl ?_
  first | refine g_call Tk Tryd.func15 (two70 _) rfl rfl rfl rfl rfl ?_ | refine s_callq Tk (fun _ => two70 _) rfl rfl rfl ?_
  first | refine g_call Tk Tryd.func15 (hn _) rfl rfl rfl rfl rfl ?_ | refine s_callq Tk (fun _ => hn _) rfl rfl rfl ?_
  first | refine g_call Tk Tryd.func15 (two70 _) rfl rfl rfl rfl rfl ?_ | refine s_callq Tk (fun _ => two70 _) rfl rfl rfl ?_
  first | refine g_call Tk Tryd.func15 (compare69 _ 8 0 3) rfl rfl rfl rfl rfl ?_ | refine s_callq Tk (fun _ => compare69 _ 8 0 3) rfl rfl rfl ?_
  first | refine g_call Tk Tryd.func15 (compare69 _ 8 0 2) rfl rfl rfl rfl rfl ?_ | refine s_callq Tk (fun _ => compare69 _ 8 0 2) rfl rfl rfl ?_
  first | refine g_call Tk Tryd.func15 (hi _) rfl rfl rfl rfl rfl ?_ | refine s_callq Tk (fun _ => hi _) rfl rfl rfl ?_
  refine g_drawn Tk Tryd.func15 mixedT rfl ?_
  first | refine g_call Tk Tryd.func15 (two70 _) rfl rfl rfl rfl rfl ?_ | refine s_callq Tk (fun _ => two70 _) rfl rfl rfl ?_
  first | refine g_call Tk Tryd.func15 (compare69 _ 6 1 1) rfl rfl rfl rfl rfl ?_ | refine s_callq Tk (fun _ => compare69 _ 6 1 1) rfl rfl rfl ?_
  first | refine g_call Tk Tryd.func15 (hy _) rfl rfl rfl rfl rfl ?_ | refine s_callq Tk (fun _ => hy _) rfl rfl rfl ?_
  refine s_put Tk rfl rfl rfl ?_
  refine e_done Tk Tryd.func15 (by kernel_rfl) ?_
  refine g_drawn Tk Tryd.func15 mixedT rfl ?_
  repeat (first | refine g_cnd Tk Tryd.func15 rfl (fun _ => ?_) (fun h => absurd h (by decide)) | refine g_know Tk Tryd.func15 rfl (fun _ => ?_) (fun h => absurd h (by decide)) | refine s_know Tk (fun _ => ?_) (fun h => absurd h (by decide)) | refine g_cnd Tk Tryd.func15 rfl (fun h => absurd h (by decide)) (fun _ => ?_) | refine g_know Tk Tryd.func15 rfl (fun h => absurd h (by decide)) (fun _ => ?_) | refine s_know Tk (fun h => absurd h (by decide)) (fun _ => ?_) | refine g_cnd Tk Tryd.func15 rfl (fun _ => ?_) (fun h => absurd (show true = false from h) (by decide)) | refine g_know Tk Tryd.func15 rfl (fun _ => ?_) (fun h => absurd (show true = false from h) (by decide)) | refine s_know Tk (fun _ => ?_) (fun h => absurd (show true = false from h) (by decide)) | refine g_cnd Tk Tryd.func15 rfl (fun h => absurd (show false = true from h) (by decide)) (fun _ => ?_) | refine g_know Tk Tryd.func15 rfl (fun h => absurd (show false = true from h) (by decide)) (fun _ => ?_) | refine s_know Tk (fun h => absurd (show false = true from h) (by decide)) (fun _ => ?_))
  first | refine g_cnd Tk Tryd.func15 rfl (fun hq => ?_) (fun hq => ?_) | refine g_know Tk Tryd.func15 rfl (fun hq => ?_) (fun hq => ?_) | refine s_know Tk (fun hq => ?_) (fun hq => ?_)
  rotate_left
  · exact absurd hq (by simp)
  repeat (first | refine g_cnd Tk Tryd.func15 rfl (fun _ => ?_) (fun h => absurd h (by decide)) | refine g_know Tk Tryd.func15 rfl (fun _ => ?_) (fun h => absurd h (by decide)) | refine s_know Tk (fun _ => ?_) (fun h => absurd h (by decide)) | refine g_cnd Tk Tryd.func15 rfl (fun h => absurd h (by decide)) (fun _ => ?_) | refine g_know Tk Tryd.func15 rfl (fun h => absurd h (by decide)) (fun _ => ?_) | refine s_know Tk (fun h => absurd h (by decide)) (fun _ => ?_) | refine g_cnd Tk Tryd.func15 rfl (fun _ => ?_) (fun h => absurd (show true = false from h) (by decide)) | refine g_know Tk Tryd.func15 rfl (fun _ => ?_) (fun h => absurd (show true = false from h) (by decide)) | refine s_know Tk (fun _ => ?_) (fun h => absurd (show true = false from h) (by decide)) | refine g_cnd Tk Tryd.func15 rfl (fun h => absurd (show false = true from h) (by decide)) (fun _ => ?_) | refine g_know Tk Tryd.func15 rfl (fun h => absurd (show false = true from h) (by decide)) (fun _ => ?_) | refine s_know Tk (fun h => absurd (show false = true from h) (by decide)) (fun _ => ?_))
  first | refine g_call Tk Tryd.func15 (hsi _) rfl rfl rfl rfl rfl ?_ | refine s_callq Tk (fun _ => hsi _) rfl rfl rfl ?_
  repeat (first | refine g_cnd Tk Tryd.func15 rfl (fun _ => ?_) (fun h => absurd h (by decide)) | refine g_know Tk Tryd.func15 rfl (fun _ => ?_) (fun h => absurd h (by decide)) | refine s_know Tk (fun _ => ?_) (fun h => absurd h (by decide)) | refine g_cnd Tk Tryd.func15 rfl (fun h => absurd h (by decide)) (fun _ => ?_) | refine g_know Tk Tryd.func15 rfl (fun h => absurd h (by decide)) (fun _ => ?_) | refine s_know Tk (fun h => absurd h (by decide)) (fun _ => ?_) | refine g_cnd Tk Tryd.func15 rfl (fun _ => ?_) (fun h => absurd (show true = false from h) (by decide)) | refine g_know Tk Tryd.func15 rfl (fun _ => ?_) (fun h => absurd (show true = false from h) (by decide)) | refine s_know Tk (fun _ => ?_) (fun h => absurd (show true = false from h) (by decide)) | refine g_cnd Tk Tryd.func15 rfl (fun h => absurd (show false = true from h) (by decide)) (fun _ => ?_) | refine g_know Tk Tryd.func15 rfl (fun h => absurd (show false = true from h) (by decide)) (fun _ => ?_) | refine s_know Tk (fun h => absurd (show false = true from h) (by decide)) (fun _ => ?_))
  first | refine g_call Tk Tryd.func15 (true56A _) rfl rfl rfl rfl rfl ?_ | refine s_callq Tk (fun _ => true56A _) rfl rfl rfl ?_
  first | refine g_call Tk Tryd.func15 (he _) rfl rfl rfl rfl rfl ?_ | refine s_callq Tk (fun _ => he _) rfl rfl rfl ?_
  refine e_done Tk Tryd.func15 (by kernel_rfl) ?_
  refine g_ret Tk (r := bb true) rfl rfl rfl trivial rfl rfl ?_
  rfl
end Go.AI


/- GuardBoxes. -/
namespace Go.AI
open Go.Proofs
set_option maxRecDepth 20000
end Go.AI


/- GuardCovers. -/
namespace Go.AI
open Go.Proofs
set_option maxRecDepth 20000
end Go.AI


/- GuardCompares. -/
namespace Go.AI
open Go.Proofs
set_option maxRecDepth 20000
theorem checkX_grown {vars : Int} (hv : 0 ≤ vars) (hv2 : vars ≤ 16) {bs : List Int} (hb : byteOk bs) : checkX (growE vars false bs) vars = (2, 0) := by
  have h := (grow_typed hv hv2 false hb).1
  have e : tyOf false = 2 := rfl
  rw [e] at h
  unfold typedX at h
  by_cases h1 : (checkX (growE vars false bs) vars).2 = 0 ∧ (checkX (growE vars false bs) vars).1 ≠ 2
  · rw [if_pos h1] at h; cases h
  rw [if_neg h1] at h
  have h2 : (checkX (growE vars false bs) vars).1 = 2 := by
    apply Classical.byContradiction
    intro hne
    exact h1 ⟨h, hne⟩
  exact Prod.ext h2 h
theorem tblL_tabL {x : Ex} : ∀ {dom : List (List Int)} {acc : List Bool}, (tblL x dom acc).2 = true → tabL x dom acc = ((tblL x dom acc).1, 0)
  | [], acc, _ => rfl
  | v :: r, acc, h => by
    simp only [tblL, tabL] at h ⊢
    by_cases hc : (evalX x v).2 ≠ 0
    · rw [if_pos hc] at h; cases h
    · rw [if_neg hc] at h ⊢
      rw [if_neg hc]
      exact tblL_tabL h
theorem tblL_len {x : Ex} : ∀ {dom : List (List Int)} {acc : List Bool}, (tblL x dom acc).2 = true → (tblL x dom acc).1.length = acc.length + dom.length := fun {dom acc} h => by
  have h1 := tblL_tabL h
  have h2 := tabL_len (x := x) (dom := dom) (acc := acc) (by rw [h1])
  rw [h1] at h2
  exact h2
/-- The table of a guard that is right and does not overflow. -/
theorem tableR_fine {n : Int} {dom : List (List Int)} {x : Ex} (hc : checkX x n = (2, 0)) (h : (tblL x dom []).2 = true) : tableR n dom x = ((tblL x dom []).1, 0) := by
  unfold tableR
  rw [hc, if_neg (by decide), if_neg (by decide)]
  exact tblL_tabL h
def fiI (p : Bool → Bool → Bool) : List Bool → List Bool → Nat → Int
  | a :: r, b :: s, k => if p a b then k else fiI p r s (k + 1)
  | _, _, _ => -1
theorem fiI_or (p : Bool → Bool → Bool) : ∀ (t u : List Bool) (dom : List (List Int)) (k : Nat), t.length = dom.length → u.length = dom.length → (fiI p t u k = -1 ∧ firstB p dom t u = ([], true)) ∨ ∃ (j : Nat) (d : List Int), fiI p t u k = ((k + j : Nat) : Int) ∧ dom[j]? = some d ∧ firstB p dom t u = (d, false)
  | [], u, [], k, _, _ => .inl ⟨rfl, rfl⟩
  | a :: r, [], [], k, h, _ => by cases h
  | a :: r, [], d :: ds, k, _, h => by cases h
  | a :: r, b :: s, d :: ds, k, h1, h2 => by
    simp only [fiI, firstB]
    by_cases hp : p a b = true
    · rw [if_pos hp, if_pos hp]
      exact .inr ⟨0, d, by simp, rfl, rfl⟩
    · rw [if_neg hp, if_neg hp]
      rcases fiI_or p r s ds (k + 1) (by simpa using h1) (by simpa using h2) with h | ⟨j, d', e1, e2, e3⟩
      · exact .inl h
      · exact .inr ⟨j + 1, d', by rw [e1]; congr 1; omega, by simpa using e2, e3⟩
  | [], u, _ :: _, k, h, _ => by cases h
  | _ :: _, _ :: _, [], k, h, _ => by cases h
theorem firstB_iff : ∀ {dom : List (List Int)} {t u : List Bool}, t.length = dom.length → u.length = dom.length → (firstB (fun a b => a != b) dom t u).2 = ((firstB (fun a b => a && !b) dom t u).2 && (firstB (fun a b => a && !b) dom u t).2)
  | [], _, _, _, _ => by simp [firstB]
  | d :: ds, a :: r, b :: s, h1, h2 => by
    have ih := firstB_iff (dom := ds) (t := r) (u := s) (by simpa using h1) (by simpa using h2)
    cases a <;> cases b <;> simp [firstB, ih]
  | d :: ds, [], _, h, _ => by cases h
  | d :: ds, _ :: _, [], _, h => by cases h
def exBx (x : Ex) : Ob := .box [.i (.v (.int .i64 x.op)), .i (.v (.int .i64 x.vl)), .i (.v (.int .i64 x.ix)), .i (.sl 4 x.args.length (exIs x.args))]
set_option maxHeartbeats 4000000 in
theorem guardCompares7 {g : Nat} (hg : IsTab g) {ty : TypeId} {fr : Nat × Nat} (O : List Heap) (r : List (Int × Int)) (a b : List Int) (hr : r.length ≤ max63) (hp : ∀ p ∈ r, pairOk p) (ha : byteOk a) (hal : a.length ≤ max63) (hb : byteOk b) (hbl : b.length ≤ max63) : ASpecT g (ptab ty fr) Tryd.prog 7 [r8s r, byts a, byts b] O (bb true) [] O := by
  have hkn := fun O => known15 hg (ty := ty) (fr := fr) O
  have hrg := fun O => ranges45 O r hr hp
  have hs := rngs_small hp
  generalize rngsR r = l at *
  have hl3 := hs.len
  have hdm := fun O => domain17 O l hs.dom.len hs.dom.b hs.dom.cnt
  have hmx := hs.max
  have hgx := fun O => grow46 O a (l.length : Int) false (by omega) ha hal
  have hgy := fun O => grow46 O b (l.length : Int) false (by omega) hb hbl
  have hxo := (grow_typed (vars := (l.length : Int)) (by omega) (by omega) false ha).2
  have hyo := (grow_typed (vars := (l.length : Int)) (by omega) (by omega) false hb).2
  have hxc := checkX_grown (vars := (l.length : Int)) (by omega) (by omega) ha
  have hyc := checkX_grown (vars := (l.length : Int)) (by omega) (by omega) hb
  generalize growE (l.length : Int) false a = x at *
  generalize growE (l.length : Int) false b = y at *
  have htx := fun O => table23 O l x hs.dom hxo
  have hty := fun O => table23 O l y hs.dom hyo
  have hix := fun O => implies34 O l x y hmx.1 hmx.2 hxo hyo
  have hiy := fun O => implies34 O l y x hmx.1 hmx.2 hyo hxo
  have heq := fun O => equivalent35 O l x y hmx.1 hmx.2 hxo hyo
  have hcx := @tableR_fine l.length (allV l) x hxc
  have hcy := @tableR_fine l.length (allV l) y hyc
  have hlx := @tblL_len x (allV l) []
  have hly := @tblL_len y (allV l) []
  have hmost := hs.most
  have hvl : ∀ v ∈ allV l, v.length = l.length := fun v h => allV_mem_len h
  unfold cmpR at hix hiy heq
  rw [hs.all] at hix hiy heq
  simp only at hix hiy heq
  generalize hT : tblL x (allV l) [] = T at *
  generalize hU : tblL y (allV l) [] = U at *
  obtain ⟨t, tf⟩ := T
  obtain ⟨u, uf⟩ := U
  simp only at htx hty hcx hcy hlx hly
  obtain ⟨xo, xv, xi, xa⟩ := x
  obtain ⟨yo, yv, yi, ya⟩ := y
  generalize allV l = dom at *
  by_cases hff : ¬ (tf = true ∧ uf = true)
  · refine aspecT_stop [] Tk Tryd.func7 rfl Tryd.call7 Tryd.ntmps7 (Nat.le_of_ble_eq_true rfl) fun E hE => ?_
    refine g_run Tk Tryd.func7 ?_
    refine g_callT Tk Tryd.func7 hE (hkn _) rfl rfl rfl rfl rfl rfl ?_
    repeat (first | refine g_cnd Tk Tryd.func7 rfl (fun _ => ?_) (fun h => absurd h (by decide)) | refine g_know Tk Tryd.func7 rfl (fun _ => ?_) (fun h => absurd h (by decide)) | refine s_know Tk (fun _ => ?_) (fun h => absurd h (by decide)) | refine g_cnd Tk Tryd.func7 rfl (fun h => absurd h (by decide)) (fun _ => ?_) | refine g_know Tk Tryd.func7 rfl (fun h => absurd h (by decide)) (fun _ => ?_) | refine s_know Tk (fun h => absurd h (by decide)) (fun _ => ?_) | refine g_cnd Tk Tryd.func7 rfl (fun _ => ?_) (fun h => absurd (show true = false from h) (by decide)) | refine g_know Tk Tryd.func7 rfl (fun _ => ?_) (fun h => absurd (show true = false from h) (by decide)) | refine s_know Tk (fun _ => ?_) (fun h => absurd (show true = false from h) (by decide)) | refine g_cnd Tk Tryd.func7 rfl (fun h => absurd (show false = true from h) (by decide)) (fun _ => ?_) | refine g_know Tk Tryd.func7 rfl (fun h => absurd (show false = true from h) (by decide)) (fun _ => ?_) | refine s_know Tk (fun h => absurd (show false = true from h) (by decide)) (fun _ => ?_))
    first | refine g_call Tk Tryd.func7 (hrg _) rfl rfl rfl rfl rfl ?_ | refine s_callq Tk (fun _ => hrg _) rfl rfl rfl ?_
    first | refine g_call Tk Tryd.func7 (hgx _) rfl rfl rfl rfl rfl ?_ | refine s_callq Tk (fun _ => hgx _) rfl rfl rfl ?_
    first | refine g_call Tk Tryd.func7 (hgy _) rfl rfl rfl rfl rfl ?_ | refine s_callq Tk (fun _ => hgy _) rfl rfl rfl ?_
    first | refine g_call Tk Tryd.func7 (htx _) rfl rfl rfl rfl rfl ?_ | refine s_callq Tk (fun _ => htx _) rfl rfl rfl ?_
    first | refine g_call Tk Tryd.func7 (hty _) rfl rfl rfl rfl rfl ?_ | refine s_callq Tk (fun _ => hty _) rfl rfl rfl ?_
    cases tf with
    | false =>
      repeat (first | refine g_cnd Tk Tryd.func7 rfl (fun _ => ?_) (fun h => absurd h (by decide)) | refine g_know Tk Tryd.func7 rfl (fun _ => ?_) (fun h => absurd h (by decide)) | refine s_know Tk (fun _ => ?_) (fun h => absurd h (by decide)) | refine g_cnd Tk Tryd.func7 rfl (fun h => absurd h (by decide)) (fun _ => ?_) | refine g_know Tk Tryd.func7 rfl (fun h => absurd h (by decide)) (fun _ => ?_) | refine s_know Tk (fun h => absurd h (by decide)) (fun _ => ?_) | refine g_cnd Tk Tryd.func7 rfl (fun _ => ?_) (fun h => absurd (show true = false from h) (by decide)) | refine g_know Tk Tryd.func7 rfl (fun _ => ?_) (fun h => absurd (show true = false from h) (by decide)) | refine s_know Tk (fun _ => ?_) (fun h => absurd (show true = false from h) (by decide)) | refine g_cnd Tk Tryd.func7 rfl (fun h => absurd (show false = true from h) (by decide)) (fun _ => ?_) | refine g_know Tk Tryd.func7 rfl (fun h => absurd (show false = true from h) (by decide)) (fun _ => ?_) | refine s_know Tk (fun h => absurd (show false = true from h) (by decide)) (fun _ => ?_))
      refine g_ret Tk (r := bb true) rfl rfl rfl trivial rfl rfl ?_
      rfl
    | true =>
      cases uf with
      | true => exact absurd ⟨rfl, rfl⟩ hff
      | false =>
        repeat (first | refine g_cnd Tk Tryd.func7 rfl (fun _ => ?_) (fun h => absurd h (by decide)) | refine g_know Tk Tryd.func7 rfl (fun _ => ?_) (fun h => absurd h (by decide)) | refine s_know Tk (fun _ => ?_) (fun h => absurd h (by decide)) | refine g_cnd Tk Tryd.func7 rfl (fun h => absurd h (by decide)) (fun _ => ?_) | refine g_know Tk Tryd.func7 rfl (fun h => absurd h (by decide)) (fun _ => ?_) | refine s_know Tk (fun h => absurd h (by decide)) (fun _ => ?_) | refine g_cnd Tk Tryd.func7 rfl (fun _ => ?_) (fun h => absurd (show true = false from h) (by decide)) | refine g_know Tk Tryd.func7 rfl (fun _ => ?_) (fun h => absurd (show true = false from h) (by decide)) | refine s_know Tk (fun _ => ?_) (fun h => absurd (show true = false from h) (by decide)) | refine g_cnd Tk Tryd.func7 rfl (fun h => absurd (show false = true from h) (by decide)) (fun _ => ?_) | refine g_know Tk Tryd.func7 rfl (fun h => absurd (show false = true from h) (by decide)) (fun _ => ?_) | refine s_know Tk (fun h => absurd (show false = true from h) (by decide)) (fun _ => ?_))
        refine g_ret Tk (r := bb true) rfl rfl rfl trivial rfl rfl ?_
        rfl
  obtain ⟨rfl, rfl⟩ : tf = true ∧ uf = true := Classical.byContradiction hff
  clear hff
  rw [hcx rfl, hcy rfl] at hix hiy heq
  have hlx := hlx rfl
  have hly := hly rfl
  simp only [List.length_nil, Nat.zero_add] at hlx hly
  simp only [ne_eq, not_true_eq_false, if_false, show ¬ ((0 : Int) ≠ 0) from by decide] at hix hiy heq
  have hoi := fiI_or (fun a b => a && !b) t u dom 0 hlx hly
  have hoe := fiI_or (fun a b => a != b) t u dom 0 hlx hly
  have hiff := firstB_iff (t := t) (u := u) hlx hly
  generalize hA : firstB (fun a b => a && !b) dom t u = A at *
  generalize hB : firstB (fun a b => a && !b) dom u t = B at *
  generalize hE : firstB (fun a b => a != b) dom t u = E at *
  obtain ⟨av, ah⟩ := A
  obtain ⟨bv, bh⟩ := B
  obtain ⟨ev, eh⟩ := E
  simp only at hix hiy heq hiff hoi hoe
  have hF0 : fiI (fun a b => a && !b) (t.drop t.length) (u.drop t.length) t.length = -1 := by rw [List.drop_length]; cases u.drop t.length <;> rfl
  have hG0 : fiI (fun a b => a != b) (t.drop t.length) (u.drop t.length) t.length = -1 := by rw [List.drop_length]; cases u.drop t.length <;> rfl
  have hdl := hs.dom.len
  refine aspecT_stop [] Tk Tryd.func7 rfl Tryd.call7 Tryd.ntmps7 (Nat.le_of_ble_eq_true rfl) fun E hE => ?_
  refine g_run Tk Tryd.func7 ?_
  refine g_callT Tk Tryd.func7 hE (hkn _) rfl rfl rfl rfl rfl rfl ?_
  repeat (first | refine g_cnd Tk Tryd.func7 rfl (fun _ => ?_) (fun h => absurd h (by decide)) | refine g_know Tk Tryd.func7 rfl (fun _ => ?_) (fun h => absurd h (by decide)) | refine s_know Tk (fun _ => ?_) (fun h => absurd h (by decide)) | refine g_cnd Tk Tryd.func7 rfl (fun h => absurd h (by decide)) (fun _ => ?_) | refine g_know Tk Tryd.func7 rfl (fun h => absurd h (by decide)) (fun _ => ?_) | refine s_know Tk (fun h => absurd h (by decide)) (fun _ => ?_) | refine g_cnd Tk Tryd.func7 rfl (fun _ => ?_) (fun h => absurd (show true = false from h) (by decide)) | refine g_know Tk Tryd.func7 rfl (fun _ => ?_) (fun h => absurd (show true = false from h) (by decide)) | refine s_know Tk (fun _ => ?_) (fun h => absurd (show true = false from h) (by decide)) | refine g_cnd Tk Tryd.func7 rfl (fun h => absurd (show false = true from h) (by decide)) (fun _ => ?_) | refine g_know Tk Tryd.func7 rfl (fun h => absurd (show false = true from h) (by decide)) (fun _ => ?_) | refine s_know Tk (fun h => absurd (show false = true from h) (by decide)) (fun _ => ?_))
  first | refine g_call Tk Tryd.func7 (hrg _) rfl rfl rfl rfl rfl ?_ | refine s_callq Tk (fun _ => hrg _) rfl rfl rfl ?_
  first | refine g_call Tk Tryd.func7 (hgx _) rfl rfl rfl rfl rfl ?_ | refine s_callq Tk (fun _ => hgx _) rfl rfl rfl ?_
  first | refine g_call Tk Tryd.func7 (hgy _) rfl rfl rfl rfl rfl ?_ | refine s_callq Tk (fun _ => hgy _) rfl rfl rfl ?_
  first | refine g_call Tk Tryd.func7 (htx _) rfl rfl rfl rfl rfl ?_ | refine s_callq Tk (fun _ => htx _) rfl rfl rfl ?_
  first | refine g_call Tk Tryd.func7 (hty _) rfl rfl rfl rfl rfl ?_ | refine s_callq Tk (fun _ => hty _) rfl rfl rfl ?_
  repeat (first | refine g_cnd Tk Tryd.func7 rfl (fun _ => ?_) (fun h => absurd h (by decide)) | refine g_know Tk Tryd.func7 rfl (fun _ => ?_) (fun h => absurd h (by decide)) | refine s_know Tk (fun _ => ?_) (fun h => absurd h (by decide)) | refine g_cnd Tk Tryd.func7 rfl (fun h => absurd h (by decide)) (fun _ => ?_) | refine g_know Tk Tryd.func7 rfl (fun h => absurd h (by decide)) (fun _ => ?_) | refine s_know Tk (fun h => absurd h (by decide)) (fun _ => ?_) | refine g_cnd Tk Tryd.func7 rfl (fun _ => ?_) (fun h => absurd (show true = false from h) (by decide)) | refine g_know Tk Tryd.func7 rfl (fun _ => ?_) (fun h => absurd (show true = false from h) (by decide)) | refine s_know Tk (fun _ => ?_) (fun h => absurd (show true = false from h) (by decide)) | refine g_cnd Tk Tryd.func7 rfl (fun h => absurd (show false = true from h) (by decide)) (fun _ => ?_) | refine g_know Tk Tryd.func7 rfl (fun h => absurd (show false = true from h) (by decide)) (fun _ => ?_) | refine s_know Tk (fun h => absurd (show false = true from h) (by decide)) (fun _ => ?_))
  refine g_loop ?_
  refine rch_loop2 (fun z : Nat × Int × Int => [(7, vrs l), (8, .own 0 8 0 0), (9, .own 0 9 0 0), (10, bools t), (12, bools u), (14, ii z.2.1), (15, ii z.2.2), (16, ii ((z.1 : Int) - 1))]) (fun _ => [(9, exBx (Ex.mk yo yv yi ya)), (8, exBx (Ex.mk xo xv xi xa))]) (fun _ => O) 181
    (fun z => z.1 ≤ t.length ∧ z.2.1 = fiI (fun a b => a && !b) (t.drop z.1) (u.drop z.1) z.1 ∧ z.2.2 = fiI (fun a b => a != b) (t.drop z.1) (u.drop z.1) z.1) (fun z => z.1) (t.length, -1, -1) ⟨Nat.le_refl _, hF0.symm, hG0.symm⟩ ⟨rfl, rfl, rfl, rfl, rfl, rfl, rfl, congrArg ii (w64 (by omega) (by omega)), trivial⟩ rfl ⟨rfl, rfl, trivial⟩ rfl rfl ?_
  clear hF0 hG0
  rintro ⟨i, F, G⟩ ⟨h1, h2, h3⟩ ih
  simp only at h1 h2 h3
  refine g_run Tk Tryd.func7 ?_
  first | refine g_cnd Tk Tryd.func7 rfl (fun g1 => ?_) (fun g1 => ?_) | refine g_know Tk Tryd.func7 rfl (fun g1 => ?_) (fun g1 => ?_) | refine s_know Tk (fun g1 => ?_) (fun g1 => ?_)
  · have g1 : 1 ≤ i := by have : 0 ≤ (i : Int) - 1 := by simpa using g1
                          omega
    obtain ⟨k, rfl⟩ : ∃ k, i = k + 1 := ⟨i - 1, by omega⟩
    have ek : ((k + 1 : Nat) : Int) - 1 = (k : Int) := by omega
    have ew : IntKind.i64.wrap ((k : Int) - 1) = (k : Int) - 1 := w64 (by omega) (by omega)
    have gl : (t.map fun x => [I.v (.bool x)])[(k : Int).toNat]? = some [I.v (.bool (t[k]'(by omega)))] := get_mapZ (f := fun x => [I.v (.bool x)]) (by omega)
    have gh : (u.map fun x => [I.v (.bool x)])[(k : Int).toNat]? = some [I.v (.bool (u[k]'(by omega)))] := get_mapZ (f := fun x => [I.v (.bool x)]) (by omega)
    have dl : t.drop k = (t[k]'(by omega)) :: t.drop (k + 1) := List.drop_eq_getElem_cons (by omega)
    have dh : u.drop k = (u[k]'(by omega)) :: u.drop (k + 1) := List.drop_eq_getElem_cons (by omega)
    have n1 : 0 ≤ (k : Int) ∧ (k : Int) < (t.length : Int) := by omega
    have n2 : 0 ≤ (k : Int) ∧ (k : Int) < (u.length : Int) := by omega
    rw [ek]
    have ih := fun a b => ih (k, a, b)
    simp only [dl, dh, fiI] at ih
    rw [← h2, ← h3] at ih
    clear dl dh hoi hoe hiff h2 h3
    generalize t[k]'(by omega) = a at *
    generalize u[k]'(by omega) = c at *
    first | refine g_need Tk Tryd.func7 (n1) ?_ | refine s_need Tk (n1) ?_
    first | refine g_elem Tk Tryd.func7 (gl) ?_ | refine s_elem Tk (gl) ?_
    cases a with
    | false =>
      repeat (first | refine g_cnd Tk Tryd.func7 rfl (fun _ => ?_) (fun h => absurd h (by decide)) | refine g_know Tk Tryd.func7 rfl (fun _ => ?_) (fun h => absurd h (by decide)) | refine s_know Tk (fun _ => ?_) (fun h => absurd h (by decide)) | refine g_cnd Tk Tryd.func7 rfl (fun h => absurd h (by decide)) (fun _ => ?_) | refine g_know Tk Tryd.func7 rfl (fun h => absurd h (by decide)) (fun _ => ?_) | refine s_know Tk (fun h => absurd h (by decide)) (fun _ => ?_) | refine g_cnd Tk Tryd.func7 rfl (fun _ => ?_) (fun h => absurd (show true = false from h) (by decide)) | refine g_know Tk Tryd.func7 rfl (fun _ => ?_) (fun h => absurd (show true = false from h) (by decide)) | refine s_know Tk (fun _ => ?_) (fun h => absurd (show true = false from h) (by decide)) | refine g_cnd Tk Tryd.func7 rfl (fun h => absurd (show false = true from h) (by decide)) (fun _ => ?_) | refine g_know Tk Tryd.func7 rfl (fun h => absurd (show false = true from h) (by decide)) (fun _ => ?_) | refine s_know Tk (fun h => absurd (show false = true from h) (by decide)) (fun _ => ?_))
      refine g_drawn Tk Tryd.func7 mixedT rfl ?_
      first | refine g_need Tk Tryd.func7 (n1) ?_ | refine s_need Tk (n1) ?_
      first | refine g_elem Tk Tryd.func7 (gl) ?_ | refine s_elem Tk (gl) ?_
      first | refine g_need Tk Tryd.func7 (n2) ?_ | refine s_need Tk (n2) ?_
      first | refine g_elem Tk Tryd.func7 (gh) ?_ | refine s_elem Tk (gh) ?_
      refine e_done Tk Tryd.func7 (by kernel_rfl) ?_
      cases c with
      | false =>
        repeat (first | refine g_cnd Tk Tryd.func7 rfl (fun _ => ?_) (fun h => absurd h (by decide)) | refine g_know Tk Tryd.func7 rfl (fun _ => ?_) (fun h => absurd h (by decide)) | refine s_know Tk (fun _ => ?_) (fun h => absurd h (by decide)) | refine g_cnd Tk Tryd.func7 rfl (fun h => absurd h (by decide)) (fun _ => ?_) | refine g_know Tk Tryd.func7 rfl (fun h => absurd h (by decide)) (fun _ => ?_) | refine s_know Tk (fun h => absurd h (by decide)) (fun _ => ?_) | refine g_cnd Tk Tryd.func7 rfl (fun _ => ?_) (fun h => absurd (show true = false from h) (by decide)) | refine g_know Tk Tryd.func7 rfl (fun _ => ?_) (fun h => absurd (show true = false from h) (by decide)) | refine s_know Tk (fun _ => ?_) (fun h => absurd (show true = false from h) (by decide)) | refine g_cnd Tk Tryd.func7 rfl (fun h => absurd (show false = true from h) (by decide)) (fun _ => ?_) | refine g_know Tk Tryd.func7 rfl (fun h => absurd (show false = true from h) (by decide)) (fun _ => ?_) | refine s_know Tk (fun h => absurd (show false = true from h) (by decide)) (fun _ => ?_))
        refine g_loop ?_
        exact ih _ _ _ _ ⟨by omega, rfl, rfl⟩ (Nat.lt_succ_self _) ⟨rfl, rfl, rfl, rfl, rfl, rfl, rfl, congrArg ii ew, trivial⟩ rfl ⟨rfl, rfl, trivial⟩ rfl rfl
      | true =>
        repeat (first | refine g_cnd Tk Tryd.func7 rfl (fun _ => ?_) (fun h => absurd h (by decide)) | refine g_know Tk Tryd.func7 rfl (fun _ => ?_) (fun h => absurd h (by decide)) | refine s_know Tk (fun _ => ?_) (fun h => absurd h (by decide)) | refine g_cnd Tk Tryd.func7 rfl (fun h => absurd h (by decide)) (fun _ => ?_) | refine g_know Tk Tryd.func7 rfl (fun h => absurd h (by decide)) (fun _ => ?_) | refine s_know Tk (fun h => absurd h (by decide)) (fun _ => ?_) | refine g_cnd Tk Tryd.func7 rfl (fun _ => ?_) (fun h => absurd (show true = false from h) (by decide)) | refine g_know Tk Tryd.func7 rfl (fun _ => ?_) (fun h => absurd (show true = false from h) (by decide)) | refine s_know Tk (fun _ => ?_) (fun h => absurd (show true = false from h) (by decide)) | refine g_cnd Tk Tryd.func7 rfl (fun h => absurd (show false = true from h) (by decide)) (fun _ => ?_) | refine g_know Tk Tryd.func7 rfl (fun h => absurd (show false = true from h) (by decide)) (fun _ => ?_) | refine s_know Tk (fun h => absurd (show false = true from h) (by decide)) (fun _ => ?_))
        refine g_loop ?_
        exact ih _ _ _ _ ⟨by omega, rfl, rfl⟩ (Nat.lt_succ_self _) ⟨rfl, rfl, rfl, rfl, rfl, rfl, rfl, congrArg ii ew, trivial⟩ rfl ⟨rfl, rfl, trivial⟩ rfl rfl
    | true =>
      repeat (first | refine g_cnd Tk Tryd.func7 rfl (fun _ => ?_) (fun h => absurd h (by decide)) | refine g_know Tk Tryd.func7 rfl (fun _ => ?_) (fun h => absurd h (by decide)) | refine s_know Tk (fun _ => ?_) (fun h => absurd h (by decide)) | refine g_cnd Tk Tryd.func7 rfl (fun h => absurd h (by decide)) (fun _ => ?_) | refine g_know Tk Tryd.func7 rfl (fun h => absurd h (by decide)) (fun _ => ?_) | refine s_know Tk (fun h => absurd h (by decide)) (fun _ => ?_) | refine g_cnd Tk Tryd.func7 rfl (fun _ => ?_) (fun h => absurd (show true = false from h) (by decide)) | refine g_know Tk Tryd.func7 rfl (fun _ => ?_) (fun h => absurd (show true = false from h) (by decide)) | refine s_know Tk (fun _ => ?_) (fun h => absurd (show true = false from h) (by decide)) | refine g_cnd Tk Tryd.func7 rfl (fun h => absurd (show false = true from h) (by decide)) (fun _ => ?_) | refine g_know Tk Tryd.func7 rfl (fun h => absurd (show false = true from h) (by decide)) (fun _ => ?_) | refine s_know Tk (fun h => absurd (show false = true from h) (by decide)) (fun _ => ?_))
      first | refine g_need Tk Tryd.func7 (n2) ?_ | refine s_need Tk (n2) ?_
      first | refine g_elem Tk Tryd.func7 (gh) ?_ | refine s_elem Tk (gh) ?_
      cases c with
      | false =>
        repeat (first | refine g_cnd Tk Tryd.func7 rfl (fun _ => ?_) (fun h => absurd h (by decide)) | refine g_know Tk Tryd.func7 rfl (fun _ => ?_) (fun h => absurd h (by decide)) | refine s_know Tk (fun _ => ?_) (fun h => absurd h (by decide)) | refine g_cnd Tk Tryd.func7 rfl (fun h => absurd h (by decide)) (fun _ => ?_) | refine g_know Tk Tryd.func7 rfl (fun h => absurd h (by decide)) (fun _ => ?_) | refine s_know Tk (fun h => absurd h (by decide)) (fun _ => ?_) | refine g_cnd Tk Tryd.func7 rfl (fun _ => ?_) (fun h => absurd (show true = false from h) (by decide)) | refine g_know Tk Tryd.func7 rfl (fun _ => ?_) (fun h => absurd (show true = false from h) (by decide)) | refine s_know Tk (fun _ => ?_) (fun h => absurd (show true = false from h) (by decide)) | refine g_cnd Tk Tryd.func7 rfl (fun h => absurd (show false = true from h) (by decide)) (fun _ => ?_) | refine g_know Tk Tryd.func7 rfl (fun h => absurd (show false = true from h) (by decide)) (fun _ => ?_) | refine s_know Tk (fun h => absurd (show false = true from h) (by decide)) (fun _ => ?_))
        refine g_drawn Tk Tryd.func7 mixedT rfl ?_
        first | refine g_need Tk Tryd.func7 (n1) ?_ | refine s_need Tk (n1) ?_
        first | refine g_elem Tk Tryd.func7 (gl) ?_ | refine s_elem Tk (gl) ?_
        first | refine g_need Tk Tryd.func7 (n2) ?_ | refine s_need Tk (n2) ?_
        first | refine g_elem Tk Tryd.func7 (gh) ?_ | refine s_elem Tk (gh) ?_
        refine e_done Tk Tryd.func7 (by kernel_rfl) ?_
        repeat (first | refine g_cnd Tk Tryd.func7 rfl (fun _ => ?_) (fun h => absurd h (by decide)) | refine g_know Tk Tryd.func7 rfl (fun _ => ?_) (fun h => absurd h (by decide)) | refine s_know Tk (fun _ => ?_) (fun h => absurd h (by decide)) | refine g_cnd Tk Tryd.func7 rfl (fun h => absurd h (by decide)) (fun _ => ?_) | refine g_know Tk Tryd.func7 rfl (fun h => absurd h (by decide)) (fun _ => ?_) | refine s_know Tk (fun h => absurd h (by decide)) (fun _ => ?_) | refine g_cnd Tk Tryd.func7 rfl (fun _ => ?_) (fun h => absurd (show true = false from h) (by decide)) | refine g_know Tk Tryd.func7 rfl (fun _ => ?_) (fun h => absurd (show true = false from h) (by decide)) | refine s_know Tk (fun _ => ?_) (fun h => absurd (show true = false from h) (by decide)) | refine g_cnd Tk Tryd.func7 rfl (fun h => absurd (show false = true from h) (by decide)) (fun _ => ?_) | refine g_know Tk Tryd.func7 rfl (fun h => absurd (show false = true from h) (by decide)) (fun _ => ?_) | refine s_know Tk (fun h => absurd (show false = true from h) (by decide)) (fun _ => ?_))
        refine g_loop ?_
        exact ih _ _ _ _ ⟨by omega, rfl, rfl⟩ (Nat.lt_succ_self _) ⟨rfl, rfl, rfl, rfl, rfl, rfl, rfl, congrArg ii ew, trivial⟩ rfl ⟨rfl, rfl, trivial⟩ rfl rfl
      | true =>
        repeat (first | refine g_cnd Tk Tryd.func7 rfl (fun _ => ?_) (fun h => absurd h (by decide)) | refine g_know Tk Tryd.func7 rfl (fun _ => ?_) (fun h => absurd h (by decide)) | refine s_know Tk (fun _ => ?_) (fun h => absurd h (by decide)) | refine g_cnd Tk Tryd.func7 rfl (fun h => absurd h (by decide)) (fun _ => ?_) | refine g_know Tk Tryd.func7 rfl (fun h => absurd h (by decide)) (fun _ => ?_) | refine s_know Tk (fun h => absurd h (by decide)) (fun _ => ?_) | refine g_cnd Tk Tryd.func7 rfl (fun _ => ?_) (fun h => absurd (show true = false from h) (by decide)) | refine g_know Tk Tryd.func7 rfl (fun _ => ?_) (fun h => absurd (show true = false from h) (by decide)) | refine s_know Tk (fun _ => ?_) (fun h => absurd (show true = false from h) (by decide)) | refine g_cnd Tk Tryd.func7 rfl (fun h => absurd (show false = true from h) (by decide)) (fun _ => ?_) | refine g_know Tk Tryd.func7 rfl (fun h => absurd (show false = true from h) (by decide)) (fun _ => ?_) | refine s_know Tk (fun h => absurd (show false = true from h) (by decide)) (fun _ => ?_))
        refine g_drawn Tk Tryd.func7 mixedT rfl ?_
        first | refine g_need Tk Tryd.func7 (n1) ?_ | refine s_need Tk (n1) ?_
        first | refine g_elem Tk Tryd.func7 (gl) ?_ | refine s_elem Tk (gl) ?_
        first | refine g_need Tk Tryd.func7 (n2) ?_ | refine s_need Tk (n2) ?_
        first | refine g_elem Tk Tryd.func7 (gh) ?_ | refine s_elem Tk (gh) ?_
        refine e_done Tk Tryd.func7 (by kernel_rfl) ?_
        repeat (first | refine g_cnd Tk Tryd.func7 rfl (fun _ => ?_) (fun h => absurd h (by decide)) | refine g_know Tk Tryd.func7 rfl (fun _ => ?_) (fun h => absurd h (by decide)) | refine s_know Tk (fun _ => ?_) (fun h => absurd h (by decide)) | refine g_cnd Tk Tryd.func7 rfl (fun h => absurd h (by decide)) (fun _ => ?_) | refine g_know Tk Tryd.func7 rfl (fun h => absurd h (by decide)) (fun _ => ?_) | refine s_know Tk (fun h => absurd h (by decide)) (fun _ => ?_) | refine g_cnd Tk Tryd.func7 rfl (fun _ => ?_) (fun h => absurd (show true = false from h) (by decide)) | refine g_know Tk Tryd.func7 rfl (fun _ => ?_) (fun h => absurd (show true = false from h) (by decide)) | refine s_know Tk (fun _ => ?_) (fun h => absurd (show true = false from h) (by decide)) | refine g_cnd Tk Tryd.func7 rfl (fun h => absurd (show false = true from h) (by decide)) (fun _ => ?_) | refine g_know Tk Tryd.func7 rfl (fun h => absurd (show false = true from h) (by decide)) (fun _ => ?_) | refine s_know Tk (fun h => absurd (show false = true from h) (by decide)) (fun _ => ?_))
        refine g_loop ?_
        exact ih _ _ _ _ ⟨by omega, rfl, rfl⟩ (Nat.lt_succ_self _) ⟨rfl, rfl, rfl, rfl, rfl, rfl, rfl, congrArg ii ew, trivial⟩ rfl ⟨rfl, rfl, trivial⟩ rfl rfl
  · have g1 : i = 0 := by have : ¬ 0 ≤ (i : Int) - 1 := by simpa using g1
                          omega
    subst g1
    simp only [List.drop_zero] at h2 h3
    rw [← h2] at hoi
    rw [← h3] at hoe
    clear h2 h3 ih
    first | refine g_call Tk Tryd.func7 (hdm _) rfl rfl rfl rfl rfl ?_ | refine s_callq Tk (fun _ => hdm _) rfl rfl rfl ?_
    first | refine g_call Tk Tryd.func7 (hix _) rfl rfl rfl rfl rfl ?_ | refine s_callq Tk (fun _ => hix _) rfl rfl rfl ?_
    first | refine g_call Tk Tryd.func7 (heq _) rfl rfl rfl rfl rfl ?_ | refine s_callq Tk (fun _ => heq _) rfl rfl rfl ?_
    first | refine g_call Tk Tryd.func7 (hiy _) rfl rfl rfl rfl rfl ?_ | refine s_callq Tk (fun _ => hiy _) rfl rfl rfl ?_
    rcases hoi with ⟨rfl, ea⟩ | ⟨j, d, rfl, ej, ea⟩
    · simp only [Prod.mk.injEq] at ea
      obtain ⟨rfl, rfl⟩ := ea
      rcases hoe with ⟨rfl, eb⟩ | ⟨j2, d2, rfl, ek, eb⟩
      · simp only [Prod.mk.injEq] at eb
        obtain ⟨rfl, rfl⟩ := eb
        have hiff : bh = true := by simpa using hiff.symm
        subst hiff
        repeat (first | refine g_cnd Tk Tryd.func7 rfl (fun _ => ?_) (fun h => absurd h (by decide)) | refine g_know Tk Tryd.func7 rfl (fun _ => ?_) (fun h => absurd h (by decide)) | refine s_know Tk (fun _ => ?_) (fun h => absurd h (by decide)) | refine g_cnd Tk Tryd.func7 rfl (fun h => absurd h (by decide)) (fun _ => ?_) | refine g_know Tk Tryd.func7 rfl (fun h => absurd h (by decide)) (fun _ => ?_) | refine s_know Tk (fun h => absurd h (by decide)) (fun _ => ?_) | refine g_cnd Tk Tryd.func7 rfl (fun _ => ?_) (fun h => absurd (show true = false from h) (by decide)) | refine g_know Tk Tryd.func7 rfl (fun _ => ?_) (fun h => absurd (show true = false from h) (by decide)) | refine s_know Tk (fun _ => ?_) (fun h => absurd (show true = false from h) (by decide)) | refine g_cnd Tk Tryd.func7 rfl (fun h => absurd (show false = true from h) (by decide)) (fun _ => ?_) | refine g_know Tk Tryd.func7 rfl (fun h => absurd (show false = true from h) (by decide)) (fun _ => ?_) | refine s_know Tk (fun h => absurd (show false = true from h) (by decide)) (fun _ => ?_))
        repeat (first | refine g_cnd Tk Tryd.func7 rfl (fun _ => ?_) (fun h => absurd h (by decide)) | refine g_know Tk Tryd.func7 rfl (fun _ => ?_) (fun h => absurd h (by decide)) | refine s_know Tk (fun _ => ?_) (fun h => absurd h (by decide)) | refine g_cnd Tk Tryd.func7 rfl (fun h => absurd h (by decide)) (fun _ => ?_) | refine g_know Tk Tryd.func7 rfl (fun h => absurd h (by decide)) (fun _ => ?_) | refine s_know Tk (fun h => absurd h (by decide)) (fun _ => ?_) | refine g_cnd Tk Tryd.func7 rfl (fun _ => ?_) (fun h => absurd (show true = false from h) (by decide)) | refine g_know Tk Tryd.func7 rfl (fun _ => ?_) (fun h => absurd (show true = false from h) (by decide)) | refine s_know Tk (fun _ => ?_) (fun h => absurd (show true = false from h) (by decide)) | refine g_cnd Tk Tryd.func7 rfl (fun h => absurd (show false = true from h) (by decide)) (fun _ => ?_) | refine g_know Tk Tryd.func7 rfl (fun h => absurd (show false = true from h) (by decide)) (fun _ => ?_) | refine s_know Tk (fun h => absurd (show false = true from h) (by decide)) (fun _ => ?_))
        repeat (first | refine g_cnd Tk Tryd.func7 rfl (fun _ => ?_) (fun h => absurd h (by decide)) | refine g_know Tk Tryd.func7 rfl (fun _ => ?_) (fun h => absurd h (by decide)) | refine s_know Tk (fun _ => ?_) (fun h => absurd h (by decide)) | refine g_cnd Tk Tryd.func7 rfl (fun h => absurd h (by decide)) (fun _ => ?_) | refine g_know Tk Tryd.func7 rfl (fun h => absurd h (by decide)) (fun _ => ?_) | refine s_know Tk (fun h => absurd h (by decide)) (fun _ => ?_) | refine g_cnd Tk Tryd.func7 rfl (fun _ => ?_) (fun h => absurd (show true = false from h) (by decide)) | refine g_know Tk Tryd.func7 rfl (fun _ => ?_) (fun h => absurd (show true = false from h) (by decide)) | refine s_know Tk (fun _ => ?_) (fun h => absurd (show true = false from h) (by decide)) | refine g_cnd Tk Tryd.func7 rfl (fun h => absurd (show false = true from h) (by decide)) (fun _ => ?_) | refine g_know Tk Tryd.func7 rfl (fun h => absurd (show false = true from h) (by decide)) (fun _ => ?_) | refine s_know Tk (fun h => absurd (show false = true from h) (by decide)) (fun _ => ?_))
        refine g_ret Tk (r := bb true) rfl rfl rfl trivial rfl rfl ?_
        rfl
      · simp only [Prod.mk.injEq] at eb
        obtain ⟨rfl, rfl⟩ := eb
        have hqB : 0 ≤ ((0 + j2 : Nat) : Int) := by omega
        have hlB : j2 < dom.length := by
          apply Classical.byContradiction
          intro hc
          rw [List.getElem?_eq_none (by omega)] at ek
          cases ek
        have gdB : (dom.map fun x => [intsI x])[((0 + j2 : Nat) : Int).toNat]? = some [intsI ev] := by
          simp [ek]
        have hnB : 0 ≤ ((0 + j2 : Nat) : Int) ∧ ((0 + j2 : Nat) : Int) < (dom.length : Int) := by omega
        have hsB : ∀ O, ASpec Tryd.prog 36 [ints ev, ints ev] O (bb true) [] O := fun O => by
          have h1 := sameInts36 O ev ev (by
            rw [List.getElem?_eq_getElem hlB] at ek
            rw [← Option.some.inj ek, hvl _ (List.getElem_mem hlB)]
            omega)
          simpa using h1
        have hiff : bh = false := by simpa using hiff.symm
        subst hiff
        repeat (first | refine g_cnd Tk Tryd.func7 rfl (fun _ => ?_) (fun h => absurd h (by decide)) | refine g_know Tk Tryd.func7 rfl (fun _ => ?_) (fun h => absurd h (by decide)) | refine s_know Tk (fun _ => ?_) (fun h => absurd h (by decide)) | refine g_cnd Tk Tryd.func7 rfl (fun h => absurd h (by decide)) (fun _ => ?_) | refine g_know Tk Tryd.func7 rfl (fun h => absurd h (by decide)) (fun _ => ?_) | refine s_know Tk (fun h => absurd h (by decide)) (fun _ => ?_) | refine g_cnd Tk Tryd.func7 rfl (fun _ => ?_) (fun h => absurd (show true = false from h) (by decide)) | refine g_know Tk Tryd.func7 rfl (fun _ => ?_) (fun h => absurd (show true = false from h) (by decide)) | refine s_know Tk (fun _ => ?_) (fun h => absurd (show true = false from h) (by decide)) | refine g_cnd Tk Tryd.func7 rfl (fun h => absurd (show false = true from h) (by decide)) (fun _ => ?_) | refine g_know Tk Tryd.func7 rfl (fun h => absurd (show false = true from h) (by decide)) (fun _ => ?_) | refine s_know Tk (fun h => absurd (show false = true from h) (by decide)) (fun _ => ?_))
        repeat (first | refine g_cnd Tk Tryd.func7 rfl (fun _ => ?_) (fun h => absurd h (by decide)) | refine g_know Tk Tryd.func7 rfl (fun _ => ?_) (fun h => absurd h (by decide)) | refine s_know Tk (fun _ => ?_) (fun h => absurd h (by decide)) | refine g_cnd Tk Tryd.func7 rfl (fun h => absurd h (by decide)) (fun _ => ?_) | refine g_know Tk Tryd.func7 rfl (fun h => absurd h (by decide)) (fun _ => ?_) | refine s_know Tk (fun h => absurd h (by decide)) (fun _ => ?_) | refine g_cnd Tk Tryd.func7 rfl (fun _ => ?_) (fun h => absurd (show true = false from h) (by decide)) | refine g_know Tk Tryd.func7 rfl (fun _ => ?_) (fun h => absurd (show true = false from h) (by decide)) | refine s_know Tk (fun _ => ?_) (fun h => absurd (show true = false from h) (by decide)) | refine g_cnd Tk Tryd.func7 rfl (fun h => absurd (show false = true from h) (by decide)) (fun _ => ?_) | refine g_know Tk Tryd.func7 rfl (fun h => absurd (show false = true from h) (by decide)) (fun _ => ?_) | refine s_know Tk (fun h => absurd (show false = true from h) (by decide)) (fun _ => ?_))
        repeat (first | refine g_cnd Tk Tryd.func7 rfl (fun _ => ?_) (fun h => absurd h (by decide)) | refine g_know Tk Tryd.func7 rfl (fun _ => ?_) (fun h => absurd h (by decide)) | refine s_know Tk (fun _ => ?_) (fun h => absurd h (by decide)) | refine g_cnd Tk Tryd.func7 rfl (fun h => absurd h (by decide)) (fun _ => ?_) | refine g_know Tk Tryd.func7 rfl (fun h => absurd h (by decide)) (fun _ => ?_) | refine s_know Tk (fun h => absurd h (by decide)) (fun _ => ?_) | refine g_cnd Tk Tryd.func7 rfl (fun _ => ?_) (fun h => absurd (show true = false from h) (by decide)) | refine g_know Tk Tryd.func7 rfl (fun _ => ?_) (fun h => absurd (show true = false from h) (by decide)) | refine s_know Tk (fun _ => ?_) (fun h => absurd (show true = false from h) (by decide)) | refine g_cnd Tk Tryd.func7 rfl (fun h => absurd (show false = true from h) (by decide)) (fun _ => ?_) | refine g_know Tk Tryd.func7 rfl (fun h => absurd (show false = true from h) (by decide)) (fun _ => ?_) | refine s_know Tk (fun h => absurd (show false = true from h) (by decide)) (fun _ => ?_))
        first | refine g_need Tk Tryd.func7 (hnB) ?_ | refine s_need Tk (hnB) ?_
        first | refine g_elem Tk Tryd.func7 (gdB) ?_ | refine s_elem Tk (gdB) ?_
        first | refine g_call Tk Tryd.func7 (hsB _) rfl rfl rfl rfl rfl ?_ | refine s_callq Tk (fun _ => hsB _) rfl rfl rfl ?_
        repeat (first | refine g_cnd Tk Tryd.func7 rfl (fun _ => ?_) (fun h => absurd h (by decide)) | refine g_know Tk Tryd.func7 rfl (fun _ => ?_) (fun h => absurd h (by decide)) | refine s_know Tk (fun _ => ?_) (fun h => absurd h (by decide)) | refine g_cnd Tk Tryd.func7 rfl (fun h => absurd h (by decide)) (fun _ => ?_) | refine g_know Tk Tryd.func7 rfl (fun h => absurd h (by decide)) (fun _ => ?_) | refine s_know Tk (fun h => absurd h (by decide)) (fun _ => ?_) | refine g_cnd Tk Tryd.func7 rfl (fun _ => ?_) (fun h => absurd (show true = false from h) (by decide)) | refine g_know Tk Tryd.func7 rfl (fun _ => ?_) (fun h => absurd (show true = false from h) (by decide)) | refine s_know Tk (fun _ => ?_) (fun h => absurd (show true = false from h) (by decide)) | refine g_cnd Tk Tryd.func7 rfl (fun h => absurd (show false = true from h) (by decide)) (fun _ => ?_) | refine g_know Tk Tryd.func7 rfl (fun h => absurd (show false = true from h) (by decide)) (fun _ => ?_) | refine s_know Tk (fun h => absurd (show false = true from h) (by decide)) (fun _ => ?_))
        refine g_ret Tk (r := bb true) rfl rfl rfl trivial rfl rfl ?_
        rfl
    · simp only [Prod.mk.injEq] at ea
      obtain ⟨rfl, rfl⟩ := ea
      have hqA : 0 ≤ ((0 + j : Nat) : Int) := by omega
      have hlA : j < dom.length := by
        apply Classical.byContradiction
        intro hc
        rw [List.getElem?_eq_none (by omega)] at ej
        cases ej
      have gdA : (dom.map fun x => [intsI x])[((0 + j : Nat) : Int).toNat]? = some [intsI av] := by
        simp [ej]
      have hnA : 0 ≤ ((0 + j : Nat) : Int) ∧ ((0 + j : Nat) : Int) < (dom.length : Int) := by omega
      have hsA : ∀ O, ASpec Tryd.prog 36 [ints av, ints av] O (bb true) [] O := fun O => by
        have h1 := sameInts36 O av av (by
          rw [List.getElem?_eq_getElem hlA] at ej
          rw [← Option.some.inj ej, hvl _ (List.getElem_mem hlA)]
          omega)
        simpa using h1
      rcases hoe with ⟨rfl, eb⟩ | ⟨j2, d2, rfl, ek, eb⟩
      · simp only [Prod.mk.injEq] at eb
        obtain ⟨rfl, rfl⟩ := eb
        exact absurd hiff (by simp)
      · simp only [Prod.mk.injEq] at eb
        obtain ⟨rfl, rfl⟩ := eb
        have hqB : 0 ≤ ((0 + j2 : Nat) : Int) := by omega
        have hlB : j2 < dom.length := by
          apply Classical.byContradiction
          intro hc
          rw [List.getElem?_eq_none (by omega)] at ek
          cases ek
        have gdB : (dom.map fun x => [intsI x])[((0 + j2 : Nat) : Int).toNat]? = some [intsI ev] := by
          simp [ek]
        have hnB : 0 ≤ ((0 + j2 : Nat) : Int) ∧ ((0 + j2 : Nat) : Int) < (dom.length : Int) := by omega
        have hsB : ∀ O, ASpec Tryd.prog 36 [ints ev, ints ev] O (bb true) [] O := fun O => by
          have h1 := sameInts36 O ev ev (by
            rw [List.getElem?_eq_getElem hlB] at ek
            rw [← Option.some.inj ek, hvl _ (List.getElem_mem hlB)]
            omega)
          simpa using h1
        repeat (first | refine g_cnd Tk Tryd.func7 rfl (fun _ => ?_) (fun h => absurd h (by decide)) | refine g_know Tk Tryd.func7 rfl (fun _ => ?_) (fun h => absurd h (by decide)) | refine s_know Tk (fun _ => ?_) (fun h => absurd h (by decide)) | refine g_cnd Tk Tryd.func7 rfl (fun h => absurd h (by decide)) (fun _ => ?_) | refine g_know Tk Tryd.func7 rfl (fun h => absurd h (by decide)) (fun _ => ?_) | refine s_know Tk (fun h => absurd h (by decide)) (fun _ => ?_) | refine g_cnd Tk Tryd.func7 rfl (fun _ => ?_) (fun h => absurd (show true = false from h) (by decide)) | refine g_know Tk Tryd.func7 rfl (fun _ => ?_) (fun h => absurd (show true = false from h) (by decide)) | refine s_know Tk (fun _ => ?_) (fun h => absurd (show true = false from h) (by decide)) | refine g_cnd Tk Tryd.func7 rfl (fun h => absurd (show false = true from h) (by decide)) (fun _ => ?_) | refine g_know Tk Tryd.func7 rfl (fun h => absurd (show false = true from h) (by decide)) (fun _ => ?_) | refine s_know Tk (fun h => absurd (show false = true from h) (by decide)) (fun _ => ?_))
        repeat (first | refine g_cnd Tk Tryd.func7 rfl (fun _ => ?_) (fun h => absurd h (by decide)) | refine g_know Tk Tryd.func7 rfl (fun _ => ?_) (fun h => absurd h (by decide)) | refine s_know Tk (fun _ => ?_) (fun h => absurd h (by decide)) | refine g_cnd Tk Tryd.func7 rfl (fun h => absurd h (by decide)) (fun _ => ?_) | refine g_know Tk Tryd.func7 rfl (fun h => absurd h (by decide)) (fun _ => ?_) | refine s_know Tk (fun h => absurd h (by decide)) (fun _ => ?_) | refine g_cnd Tk Tryd.func7 rfl (fun _ => ?_) (fun h => absurd (show true = false from h) (by decide)) | refine g_know Tk Tryd.func7 rfl (fun _ => ?_) (fun h => absurd (show true = false from h) (by decide)) | refine s_know Tk (fun _ => ?_) (fun h => absurd (show true = false from h) (by decide)) | refine g_cnd Tk Tryd.func7 rfl (fun h => absurd (show false = true from h) (by decide)) (fun _ => ?_) | refine g_know Tk Tryd.func7 rfl (fun h => absurd (show false = true from h) (by decide)) (fun _ => ?_) | refine s_know Tk (fun h => absurd (show false = true from h) (by decide)) (fun _ => ?_))
        first | refine g_need Tk Tryd.func7 (hnA) ?_ | refine s_need Tk (hnA) ?_
        first | refine g_elem Tk Tryd.func7 (gdA) ?_ | refine s_elem Tk (gdA) ?_
        first | refine g_call Tk Tryd.func7 (hsA _) rfl rfl rfl rfl rfl ?_ | refine s_callq Tk (fun _ => hsA _) rfl rfl rfl ?_
        repeat (first | refine g_cnd Tk Tryd.func7 rfl (fun _ => ?_) (fun h => absurd h (by decide)) | refine g_know Tk Tryd.func7 rfl (fun _ => ?_) (fun h => absurd h (by decide)) | refine s_know Tk (fun _ => ?_) (fun h => absurd h (by decide)) | refine g_cnd Tk Tryd.func7 rfl (fun h => absurd h (by decide)) (fun _ => ?_) | refine g_know Tk Tryd.func7 rfl (fun h => absurd h (by decide)) (fun _ => ?_) | refine s_know Tk (fun h => absurd h (by decide)) (fun _ => ?_) | refine g_cnd Tk Tryd.func7 rfl (fun _ => ?_) (fun h => absurd (show true = false from h) (by decide)) | refine g_know Tk Tryd.func7 rfl (fun _ => ?_) (fun h => absurd (show true = false from h) (by decide)) | refine s_know Tk (fun _ => ?_) (fun h => absurd (show true = false from h) (by decide)) | refine g_cnd Tk Tryd.func7 rfl (fun h => absurd (show false = true from h) (by decide)) (fun _ => ?_) | refine g_know Tk Tryd.func7 rfl (fun h => absurd (show false = true from h) (by decide)) (fun _ => ?_) | refine s_know Tk (fun h => absurd (show false = true from h) (by decide)) (fun _ => ?_))
        first | refine g_need Tk Tryd.func7 (hnB) ?_ | refine s_need Tk (hnB) ?_
        first | refine g_elem Tk Tryd.func7 (gdB) ?_ | refine s_elem Tk (gdB) ?_
        first | refine g_call Tk Tryd.func7 (hsB _) rfl rfl rfl rfl rfl ?_ | refine s_callq Tk (fun _ => hsB _) rfl rfl rfl ?_
        repeat (first | refine g_cnd Tk Tryd.func7 rfl (fun _ => ?_) (fun h => absurd h (by decide)) | refine g_know Tk Tryd.func7 rfl (fun _ => ?_) (fun h => absurd h (by decide)) | refine s_know Tk (fun _ => ?_) (fun h => absurd h (by decide)) | refine g_cnd Tk Tryd.func7 rfl (fun h => absurd h (by decide)) (fun _ => ?_) | refine g_know Tk Tryd.func7 rfl (fun h => absurd h (by decide)) (fun _ => ?_) | refine s_know Tk (fun h => absurd h (by decide)) (fun _ => ?_) | refine g_cnd Tk Tryd.func7 rfl (fun _ => ?_) (fun h => absurd (show true = false from h) (by decide)) | refine g_know Tk Tryd.func7 rfl (fun _ => ?_) (fun h => absurd (show true = false from h) (by decide)) | refine s_know Tk (fun _ => ?_) (fun h => absurd (show true = false from h) (by decide)) | refine g_cnd Tk Tryd.func7 rfl (fun h => absurd (show false = true from h) (by decide)) (fun _ => ?_) | refine g_know Tk Tryd.func7 rfl (fun h => absurd (show false = true from h) (by decide)) (fun _ => ?_) | refine s_know Tk (fun h => absurd (show false = true from h) (by decide)) (fun _ => ?_))
        refine g_ret Tk (r := bb true) rfl rfl rfl trivial rfl rfl ?_
        rfl
end Go.AI


/- Digits. -/
namespace Go.AI
open Go.Proofs
set_option maxRecDepth 20000
theorem dec_small {n : Nat} (h : n < 10) : Lib.decDigits n = [UInt8.ofNat (48 + n)] := by rw [Lib.decDigits, dif_pos h]
theorem dec_big {n : Nat} (h : ¬ n < 10) : Lib.decDigits n = Lib.decDigits (n / 10) ++ [UInt8.ofNat (48 + n % 10)] := by rw [Lib.decDigits, dif_neg h]
theorem dig_one : ∀ (n : Nat), n < 10 → bytesOf [IntKind.u8.wrap (48 + IntKind.u8.wrap (n : Int))] = ⟨[UInt8.ofNat (48 + n)].toArray⟩ := by decide
theorem decLen (n : Nat) (h : n < 10000 * 10) : (Lib.decDigits n).length ≤ 20 := by
  have := decDigits_len 19 n (by omega)
  omega
theorem digits88n : ∀ (k n : Nat) (O : List Heap), n < 10 ^ (k + 1) → k ≤ 3 → ASpec Tryd.prog 88 [ii n] O (.i (.v (.string ⟨(Lib.decDigits n).toArray⟩))) [] O := by
  intro k
  have small : ∀ (n : Nat) (O : List Heap), n < 10 → ASpec Tryd.prog 88 [ii n] O (.i (.v (.string ⟨(Lib.decDigits n).toArray⟩))) [] O := by
    intro n O h1
    rw [dec_small h1, ← dig_one n h1]
    refine aspec_intro Tk Tryd.func88 rfl Tryd.call88 Tryd.ntmps88 (Nat.le_of_ble_eq_true rfl) fun E => ?_
    refine g_run Tk Tryd.func88 ?_
    repeat (first | refine g_cnd Tk Tryd.func88 rfl (fun _ => ?_) (fun h => absurd h (by decide)) | refine g_know Tk Tryd.func88 rfl (fun _ => ?_) (fun h => absurd h (by decide)) | refine s_know Tk (fun _ => ?_) (fun h => absurd h (by decide)) | refine g_cnd Tk Tryd.func88 rfl (fun h => absurd h (by decide)) (fun _ => ?_) | refine g_know Tk Tryd.func88 rfl (fun h => absurd h (by decide)) (fun _ => ?_) | refine s_know Tk (fun h => absurd h (by decide)) (fun _ => ?_) | refine g_cnd Tk Tryd.func88 rfl (fun _ => ?_) (fun h => absurd (show true = false from h) (by decide)) | refine g_know Tk Tryd.func88 rfl (fun _ => ?_) (fun h => absurd (show true = false from h) (by decide)) | refine s_know Tk (fun _ => ?_) (fun h => absurd (show true = false from h) (by decide)) | refine g_cnd Tk Tryd.func88 rfl (fun h => absurd (show false = true from h) (by decide)) (fun _ => ?_) | refine g_know Tk Tryd.func88 rfl (fun h => absurd (show false = true from h) (by decide)) (fun _ => ?_) | refine s_know Tk (fun h => absurd (show false = true from h) (by decide)) (fun _ => ?_))
    first | refine g_cnd Tk Tryd.func88 rfl (fun g => ?_) (fun g => ?_) | refine g_know Tk Tryd.func88 rfl (fun g => ?_) (fun g => ?_) | refine s_know Tk (fun g => ?_) (fun g => ?_)
    rotate_left
    · exact absurd (show decide ((n : Int) < 10) = true from decide_eq_true (by omega)) (by rw [g]; decide)
    refine g_ret Tk (r := .i (.v (.string (bytesOf [IntKind.u8.wrap (48 + IntKind.u8.wrap (n : Int))])))) rfl rfl rfl trivial rfl rfl ?_
    rfl
  induction k with
  | zero => exact fun n O h1 _ => small n O (by simpa using h1)
  | succ k ih =>
    intro n O h1 h2
    by_cases h3 : n < 10
    · exact small n O h3
    have hb : n < 10000 * 10 := Nat.lt_of_lt_of_le h1 (by
      have : 10 ^ (k + 1 + 1) ≤ 10 ^ 5 := Nat.pow_le_pow_right (by decide) (by omega)
      exact this)
    have hq : IntKind.i64.wrap (Int.tdiv (n : Int) 10) = ((n / 10 : Nat) : Int) := by
      rw [Int.tdiv_eq_ediv_of_nonneg (by omega), w64 (by omega) (by omega)]
      omega
    have hm : Int.tmod (n : Int) 10 = ((n % 10 : Nat) : Int) := by
      rw [Int.tmod_eq_emod_of_nonneg (by omega)]
      omega
    have hr := fun O => ih (n / 10) O (by rw [Nat.pow_succ] at h1; omega) (by omega)
    have hd := dig_one (n % 10) (Nat.mod_lt _ (by decide))
    rw [dec_big h3]
    rw [← hq] at hr
    refine aspec_intro Tk Tryd.func88 rfl Tryd.call88 Tryd.ntmps88 (Nat.le_of_ble_eq_true rfl) fun E => ?_
    refine g_run Tk Tryd.func88 ?_
    repeat (first | refine g_cnd Tk Tryd.func88 rfl (fun _ => ?_) (fun h => absurd h (by decide)) | refine g_know Tk Tryd.func88 rfl (fun _ => ?_) (fun h => absurd h (by decide)) | refine s_know Tk (fun _ => ?_) (fun h => absurd h (by decide)) | refine g_cnd Tk Tryd.func88 rfl (fun h => absurd h (by decide)) (fun _ => ?_) | refine g_know Tk Tryd.func88 rfl (fun h => absurd h (by decide)) (fun _ => ?_) | refine s_know Tk (fun h => absurd h (by decide)) (fun _ => ?_) | refine g_cnd Tk Tryd.func88 rfl (fun _ => ?_) (fun h => absurd (show true = false from h) (by decide)) | refine g_know Tk Tryd.func88 rfl (fun _ => ?_) (fun h => absurd (show true = false from h) (by decide)) | refine s_know Tk (fun _ => ?_) (fun h => absurd (show true = false from h) (by decide)) | refine g_cnd Tk Tryd.func88 rfl (fun h => absurd (show false = true from h) (by decide)) (fun _ => ?_) | refine g_know Tk Tryd.func88 rfl (fun h => absurd (show false = true from h) (by decide)) (fun _ => ?_) | refine s_know Tk (fun h => absurd (show false = true from h) (by decide)) (fun _ => ?_))
    first | refine g_cnd Tk Tryd.func88 rfl (fun g => ?_) (fun g => ?_) | refine g_know Tk Tryd.func88 rfl (fun g => ?_) (fun g => ?_) | refine s_know Tk (fun g => ?_) (fun g => ?_)
    · exact absurd (show decide ((n : Int) < 10) = false from decide_eq_false (by omega)) (by rw [g]; decide)
    refine g_drawn Tk Tryd.func88 mixedT rfl ?_
    first | refine g_need Tk Tryd.func88 (by decide) ?_ | refine s_need Tk (by decide) ?_
    first | refine g_call Tk Tryd.func88 (hr _) rfl rfl rfl rfl rfl ?_ | refine s_callq Tk (fun _ => hr _) rfl rfl rfl ?_
    first | refine g_need Tk Tryd.func88 (by decide) ?_ | refine s_need Tk (by decide) ?_
    have hlen := decLen n hb
    rw [dec_big h3] at hlen
    simp only [List.length_append, List.length_cons, List.length_nil] at hlen
    rw [← hm] at hd
    generalize Lib.decDigits (n / 10) = T at *
    first | refine g_need Tk Tryd.func88 (by show (⟨T.toArray⟩ : ByteArray).size + (bytesOf [IntKind.u8.wrap (48 + IntKind.u8.wrap (Int.tmod (n : Int) 10))]).size ≤ 9223372036854775807; rw [hd]; show T.toArray.size + 1 ≤ _; simp only [List.size_toArray]; omega) ?_ | refine s_need Tk (by show (⟨T.toArray⟩ : ByteArray).size + (bytesOf [IntKind.u8.wrap (48 + IntKind.u8.wrap (Int.tmod (n : Int) 10))]).size ≤ 9223372036854775807; rw [hd]; show T.toArray.size + 1 ≤ _; simp only [List.size_toArray]; omega) ?_
    refine e_done Tk Tryd.func88 (by kernel_rfl) ?_
    refine g_ret Tk (r := .i (.v (.string (⟨T.toArray⟩ ++ bytesOf [IntKind.u8.wrap (48 + IntKind.u8.wrap (Int.tmod (n : Int) 10))])))) rfl rfl rfl trivial rfl rfl ?_
    rw [hd]
    show D.i (.v (.string (⟨T.toArray⟩ ++ ⟨[UInt8.ofNat (48 + n % 10)].toArray⟩))) = .i (.v (.string ⟨(T ++ [UInt8.ofNat (48 + n % 10)]).toArray⟩))
    congr 3
theorem itoaB_pos (n : Nat) : itoaB (n : Int) = ⟨(Lib.decDigits n).toArray⟩ := by
  unfold itoaB Lib.itoa
  rw [if_neg (by omega), Int.toNat_natCast]
theorem itoaB_neg {n : Int} (h : n < 0) : itoaB n = ⟨#[45]⟩ ++ ⟨(Lib.decDigits n.natAbs).toArray⟩ := by
  unfold itoaB Lib.itoa
  rw [if_pos h]
  apply ByteArray.ext
  rw [ByteArray.data_append]
  simp
theorem digits88 (O : List Heap) (n : Int) (h : -1000 ≤ n ∧ n ≤ 1000) : ASpec Tryd.prog 88 [ii n] O (.i (.v (.string (itoaB n)))) [] O := by
  by_cases h0 : 0 ≤ n
  · obtain ⟨k, rfl⟩ := Int.eq_ofNat_of_zero_le h0
    rw [itoaB_pos]
    exact digits88n 3 k O (by show k < 10000; omega) (by decide)
  · have h1 : n < 0 := by omega
    rw [itoaB_neg h1]
    have hw : IntKind.i64.wrap (0 - n) = ((n.natAbs : Nat) : Int) := by rw [w64 (by omega) (by omega)]; omega
    have hr := fun O => digits88n 3 n.natAbs O (by show n.natAbs < 10000; omega) (by decide)
    have hlen := decLen n.natAbs (by omega)
    rw [← hw] at hr
    generalize Lib.decDigits n.natAbs = T at *
    refine aspec_intro Tk Tryd.func88 rfl Tryd.call88 Tryd.ntmps88 (Nat.le_of_ble_eq_true rfl) fun E => ?_
    refine g_run Tk Tryd.func88 ?_
    first | refine g_cnd Tk Tryd.func88 rfl (fun g => ?_) (fun g => ?_) | refine g_know Tk Tryd.func88 rfl (fun g => ?_) (fun g => ?_) | refine s_know Tk (fun g => ?_) (fun g => ?_)
    rotate_left
    · exact absurd (show decide (n < 0) = true from decide_eq_true h1) (by rw [g]; decide)
    first | refine g_call Tk Tryd.func88 (hr _) rfl rfl rfl rfl rfl ?_ | refine s_callq Tk (fun _ => hr _) rfl rfl rfl ?_
    first | refine g_need Tk Tryd.func88 (by show 1 + (⟨T.toArray⟩ : ByteArray).size ≤ 9223372036854775807; show 1 + T.toArray.size ≤ _; simp only [List.size_toArray]; omega) ?_ | refine s_need Tk (by show 1 + (⟨T.toArray⟩ : ByteArray).size ≤ 9223372036854775807; show 1 + T.toArray.size ≤ _; simp only [List.size_toArray]; omega) ?_
    refine g_ret Tk (r := .i (.v (.string (⟨#[45]⟩ ++ ⟨T.toArray⟩)))) rfl rfl rfl trivial rfl rfl ?_
    rfl
theorem join78 : ∀ (n : Nat) (l : List Ex) (op : Int) (O : List Heap), 1 ≤ l.length → l.length ≤ n → n ≤ 4096 → ASpec Tryd.prog 78 [ii op, exs l] O (exA (joinF op n l)) [] O := by
  intro n
  induction n with
  | zero => intro l op O h1 h2; omega
  | succ n ih =>
    intro l op O h1 h2 h3
    by_cases h4 : 2 ≤ l.length
    · rw [joinF_two op n h4]
      have ih1 := fun O => ih (l.take (l.length / 2)) op O (by simp; omega) (by simp; omega) (by omega)
      have ih2 := fun O => ih (l.drop (l.length / 2)) op O (by simp; omega) (by simp; omega) (by omega)
      refine aspec_intro Tk Tryd.func78 rfl Tryd.call78 Tryd.ntmps78 (Nat.le_of_ble_eq_true rfl) fun E => ?_
      refine g_run Tk Tryd.func78 ?_
      first | refine g_cnd Tk Tryd.func78 rfl (fun g1 => ?_) (fun g1 => ?_) | refine g_know Tk Tryd.func78 rfl (fun g1 => ?_) (fun g1 => ?_) | refine s_know Tk (fun g1 => ?_) (fun g1 => ?_)
      · have := beqT g1
        omega
      have hq : IntKind.i64.wrap (Int.tdiv (l.length : Int) 2) = ((l.length / 2 : Nat) : Int) := by
        rw [Int.tdiv_eq_ediv_of_nonneg (by omega), w64 (by omega) (by omega)]
        omega
      generalize hk : l.length / 2 = k at *
      have t1 : D.i (.sl 4 (IntKind.i64.wrap (Int.tdiv (l.length : Int) 2)).toNat ((exIs l).take (IntKind.i64.wrap (Int.tdiv (l.length : Int) 2)).toNat)) = exs (l.take k) := by
        rw [hq, Int.toNat_natCast, ← exIs_take]
        show _ = D.i (.sl 4 (l.take k).length (exIs (l.take k)))
        rw [List.length_take, Nat.min_eq_left (by omega)]
      have t2 : D.i (.sl 4 (l.length - (IntKind.i64.wrap (Int.tdiv (l.length : Int) 2)).toNat) ((exIs l).drop (IntKind.i64.wrap (Int.tdiv (l.length : Int) 2)).toNat)) = exs (l.drop k) := by
        rw [hq, Int.toNat_natCast, ← exIs_drop]
        show _ = D.i (.sl 4 (l.drop k).length (exIs (l.drop k)))
        rw [List.length_drop]
      generalize joinF op n (l.take k) = A at *
      generalize joinF op n (l.drop k) = B at *
      rw [← t1] at ih1
      rw [← t2] at ih2
      refine g_drawn Tk Tryd.func78 mixedT rfl ?_
      first | refine g_need Tk Tryd.func78 (by decide) ?_ | refine s_need Tk (by decide) ?_
      first | refine g_need Tk Tryd.func78 (by exact ⟨by rw [hq]; omega, by rw [hq]; show ((k : Nat) : Int) ≤ (l.length : Int); omega⟩) ?_ | refine s_need Tk (by exact ⟨by rw [hq]; omega, by rw [hq]; show ((k : Nat) : Int) ≤ (l.length : Int); omega⟩) ?_
      first | refine g_call Tk Tryd.func78 (ih1 _) rfl rfl rfl rfl rfl ?_ | refine s_callq Tk (fun _ => ih1 _) rfl rfl rfl ?_
      first | refine g_need Tk Tryd.func78 (by decide) ?_ | refine s_need Tk (by decide) ?_
      first | refine g_need Tk Tryd.func78 (by exact ⟨by rw [hq]; omega, by rw [hq]; show ((k : Nat) : Int) ≤ (l.length : Int); omega⟩) ?_ | refine s_need Tk (by exact ⟨by rw [hq]; omega, by rw [hq]; show ((k : Nat) : Int) ≤ (l.length : Int); omega⟩) ?_
      first | refine g_call Tk Tryd.func78 (ih2 _) rfl rfl rfl rfl rfl ?_ | refine s_callq Tk (fun _ => ih2 _) rfl rfl rfl ?_
      refine s_put Tk rfl rfl rfl ?_
      refine e_done Tk Tryd.func78 (by kernel_rfl) ?_
      refine g_ret Tk (r := .agg [ii op, ii 0, ii 0, .i (.sl 4 2 [[vi A.op, vi A.vl, vi A.ix, .sl 4 A.args.length (exIs A.args)], [vi B.op, vi B.vl, vi B.ix, .sl 4 B.args.length (exIs B.args)]])]) rfl rfl rfl trivial rfl rfl ?_
      show D.agg [ii op, ii 0, ii 0, .i (.sl 4 2 [[vi A.op, vi A.vl, vi A.ix, .sl 4 A.args.length (exIs A.args)], [vi B.op, vi B.vl, vi B.ix, .sl 4 B.args.length (exIs B.args)]])] = .agg [ii op, ii 0, ii 0, .i (.sl 4 2 [exI A, exI B])]
      rw [exI_eq, exI_eq]
    · obtain ⟨x, rfl⟩ := List.length_eq_one_iff.1 (show l.length = 1 by omega)
      rw [joinF_one]
      obtain ⟨xo, xv, xi, xa⟩ := x
      refine aspec_intro Tk Tryd.func78 rfl Tryd.call78 Tryd.ntmps78 (Nat.le_of_ble_eq_true rfl) fun E => ?_
      refine g_run Tk Tryd.func78 ?_
      repeat (first | refine g_cnd Tk Tryd.func78 rfl (fun _ => ?_) (fun h => absurd h (by decide)) | refine g_know Tk Tryd.func78 rfl (fun _ => ?_) (fun h => absurd h (by decide)) | refine s_know Tk (fun _ => ?_) (fun h => absurd h (by decide)) | refine g_cnd Tk Tryd.func78 rfl (fun h => absurd h (by decide)) (fun _ => ?_) | refine g_know Tk Tryd.func78 rfl (fun h => absurd h (by decide)) (fun _ => ?_) | refine s_know Tk (fun h => absurd h (by decide)) (fun _ => ?_) | refine g_cnd Tk Tryd.func78 rfl (fun _ => ?_) (fun h => absurd (show true = false from h) (by decide)) | refine g_know Tk Tryd.func78 rfl (fun _ => ?_) (fun h => absurd (show true = false from h) (by decide)) | refine s_know Tk (fun _ => ?_) (fun h => absurd (show true = false from h) (by decide)) | refine g_cnd Tk Tryd.func78 rfl (fun h => absurd (show false = true from h) (by decide)) (fun _ => ?_) | refine g_know Tk Tryd.func78 rfl (fun h => absurd (show false = true from h) (by decide)) (fun _ => ?_) | refine s_know Tk (fun h => absurd (show false = true from h) (by decide)) (fun _ => ?_))
      first | refine g_need Tk Tryd.func78 (by exact ⟨by decide, by show (0 : Int) < ((1 : Nat) : Int); decide⟩) ?_ | refine s_need Tk (by exact ⟨by decide, by show (0 : Int) < ((1 : Nat) : Int); decide⟩) ?_
      first | refine g_elem Tk Tryd.func78 (rfl) ?_ | refine s_elem Tk (rfl) ?_
      refine g_ret Tk (r := exA (.mk xo xv xi xa)) rfl rfl rfl trivial rfl rfl ?_
      rfl
end Go.AI


/- Literals with texts. -/
namespace Go.AI
open Go.Proofs
set_option maxRecDepth 20000
abbrev strs (l : List ByteArray) : D := .i (.sl 1 l.length (l.map fun s => [.v (.string s)]))
abbrev ostrs (l : List ByteArray) : Ob := .arr 9 1 l.length (l.map fun s => [I.v (.string s)]) true
abbrev nilI : I := .v (.slice none 0 0)
def rawX (x : Lit) : List I :=
  if x.fr then (if x.to then [vi 6, vi 0, vi 0, .sl 4 2 [[vi 1, vi 0, vi (x.var : Int), nilI], [vi 0, vi x.lo, vi 0, nilI]]] else [vi 9, vi 0, vi 0, .sl 4 2 [[vi 0, vi x.lo, vi 0, nilI], [vi 1, vi 0, vi (x.var : Int), nilI]]])
  else [vi 9, vi 0, vi 0, .sl 4 2 [[vi 1, vi 0, vi (x.var : Int), nilI], [vi 0, vi x.hi, vi 0, nilI]]]
theorem rawX_co (x : Lit) : CoL (rawX x) (exI (litX x)) := by
  obtain ⟨v, lo, hi, fr, to⟩ := x
  cases fr with
  | true =>
    cases to with
    | true =>
      show CoL _ [vi 6, vi 0, vi 0, .sl 4 2 [[vi 1, vi 0, vi (v : Int), .sl 4 0 []], [vi 0, vi lo, vi 0, .sl 4 0 []]]]
      repeat' (first | refine coD_tup ?_ | refine coD_agg ?_ | refine coD_i ?_ | refine CoDL.cons ?_ ?_ | exact CoDL.nil | exact coI_nil | refine coI_sl ?_ | refine CoLL.cons ?_ ?_ | exact CoLL.nil | refine CoL.cons ?_ ?_ | exact CoL.nil | exact CoI.refl _ | exact CoL.refl _ | exact CoLL.refl _ | exact CoDL.refl _ | exact CoD.refl _)
    | false =>
      show CoL _ [vi 9, vi 0, vi 0, .sl 4 2 [[vi 0, vi lo, vi 0, .sl 4 0 []], [vi 1, vi 0, vi (v : Int), .sl 4 0 []]]]
      repeat' (first | refine coD_tup ?_ | refine coD_agg ?_ | refine coD_i ?_ | refine CoDL.cons ?_ ?_ | exact CoDL.nil | exact coI_nil | refine coI_sl ?_ | refine CoLL.cons ?_ ?_ | exact CoLL.nil | refine CoL.cons ?_ ?_ | exact CoL.nil | exact CoI.refl _ | exact CoL.refl _ | exact CoLL.refl _ | exact CoDL.refl _ | exact CoD.refl _)
  | false =>
    show CoL _ [vi 9, vi 0, vi 0, .sl 4 2 [[vi 1, vi 0, vi (v : Int), .sl 4 0 []], [vi 0, vi hi, vi 0, .sl 4 0 []]]]
    repeat' (first | refine coD_tup ?_ | refine coD_agg ?_ | refine coD_i ?_ | refine CoDL.cons ?_ ?_ | exact CoDL.nil | exact coI_nil | refine coI_sl ?_ | refine CoLL.cons ?_ ?_ | exact CoLL.nil | refine CoL.cons ?_ ?_ | exact CoL.nil | exact CoI.refl _ | exact CoL.refl _ | exact CoLL.refl _ | exact CoDL.refl _ | exact CoD.refl _)
theorem rawXs_co : ∀ (l : List Lit), CoLL (l.map rawX) (exIs (l.map litX))
  | [] => .nil
  | x :: r => .cons (rawX_co x) (rawXs_co r)
abbrev oraw (l : List Lit) : Ob := .arr 41 4 l.length (l.map rawX) true
theorem oraw_app (l : List Lit) (x : Lit) : Ob.arr 41 4 (l.length + 1) (l.map rawX ++ [rawX x]) true = oraw (l ++ [x]) := by simp
theorem ostrs_app (l : List ByteArray) (x : ByteArray) : Ob.arr 9 1 (l.length + 1) (l.map (fun s => [I.v (.string s)]) ++ [[I.v (.string x)]]) true = ostrs (l ++ [x]) := by simp
theorem ostrs_app2 {l : List Vr} {acc : List Lit} {x : Lit} {s : ByteArray} (h : litTx l x = s) : some (Ob.arr 9 1 ((acc.map (litTx l)).length + 1) ((acc.map (litTx l)).map (fun s => [I.v (.string s)]) ++ [[I.v (.string s)]]) true) = some (ostrs ((acc ++ [x]).map (litTx l))) := by
  subst h
  rw [ostrs_app, List.map_append]
  rfl
theorem litTx_at {l : List Vr} {i : Nat} (h : i < l.length) (lo hi : Int) (fr to : Bool) : litTx l ⟨i, lo, hi, fr, to⟩ = if fr then (if to then l[i].name ++ strEq ++ itoaB lo else itoaB lo ++ strLe ++ l[i].name) else l[i].name ++ strLe ++ itoaB hi := by
  unfold litTx
  simp only [List.getElem?_eq_getElem h]
set_option maxHeartbeats 4000000 in
theorem literals38 (O : List Heap) (l : List Vr) (b : Bx) (h1 : b.low.length = l.length) (h2 : b.high.length = l.length) (hl16 : l.length ≤ 16) (hnm : ∀ v ∈ l, v.name.size ≤ 1000) (hlo : ∀ x ∈ b.low, -1000 ≤ x ∧ x ≤ 1000) (hhi : ∀ x ∈ b.high, -1000 ≤ x ∧ x ≤ 1000) : ASpec Tryd.prog 38 [vrs l, bxD b] O (.tup [exs ((b.lits l).map litX), strs ((b.lits l).map (litTx l))]) [] O := by
  obtain ⟨lo, hi⟩ := b
  simp only at h1 h2 hlo hhi
  unfold Bx.lits
  simp only
  generalize hR : litsR l 0 lo hi = R
  have hR0 : [] ++ litsR (l.drop 0) 0 (lo.drop 0) (hi.drop 0) = R := hR
  clear hR
  refine aspec_stop [14] Tk Tryd.func38 rfl Tryd.call38 Tryd.ntmps38 (Nat.le_of_ble_eq_true rfl) fun E => ?_
  refine g_run Tk Tryd.func38 ?_
  refine g_loop ?_
  refine rch_wk (wk_nil 6 77 41 4 rfl rfl rfl) ?_
  refine rch_wk (wk_nil 7 93 9 1 rfl rfl rfl) ?_
  refine rch_loop2 (fun x : Nat × List Lit => [(0, vrs l), (3, .own 0 3 0 0), (6, .osl 0 77), (7, .osl 0 93), (8, ii x.1)]) (fun x => [(3, .box [ints lo, ints hi]), (77, oraw x.2), (93, ostrs (x.2.map (litTx l)))]) (fun _ => O) 164
    (fun x => x.1 ≤ l.length ∧ x.2.length ≤ 2 * x.1 ∧ x.2 ++ litsR (l.drop x.1) x.1 (lo.drop x.1) (hi.drop x.1) = R) (fun x => l.length - x.1) (0, []) ⟨Nat.zero_le _, by simp, hR0⟩ ⟨rfl, rfl, rfl, rfl, rfl, trivial⟩ rfl ⟨rfl, rfl, rfl, trivial⟩ rfl rfl ?_
  clear hR0
  rintro ⟨i, acc⟩ ⟨hi', hal, hno⟩ ih
  simp only at hi' hal hno
  refine g_run Tk Tryd.func38 ?_
  first | refine g_cnd Tk Tryd.func38 rfl (fun g1 => ?_) (fun g1 => ?_) | refine g_know Tk Tryd.func38 rfl (fun g1 => ?_) (fun g1 => ?_) | refine s_know Tk (fun g1 => ?_) (fun g1 => ?_)
  · have h3 : i < l.length := by simpa using g1
    clear g1
    have hla := fun a c fr to => litTx_at h3 a c fr to
    have hvn := hnm _ (List.getElem_mem h3)
    have hal' := hlo _ (List.getElem_mem (show i < lo.length by omega))
    have hcl' := hhi _ (List.getElem_mem (show i < hi.length by omega))
    have gv : (l.map vrI)[(i : Int).toNat]? = some (vrI l[i]) := get_mapZ h3
    have gl : (lo.map fun x => [vi x])[(i : Int).toNat]? = some [vi (lo[i]'(by omega))] := get_mapZ (f := fun x => [vi x]) (by omega)
    have gh : (hi.map fun x => [vi x])[(i : Int).toNat]? = some [vi (hi[i]'(by omega))] := get_mapZ (f := fun x => [vi x]) (by omega)
    have dv : l.drop i = l[i] :: l.drop (i + 1) := List.drop_eq_getElem_cons h3
    have dl : lo.drop i = (lo[i]'(by omega)) :: lo.drop (i + 1) := List.drop_eq_getElem_cons (by omega)
    have dh : hi.drop i = (hi[i]'(by omega)) :: hi.drop (i + 1) := List.drop_eq_getElem_cons (by omega)
    rw [dv, dl, dh] at hno
    simp only [litsR, litsV] at hno
    clear dv dl dh
    generalize l[i] = v at *
    generalize lo[i]'(by omega) = a at *
    generalize hi[i]'(by omega) = c at *
    have hbv : 0 ≤ (i : Int) ∧ (i : Int) < (l.length : Int) := by omega
    have hbl : 0 ≤ (i : Int) ∧ (i : Int) < (lo.length : Int) := by omega
    have hbh : 0 ≤ (i : Int) ∧ (i : Int) < (hi.length : Int) := by omega
    have hi1 : ii (IntKind.i64.wrap ((i : Int) + 1)) = ii ((i + 1 : Nat) : Int) := congrArg ii (wsucc (n := 16) (by omega) (by decide))
    have hda := fun O => digits88 O a hal'
    have hdc := fun O => digits88 O c hcl'
    have hsa := itoaB_size (n := a) (by omega) (by omega)
    have hsc := itoaB_size (n := c) (by omega) (by omega)
    have app1 : ∀ (x : Lit) (r : List Lit), acc ++ ([x] ++ r) = acc ++ [x] ++ r := fun x r => by simp
    generalize hrest : litsR (l.drop (i + 1)) (i + 1) (lo.drop (i + 1)) (hi.drop (i + 1)) = rest at hno
    have fin0 : ∀ (acc' : List Lit), acc' ++ rest = R → acc'.length ≤ 2 * (i + 1) → (i + 1 ≤ l.length ∧ acc'.length ≤ 2 * (i + 1) ∧ acc' ++ litsR (l.drop (i + 1)) (i + 1) (lo.drop (i + 1)) (hi.drop (i + 1)) = R) := fun acc' h1 h2 => ⟨h3, h2, by rw [hrest]; exact h1⟩
    obtain ⟨vn, vl, vh, vj⟩ := v
    simp only at hno hla hvn
    refine g_drawn Tk Tryd.func38 mixedT rfl ?_
    first | refine g_need Tk Tryd.func38 (by exact hbl) ?_ | refine s_need Tk (by exact hbl) ?_
    first | refine g_elem Tk Tryd.func38 (gl) ?_ | refine s_elem Tk (gl) ?_
    first | refine g_need Tk Tryd.func38 (by exact hbh) ?_ | refine s_need Tk (by exact hbh) ?_
    first | refine g_elem Tk Tryd.func38 (gh) ?_ | refine s_elem Tk (gh) ?_
    refine s_put Tk rfl rfl rfl ?_
    refine s_put Tk rfl rfl rfl ?_
    refine s_put Tk rfl rfl rfl ?_
    refine e_done Tk Tryd.func38 (by kernel_rfl) ?_
    have hsz : (acc.length + 1) * 48 ≤ 140737488355328 ∧ acc.length + 1 ≤ 9223372036854775807 := by omega
    have hszt : ((acc.map (litTx l)).length + 1) * 16 ≤ 140737488355328 ∧ (acc.map (litTx l)).length + 1 ≤ 9223372036854775807 := by rw [List.length_map]; omega
    refine g_drawn Tk Tryd.func38 mixedT rfl ?_
    first | refine g_need Tk Tryd.func38 (by exact hbl) ?_ | refine s_need Tk (by exact hbl) ?_
    first | refine g_elem Tk Tryd.func38 (gl) ?_ | refine s_elem Tk (gl) ?_
    first | refine g_need Tk Tryd.func38 (by exact hbv) ?_ | refine s_need Tk (by exact hbv) ?_
    first | refine g_elem Tk Tryd.func38 (gv) ?_ | refine s_elem Tk (gv) ?_
    apply join_q (P := fun A : List Lit => A ++ ((if c ≠ vh then [Lit.mk i a c false true] else []) ++ rest) = R ∧ A.length ≤ 2 * i + 1) (s6 := fun A => { σ := [(0, vrs l), (3, .own 0 3 0 0), (6, .osl 0 77), (7, .osl 0 93), (8, ii i), (9, .own 0 9 0 0), (11, .own 0 11 0 0)], S := [(3, .box [ints lo, ints hi]), (9, .box [ii 1, ii 0, ii i, .i nilI]), (11, .box [ii 0, ii c, ii 0, .i nilI]), (77, oraw A), (93, ostrs (A.map (litTx l)))] :: O, n := 164 })
    · intro J
      first | refine g_cnd Tk Tryd.func38 rfl (fun c1 => ?_) (fun c1 => ?_) | refine g_know Tk Tryd.func38 rfl (fun c1 => ?_) (fun c1 => ?_) | refine s_know Tk (fun c1 => ?_) (fun c1 => ?_)
      · have c1 : a ≠ vl := bneT c1
        rw [if_neg (fun h => c1 h.1)] at hno
        refine e_done Tk Tryd.func38 (by kernel_rfl) ?_
        refine g_drawn Tk Tryd.func38 mixedT rfl ?_
        repeat (first | refine g_cnd Tk Tryd.func38 rfl (fun _ => ?_) (fun h => absurd h (by decide)) | refine g_know Tk Tryd.func38 rfl (fun _ => ?_) (fun h => absurd h (by decide)) | refine s_know Tk (fun _ => ?_) (fun h => absurd h (by decide)) | refine g_cnd Tk Tryd.func38 rfl (fun h => absurd h (by decide)) (fun _ => ?_) | refine g_know Tk Tryd.func38 rfl (fun h => absurd h (by decide)) (fun _ => ?_) | refine s_know Tk (fun h => absurd h (by decide)) (fun _ => ?_) | refine g_cnd Tk Tryd.func38 rfl (fun _ => ?_) (fun h => absurd (show true = false from h) (by decide)) | refine g_know Tk Tryd.func38 rfl (fun _ => ?_) (fun h => absurd (show true = false from h) (by decide)) | refine s_know Tk (fun _ => ?_) (fun h => absurd (show true = false from h) (by decide)) | refine g_cnd Tk Tryd.func38 rfl (fun h => absurd (show false = true from h) (by decide)) (fun _ => ?_) | refine g_know Tk Tryd.func38 rfl (fun h => absurd (show false = true from h) (by decide)) (fun _ => ?_) | refine s_know Tk (fun h => absurd (show false = true from h) (by decide)) (fun _ => ?_))
        first | refine g_need Tk Tryd.func38 (by exact hbl) ?_ | refine s_need Tk (by exact hbl) ?_
        first | refine g_elem Tk Tryd.func38 (gl) ?_ | refine s_elem Tk (gl) ?_
        first | refine g_need Tk Tryd.func38 (by exact hbh) ?_ | refine s_need Tk (by exact hbh) ?_
        first | refine g_elem Tk Tryd.func38 (gh) ?_ | refine s_elem Tk (gh) ?_
        refine e_done Tk Tryd.func38 (by kernel_rfl) ?_
        first | refine g_cnd Tk Tryd.func38 rfl (fun c3 => ?_) (fun c3 => ?_) | refine g_know Tk Tryd.func38 rfl (fun c3 => ?_) (fun c3 => ?_) | refine s_know Tk (fun c3 => ?_) (fun c3 => ?_)
        · have c3 : a = c := beqT c3
          rw [if_pos c3, app1] at hno
          first | refine g_need Tk Tryd.func38 (by exact hsz) ?_ | refine s_need Tk (by exact hsz) ?_
          refine g_drawn Tk Tryd.func38 mixedT rfl ?_
          first | refine g_need Tk Tryd.func38 (by exact hbv) ?_ | refine s_need Tk (by exact hbv) ?_
          first | refine g_elem Tk Tryd.func38 (gv) ?_ | refine s_elem Tk (gv) ?_
          first | refine g_need Tk Tryd.func38 (by show vn.size + 3 ≤ 9223372036854775807; omega) ?_ | refine s_need Tk (by show vn.size + 3 ≤ 9223372036854775807; omega) ?_
          first | refine g_need Tk Tryd.func38 (by exact hbl) ?_ | refine s_need Tk (by exact hbl) ?_
          first | refine g_elem Tk Tryd.func38 (gl) ?_ | refine s_elem Tk (gl) ?_
          first | refine g_call Tk Tryd.func38 (hda _) rfl rfl rfl rfl rfl ?_ | refine s_callq Tk (fun _ => hda _) rfl rfl rfl ?_
          first | refine g_need Tk Tryd.func38 (by show (vn ++ strEq).size + (itoaB a).size ≤ 9223372036854775807; rw [bsize_append]; show vn.size + 3 + _ ≤ _; omega) ?_ | refine s_need Tk (by show (vn ++ strEq).size + (itoaB a).size ≤ 9223372036854775807; rw [bsize_append]; show vn.size + 3 + _ ≤ _; omega) ?_
          refine e_tail Tk Tryd.func38 ([15, 16]) (by kernel_rfl) (by kernel_rfl) ?_
          first | refine g_need Tk Tryd.func38 (by exact hszt) ?_ | refine s_need Tk (by exact hszt) ?_
          refine g_loop ?_
          exact ih (i + 1, acc ++ [Lit.mk i a c true true]) _ _ (fin0 _ hno (by simp; omega)) (by simp only; omega) ⟨rfl, rfl, rfl, rfl, hi1, trivial⟩ rfl ⟨rfl, congrArg some (oraw_app acc (Lit.mk i a c true true)), ostrs_app2 (hla a c true true), trivial⟩ rfl rfl
        have c3 : a ≠ c := beqF c3
        rw [if_neg c3, if_pos c1] at hno
        refine g_drawn Tk Tryd.func38 mixedT rfl ?_
        first | refine g_need Tk Tryd.func38 (by exact hbl) ?_ | refine s_need Tk (by exact hbl) ?_
        first | refine g_elem Tk Tryd.func38 (gl) ?_ | refine s_elem Tk (gl) ?_
        first | refine g_need Tk Tryd.func38 (by exact hbv) ?_ | refine s_need Tk (by exact hbv) ?_
        first | refine g_elem Tk Tryd.func38 (gv) ?_ | refine s_elem Tk (gv) ?_
        refine e_done Tk Tryd.func38 (by kernel_rfl) ?_
        first | refine g_cnd Tk Tryd.func38 rfl (fun c4 => ?_) (fun c4 => ?_) | refine g_know Tk Tryd.func38 rfl (fun c4 => ?_) (fun c4 => ?_) | refine s_know Tk (fun c4 => ?_) (fun c4 => ?_)
        rotate_left
        · exact absurd (bneF c4) c1
        first | refine g_need Tk Tryd.func38 (by exact hsz) ?_ | refine s_need Tk (by exact hsz) ?_
        refine g_drawn Tk Tryd.func38 mixedT rfl ?_
        first | refine g_need Tk Tryd.func38 (by exact hbl) ?_ | refine s_need Tk (by exact hbl) ?_
        first | refine g_elem Tk Tryd.func38 (gl) ?_ | refine s_elem Tk (gl) ?_
        first | refine g_call Tk Tryd.func38 (hda _) rfl rfl rfl rfl rfl ?_ | refine s_callq Tk (fun _ => hda _) rfl rfl rfl ?_
        first | refine g_need Tk Tryd.func38 (by show (itoaB a).size + 4 ≤ 9223372036854775807; omega) ?_ | refine s_need Tk (by show (itoaB a).size + 4 ≤ 9223372036854775807; omega) ?_
        first | refine g_need Tk Tryd.func38 (by exact hbv) ?_ | refine s_need Tk (by exact hbv) ?_
        first | refine g_elem Tk Tryd.func38 (gv) ?_ | refine s_elem Tk (gv) ?_
        first | refine g_need Tk Tryd.func38 (by show (itoaB a ++ strLe).size + vn.size ≤ 9223372036854775807; rw [bsize_append]; show _ + 4 + _ ≤ _; omega) ?_ | refine s_need Tk (by show (itoaB a ++ strLe).size + vn.size ≤ 9223372036854775807; rw [bsize_append]; show _ + 4 + _ ≤ _; omega) ?_
        refine e_tail Tk Tryd.func38 ([15, 16]) (by kernel_rfl) (by kernel_rfl) ?_
        first | refine g_need Tk Tryd.func38 (by exact hszt) ?_ | refine s_need Tk (by exact hszt) ?_
        refine g_stop ?_
        refine rch_wk (wk_ren 111 77 rfl rfl rfl) ?_
        refine rch_wk (wk_ren 127 93 rfl rfl rfl) ?_
        refine rch_meet (J (acc ++ [Lit.mk i a c true false]) ⟨by rw [← hno]; simp, by simp; omega⟩) ⟨rfl, rfl, rfl, rfl, rfl, rfl, rfl, trivial⟩ rfl ⟨rfl, rfl, rfl, congrArg some (oraw_app acc (Lit.mk i a c true false)), ostrs_app2 (hla a c true false), trivial⟩ rfl rfl
      have c1 : a = vl := bneF c1
      first | refine g_need Tk Tryd.func38 (by exact hbh) ?_ | refine s_need Tk (by exact hbh) ?_
      first | refine g_elem Tk Tryd.func38 (gh) ?_ | refine s_elem Tk (gh) ?_
      first | refine g_need Tk Tryd.func38 (by exact hbv) ?_ | refine s_need Tk (by exact hbv) ?_
      first | refine g_elem Tk Tryd.func38 (gv) ?_ | refine s_elem Tk (gv) ?_
      refine e_done Tk Tryd.func38 (by kernel_rfl) ?_
      refine g_drawn Tk Tryd.func38 mixedT rfl ?_
      first | refine g_cnd Tk Tryd.func38 rfl (fun c2 => ?_) (fun c2 => ?_) | refine g_know Tk Tryd.func38 rfl (fun c2 => ?_) (fun c2 => ?_) | refine s_know Tk (fun c2 => ?_) (fun c2 => ?_)
      · have c2 : c ≠ vh := bneT c2
        rw [if_neg (fun h => c2 h.2)] at hno
        first | refine g_need Tk Tryd.func38 (by exact hbl) ?_ | refine s_need Tk (by exact hbl) ?_
        first | refine g_elem Tk Tryd.func38 (gl) ?_ | refine s_elem Tk (gl) ?_
        first | refine g_need Tk Tryd.func38 (by exact hbh) ?_ | refine s_need Tk (by exact hbh) ?_
        first | refine g_elem Tk Tryd.func38 (gh) ?_ | refine s_elem Tk (gh) ?_
        refine e_done Tk Tryd.func38 (by kernel_rfl) ?_
        first | refine g_cnd Tk Tryd.func38 rfl (fun c3 => ?_) (fun c3 => ?_) | refine g_know Tk Tryd.func38 rfl (fun c3 => ?_) (fun c3 => ?_) | refine s_know Tk (fun c3 => ?_) (fun c3 => ?_)
        · have c3 : a = c := beqT c3
          rw [if_pos c3, app1] at hno
          first | refine g_need Tk Tryd.func38 (by exact hsz) ?_ | refine s_need Tk (by exact hsz) ?_
          refine g_drawn Tk Tryd.func38 mixedT rfl ?_
          first | refine g_need Tk Tryd.func38 (by exact hbv) ?_ | refine s_need Tk (by exact hbv) ?_
          first | refine g_elem Tk Tryd.func38 (gv) ?_ | refine s_elem Tk (gv) ?_
          first | refine g_need Tk Tryd.func38 (by show vn.size + 3 ≤ 9223372036854775807; omega) ?_ | refine s_need Tk (by show vn.size + 3 ≤ 9223372036854775807; omega) ?_
          first | refine g_need Tk Tryd.func38 (by exact hbl) ?_ | refine s_need Tk (by exact hbl) ?_
          first | refine g_elem Tk Tryd.func38 (gl) ?_ | refine s_elem Tk (gl) ?_
          first | refine g_call Tk Tryd.func38 (hda _) rfl rfl rfl rfl rfl ?_ | refine s_callq Tk (fun _ => hda _) rfl rfl rfl ?_
          first | refine g_need Tk Tryd.func38 (by show (vn ++ strEq).size + (itoaB a).size ≤ 9223372036854775807; rw [bsize_append]; show vn.size + 3 + _ ≤ _; omega) ?_ | refine s_need Tk (by show (vn ++ strEq).size + (itoaB a).size ≤ 9223372036854775807; rw [bsize_append]; show vn.size + 3 + _ ≤ _; omega) ?_
          refine e_tail Tk Tryd.func38 ([15, 16]) (by kernel_rfl) (by kernel_rfl) ?_
          first | refine g_need Tk Tryd.func38 (by exact hszt) ?_ | refine s_need Tk (by exact hszt) ?_
          refine g_loop ?_
          exact ih (i + 1, acc ++ [Lit.mk i a c true true]) _ _ (fin0 _ hno (by simp; omega)) (by simp only; omega) ⟨rfl, rfl, rfl, rfl, hi1, trivial⟩ rfl ⟨rfl, congrArg some (oraw_app acc (Lit.mk i a c true true)), ostrs_app2 (hla a c true true), trivial⟩ rfl rfl
        have c3 : a ≠ c := beqF c3
        rw [if_neg c3, if_neg (by simpa using c1)] at hno
        refine g_drawn Tk Tryd.func38 mixedT rfl ?_
        first | refine g_need Tk Tryd.func38 (by exact hbl) ?_ | refine s_need Tk (by exact hbl) ?_
        first | refine g_elem Tk Tryd.func38 (gl) ?_ | refine s_elem Tk (gl) ?_
        first | refine g_need Tk Tryd.func38 (by exact hbv) ?_ | refine s_need Tk (by exact hbv) ?_
        first | refine g_elem Tk Tryd.func38 (gv) ?_ | refine s_elem Tk (gv) ?_
        refine e_done Tk Tryd.func38 (by kernel_rfl) ?_
        first | refine g_cnd Tk Tryd.func38 rfl (fun c4 => ?_) (fun c4 => ?_) | refine g_know Tk Tryd.func38 rfl (fun c4 => ?_) (fun c4 => ?_) | refine s_know Tk (fun c4 => ?_) (fun c4 => ?_)
        · exact absurd c1 (bneT c4)
        refine g_stop ?_
        refine rch_meet (J acc ⟨by rw [← hno]; simp, by omega⟩) ⟨rfl, rfl, rfl, rfl, rfl, rfl, rfl, trivial⟩ rfl ⟨rfl, rfl, rfl, rfl, rfl, trivial⟩ rfl rfl
      have c2 : c = vh := bneF c2
      rw [if_pos ⟨c1, c2⟩] at hno
      refine e_done Tk Tryd.func38 (by kernel_rfl) ?_
      repeat (first | refine g_cnd Tk Tryd.func38 rfl (fun _ => ?_) (fun h => absurd h (by decide)) | refine g_know Tk Tryd.func38 rfl (fun _ => ?_) (fun h => absurd h (by decide)) | refine s_know Tk (fun _ => ?_) (fun h => absurd h (by decide)) | refine g_cnd Tk Tryd.func38 rfl (fun h => absurd h (by decide)) (fun _ => ?_) | refine g_know Tk Tryd.func38 rfl (fun h => absurd h (by decide)) (fun _ => ?_) | refine s_know Tk (fun h => absurd h (by decide)) (fun _ => ?_) | refine g_cnd Tk Tryd.func38 rfl (fun _ => ?_) (fun h => absurd (show true = false from h) (by decide)) | refine g_know Tk Tryd.func38 rfl (fun _ => ?_) (fun h => absurd (show true = false from h) (by decide)) | refine s_know Tk (fun _ => ?_) (fun h => absurd (show true = false from h) (by decide)) | refine g_cnd Tk Tryd.func38 rfl (fun h => absurd (show false = true from h) (by decide)) (fun _ => ?_) | refine g_know Tk Tryd.func38 rfl (fun h => absurd (show false = true from h) (by decide)) (fun _ => ?_) | refine s_know Tk (fun h => absurd (show false = true from h) (by decide)) (fun _ => ?_))
      refine g_drawn Tk Tryd.func38 mixedT rfl ?_
      first | refine g_need Tk Tryd.func38 (by exact hbl) ?_ | refine s_need Tk (by exact hbl) ?_
      first | refine g_elem Tk Tryd.func38 (gl) ?_ | refine s_elem Tk (gl) ?_
      first | refine g_need Tk Tryd.func38 (by exact hbv) ?_ | refine s_need Tk (by exact hbv) ?_
      first | refine g_elem Tk Tryd.func38 (gv) ?_ | refine s_elem Tk (gv) ?_
      refine e_done Tk Tryd.func38 (by kernel_rfl) ?_
      first | refine g_cnd Tk Tryd.func38 rfl (fun c4 => ?_) (fun c4 => ?_) | refine g_know Tk Tryd.func38 rfl (fun c4 => ?_) (fun c4 => ?_) | refine s_know Tk (fun c4 => ?_) (fun c4 => ?_)
      · exact absurd c1 (bneT c4)
      refine g_stop ?_
      refine rch_meet (J acc ⟨by rw [← hno, if_neg (by simpa using c2)], by omega⟩) ⟨rfl, rfl, rfl, rfl, rfl, rfl, rfl, trivial⟩ rfl ⟨rfl, rfl, rfl, rfl, rfl, trivial⟩ rfl rfl
    · rintro A ⟨hA, hAl⟩
      have hsz2 : (A.length + 1) * 48 ≤ 140737488355328 ∧ A.length + 1 ≤ 9223372036854775807 := by omega
      have hszt2 : ((A.map (litTx l)).length + 1) * 16 ≤ 140737488355328 ∧ (A.map (litTx l)).length + 1 ≤ 9223372036854775807 := by rw [List.length_map]; omega
      refine g_run Tk Tryd.func38 ?_
      refine g_go Tk Tryd.func38 ?_
      refine g_drawn Tk Tryd.func38 mixedT rfl ?_
      first | refine g_need Tk Tryd.func38 (by exact hbh) ?_ | refine s_need Tk (by exact hbh) ?_
      first | refine g_elem Tk Tryd.func38 (gh) ?_ | refine s_elem Tk (gh) ?_
      first | refine g_need Tk Tryd.func38 (by exact hbv) ?_ | refine s_need Tk (by exact hbv) ?_
      first | refine g_elem Tk Tryd.func38 (gv) ?_ | refine s_elem Tk (gv) ?_
      refine e_done Tk Tryd.func38 (by kernel_rfl) ?_
      first | refine g_cnd Tk Tryd.func38 rfl (fun c5 => ?_) (fun c5 => ?_) | refine g_know Tk Tryd.func38 rfl (fun c5 => ?_) (fun c5 => ?_) | refine s_know Tk (fun c5 => ?_) (fun c5 => ?_)
      · have c5 : c ≠ vh := bneT c5
        rw [if_pos c5, ← List.append_assoc] at hA
        first | refine g_need Tk Tryd.func38 (by exact hsz2) ?_ | refine s_need Tk (by exact hsz2) ?_
        refine g_drawn Tk Tryd.func38 mixedT rfl ?_
        first | refine g_need Tk Tryd.func38 (by exact hbv) ?_ | refine s_need Tk (by exact hbv) ?_
        first | refine g_elem Tk Tryd.func38 (gv) ?_ | refine s_elem Tk (gv) ?_
        first | refine g_need Tk Tryd.func38 (by show vn.size + 4 ≤ 9223372036854775807; omega) ?_ | refine s_need Tk (by show vn.size + 4 ≤ 9223372036854775807; omega) ?_
        first | refine g_need Tk Tryd.func38 (by exact hbh) ?_ | refine s_need Tk (by exact hbh) ?_
        first | refine g_elem Tk Tryd.func38 (gh) ?_ | refine s_elem Tk (gh) ?_
        first | refine g_call Tk Tryd.func38 (hdc _) rfl rfl rfl rfl rfl ?_ | refine s_callq Tk (fun _ => hdc _) rfl rfl rfl ?_
        first | refine g_need Tk Tryd.func38 (by show (vn ++ strLe).size + (itoaB c).size ≤ 9223372036854775807; rw [bsize_append]; show vn.size + 4 + _ ≤ _; omega) ?_ | refine s_need Tk (by show (vn ++ strLe).size + (itoaB c).size ≤ 9223372036854775807; rw [bsize_append]; show vn.size + 4 + _ ≤ _; omega) ?_
        refine e_tail Tk Tryd.func38 ([15, 16]) (by kernel_rfl) (by kernel_rfl) ?_
        first | refine g_need Tk Tryd.func38 (by exact hszt2) ?_ | refine s_need Tk (by exact hszt2) ?_
        refine g_loop ?_
        refine rch_wk (wk_ren 145 77 rfl rfl rfl) ?_
        refine rch_wk (wk_ren 161 93 rfl rfl rfl) ?_
        exact ih (i + 1, A ++ [Lit.mk i a c false true]) _ _ (fin0 _ hA (by simp; omega)) (by simp only; omega) ⟨rfl, rfl, rfl, rfl, hi1, trivial⟩ rfl ⟨rfl, congrArg some (oraw_app A (Lit.mk i a c false true)), ostrs_app2 (hla a c false true), trivial⟩ rfl rfl
      have c5 : c = vh := bneF c5
      rw [if_neg (by simpa using c5), List.nil_append] at hA
      refine g_loop ?_
      exact ih (i + 1, A) _ _ (fin0 A hA (by omega)) (by simp only; omega) ⟨rfl, rfl, rfl, rfl, hi1, trivial⟩ rfl ⟨rfl, rfl, rfl, trivial⟩ rfl rfl
  · have h3 : l.length ≤ i := by simpa using g1
    rw [List.drop_eq_nil_of_le h3] at hno
    simp only [litsR, List.append_nil] at hno
    subst hno
    refine g_rwk (wk_freeze 77 rfl rfl) ?_
    refine g_rwk (wk_freeze 93 rfl rfl) ?_
    refine g_rwk (wk_imm rfl) ?_
    refine g_ret_co Tk (r := _) rfl rfl rfl trivial rfl rfl ?_
    refine coD_tup (.cons (coD_i ?_) (.cons ?_ .nil))
    · have e := rawXs_co acc
      have e2 : (acc.map litX).length = acc.length := by simp
      show CoI (.sl 4 acc.length (acc.map rawX)) (.sl 4 (acc.map litX).length (exIs (acc.map litX)))
      rw [e2]
      exact coI_sl e
    · exact CoD.refl _
end Go.AI
