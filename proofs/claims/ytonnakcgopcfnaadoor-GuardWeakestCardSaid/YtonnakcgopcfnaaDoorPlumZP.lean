/- The layer of abstract runs, part 42. -/
import Derived.Test.YtonnakcgopcfnaaDoorPlumZO
import Derived.KernelRfl
import Derived.Laws.Bits64b
set_option linter.unusedSimpArgs false
set_option linter.unusedVariables false
set_option linter.all false

/- The examples of the chapter on guards. -/
namespace Go.AI
open Go.Proofs
set_option maxRecDepth 20000
def cmpE (op v n : Int) : Ex := .mk op 0 0 [.mk 1 0 v [], .mk 0 n 0 []]
def twoV : List Vr := [⟨⟨#[120]⟩, 0, 3, 0⟩, ⟨⟨#[121]⟩, 0, 1, 0⟩]
def xE : Ex := .mk 12 0 0 [cmpE 8 0 2, cmpE 6 1 1]
theorem compare69 (O : List Heap) (op v n : Int) : ASpec Tryd.prog 69 [ii op, ii v, ii n] O (exA (cmpE op v n)) [] O := by
  refine aspec_intro Tk Tryd.func69 rfl Tryd.call69 Tryd.ntmps69 (Nat.le_of_ble_eq_true rfl) fun E => ?_
  refine g_run Tk Tryd.func69 ?_
  refine g_ret_co Tk (r := _) rfl rfl rfl trivial rfl rfl ?_
  show CoD _ (.agg [ii op, ii 0, ii 0, .i (.sl 4 2 [[vi 1, vi 0, vi v, .sl 4 0 []], [vi 0, vi n, vi 0, .sl 4 0 []]])])
  repeat' (first | refine coD_tup ?_ | refine coD_agg ?_ | refine coD_i ?_ | refine CoDL.cons ?_ ?_ | exact CoDL.nil | exact coI_nil | refine coI_sl ?_ | refine CoLL.cons ?_ ?_ | exact CoLL.nil | refine CoL.cons ?_ ?_ | exact CoL.nil | exact CoI.refl _ | exact CoL.refl _ | exact CoLL.refl _ | exact CoDL.refl _ | exact CoD.refl _)
theorem two70 (O : List Heap) : ASpec Tryd.prog 70 [] O (vrs twoV) [] O := by
  refine aspec_intro Tk Tryd.func70 rfl Tryd.call70 Tryd.ntmps70 (Nat.le_of_ble_eq_true rfl) fun E => ?_
  refine g_run Tk Tryd.func70 ?_
  refine g_ret Tk (r := vrs twoV) rfl rfl rfl trivial rfl rfl ?_
  rfl
def tK : List Bool := [true, true, true, true, false, true, false, true]
def cK : List Bool := [true, true, true, true, true, true, true, true]
def bK : List Bx := [⟨[0, 0], [1, 1]⟩, ⟨[0, 1], [3, 1]⟩]
theorem known_t : tableG twoV xE = (tK, 0) := by kernel_rfl
theorem known_c : tableG twoV trueE = (cK, 0) := by kernel_rfl
theorem known_b : boxesG twoV tK cK = (bK, 0) := by kernel_rfl
theorem known_s : textR twoV bK = (⟨#[120, 32, 60, 61, 32, 49, 32, 111, 114, 32, 121, 32, 61, 32, 49]⟩, 0) := by kernel_rfl
theorem known_n : literalsR twoV bK = (2, 0) := by kernel_rfl
theorem known_i : cmpR (fun a b => a && !b) twoV (cmpE 8 0 3) (cmpE 8 0 2) = ([2, 0], false, 0) := by kernel_rfl
theorem known_y : simplR twoV xE (cmpE 6 1 1) = (trueE, 0) := by kernel_rfl
theorem exOk_cmp (op v n : Int) : exOk (cmpE op v n) := exOk_two (exOk_leaf _ _ _) (exOk_leaf _ _ _)
theorem exOk_xE : exOk xE := exOk_two (exOk_cmp _ _ _) (exOk_cmp _ _ _)
theorem two_len : twoV.length ≤ max63 := by decide
theorem two_nm : ∀ v ∈ twoV, v.name.size ≤ max63 := by
  intro v hv
  simp only [twoV, List.mem_cons, List.mem_nil_iff, or_false] at hv
  rcases hv with rfl | rfl <;> decide
theorem two_nm2 : ∀ v ∈ twoV, v.name.size ≤ 1000 := by
  intro v hv
  simp only [twoV, List.mem_cons, List.mem_nil_iff, or_false] at hv
  rcases hv with rfl | rfl <;> decide
theorem known15 {g : Nat} (hg : IsTab g) {ty : TypeId} {fr : Nat × Nat} (O : List Heap) : ASpecT g (ptab ty fr) Tryd.prog 15 [] O (bb true) [] O := by
  have ht := fun O => table31 O twoV xE two_len two_nm exOk_xE
  have hc := fun O => table31 O twoV trueE two_len two_nm exOk_true
  have hb := fun O => boxes19 O twoV tK cK two_len two_nm
  have hs := fun O => text40 hg (ty := ty) (fr := fr) O twoV bK two_len two_nm2 (by decide)
  have hn := fun O => literals41 O twoV bK two_len two_nm (by decide)
  have hi := fun O => implies34 O twoV (cmpE 8 0 3) (cmpE 8 0 2) two_len two_nm (exOk_cmp _ _ _) (exOk_cmp _ _ _)
  have hy := fun O => simplify24 O twoV xE (cmpE 6 1 1) two_len two_nm exOk_xE (exOk_cmp _ _ _)
  simp only [known_t] at ht
  simp only [known_c] at hc
  simp only [known_b] at hb
  simp only [known_s] at hs
  simp only [known_n] at hn
  simp only [known_i] at hi
  simp only [known_y] at hy
  have he := fun O => equal41 (SizeOf.sizeOf trueE + 1) trueE trueE (by omega) exOk_true O
  have hsi := fun O => sameInts36 O [2, 0] [2, 0] (by decide)
  refine aspecT_stop [] Tk Tryd.func15 rfl Tryd.call15 Tryd.ntmps15 (Nat.le_of_ble_eq_true rfl) fun E hE => ?_
  refine g_run Tk Tryd.func15 ?_
  first | refine g_call Tk Tryd.func15 (compare69 _ 8 0 2) rfl rfl rfl rfl rfl ?_ | refine s_callq Tk (fun _ => compare69 _ 8 0 2) rfl rfl rfl ?_
  first | refine g_call Tk Tryd.func15 (compare69 _ 6 1 1) rfl rfl rfl rfl rfl ?_ | refine s_callq Tk (fun _ => compare69 _ 6 1 1) rfl rfl rfl ?_
  refine g_drawn Tk Tryd.func15 mixedT rfl ?_
  first | refine g_call Tk Tryd.func15 (two70 _) rfl rfl rfl rfl rfl ?_ | refine s_callq Tk (fun _ => two70 _) rfl rfl rfl ?_
  first | refine g_call Tk Tryd.func15 (ht _) rfl rfl rfl rfl rfl ?_ | refine s_callq Tk (fun _ => ht _) rfl rfl rfl ?_
  refine e_done Tk Tryd.func15 (by kernel_rfl) ?_
  first | refine g_call Tk Tryd.func15 (two70 _) rfl rfl rfl rfl rfl ?_ | refine s_callq Tk (fun _ => two70 _) rfl rfl rfl ?_
  first | refine g_call Tk Tryd.func15 (true56A _) rfl rfl rfl rfl rfl ?_ | refine s_callq Tk (fun _ => true56A _) rfl rfl rfl ?_
  first | refine g_call Tk Tryd.func15 (hc _) rfl rfl rfl rfl rfl ?_ | refine s_callq Tk (fun _ => hc _) rfl rfl rfl ?_
  first | refine g_call Tk Tryd.func15 (two70 _) rfl rfl rfl rfl rfl ?_ | refine s_callq Tk (fun _ => two70 _) rfl rfl rfl ?_
  first | refine g_call Tk Tryd.func15 (hb _) rfl rfl rfl rfl rfl ?_ | refine s_callq Tk (fun _ => hb _) rfl rfl rfl ?_
  first | refine g_call Tk Tryd.func15 (two70 _) rfl rfl rfl rfl rfl ?_ | refine s_callq Tk (fun _ => two70 _) rfl rfl rfl ?_
  refine g_callT Tk Tryd.func15 hE (hs _) rfl rfl rfl rfl rfl rfl ?_
  first | refine g_call Tk Tryd.func15 (two70 _) rfl rfl rfl rfl rfl ?_ | refine s_callq Tk (fun _ => two70 _) rfl rfl rfl ?_
  first | refine g_call Tk Tryd.func15 (hn _) rfl rfl rfl rfl rfl ?_ | refine s_callq Tk (fun _ => hn _) rfl rfl rfl ?_
  first | refine g_call Tk Tryd.func15 (two70 _) rfl rfl rfl rfl rfl ?_ | refine s_callq Tk (fun _ => two70 _) rfl rfl rfl ?_
  first | refine g_call Tk Tryd.func15 (compare69 _ 8 0 3) rfl rfl rfl rfl rfl ?_ | refine s_callq Tk (fun _ => compare69 _ 8 0 3) rfl rfl rfl ?_
  first | refine g_call Tk Tryd.func15 (compare69 _ 8 0 2) rfl rfl rfl rfl rfl ?_ | refine s_callq Tk (fun _ => compare69 _ 8 0 2) rfl rfl rfl ?_
  first | refine g_call Tk Tryd.func15 (hi _) rfl rfl rfl rfl rfl ?_ | refine s_callq Tk (fun _ => hi _) rfl rfl rfl ?_
  refine g_drawn Tk Tryd.func15 mixedT rfl ?_
  first | refine g_call Tk Tryd.func15 (two70 _) rfl rfl rfl rfl rfl ?_ | refine s_callq Tk (fun _ => two70 _) rfl rfl rfl ?_
  first | refine g_call Tk Tryd.func15 (compare69 _ 6 1 1) rfl rfl rfl rfl rfl ?_ | refine s_callq Tk (fun _ => compare69 _ 6 1 1) rfl rfl rfl ?_
  first | refine g_call Tk Tryd.func15 (hy _) rfl rfl rfl rfl rfl ?_ | refine s_callq Tk (fun _ => hy _) rfl rfl rfl ?_
  refine s_put Tk rfl rfl rfl ?_
  refine e_done Tk Tryd.func15 (by kernel_rfl) ?_
  refine g_drawn Tk Tryd.func15 mixedT rfl ?_
  repeat (first | refine g_cnd Tk Tryd.func15 rfl (fun _ => ?_) (fun h => absurd h (by decide)) | refine g_know Tk Tryd.func15 rfl (fun _ => ?_) (fun h => absurd h (by decide)) | refine s_know Tk (fun _ => ?_) (fun h => absurd h (by decide)) | refine g_cnd Tk Tryd.func15 rfl (fun h => absurd h (by decide)) (fun _ => ?_) | refine g_know Tk Tryd.func15 rfl (fun h => absurd h (by decide)) (fun _ => ?_) | refine s_know Tk (fun h => absurd h (by decide)) (fun _ => ?_) | refine g_cnd Tk Tryd.func15 rfl (fun _ => ?_) (fun h => absurd (show true = false from h) (by decide)) | refine g_know Tk Tryd.func15 rfl (fun _ => ?_) (fun h => absurd (show true = false from h) (by decide)) | refine s_know Tk (fun _ => ?_) (fun h => absurd (show true = false from h) (by decide)) | refine g_cnd Tk Tryd.func15 rfl (fun h => absurd (show false = true from h) (by decide)) (fun _ => ?_) | refine g_know Tk Tryd.func15 rfl (fun h => absurd (show false = true from h) (by decide)) (fun _ => ?_) | refine s_know Tk (fun h => absurd (show false = true from h) (by decide)) (fun _ => ?_))
  first | refine g_cnd Tk Tryd.func15 rfl (fun hq => ?_) (fun hq => ?_) | refine g_know Tk Tryd.func15 rfl (fun hq => ?_) (fun hq => ?_) | refine s_know Tk (fun hq => ?_) (fun hq => ?_)
  rotate_left
  · exact absurd hq (by simp)
  repeat (first | refine g_cnd Tk Tryd.func15 rfl (fun _ => ?_) (fun h => absurd h (by decide)) | refine g_know Tk Tryd.func15 rfl (fun _ => ?_) (fun h => absurd h (by decide)) | refine s_know Tk (fun _ => ?_) (fun h => absurd h (by decide)) | refine g_cnd Tk Tryd.func15 rfl (fun h => absurd h (by decide)) (fun _ => ?_) | refine g_know Tk Tryd.func15 rfl (fun h => absurd h (by decide)) (fun _ => ?_) | refine s_know Tk (fun h => absurd h (by decide)) (fun _ => ?_) | refine g_cnd Tk Tryd.func15 rfl (fun _ => ?_) (fun h => absurd (show true = false from h) (by decide)) | refine g_know Tk Tryd.func15 rfl (fun _ => ?_) (fun h => absurd (show true = false from h) (by decide)) | refine s_know Tk (fun _ => ?_) (fun h => absurd (show true = false from h) (by decide)) | refine g_cnd Tk Tryd.func15 rfl (fun h => absurd (show false = true from h) (by decide)) (fun _ => ?_) | refine g_know Tk Tryd.func15 rfl (fun h => absurd (show false = true from h) (by decide)) (fun _ => ?_) | refine s_know Tk (fun h => absurd (show false = true from h) (by decide)) (fun _ => ?_))
  first | refine g_call Tk Tryd.func15 (hsi _) rfl rfl rfl rfl rfl ?_ | refine s_callq Tk (fun _ => hsi _) rfl rfl rfl ?_
  repeat (first | refine g_cnd Tk Tryd.func15 rfl (fun _ => ?_) (fun h => absurd h (by decide)) | refine g_know Tk Tryd.func15 rfl (fun _ => ?_) (fun h => absurd h (by decide)) | refine s_know Tk (fun _ => ?_) (fun h => absurd h (by decide)) | refine g_cnd Tk Tryd.func15 rfl (fun h => absurd h (by decide)) (fun _ => ?_) | refine g_know Tk Tryd.func15 rfl (fun h => absurd h (by decide)) (fun _ => ?_) | refine s_know Tk (fun h => absurd h (by decide)) (fun _ => ?_) | refine g_cnd Tk Tryd.func15 rfl (fun _ => ?_) (fun h => absurd (show true = false from h) (by decide)) | refine g_know Tk Tryd.func15 rfl (fun _ => ?_) (fun h => absurd (show true = false from h) (by decide)) | refine s_know Tk (fun _ => ?_) (fun h => absurd (show true = false from h) (by decide)) | refine g_cnd Tk Tryd.func15 rfl (fun h => absurd (show false = true from h) (by decide)) (fun _ => ?_) | refine g_know Tk Tryd.func15 rfl (fun h => absurd (show false = true from h) (by decide)) (fun _ => ?_) | refine s_know Tk (fun h => absurd (show false = true from h) (by decide)) (fun _ => ?_))
  first | refine g_call Tk Tryd.func15 (true56A _) rfl rfl rfl rfl rfl ?_ | refine s_callq Tk (fun _ => true56A _) rfl rfl rfl ?_
  first | refine g_call Tk Tryd.func15 (he _) rfl rfl rfl rfl rfl ?_ | refine s_callq Tk (fun _ => he _) rfl rfl rfl ?_
  refine e_done Tk Tryd.func15 (by kernel_rfl) ?_
  refine g_ret Tk (r := bb true) rfl rfl rfl trivial rfl rfl ?_
  rfl
end Go.AI


/- Updates of a change: checked, index of an element. -/
namespace Go.AI
open Go.Proofs
set_option maxRecDepth 20000
set_option maxHeartbeats 4000000 in
theorem checkUpdates99 (O : List Heap) (l : List Vr) (us : List Upd) (hx2 : us.length ≤ max63) (hx3 : ∀ u ∈ us, exOk u.x) : ASpec Tryd.prog 99 [vrs l, upds us] O (ii (updErr l.length none us)) [] O := by
  generalize hR0 : updErr l.length none us = R
  have hR : R = updErr l.length ((prevL us 0).map (·.v)) (us.drop 0) := hR0.symm
  clear hR0
  refine aspec_stop [8] Tk Tryd.func99 rfl Tryd.call99 Tryd.ntmps99 (Nat.le_of_ble_eq_true rfl) fun E => ?_
  refine g_run Tk Tryd.func99 ?_
  refine g_loop ?_
  refine rch_loop2 (fun j : Nat => [(0, vrs l), (1, upds us), (9, upds us), (10, ii us.length), (11, ii j)]) (fun _ => []) (fun _ => O) 55
    (fun j => j ≤ us.length ∧ R = updErr l.length ((prevL us j).map (·.v)) (us.drop j)) (fun j => us.length - j) 0 ⟨Nat.zero_le _, hR⟩ ⟨rfl, rfl, rfl, rfl, rfl, trivial⟩ rfl trivial rfl rfl ?_
  rintro j ⟨hj, hno⟩ ih
  clear hR
  refine g_run Tk Tryd.func99 ?_
  first | refine g_cnd Tk Tryd.func99 rfl (fun h3 => ?_) (fun h3 => ?_) | refine g_know Tk Tryd.func99 rfl (fun h3 => ?_) (fun h3 => ?_) | refine s_know Tk (fun h3 => ?_) (fun h3 => ?_)
  · have h3 : j < us.length := by simpa using h3
    have hd : us.drop j = us[j] :: us.drop (j + 1) := List.drop_eq_getElem_cons h3
    have hm := List.getElem_mem h3
    have hgj : (us.map updI)[(j : Int).toNat]? = some (updI us[j]) := get_mapZ h3
    have hpj0 : 0 < j → prevL us j = some (us[j - 1]'(by omega)) := fun h => prevL_pos h h3
    have hgpj : ∀ h : 0 < j, (us.map updI)[(IntKind.i64.wrap ((j : Int) - 1)).toNat]? = some (updI (us[j - 1]'(by omega))) := fun h => by
      rw [wpred h h3 hx2]
      exact get_mapZ (by omega)
    have hpjn : j = 0 → prevL us j = none := fun h => by unfold prevL; rw [if_pos h]
    have hpj1 : prevL us (j + 1) = some us[j] := by rw [prevL, if_neg (by omega)]; simp [h3]
    generalize us[j] = u at *
    have hux := hx3 u hm
    obtain ⟨uv, ux⟩ := u
    simp only at hux
    rw [hd] at hno
    simp only [updErr] at hno
    first | refine g_need Tk Tryd.func99 (by omega) ?_ | refine s_need Tk (by omega) ?_
    first | refine g_elem Tk Tryd.func99 (hgj) ?_ | refine s_elem Tk (hgj) ?_
    apply join_p (P := R = if typedX ux l.length 1 ≠ 0 then typedX ux l.length 1 else updErr l.length (some uv) (us.drop (j + 1))) (s6 := { σ := [(0, vrs l), (1, upds us), (6, .own 0 6 0 0), (9, upds us), (10, ii us.length), (11, ii j)], S := [(6, .box [ii uv, ii ux.op, ii ux.vl, ii ux.ix, exs ux.args])] :: O, n := 55 })
    · intro J
      first | refine g_cnd Tk Tryd.func99 rfl (fun h4 => ?_) (fun h4 => ?_) | refine g_know Tk Tryd.func99 rfl (fun h4 => ?_) (fun h4 => ?_) | refine s_know Tk (fun h4 => ?_) (fun h4 => ?_)
      · have h4 : uv < 0 := of_decide_eq_true h4
        rw [if_pos (.inl h4)] at hno
        subst hno
        repeat (first | refine g_cnd Tk Tryd.func99 rfl (fun _ => ?_) (fun h => absurd h (by decide)) | refine g_know Tk Tryd.func99 rfl (fun _ => ?_) (fun h => absurd h (by decide)) | refine s_know Tk (fun _ => ?_) (fun h => absurd h (by decide)) | refine g_cnd Tk Tryd.func99 rfl (fun h => absurd h (by decide)) (fun _ => ?_) | refine g_know Tk Tryd.func99 rfl (fun h => absurd h (by decide)) (fun _ => ?_) | refine s_know Tk (fun h => absurd h (by decide)) (fun _ => ?_) | refine g_cnd Tk Tryd.func99 rfl (fun _ => ?_) (fun h => absurd (show true = false from h) (by decide)) | refine g_know Tk Tryd.func99 rfl (fun _ => ?_) (fun h => absurd (show true = false from h) (by decide)) | refine s_know Tk (fun _ => ?_) (fun h => absurd (show true = false from h) (by decide)) | refine g_cnd Tk Tryd.func99 rfl (fun h => absurd (show false = true from h) (by decide)) (fun _ => ?_) | refine g_know Tk Tryd.func99 rfl (fun h => absurd (show false = true from h) (by decide)) (fun _ => ?_) | refine s_know Tk (fun h => absurd (show false = true from h) (by decide)) (fun _ => ?_))
        refine g_ret Tk (r := ii 2) rfl rfl rfl trivial rfl rfl ?_
        rfl
      have h4 : ¬ uv < 0 := of_decide_eq_false h4
      first | refine g_cnd Tk Tryd.func99 rfl (fun h5 => ?_) (fun h5 => ?_) | refine g_know Tk Tryd.func99 rfl (fun h5 => ?_) (fun h5 => ?_) | refine s_know Tk (fun h5 => ?_) (fun h5 => ?_)
      · have h5 : uv ≥ l.length := of_decide_eq_true h5
        rw [if_pos (.inr h5)] at hno
        subst hno
        refine g_ret Tk (r := ii 2) rfl rfl rfl trivial rfl rfl ?_
        rfl
      have h5 : ¬ uv ≥ l.length := of_decide_eq_false h5
      rw [if_neg (by omega)] at hno
      refine g_drawn Tk Tryd.func99 mixedT rfl ?_
      first | refine g_cnd Tk Tryd.func99 rfl (fun h6 => ?_) (fun h6 => ?_) | refine g_know Tk Tryd.func99 rfl (fun h6 => ?_) (fun h6 => ?_) | refine s_know Tk (fun h6 => ?_) (fun h6 => ?_)
      · have h6 : 0 < j := by have := of_decide_eq_true h6; omega
        have hgpj := hgpj h6
        have hw := wpred h6 h3 hx2
        rw [hpj0 h6] at hno
        generalize us[j - 1] = y at hgpj hno
        obtain ⟨yv, yx⟩ := y
        simp only [Option.map_some, Option.any_some] at hno
        first | refine g_need Tk Tryd.func99 (by rw [hw]; omega) ?_ | refine s_need Tk (by rw [hw]; omega) ?_
        first | refine g_elem Tk Tryd.func99 (hgpj) ?_ | refine s_elem Tk (hgpj) ?_
        refine e_done Tk Tryd.func99 (by kernel_rfl) ?_
        first | refine g_cnd Tk Tryd.func99 rfl (fun h7 => ?_) (fun h7 => ?_) | refine g_know Tk Tryd.func99 rfl (fun h7 => ?_) (fun h7 => ?_) | refine s_know Tk (fun h7 => ?_) (fun h7 => ?_)
        · have h7 : uv ≤ yv := of_decide_eq_true h7
          rw [if_pos (decide_eq_true h7)] at hno
          subst hno
          refine g_ret Tk (r := ii 5) rfl rfl rfl trivial rfl rfl ?_
          rfl
        · have h7 : ¬ uv ≤ yv := of_decide_eq_false h7
          rw [if_neg (by simpa using h7)] at hno
          refine g_stop ?_
          refine rch_meet (J hno) ⟨rfl, rfl, rfl, rfl, rfl, rfl, trivial⟩ rfl ⟨rfl, trivial⟩ rfl rfl
      · have h6 : j = 0 := by have := of_decide_eq_false h6; omega
        refine e_done Tk Tryd.func99 (by kernel_rfl) ?_
        repeat (first | refine g_cnd Tk Tryd.func99 rfl (fun _ => ?_) (fun h => absurd h (by decide)) | refine g_know Tk Tryd.func99 rfl (fun _ => ?_) (fun h => absurd h (by decide)) | refine s_know Tk (fun _ => ?_) (fun h => absurd h (by decide)) | refine g_cnd Tk Tryd.func99 rfl (fun h => absurd h (by decide)) (fun _ => ?_) | refine g_know Tk Tryd.func99 rfl (fun h => absurd h (by decide)) (fun _ => ?_) | refine s_know Tk (fun h => absurd h (by decide)) (fun _ => ?_) | refine g_cnd Tk Tryd.func99 rfl (fun _ => ?_) (fun h => absurd (show true = false from h) (by decide)) | refine g_know Tk Tryd.func99 rfl (fun _ => ?_) (fun h => absurd (show true = false from h) (by decide)) | refine s_know Tk (fun _ => ?_) (fun h => absurd (show true = false from h) (by decide)) | refine g_cnd Tk Tryd.func99 rfl (fun h => absurd (show false = true from h) (by decide)) (fun _ => ?_) | refine g_know Tk Tryd.func99 rfl (fun h => absurd (show false = true from h) (by decide)) (fun _ => ?_) | refine s_know Tk (fun h => absurd (show false = true from h) (by decide)) (fun _ => ?_))
        rw [hpjn h6] at hno
        simp only [Option.map_none, Option.any_none] at hno
        rw [if_neg (by simp)] at hno
        refine g_stop ?_
        refine rch_meet (J hno) ⟨rfl, rfl, rfl, rfl, rfl, rfl, trivial⟩ rfl ⟨rfl, trivial⟩ rfl rfl
    · intro hno
      have hck := fun O => check67A O ux l.length hux
      unfold typedX at hno
      generalize checkX ux l.length = K at *
      obtain ⟨kk, ke⟩ := K
      simp only at hno hck
      refine g_run Tk Tryd.func99 ?_
      refine g_go Tk Tryd.func99 ?_
      first | refine g_call Tk Tryd.func99 (hck _) rfl rfl rfl rfl rfl ?_ | refine s_callq Tk (fun _ => hck _) rfl rfl rfl ?_
      first | refine g_cnd Tk Tryd.func99 rfl (fun h7 => ?_) (fun h7 => ?_) | refine g_know Tk Tryd.func99 rfl (fun h7 => ?_) (fun h7 => ?_) | refine s_know Tk (fun h7 => ?_) (fun h7 => ?_)
      · have h7 := bneT h7
        rw [if_neg (show ¬ (ke = 0 ∧ kk ≠ 1) from fun h => h7 h.1), if_pos h7] at hno
        subst hno
        refine g_ret Tk (r := ii _) rfl rfl rfl trivial rfl rfl ?_
        rfl
      have h7 := bneF h7
      subst h7
      first | refine g_cnd Tk Tryd.func99 rfl (fun h8 => ?_) (fun h8 => ?_) | refine g_know Tk Tryd.func99 rfl (fun h8 => ?_) (fun h8 => ?_) | refine s_know Tk (fun h8 => ?_) (fun h8 => ?_)
      · have h8 := bneT h8
        rw [if_pos (show (0 : Int) = 0 ∧ kk ≠ 1 from ⟨rfl, h8⟩), if_pos (by decide)] at hno
        subst hno
        refine g_ret Tk (r := ii 16) rfl rfl rfl trivial rfl rfl ?_
        rfl
      have h8 := bneF h8
      rw [if_neg (show ¬ ((0 : Int) = 0 ∧ kk ≠ 1) from fun h => h.2 h8), if_neg (by simp)] at hno
      refine g_loop ?_
      refine ih (j + 1) _ _ ⟨h3, by rw [hpj1]; exact hno⟩ (by omega) ⟨rfl, rfl, rfl, rfl, congrArg ii (wsucc h3 hx2), trivial⟩ rfl trivial rfl rfl
  · have h3 : us.length ≤ j := by simpa using h3
    rw [List.drop_eq_nil_of_le h3] at hno
    simp only [updErr] at hno
    subst hno
    refine g_ret Tk (r := ii 0) rfl rfl rfl trivial rfl rfl ?_
    rfl
/-- The place of values among all values. -/
def idxF : List Vr → List Int → Int → Int
  | v :: r, x :: xs, n => idxF r xs (n * (v.high - v.low + 1) + x - v.low)
  | _, _, n => n
set_option maxHeartbeats 4000000 in
theorem index101 (O : List Heap) (l : List Vr) (v : List Int) (hl : v.length = l.length) (hl16 : l.length ≤ 16) (hb : ∀ a ∈ l, (-65536 ≤ a.low ∧ a.high ≤ 65536) ∧ a.low ≤ a.high) (hv : ∀ x ∈ v, -65536 ≤ x ∧ x ≤ 65536)
    (hn : ∀ i, 0 ≤ idxF (l.take i) (v.take i) 0 ∧ idxF (l.take i) (v.take i) 0 ≤ 4096) : ASpec Tryd.prog 101 [vrs l, ints v] O (ii (idxF l v 0)) [] O := by
  have hstep : ∀ (i : Nat) (h : i < l.length), idxF (l.take (i + 1)) (v.take (i + 1)) 0 = idxF (l.take i) (v.take i) 0 * (l[i].high - l[i].low + 1) + v[i]'(by omega) - l[i].low := by
    have key : ∀ (l : List Vr) (v : List Int) (n : Int) (i : Nat) (h : i < l.length) (h2 : i < v.length), idxF (l.take (i + 1)) (v.take (i + 1)) n = idxF (l.take i) (v.take i) n * (l[i].high - l[i].low + 1) + v[i] - l[i].low := by
      intro l
      induction l with
      | nil => intro v n i h; simp at h
      | cons a r ih =>
        intro v n i h h2
        cases v with
        | nil => simp at h2
        | cons x xs =>
          cases i with
          | zero => simp [idxF]
          | succ i =>
            simp only [List.take_succ_cons, idxF, List.getElem_cons_succ]
            exact ih xs _ i (by simpa using h) (by simpa using h2)
    exact fun i h => key l v 0 i h (by omega)
  have hfull : idxF (l.take l.length) (v.take l.length) 0 = idxF l v 0 := by rw [List.take_length, ← hl, List.take_length]
  have hn0 : idxF (l.take 0) (v.take 0) 0 = 0 := by simp [idxF]
  generalize hF : (fun i => idxF (l.take i) (v.take i) 0) = F
  have hFi : ∀ i, idxF (l.take i) (v.take i) 0 = F i := fun i => by rw [← hF]
  simp only [hFi] at hn hstep hfull hn0
  rw [← hfull]
  refine aspec_intro Tk Tryd.func101 rfl Tryd.call101 Tryd.ntmps101 (Nat.le_of_ble_eq_true rfl) fun E => ?_
  refine g_run Tk Tryd.func101 ?_
  refine g_loop ?_
  refine rch_loop2 (fun i : Nat => [(1, ints v), (5, ii (F i)), (8, vrs l), (9, ii l.length), (10, ii i)]) (fun _ => []) (fun _ => O) 33
    (fun i => i ≤ l.length) (fun i => l.length - i) 0 (Nat.zero_le _) ⟨rfl, by rw [hn0]; rfl, rfl, rfl, rfl, trivial⟩ rfl trivial rfl rfl ?_
  intro i hi ih
  refine g_run Tk Tryd.func101 ?_
  first | refine g_cnd Tk Tryd.func101 rfl (fun g1 => ?_) (fun g1 => ?_) | refine g_know Tk Tryd.func101 rfl (fun g1 => ?_) (fun g1 => ?_) | refine s_know Tk (fun g1 => ?_) (fun g1 => ?_)
  · have h1 : i < l.length := by simpa using g1
    clear g1
    have gv : (l.map vrI)[(i : Int).toNat]? = some (vrI l[i]) := get_mapZ h1
    have gx : (v.map fun x => [vi x])[(i : Int).toNat]? = some [vi (v[i]'(by omega))] := get_mapZ (f := fun x => [vi x]) (by omega)
    have hst := hstep i h1
    have hbi := hb _ (List.getElem_mem h1)
    have hvi := hv _ (List.getElem_mem (show i < v.length by omega))
    have hni := hn i
    have hni1 := hn (i + 1)
    have hi1 : ii (IntKind.i64.wrap ((i : Int) + 1)) = ii ((i + 1 : Nat) : Int) := congrArg ii (wsucc (n := 16) (by omega) (by decide))
    generalize l[i] = a at *
    generalize v[i]'(by omega) = x at *
    obtain ⟨an, al, ah, aj⟩ := a
    simp only at hst hbi
    have w1 : IntKind.i64.wrap (ah - al) = ah - al := w64 (by omega) (by omega)
    have w2 : IntKind.i64.wrap (ah - al + 1) = ah - al + 1 := w64 (by omega) (by omega)
    have hm1 : 0 ≤ F i * (ah - al + 1) := Int.mul_nonneg hni.1 (by omega)
    have hm2 : F i * (ah - al + 1) ≤ 4096 * (ah - al + 1) := Int.mul_le_mul_of_nonneg_right hni.2 (by omega)
    have w3 : IntKind.i64.wrap (F i * (ah - al + 1)) = F i * (ah - al + 1) := w64 (by omega) (by omega)
    have w4 : IntKind.i64.wrap (F i * (ah - al + 1) + x) = F i * (ah - al + 1) + x := w64 (by omega) (by omega)
    have w5 : IntKind.i64.wrap (F i * (ah - al + 1) + x - al) = F i * (ah - al + 1) + x - al := w64 (by omega) (by omega)
    have hwh : IntKind.i64.wrap (IntKind.i64.wrap (IntKind.i64.wrap (F i * IntKind.i64.wrap (IntKind.i64.wrap (ah - al) + 1)) + x) - al) = F (i + 1) := by rw [w1, w2, w3, w4, w5, hst]
    first | refine g_need Tk Tryd.func101 (by exact ⟨by omega, by show (i : Int) < (l.length : Int); omega⟩) ?_ | refine s_need Tk (by exact ⟨by omega, by show (i : Int) < (l.length : Int); omega⟩) ?_
    first | refine g_elem Tk Tryd.func101 (gv) ?_ | refine s_elem Tk (gv) ?_
    refine g_drawn Tk Tryd.func101 mixedT rfl ?_
    first | refine g_need Tk Tryd.func101 (by exact ⟨by omega, by show (i : Int) < (v.length : Int); omega⟩) ?_ | refine s_need Tk (by exact ⟨by omega, by show (i : Int) < (v.length : Int); omega⟩) ?_
    first | refine g_elem Tk Tryd.func101 (gx) ?_ | refine s_elem Tk (gx) ?_
    refine e_done Tk Tryd.func101 (by kernel_rfl) ?_
    refine g_loop ?_
    exact ih (i + 1) _ _ h1 (by omega) ⟨rfl, congrArg ii hwh, rfl, rfl, hi1, trivial⟩ rfl trivial rfl rfl
  · have h1 : l.length ≤ i := by simpa using g1
    have e : i = l.length := by omega
    subst e
    refine g_ret Tk (r := ii (F l.length)) rfl rfl rfl trivial rfl rfl ?_
    rfl
end Go.AI


/- The values behind updates. -/
namespace Go.AI
open Go.Proofs
set_option maxRecDepth 20000
def updV (l : List Vr) (v : List Int) : List Upd → List Int → List Int × Bool
  | [], cur => (cur, true)
  | u :: r, cur => if (evalX u.x v).2 ≠ 0 then ([], false) else
    if (l[u.v.toNat]?).any (fun a => decide ((evalX u.x v).1 < a.low) || decide ((evalX u.x v).1 > a.high)) then ([], false) else updV l v r (cur.set u.v.toNat (evalX u.x v).1)
theorem coNoB : CoD (.tup [.i (.v (.slice none 0 0)), bb false]) (.tup [ints [], bb false]) := coD_tup (.cons (coD_i coI_nil) (CoDL.refl _))
set_option maxHeartbeats 4000000 in
theorem updated100 (O : List Heap) (l : List Vr) (us : List Upd) (v : List Int) (hl : v.length = l.length) (hl16 : l.length ≤ 16) (hu : us.length ≤ max63) (hus : ∀ u ∈ us, exOk u.x ∧ 0 ≤ u.v ∧ u.v < l.length) : ASpec Tryd.prog 100 [vrs l, upds us, ints v] O (.tup [ints (updV l v us v).1, bb (updV l v us v).2]) [] O := by
  have hR0 : updV l v us v = updV l v (us.drop 0) v := rfl
  generalize updV l v us v = R at *
  refine aspec_intro Tk Tryd.func100 rfl Tryd.call100 Tryd.ntmps100 (Nat.le_of_ble_eq_true rfl) fun E => ?_
  refine g_run Tk Tryd.func100 ?_
  first | refine g_call Tk Tryd.func100 (clone57 50 _ v (by simp only [big]; omega)) rfl rfl rfl rfl rfl ?_ | refine s_callq Tk (fun _ => clone57 50 _ v (by simp only [big]; omega)) rfl rfl rfl ?_
  refine g_loop ?_
  refine rch_loop2 (fun x : Nat × List Int => [(0, vrs l), (2, ints v), (8, .osl 0 50), (15, upds us), (16, ii us.length), (17, ii x.1)]) (fun x => [(50, oints x.2)]) (fun _ => O) 57
    (fun x => x.1 ≤ us.length ∧ x.2.length = l.length ∧ R = updV l v (us.drop x.1) x.2) (fun x => us.length - x.1) (0, v) ⟨Nat.zero_le _, hl, hR0⟩ ⟨rfl, rfl, rfl, rfl, rfl, rfl, trivial⟩ rfl ⟨rfl, trivial⟩ rfl rfl ?_
  clear hR0
  rintro ⟨i, cur⟩ ⟨hi, hc, hno⟩ ih
  simp only at hi hc hno
  refine g_run Tk Tryd.func100 ?_
  first | refine g_cnd Tk Tryd.func100 rfl (fun g1 => ?_) (fun g1 => ?_) | refine g_know Tk Tryd.func100 rfl (fun g1 => ?_) (fun g1 => ?_) | refine s_know Tk (fun g1 => ?_) (fun g1 => ?_)
  · have h1 : i < us.length := by simpa using g1
    clear g1
    have gu : (us.map updI)[(i : Int).toNat]? = some (updI us[i]) := get_mapZ h1
    have du : us.drop i = us[i] :: us.drop (i + 1) := List.drop_eq_getElem_cons h1
    have hux := hus _ (List.getElem_mem h1)
    rw [du] at hno
    simp only [updV] at hno
    clear du
    generalize us[i] = u at *
    have hev := fun O => evaluate51A O u.x v hux.1 (by simp only [max63]; omega)
    generalize evalX u.x v = V at *
    obtain ⟨uv, ux⟩ := u
    obtain ⟨xo, xv, xi, xa⟩ := ux
    obtain ⟨y, e⟩ := V
    simp only at hno hev hux
    obtain ⟨k, rfl⟩ := Int.eq_ofNat_of_zero_le hux.2.1
    have hk : k < l.length := by omega
    have gv : (l.map vrI)[(k : Int).toNat]? = some (vrI l[k]) := get_mapZ hk
    have lk : l[(k : Int).toNat]? = some l[k] := by rw [Int.toNat_natCast]; exact List.getElem?_eq_getElem hk
    rw [lk] at hno
    simp only [Option.any_some] at hno
    clear lk
    generalize l[k] = a at *
    obtain ⟨an, al, ah, aj⟩ := a
    simp only at hno
    have n1 : 0 ≤ (i : Int) ∧ (i : Int) < (us.length : Int) := by omega
    have n2 : 0 ≤ (k : Int) ∧ (k : Int) < (l.length : Int) := by omega
    first | refine g_need Tk Tryd.func100 (n1) ?_ | refine s_need Tk (n1) ?_
    first | refine g_elem Tk Tryd.func100 (gu) ?_ | refine s_elem Tk (gu) ?_
    first | refine g_call Tk Tryd.func100 (hev _) rfl rfl rfl rfl rfl ?_ | refine s_callq Tk (fun _ => hev _) rfl rfl rfl ?_
    first | refine g_cnd Tk Tryd.func100 rfl (fun g2 => ?_) (fun g2 => ?_) | refine g_know Tk Tryd.func100 rfl (fun g2 => ?_) (fun g2 => ?_) | refine s_know Tk (fun g2 => ?_) (fun g2 => ?_)
    · have g2 := bneT g2
      rw [if_pos g2] at hno
      subst hno
      repeat (first | refine g_cnd Tk Tryd.func100 rfl (fun _ => ?_) (fun h => absurd h (by decide)) | refine g_know Tk Tryd.func100 rfl (fun _ => ?_) (fun h => absurd h (by decide)) | refine s_know Tk (fun _ => ?_) (fun h => absurd h (by decide)) | refine g_cnd Tk Tryd.func100 rfl (fun h => absurd h (by decide)) (fun _ => ?_) | refine g_know Tk Tryd.func100 rfl (fun h => absurd h (by decide)) (fun _ => ?_) | refine s_know Tk (fun h => absurd h (by decide)) (fun _ => ?_) | refine g_cnd Tk Tryd.func100 rfl (fun _ => ?_) (fun h => absurd (show true = false from h) (by decide)) | refine g_know Tk Tryd.func100 rfl (fun _ => ?_) (fun h => absurd (show true = false from h) (by decide)) | refine s_know Tk (fun _ => ?_) (fun h => absurd (show true = false from h) (by decide)) | refine g_cnd Tk Tryd.func100 rfl (fun h => absurd (show false = true from h) (by decide)) (fun _ => ?_) | refine g_know Tk Tryd.func100 rfl (fun h => absurd (show false = true from h) (by decide)) (fun _ => ?_) | refine s_know Tk (fun h => absurd (show false = true from h) (by decide)) (fun _ => ?_))
      refine g_ret_co Tk (r := .tup [.i (.v (.slice none 0 0)), bb false]) rfl rfl rfl trivial rfl rfl ?_
      exact coNoB
    have g2 := bneF g2
    rw [if_neg (by simpa using g2)] at hno
    first | refine g_need Tk Tryd.func100 (n2) ?_ | refine s_need Tk (n2) ?_
    first | refine g_elem Tk Tryd.func100 (gv) ?_ | refine s_elem Tk (gv) ?_
    first | refine g_cnd Tk Tryd.func100 rfl (fun g3 => ?_) (fun g3 => ?_) | refine g_know Tk Tryd.func100 rfl (fun g3 => ?_) (fun g3 => ?_) | refine s_know Tk (fun g3 => ?_) (fun g3 => ?_)
    · have g3 : y < al := of_decide_eq_true g3
      rw [if_pos (by simp [g3])] at hno
      subst hno
      repeat (first | refine g_cnd Tk Tryd.func100 rfl (fun _ => ?_) (fun h => absurd h (by decide)) | refine g_know Tk Tryd.func100 rfl (fun _ => ?_) (fun h => absurd h (by decide)) | refine s_know Tk (fun _ => ?_) (fun h => absurd h (by decide)) | refine g_cnd Tk Tryd.func100 rfl (fun h => absurd h (by decide)) (fun _ => ?_) | refine g_know Tk Tryd.func100 rfl (fun h => absurd h (by decide)) (fun _ => ?_) | refine s_know Tk (fun h => absurd h (by decide)) (fun _ => ?_) | refine g_cnd Tk Tryd.func100 rfl (fun _ => ?_) (fun h => absurd (show true = false from h) (by decide)) | refine g_know Tk Tryd.func100 rfl (fun _ => ?_) (fun h => absurd (show true = false from h) (by decide)) | refine s_know Tk (fun _ => ?_) (fun h => absurd (show true = false from h) (by decide)) | refine g_cnd Tk Tryd.func100 rfl (fun h => absurd (show false = true from h) (by decide)) (fun _ => ?_) | refine g_know Tk Tryd.func100 rfl (fun h => absurd (show false = true from h) (by decide)) (fun _ => ?_) | refine s_know Tk (fun h => absurd (show false = true from h) (by decide)) (fun _ => ?_))
      refine g_ret_co Tk (r := .tup [.i (.v (.slice none 0 0)), bb false]) rfl rfl rfl trivial rfl rfl ?_
      exact coNoB
    have g3 : ¬ y < al := of_decide_eq_false g3
    first | refine g_need Tk Tryd.func100 (n2) ?_ | refine s_need Tk (n2) ?_
    first | refine g_elem Tk Tryd.func100 (gv) ?_ | refine s_elem Tk (gv) ?_
    first | refine g_cnd Tk Tryd.func100 rfl (fun g4 => ?_) (fun g4 => ?_) | refine g_know Tk Tryd.func100 rfl (fun g4 => ?_) (fun g4 => ?_) | refine s_know Tk (fun g4 => ?_) (fun g4 => ?_)
    · have g4 : y > ah := of_decide_eq_true g4
      rw [if_pos (by simp [g4])] at hno
      subst hno
      refine g_ret_co Tk (r := .tup [.i (.v (.slice none 0 0)), bb false]) rfl rfl rfl trivial rfl rfl ?_
      exact coNoB
    have g4 : ¬ y > ah := of_decide_eq_false g4
    rw [if_neg (by simp; omega)] at hno
    first | refine g_need Tk Tryd.func100 (by show (0 : Int) ≤ (k : Int) ∧ (k : Int) < (cur.length : Int); omega) ?_ | refine s_need Tk (by show (0 : Int) ≤ (k : Int) ∧ (k : Int) < (cur.length : Int); omega) ?_
    refine g_loop ?_
    refine ih (i + 1, cur.set k y) _ _ ⟨h1, by simpa using hc, hno⟩ (by simp only; omega) ⟨rfl, rfl, rfl, rfl, rfl, congrArg ii (wsucc h1 hu), trivial⟩ rfl ⟨?_, trivial⟩ rfl rfl
    show some (Ob.arr 3 1 cur.length ((cur.map fun x => [vi x]).set k [vi y]) true) = some (oints (cur.set k y))
    simp [List.map_set]
  · have h1 : us.length ≤ i := by simpa using g1
    rw [List.drop_eq_nil_of_le h1] at hno
    simp only [updV] at hno
    subst hno
    refine g_rwk (wk_freeze 50 rfl rfl) ?_
    refine g_rwk (wk_imm rfl) ?_
    refine g_ret Tk (r := .tup [ints cur, bb true]) rfl rfl rfl trivial rfl rfl ?_
    rfl
end Go.AI


/- The place of values among all values. -/
namespace Go.AI
set_option maxRecDepth 20000
theorem flat_get {α β : Type} (f : α → List β) (k : Nat) : ∀ (out : List α) (n j : Nat) (w : α), (∀ x ∈ out, (f x).length = k) → j < k → out[n]? = some w → (out.flatMap f)[n * k + j]? = (f w)[j]?
  | [], n, j, w, _, _, h => by simp at h
  | a :: r, 0, j, w, hk, hj, h => by
    simp only [List.getElem?_cons_zero, Option.some.injEq] at h
    subst h
    rw [List.flatMap_cons, Nat.zero_mul, Nat.zero_add, List.getElem?_append_left (by rw [hk a (by simp)]; exact hj)]
  | a :: r, n + 1, j, w, hk, hj, h => by
    have ha := hk a (by simp)
    rw [List.flatMap_cons, List.getElem?_append_right (by rw [ha, Nat.add_mul]; omega), ha, show (n + 1) * k + j - k = n * k + j by rw [Nat.add_mul]; omega]
    exact flat_get f k r n j w (fun x hx => hk x (by simp [hx])) hj (by simpa using h)
theorem place_step {out : List (List Int)} {a : Vr} {n : Nat} {w : List Int} {x : Int} (hx : a.low ≤ x ∧ x ≤ a.high) (h : out[n]? = some w) : (allStep out a)[n * (a.high - a.low + 1).toNat + (x - a.low).toNat]? = some (w ++ [x]) := by
  unfold allStep
  have hk : ∀ y ∈ out, ((rangeI a.low a.high).map fun m => y ++ [m]).length = (a.high - a.low + 1).toNat := fun y _ => by
    rw [List.length_map]
    simp [rangeI]
  rw [flat_get _ _ out n _ w hk (by omega) h, List.getElem?_map]
  have : (rangeI a.low a.high)[(x - a.low).toNat]? = some x := by
    unfold rangeI
    rw [List.getElem?_map, List.getElem?_range (by omega)]
    simp
    omega
  rw [this]
  rfl
theorem place_fold : ∀ (l : List Vr) (w : List Int) (out : List (List Int)) (n : Nat) (w0 : List Int), inV l w → out[n]? = some w0 → ∃ m : Nat, idxF l w n = (m : Int) ∧ (l.foldl allStep out)[m]? = some (w0 ++ w)
  | [], [], out, n, w0, _, h => ⟨n, rfl, by simpa using h⟩
  | [], _ :: _, _, _, _, h, _ => h.elim
  | _ :: _, [], _, _, _, h, _ => h.elim
  | a :: l, x :: w, out, n, w0, h, ho => by
    have hs := place_step h.1 ho
    obtain ⟨m, e, g⟩ := place_fold l w _ _ _ h.2 hs
    refine ⟨m, ?_, by rw [List.foldl_cons, g]; simp⟩
    rw [← e]
    simp only [idxF]
    congr 1
    have h1 := h.1
    have e1 : (((a.high - a.low + 1).toNat : Nat) : Int) = a.high - a.low + 1 := by omega
    have e2 : (((x - a.low).toNat : Nat) : Int) = x - a.low := by omega
    rw [Int.natCast_add, Int.natCast_mul, e1, e2]
    omega
/-- Values of variables stand at their place. -/
theorem place_all {l : List Vr} {w : List Int} (h : inV l w) : ∃ m : Nat, idxF l w 0 = (m : Int) ∧ (allV l)[m]? = some w := by
  obtain ⟨m, e, g⟩ := place_fold l w [[]] 0 [] h rfl
  exact ⟨m, e, by simpa [allV] using g⟩
theorem inV_take : ∀ {l : List Vr} {w : List Int} (i : Nat), inV l w → inV (l.take i) (w.take i)
  | [], [], i, _ => by simp [inV]
  | [], _ :: _, _, h => h.elim
  | _ :: _, [], _, h => h.elim
  | a :: l, x :: w, 0, _ => by simp [inV]
  | a :: l, x :: w, i + 1, h => ⟨h.1, inV_take i h.2⟩
theorem idx_bounds {l : List Vr} {w : List Int} (hd : domOk l) (h : inV l w) (i : Nat) : 0 ≤ idxF (l.take i) (w.take i) 0 ∧ idxF (l.take i) (w.take i) 0 ≤ 4096 := by
  obtain ⟨m, e, g⟩ := place_all (inV_take i h)
  have h2 := hd.cnt i
  have : m < (allV (l.take i)).length := by
    apply Classical.byContradiction
    intro hc
    rw [List.getElem?_eq_none (by omega)] at g
    cases g
  omega
/-- What updates lead to lies in the ranges. -/
theorem inV_set : ∀ {l : List Vr} {w : List Int} {k : Nat} {x : Int}, inV l w → (∀ a, l[k]? = some a → a.low ≤ x ∧ x ≤ a.high) → inV l (w.set k x)
  | [], [], k, x, _, _ => by simp [inV]
  | [], _ :: _, _, _, h, _ => h.elim
  | _ :: _, [], _, _, h, _ => h.elim
  | a :: l, y :: w, 0, x, h, hx => ⟨hx a rfl, h.2⟩
  | a :: l, y :: w, k + 1, x, h, hx => ⟨h.1, inV_set h.2 fun b hb => hx b (by simpa using hb)⟩
theorem updV_in {l : List Vr} {v : List Int} : ∀ {us : List Upd} {cur : List Int}, inV l cur → (updV l v us cur).2 = true → inV l (updV l v us cur).1
  | [], cur, h, _ => h
  | u :: r, cur, h, ht => by
    simp only [updV] at ht ⊢
    by_cases h1 : (evalX u.x v).2 ≠ 0
    · rw [if_pos h1] at ht; cases ht
    rw [if_neg h1] at ht ⊢
    split at ht
    · cases ht
    rename_i h2
    rw [if_neg h2]
    refine updV_in (inV_set h fun a ha => ?_) ht
    rw [ha] at h2
    simp at h2
    omega
end Go.AI


/- The weakest precondition. -/
namespace Go.AI
open Go.Proofs
set_option maxRecDepth 20000
def weakB (l : List Vr) (us : List Upd) (t : List Bool) (v : List Int) : Bool := (updV l v us v).2 && t.getD (idxF l (updV l v us v).1 0).toNat false
def weakR (l : List Vr) (us : List Upd) (t : List Bool) : List Bool × Int :=
  if (allG l).2 ≠ 0 then ([], (allG l).2) else if updErr l.length none us ≠ 0 then ([], updErr l.length none us) else
  if t.length ≠ (allG l).1.length then ([], 4) else ((allG l).1.map (weakB l us t), 0)
theorem updErr_ok {n : Int} : ∀ {us : List Upd} {prev : Option Int}, updErr n prev us = 0 → ∀ u ∈ us, 0 ≤ u.v ∧ u.v < n
  | [], _, _ => fun u hu => by simp at hu
  | a :: r, prev, h => fun u hu => by
    simp only [updErr] at h
    split at h
    · cases h
    rename_i h1
    split at h
    · cases h
    split at h
    · rename_i h2; exact absurd h h2
    rcases List.mem_cons.1 hu with rfl | hu
    · omega
    · exact updErr_ok h u hu
theorem coNoBs {e : Int} : CoD (.tup [.i (.v (.slice none 0 0)), ii e]) (.tup [bools [], ii e]) := coD_tup (.cons (coD_i coI_nil) (CoDL.refl _))
set_option maxHeartbeats 4000000 in
theorem weakest46 (O : List Heap) (l : List Vr) (us : List Upd) (t : List Bool) (hl : l.length ≤ max63) (hn : ∀ v ∈ l, v.name.size ≤ max63) (hu : us.length ≤ max63) (hus : ∀ u ∈ us, exOk u.x) : ASpec Tryd.prog 46 [vrs l, upds us, bools t] O (.tup [bools (weakR l us t).1, ii (weakR l us t).2]) [] O := by
  have ha := fun O => allG30 O l hl hn
  have hgok := @allG_ok l
  have hall : (allG l).2 = 0 → (allG l).1 = allV l := fun h => by rw [(hgok h).2]
  have hck := fun O => checkUpdates99 O l us hu hus
  have huk := @updErr_ok l.length us none
  generalize hR : weakR l us t = R
  unfold weakR at hR
  generalize allG l = A at *
  obtain ⟨dom, e⟩ := A
  simp only at ha hR hgok hall
  generalize updErr l.length none us = ue at *
  refine aspec_intro Tk Tryd.func46 rfl Tryd.call46 Tryd.ntmps46 (Nat.le_of_ble_eq_true rfl) fun E => ?_
  refine g_run Tk Tryd.func46 ?_
  first | refine g_call Tk Tryd.func46 (ha _) rfl rfl rfl rfl rfl ?_ | refine s_callq Tk (fun _ => ha _) rfl rfl rfl ?_
  first | refine g_cnd Tk Tryd.func46 rfl (fun h1 => ?_) (fun h1 => ?_) | refine g_know Tk Tryd.func46 rfl (fun h1 => ?_) (fun h1 => ?_) | refine s_know Tk (fun h1 => ?_) (fun h1 => ?_)
  · have h1 := bneT h1
    rw [if_pos h1] at hR
    subst hR
    refine g_ret_co Tk (r := .tup [.i (.v (.slice none 0 0)), ii e]) rfl rfl rfl trivial rfl rfl ?_
    exact coNoBs
  have h1 := bneF h1
  rw [if_neg (by simpa using h1)] at hR
  have hd := (hgok h1).1
  have hdom := hall h1
  subst hdom
  have hdl := hd.all
  first | refine g_call Tk Tryd.func46 (hck _) rfl rfl rfl rfl rfl ?_ | refine s_callq Tk (fun _ => hck _) rfl rfl rfl ?_
  first | refine g_cnd Tk Tryd.func46 rfl (fun h2 => ?_) (fun h2 => ?_) | refine g_know Tk Tryd.func46 rfl (fun h2 => ?_) (fun h2 => ?_) | refine s_know Tk (fun h2 => ?_) (fun h2 => ?_)
  · have h2 := bneT h2
    rw [if_pos h2] at hR
    subst hR
    refine g_ret_co Tk (r := .tup [.i (.v (.slice none 0 0)), ii ue]) rfl rfl rfl trivial rfl rfl ?_
    exact coNoBs
  have h2 := bneF h2
  rw [if_neg (by simpa using h2)] at hR
  have huk := huk h2
  first | refine g_cnd Tk Tryd.func46 rfl (fun h3 => ?_) (fun h3 => ?_) | refine g_know Tk Tryd.func46 rfl (fun h3 => ?_) (fun h3 => ?_) | refine s_know Tk (fun h3 => ?_) (fun h3 => ?_)
  · have h3 : (t.length : Int) ≠ (allV l).length := bneT h3
    rw [if_pos (by omega)] at hR
    subst hR
    refine g_ret_co Tk (r := .tup [.i (.v (.slice none 0 0)), ii 4]) rfl rfl rfl trivial rfl rfl ?_
    exact coNoBs
  have h3 : (t.length : Int) = (allV l).length := bneF h3
  rw [if_neg (by omega)] at hR
  subst hR
  have hup := fun O v (hv : v ∈ allV l) => updated100 O l us v (allV_mem_len hv) hd.len hu fun u hm => ⟨hus u hm, huk u hm⟩
  have hix : ∀ O v, inV l v → ASpec Tryd.prog 101 [vrs l, ints v] O (ii (idxF l v 0)) [] O := fun O v hv => index101 O l v (inV_len hv) hd.len hd.b (fun x hx => by
    have hb := dom_bounds hd ((allV_dom l).mem v |>.2 hv)
    obtain ⟨j, hj, rfl⟩ := List.getElem_of_mem hx
    have := hb j
    rwa [List.getD_eq_getElem?_getD, List.getElem?_eq_getElem hj] at this) (idx_bounds hd hv)
  have hmem : ∀ (i : Nat) (h : i < (allV l).length), inV l (allV l)[i] := fun i h => (allV_dom l).mem _ |>.1 (List.getElem_mem h)
  have hpl : ∀ w, inV l w → ∃ m : Nat, idxF l w 0 = (m : Int) ∧ m < (allV l).length := fun w hw => by
    obtain ⟨m, e1, e2⟩ := place_all hw
    refine ⟨m, e1, ?_⟩
    apply Classical.byContradiction
    intro hc
    rw [List.getElem?_eq_none (by omega)] at e2
    cases e2
  generalize hdv : allV l = dom at *
  clear hdv ha hgok hall hck
  refine g_loop ?_
  refine rch_wk (wk_nil 11 59 4 1 rfl rfl rfl) ?_
  refine rch_loop2 (fun i : Nat => [(0, vrs l), (1, upds us), (2, bools t), (11, .osl 0 59), (35, intss dom), (36, ii dom.length), (37, ii i)]) (fun i => [(59, obools ((dom.take i).map (weakB l us t)))]) (fun _ => O) 62
    (fun i => i ≤ dom.length) (fun i => dom.length - i) 0 (Nat.zero_le _) ⟨rfl, rfl, rfl, rfl, rfl, rfl, rfl, trivial⟩ rfl ⟨rfl, trivial⟩ rfl rfl ?_
  intro i hi ih
  refine g_run Tk Tryd.func46 ?_
  first | refine g_cnd Tk Tryd.func46 rfl (fun g1 => ?_) (fun g1 => ?_) | refine g_know Tk Tryd.func46 rfl (fun g1 => ?_) (fun g1 => ?_) | refine s_know Tk (fun g1 => ?_) (fun g1 => ?_)
  · have h4 : i < dom.length := by simpa using g1
    clear g1
    have gv : (dom.map fun x => [intsI x])[(i : Int).toNat]? = some [intsI dom[i]] := get_mapZ (f := fun x => [intsI x]) h4
    have htk : (dom.take (i + 1)).map (weakB l us t) = (dom.take i).map (weakB l us t) ++ [weakB l us t dom[i]] := by rw [List.take_add_one, List.getElem?_eq_getElem h4, List.map_append]; rfl
    have hal : ((dom.take i).map (weakB l us t)).length = i := by simp; omega
    have hin := hmem i h4
    have hup := fun O => hup O dom[i] (List.getElem_mem h4)
    have hui := @updV_in l dom[i] us dom[i] hin
    have hwb : weakB l us t dom[i] = ((updV l dom[i] us dom[i]).2 && t.getD (idxF l (updV l dom[i] us dom[i]).1 0).toNat false) := rfl
    have hi1 : ii (IntKind.i64.wrap ((i : Int) + 1)) = ii ((i + 1 : Nat) : Int) := congrArg ii (wsucc (n := 4096) (by omega) (by decide))
    have hsz : (i + 1) * 1 ≤ 140737488355328 ∧ i + 1 ≤ 9223372036854775807 := by omega
    rw [← hal] at hsz
    generalize (dom.take i).map (weakB l us t) = acc at *
    generalize weakB l us t dom[i] = B at *
    generalize updV l dom[i] us dom[i] = V at *
    generalize dom[i] = v at *
    obtain ⟨w, ok⟩ := V
    simp only at hui hwb hup
    first | refine g_need Tk Tryd.func46 (by exact ⟨by omega, by show (i : Int) < (dom.length : Int); omega⟩) ?_ | refine s_need Tk (by exact ⟨by omega, by show (i : Int) < (dom.length : Int); omega⟩) ?_
    first | refine g_elem Tk Tryd.func46 (gv) ?_ | refine s_elem Tk (gv) ?_
    first | refine g_call Tk Tryd.func46 (hup _) rfl rfl rfl rfl rfl ?_ | refine s_callq Tk (fun _ => hup _) rfl rfl rfl ?_
    cases ok with
    | false =>
      rw [Bool.false_and] at hwb
      subst hwb
      repeat (first | refine g_cnd Tk Tryd.func46 rfl (fun _ => ?_) (fun h => absurd h (by decide)) | refine g_know Tk Tryd.func46 rfl (fun _ => ?_) (fun h => absurd h (by decide)) | refine s_know Tk (fun _ => ?_) (fun h => absurd h (by decide)) | refine g_cnd Tk Tryd.func46 rfl (fun h => absurd h (by decide)) (fun _ => ?_) | refine g_know Tk Tryd.func46 rfl (fun h => absurd h (by decide)) (fun _ => ?_) | refine s_know Tk (fun h => absurd h (by decide)) (fun _ => ?_) | refine g_cnd Tk Tryd.func46 rfl (fun _ => ?_) (fun h => absurd (show true = false from h) (by decide)) | refine g_know Tk Tryd.func46 rfl (fun _ => ?_) (fun h => absurd (show true = false from h) (by decide)) | refine s_know Tk (fun _ => ?_) (fun h => absurd (show true = false from h) (by decide)) | refine g_cnd Tk Tryd.func46 rfl (fun h => absurd (show false = true from h) (by decide)) (fun _ => ?_) | refine g_know Tk Tryd.func46 rfl (fun h => absurd (show false = true from h) (by decide)) (fun _ => ?_) | refine s_know Tk (fun h => absurd (show false = true from h) (by decide)) (fun _ => ?_))
      first | refine g_need Tk Tryd.func46 (by exact hsz) ?_ | refine s_need Tk (by exact hsz) ?_
      refine g_loop ?_
      exact ih (i + 1) _ _ h4 (by omega) ⟨rfl, rfl, rfl, rfl, rfl, rfl, hi1, trivial⟩ rfl ⟨by rw [htk]; exact congrArg some (obools_app acc false), trivial⟩ rfl rfl
    | true =>
      have hw := hui rfl
      obtain ⟨m, e1, e2⟩ := hpl w hw
      have hix := fun O => hix O w hw
      rw [e1] at hix hwb
      rw [Bool.true_and, Int.toNat_natCast] at hwb
      have gt : (t.map fun x => [I.v (.bool x)])[(m : Int).toNat]? = some [I.v (.bool B)] := by
        rw [get_mapZ (f := fun x => [I.v (.bool x)]) (show m < t.length by omega), hwb, List.getD_eq_getElem?_getD, List.getElem?_eq_getElem (by omega)]
        rfl
      repeat (first | refine g_cnd Tk Tryd.func46 rfl (fun _ => ?_) (fun h => absurd h (by decide)) | refine g_know Tk Tryd.func46 rfl (fun _ => ?_) (fun h => absurd h (by decide)) | refine s_know Tk (fun _ => ?_) (fun h => absurd h (by decide)) | refine g_cnd Tk Tryd.func46 rfl (fun h => absurd h (by decide)) (fun _ => ?_) | refine g_know Tk Tryd.func46 rfl (fun h => absurd h (by decide)) (fun _ => ?_) | refine s_know Tk (fun h => absurd h (by decide)) (fun _ => ?_) | refine g_cnd Tk Tryd.func46 rfl (fun _ => ?_) (fun h => absurd (show true = false from h) (by decide)) | refine g_know Tk Tryd.func46 rfl (fun _ => ?_) (fun h => absurd (show true = false from h) (by decide)) | refine s_know Tk (fun _ => ?_) (fun h => absurd (show true = false from h) (by decide)) | refine g_cnd Tk Tryd.func46 rfl (fun h => absurd (show false = true from h) (by decide)) (fun _ => ?_) | refine g_know Tk Tryd.func46 rfl (fun h => absurd (show false = true from h) (by decide)) (fun _ => ?_) | refine s_know Tk (fun h => absurd (show false = true from h) (by decide)) (fun _ => ?_))
      first | refine g_call Tk Tryd.func46 (hix _) rfl rfl rfl rfl rfl ?_ | refine s_callq Tk (fun _ => hix _) rfl rfl rfl ?_
      first | refine g_need Tk Tryd.func46 (by exact ⟨by omega, by show (m : Int) < (t.length : Int); omega⟩) ?_ | refine s_need Tk (by exact ⟨by omega, by show (m : Int) < (t.length : Int); omega⟩) ?_
      first | refine g_elem Tk Tryd.func46 (gt) ?_ | refine s_elem Tk (gt) ?_
      first | refine g_need Tk Tryd.func46 (by exact hsz) ?_ | refine s_need Tk (by exact hsz) ?_
      refine g_loop ?_
      exact ih (i + 1) _ _ h4 (by omega) ⟨rfl, rfl, rfl, rfl, rfl, rfl, hi1, trivial⟩ rfl ⟨by rw [htk]; exact congrArg some (obools_app acc B), trivial⟩ rfl rfl
  · have h4 : dom.length ≤ i := by simpa using g1
    rw [List.take_of_length_le h4]
    refine g_rwk (wk_freeze 59 rfl rfl) ?_
    refine g_rwk (wk_imm rfl) ?_
    refine g_ret Tk (r := .tup [bools (dom.map (weakB l us t)), ii 0]) rfl rfl rfl trivial rfl rfl ?_
    rfl
end Go.AI


/- The law's weakest precondition. -/
namespace Go.AI
open Go.Proofs
set_option maxRecDepth 20000
def findW (w : List Int) : List (List Int) → List Bool → Bool
  | d :: ds, b :: bs => if d = w then b else findW w ds bs
  | _, _ => false
theorem findW_at : ∀ {dom : List (List Int)} {t : List Bool} {w : List Int} {m : Nat}, dom.Nodup → dom[m]? = some w → findW w dom t = t.getD m false
  | [], t, w, m, _, h => by simp at h
  | d :: ds, [], w, m, _, h => by simp [findW]
  | d :: ds, b :: bs, w, 0, _, h => by
    simp only [List.getElem?_cons_zero, Option.some.injEq] at h
    subst h
    simp [findW]
  | d :: ds, b :: bs, w, m + 1, hn, h => by
    have hn' := List.nodup_cons.1 hn
    have hm : w ∈ ds := List.mem_of_getElem? (by simpa using h)
    have : d ≠ w := fun e => hn'.1 (e ▸ hm)
    simp only [findW]
    rw [if_neg this, findW_at hn'.2 (by simpa using h)]
    simp
/-- What the law says of an element. -/
def lawB (l : List Vr) (us : List Upd) (t : List Bool) (dom : List (List Int)) (v : List Int) : Bool := (updV l v us v).2 && findW (updV l v us v).1 dom t
theorem lawB_weak {l : List Vr} {us : List Upd} {t : List Bool} {v : List Int} (hv : inV l v) : lawB l us t (allV l) v = weakB l us t v := by
  unfold lawB weakB
  cases h : (updV l v us v).2 with
  | false => simp
  | true =>
    obtain ⟨m, e1, e2⟩ := place_all (updV_in hv h)
    rw [findW_at (allV_dom l).nd e2, e1, Int.toNat_natCast]
set_option maxHeartbeats 4000000 in
theorem weakest47 (O : List Heap) (l : List Vr) (us : List Upd) (t : List Bool) (dom : List (List Int)) (p : Nat) (hp : p < dom.length) (hl16 : l.length ≤ 16) (hvl : ∀ v ∈ dom, v.length = l.length) (hdl : dom.length ≤ 4096) (htl : t.length = dom.length) (hu : us.length ≤ 4096) (hus : ∀ u ∈ us, exOk u.x ∧ 0 ≤ u.v ∧ u.v < l.length) :
    ASpec Tryd.prog 47 [vrs l, upds us, bools t, intss dom, ii p] O (bb (lawB l us t dom dom[p])) [] O := by
  have gp : (dom.map fun x => [intsI x])[(p : Int).toNat]? = some [intsI dom[p]] := get_mapZ (f := fun x => [intsI x]) hp
  have hpl := hvl _ (List.getElem_mem hp)
  have np : 0 ≤ (p : Int) ∧ (p : Int) < (dom.length : Int) := by omega
  generalize hR : lawB l us t dom dom[p] = R
  unfold lawB at hR
  generalize dom[p] = v at *
  have hU0 : updV l v us v = updV l v (us.drop 0) v := rfl
  generalize updV l v us v = V at *
  refine aspec_stop [9] Tk Tryd.func47 rfl Tryd.call47 Tryd.ntmps47 (Nat.le_of_ble_eq_true rfl) fun E => ?_
  refine g_run Tk Tryd.func47 ?_
  first | refine g_need Tk Tryd.func47 (np) ?_ | refine s_need Tk (np) ?_
  first | refine g_elem Tk Tryd.func47 (gp) ?_ | refine s_elem Tk (gp) ?_
  first | refine g_need Tk Tryd.func47 (by exact ⟨by show (0 + v.length) * 8 ≤ 140737488355328; omega, by show 0 + v.length ≤ 9223372036854775807; omega⟩) ?_ | refine s_need Tk (by exact ⟨by show (0 + v.length) * 8 ≤ 140737488355328; omega, by show 0 + v.length ≤ 9223372036854775807; omega⟩) ?_
  refine g_loop ?_
  refine rch_loop2 (fun x : Nat × List Int => [(0, vrs l), (1, upds us), (2, bools t), (3, intss dom), (4, ii p), (11, .osl 0 21), (12, ii x.1)]) (fun x => [(21, oints x.2)]) (fun _ => O) 93
    (fun x => x.1 ≤ us.length ∧ x.2.length = l.length ∧ V = updV l v (us.drop x.1) x.2) (fun x => us.length - x.1) (0, v) ⟨Nat.zero_le _, hpl, hU0⟩ ⟨rfl, rfl, rfl, rfl, rfl, rfl, rfl, trivial⟩ rfl ⟨by rw [Nat.zero_add]; rfl, trivial⟩ rfl rfl ?_
  clear hU0
  rintro ⟨i, cur⟩ ⟨hi, hc, hno⟩ ih
  simp only at hi hc hno
  refine g_run Tk Tryd.func47 ?_
  first | refine g_cnd Tk Tryd.func47 rfl (fun g1 => ?_) (fun g1 => ?_) | refine g_know Tk Tryd.func47 rfl (fun g1 => ?_) (fun g1 => ?_) | refine s_know Tk (fun g1 => ?_) (fun g1 => ?_)
  · have h1 : i < us.length := by simpa using g1
    clear g1
    have gu : (us.map updI)[(i : Int).toNat]? = some (updI us[i]) := get_mapZ h1
    have du : us.drop i = us[i] :: us.drop (i + 1) := List.drop_eq_getElem_cons h1
    have hux := hus _ (List.getElem_mem h1)
    rw [du] at hno
    simp only [updV] at hno
    clear du
    generalize us[i] = u at *
    have hev := fun O => evaluate51A O u.x v hux.1 (by simp only [max63]; omega)
    generalize evalX u.x v = Y at *
    obtain ⟨uv, ux⟩ := u
    obtain ⟨xo, xv, xi, xa⟩ := ux
    obtain ⟨y, e⟩ := Y
    simp only at hno hev hux
    obtain ⟨k, rfl⟩ := Int.eq_ofNat_of_zero_le hux.2.1
    have hk : k < l.length := by omega
    have gv : (l.map vrI)[(k : Int).toNat]? = some (vrI l[k]) := get_mapZ hk
    have lk : l[(k : Int).toNat]? = some l[k] := by rw [Int.toNat_natCast]; exact List.getElem?_eq_getElem hk
    rw [lk] at hno
    simp only [Option.any_some] at hno
    clear lk
    generalize l[k] = a at *
    obtain ⟨an, al, ah, aj⟩ := a
    simp only at hno
    have n1 : 0 ≤ (i : Int) ∧ (i : Int) < (us.length : Int) := by omega
    have n2 : 0 ≤ (k : Int) ∧ (k : Int) < (l.length : Int) := by omega
    refine g_drawn Tk Tryd.func47 mixedT rfl ?_
    first | refine g_need Tk Tryd.func47 (n1) ?_ | refine s_need Tk (n1) ?_
    first | refine g_elem Tk Tryd.func47 (gu) ?_ | refine s_elem Tk (gu) ?_
    first | refine g_need Tk Tryd.func47 (np) ?_ | refine s_need Tk (np) ?_
    first | refine g_elem Tk Tryd.func47 (gp) ?_ | refine s_elem Tk (gp) ?_
    first | refine g_call Tk Tryd.func47 (hev _) rfl rfl rfl rfl rfl ?_ | refine s_callq Tk (fun _ => hev _) rfl rfl rfl ?_
    refine e_done Tk Tryd.func47 (by kernel_rfl) ?_
    first | refine g_cnd Tk Tryd.func47 rfl (fun g2 => ?_) (fun g2 => ?_) | refine g_know Tk Tryd.func47 rfl (fun g2 => ?_) (fun g2 => ?_) | refine s_know Tk (fun g2 => ?_) (fun g2 => ?_)
    · have g2 := bneT g2
      rw [if_pos g2] at hno
      subst hno
      repeat (first | refine g_cnd Tk Tryd.func47 rfl (fun _ => ?_) (fun h => absurd h (by decide)) | refine g_know Tk Tryd.func47 rfl (fun _ => ?_) (fun h => absurd h (by decide)) | refine s_know Tk (fun _ => ?_) (fun h => absurd h (by decide)) | refine g_cnd Tk Tryd.func47 rfl (fun h => absurd h (by decide)) (fun _ => ?_) | refine g_know Tk Tryd.func47 rfl (fun h => absurd h (by decide)) (fun _ => ?_) | refine s_know Tk (fun h => absurd h (by decide)) (fun _ => ?_) | refine g_cnd Tk Tryd.func47 rfl (fun _ => ?_) (fun h => absurd (show true = false from h) (by decide)) | refine g_know Tk Tryd.func47 rfl (fun _ => ?_) (fun h => absurd (show true = false from h) (by decide)) | refine s_know Tk (fun _ => ?_) (fun h => absurd (show true = false from h) (by decide)) | refine g_cnd Tk Tryd.func47 rfl (fun h => absurd (show false = true from h) (by decide)) (fun _ => ?_) | refine g_know Tk Tryd.func47 rfl (fun h => absurd (show false = true from h) (by decide)) (fun _ => ?_) | refine s_know Tk (fun h => absurd (show false = true from h) (by decide)) (fun _ => ?_))
      refine g_ret Tk (r := bb false) rfl rfl rfl trivial rfl rfl ?_
      rw [← hR]; rfl
    have g2 := bneF g2
    rw [if_neg (by simpa using g2)] at hno
    first | refine g_need Tk Tryd.func47 (n1) ?_ | refine s_need Tk (n1) ?_
    first | refine g_elem Tk Tryd.func47 (gu) ?_ | refine s_elem Tk (gu) ?_
    first | refine g_need Tk Tryd.func47 (n2) ?_ | refine s_need Tk (n2) ?_
    first | refine g_elem Tk Tryd.func47 (gv) ?_ | refine s_elem Tk (gv) ?_
    first | refine g_cnd Tk Tryd.func47 rfl (fun g3 => ?_) (fun g3 => ?_) | refine g_know Tk Tryd.func47 rfl (fun g3 => ?_) (fun g3 => ?_) | refine s_know Tk (fun g3 => ?_) (fun g3 => ?_)
    · have g3 : y < al := of_decide_eq_true g3
      rw [if_pos (by simp [g3])] at hno
      subst hno
      repeat (first | refine g_cnd Tk Tryd.func47 rfl (fun _ => ?_) (fun h => absurd h (by decide)) | refine g_know Tk Tryd.func47 rfl (fun _ => ?_) (fun h => absurd h (by decide)) | refine s_know Tk (fun _ => ?_) (fun h => absurd h (by decide)) | refine g_cnd Tk Tryd.func47 rfl (fun h => absurd h (by decide)) (fun _ => ?_) | refine g_know Tk Tryd.func47 rfl (fun h => absurd h (by decide)) (fun _ => ?_) | refine s_know Tk (fun h => absurd h (by decide)) (fun _ => ?_) | refine g_cnd Tk Tryd.func47 rfl (fun _ => ?_) (fun h => absurd (show true = false from h) (by decide)) | refine g_know Tk Tryd.func47 rfl (fun _ => ?_) (fun h => absurd (show true = false from h) (by decide)) | refine s_know Tk (fun _ => ?_) (fun h => absurd (show true = false from h) (by decide)) | refine g_cnd Tk Tryd.func47 rfl (fun h => absurd (show false = true from h) (by decide)) (fun _ => ?_) | refine g_know Tk Tryd.func47 rfl (fun h => absurd (show false = true from h) (by decide)) (fun _ => ?_) | refine s_know Tk (fun h => absurd (show false = true from h) (by decide)) (fun _ => ?_))
      refine g_ret Tk (r := bb false) rfl rfl rfl trivial rfl rfl ?_
      rw [← hR]; rfl
    have g3 : ¬ y < al := of_decide_eq_false g3
    first | refine g_need Tk Tryd.func47 (n1) ?_ | refine s_need Tk (n1) ?_
    first | refine g_elem Tk Tryd.func47 (gu) ?_ | refine s_elem Tk (gu) ?_
    first | refine g_need Tk Tryd.func47 (n2) ?_ | refine s_need Tk (n2) ?_
    first | refine g_elem Tk Tryd.func47 (gv) ?_ | refine s_elem Tk (gv) ?_
    first | refine g_cnd Tk Tryd.func47 rfl (fun g4 => ?_) (fun g4 => ?_) | refine g_know Tk Tryd.func47 rfl (fun g4 => ?_) (fun g4 => ?_) | refine s_know Tk (fun g4 => ?_) (fun g4 => ?_)
    · have g4 : y > ah := of_decide_eq_true g4
      rw [if_pos (by simp [g4])] at hno
      subst hno
      refine g_ret Tk (r := bb false) rfl rfl rfl trivial rfl rfl ?_
      rw [← hR]; rfl
    have g4 : ¬ y > ah := of_decide_eq_false g4
    rw [if_neg (by simp; omega)] at hno
    first | refine g_need Tk Tryd.func47 (n1) ?_ | refine s_need Tk (n1) ?_
    first | refine g_elem Tk Tryd.func47 (gu) ?_ | refine s_elem Tk (gu) ?_
    first | refine g_need Tk Tryd.func47 (by show (0 : Int) ≤ (k : Int) ∧ (k : Int) < (cur.length : Int); omega) ?_ | refine s_need Tk (by show (0 : Int) ≤ (k : Int) ∧ (k : Int) < (cur.length : Int); omega) ?_
    refine g_loop ?_
    refine ih (i + 1, cur.set k y) _ _ ⟨h1, by simpa using hc, hno⟩ (by simp only; omega) ⟨rfl, rfl, rfl, rfl, rfl, rfl, congrArg ii (wsucc (n := 4096) (by omega) (by decide)), trivial⟩ rfl ⟨?_, trivial⟩ rfl rfl
    show some (Ob.arr 3 1 cur.length ((cur.map fun x => [vi x]).set k [vi y]) true) = some (oints (cur.set k y))
    simp [List.map_set]
  · have h1 : us.length ≤ i := by simpa using g1
    rw [List.drop_eq_nil_of_le h1] at hno
    simp only [updV] at hno
    subst hno
    simp only [Bool.true_and] at hR
    clear ih g1
    have hR : findW cur (dom.drop 0) (t.drop 0) = R := hR
    refine g_stop ?_
    refine rch_wk (wk_freeze 21 rfl rfl) ?_
    refine rch_wk (wk_imm rfl) ?_
    refine g_run Tk Tryd.func47 ?_
    refine g_go Tk Tryd.func47 ?_
    refine g_loop ?_
    refine rch_loop2 (fun i : Nat => [(2, bools t), (3, intss dom), (11, ints cur), (15, ii i)]) (fun _ => []) (fun _ => O) 93
      (fun i => i ≤ dom.length ∧ findW cur (dom.drop i) (t.drop i) = R) (fun i => dom.length - i) 0 ⟨Nat.zero_le _, hR⟩ ⟨rfl, rfl, rfl, rfl, trivial⟩ rfl trivial rfl rfl ?_
    clear hR
    rintro j ⟨hj, hno⟩ ih
    refine g_run Tk Tryd.func47 ?_
    first | refine g_cnd Tk Tryd.func47 rfl (fun g5 => ?_) (fun g5 => ?_) | refine g_know Tk Tryd.func47 rfl (fun g5 => ?_) (fun g5 => ?_) | refine s_know Tk (fun g5 => ?_) (fun g5 => ?_)
    · have h5 : j < dom.length := by simpa using g5
      clear g5
      have gd : (dom.map fun x => [intsI x])[(j : Int).toNat]? = some [intsI dom[j]] := get_mapZ (f := fun x => [intsI x]) h5
      have gt : (t.map fun x => [I.v (.bool x)])[(j : Int).toNat]? = some [I.v (.bool (t[j]'(by omega)))] := get_mapZ (f := fun x => [I.v (.bool x)]) (by omega)
      have dd : dom.drop j = dom[j] :: dom.drop (j + 1) := List.drop_eq_getElem_cons h5
      have dt : t.drop j = (t[j]'(by omega)) :: t.drop (j + 1) := List.drop_eq_getElem_cons (by omega)
      have hdj := hvl _ (List.getElem_mem h5)
      rw [dd, dt] at hno
      simp only [findW] at hno
      clear dd dt
      have hsm := fun O => sameInts36 O dom[j] cur (by simp only [max63]; omega)
      generalize dom[j] = d at *
      generalize t[j]'(by omega) = b at *
      first | refine g_need Tk Tryd.func47 (by exact ⟨by omega, by show (j : Int) < (dom.length : Int); omega⟩) ?_ | refine s_need Tk (by exact ⟨by omega, by show (j : Int) < (dom.length : Int); omega⟩) ?_
      first | refine g_elem Tk Tryd.func47 (gd) ?_ | refine s_elem Tk (gd) ?_
      first | refine g_call Tk Tryd.func47 (hsm _) rfl rfl rfl rfl rfl ?_ | refine s_callq Tk (fun _ => hsm _) rfl rfl rfl ?_
      first | refine g_cnd Tk Tryd.func47 rfl (fun g6 => ?_) (fun g6 => ?_) | refine g_know Tk Tryd.func47 rfl (fun g6 => ?_) (fun g6 => ?_) | refine s_know Tk (fun g6 => ?_) (fun g6 => ?_)
      · have g6 : d = cur := of_decide_eq_true g6
        rw [if_pos g6] at hno
        first | refine g_need Tk Tryd.func47 (by exact ⟨by omega, by show (j : Int) < (t.length : Int); omega⟩) ?_ | refine s_need Tk (by exact ⟨by omega, by show (j : Int) < (t.length : Int); omega⟩) ?_
        first | refine g_elem Tk Tryd.func47 (gt) ?_ | refine s_elem Tk (gt) ?_
        refine g_ret Tk (r := bb b) rfl rfl rfl trivial rfl rfl ?_
        rw [hno]
      · have g6 : ¬ d = cur := of_decide_eq_false g6
        rw [if_neg g6] at hno
        refine g_loop ?_
        exact ih (j + 1) _ _ ⟨h5, hno⟩ (by omega) ⟨rfl, rfl, rfl, congrArg ii (wsucc (n := 4096) (by omega) (by decide)), trivial⟩ rfl trivial rfl rfl
    · have h5 : dom.length ≤ j := by simpa using g5
      rw [List.drop_eq_nil_of_le h5] at hno
      simp only [findW] at hno
      subst hno
      refine g_ret Tk (r := bb false) rfl rfl rfl trivial rfl rfl ?_
      rfl
end Go.AI


/- The updates of a change. -/
namespace Go.AI
open Go.Proofs
set_option maxRecDepth 20000
structure Chg where
  x0 : List Int
  x1 : List Int
  x2 : List Int
  n : Int
abbrev chgD (c : Chg) : D := .agg [.i (.sl 1 c.x0.length (c.x0.map u8I)), .i (.sl 1 c.x1.length (c.x1.map u8I)), .i (.sl 1 c.x2.length (c.x2.map u8I)), .i (.v (.int .u64 c.n))]
structure chgOk (c : Chg) : Prop where
  h0 : byteOk c.x0 ∧ c.x0.length ≤ max63
  h1 : byteOk c.x1 ∧ c.x1.length ≤ max63
  h2 : byteOk c.x2 ∧ c.x2.length ≤ max63
  hn : 0 ≤ c.n
def chg1 (n : Int) (i : Nat) (a : List Int) : List Upd := if a.length > 0 then [⟨i, growE n true a⟩] else []
def chgU (c : Chg) (n : Nat) : Nat → List Upd
  | 0 => []
  | 1 => chg1 n 0 c.x0
  | 2 => chg1 n 0 c.x0 ++ chg1 n 1 c.x1
  | _ => chg1 n 0 c.x0 ++ chg1 n 1 c.x1 ++ chg1 n 2 c.x2
theorem chgU_len (c : Chg) (n i : Nat) : (chgU c n i).length ≤ 3 := by
  have h : ∀ i a, (chg1 n i a).length ≤ 1 := fun i a => by unfold chg1; split <;> simp
  have h0 := h 0 c.x0
  have h1 := h 1 c.x1
  have h2 := h 2 c.x2
  unfold chgU
  split <;> (try simp only [List.length_append, List.length_nil]) <;> omega
abbrev oupds (l : List Upd) : Ob := .arr 95 5 l.length (l.map updI) true
theorem oupds_app (l : List Upd) (x : Upd) : Ob.arr 95 5 (l.length + 1) (l.map updI ++ [updI x]) true = oupds (l ++ [x]) := by simp
set_option maxHeartbeats 4000000 in
theorem updates45 (O : List Heap) (c : Chg) (l : List Vr) (hl : l.length ≤ 3) (hc : chgOk c) : ASpec Tryd.prog 45 [chgD c, vrs l] O (upds (chgU c l.length l.length)) [] O := by
  have hlen := chgU_len c l.length
  obtain ⟨a, b, cc, n⟩ := c
  have ⟨⟨ha1, ha2⟩, ⟨hb1, hb2⟩, ⟨hc1, hc2⟩, _⟩ := hc
  simp only at ha1 ha2 hb1 hb2 hc1 hc2
  have hg0 := fun O => grow46 O a (l.length : Int) true (by omega) ha1 ha2
  have hg1 := fun O => grow46 O b (l.length : Int) true (by omega) hb1 hb2
  have hg2 := fun O => grow46 O cc (l.length : Int) true (by omega) hc1 hc2
  have e1 : chgU ⟨a, b, cc, n⟩ l.length 1 = chgU ⟨a, b, cc, n⟩ l.length 0 ++ chg1 l.length 0 a := rfl
  have e2 : chgU ⟨a, b, cc, n⟩ l.length 2 = chgU ⟨a, b, cc, n⟩ l.length 1 ++ chg1 l.length 1 b := rfl
  have e3 : chgU ⟨a, b, cc, n⟩ l.length 3 = chgU ⟨a, b, cc, n⟩ l.length 2 ++ chg1 l.length 2 cc := rfl
  unfold chg1 at e1 e2 e3
  generalize growE (l.length : Int) true a = X0 at *
  generalize growE (l.length : Int) true b = X1 at *
  generalize growE (l.length : Int) true cc = X2 at *
  obtain ⟨o0, v0, i0, a0⟩ := X0
  obtain ⟨o1, v1, i1, a1⟩ := X1
  obtain ⟨o2, v2, i2, a2⟩ := X2
  generalize hF : chgU ⟨a, b, cc, n⟩ l.length = F at *
  refine aspec_intro Tk Tryd.func45 rfl Tryd.call45 Tryd.ntmps45 (Nat.le_of_ble_eq_true rfl) fun E => ?_
  refine g_run Tk Tryd.func45 ?_
  refine g_loop ?_
  refine rch_wk (wk_nil 5 34 95 5 rfl rfl rfl) ?_
  refine rch_loop2 (fun i : Nat => [(1, vrs l), (2, .own 0 2 0 0), (5, .osl 0 34), (6, ii i)]) (fun i => [(2, .box [.i (.sl 1 a.length (a.map u8I)), .i (.sl 1 b.length (b.map u8I)), .i (.sl 1 cc.length (cc.map u8I)), .i (.v (.int .u64 n))]), (34, oupds (F i))]) (fun _ => O) 36
    (fun i => i ≤ l.length) (fun i => l.length - i) 0 (Nat.zero_le _) ⟨rfl, rfl, rfl, rfl, trivial⟩ rfl ⟨rfl, by rw [← hF]; rfl, trivial⟩ rfl rfl ?_
  clear hF
  intro i hi ih
  have hsz : ((F i).length + 1) * 56 ≤ 140737488355328 ∧ (F i).length + 1 ≤ 9223372036854775807 := by have := hlen i; omega
  refine g_run Tk Tryd.func45 ?_
  first | refine g_cnd Tk Tryd.func45 rfl (fun g1 => ?_) (fun g1 => ?_) | refine g_know Tk Tryd.func45 rfl (fun g1 => ?_) (fun g1 => ?_) | refine s_know Tk (fun g1 => ?_) (fun g1 => ?_)
  · have h1 : i < l.length := by simpa using g1
    clear g1
    have h012 : i = 0 ∨ i = 1 ∨ i = 2 := by omega
    rcases h012 with rfl | rfl | rfl
    · repeat (first | refine g_cnd Tk Tryd.func45 rfl (fun _ => ?_) (fun h => absurd h (by decide)) | refine g_know Tk Tryd.func45 rfl (fun _ => ?_) (fun h => absurd h (by decide)) | refine s_know Tk (fun _ => ?_) (fun h => absurd h (by decide)) | refine g_cnd Tk Tryd.func45 rfl (fun h => absurd h (by decide)) (fun _ => ?_) | refine g_know Tk Tryd.func45 rfl (fun h => absurd h (by decide)) (fun _ => ?_) | refine s_know Tk (fun h => absurd h (by decide)) (fun _ => ?_) | refine g_cnd Tk Tryd.func45 rfl (fun _ => ?_) (fun h => absurd (show true = false from h) (by decide)) | refine g_know Tk Tryd.func45 rfl (fun _ => ?_) (fun h => absurd (show true = false from h) (by decide)) | refine s_know Tk (fun _ => ?_) (fun h => absurd (show true = false from h) (by decide)) | refine g_cnd Tk Tryd.func45 rfl (fun h => absurd (show false = true from h) (by decide)) (fun _ => ?_) | refine g_know Tk Tryd.func45 rfl (fun h => absurd (show false = true from h) (by decide)) (fun _ => ?_) | refine s_know Tk (fun h => absurd (show false = true from h) (by decide)) (fun _ => ?_))
      first | refine g_need Tk Tryd.func45 (by decide) ?_ | refine s_need Tk (by decide) ?_
      first | refine g_cnd Tk Tryd.func45 rfl (fun g2 => ?_) (fun g2 => ?_) | refine g_know Tk Tryd.func45 rfl (fun g2 => ?_) (fun g2 => ?_) | refine s_know Tk (fun g2 => ?_) (fun g2 => ?_)
      · have g2 : a.length > 0 := by have := of_decide_eq_true g2; omega
        rw [if_pos g2] at e1
        first | refine g_need Tk Tryd.func45 (by decide) ?_ | refine s_need Tk (by decide) ?_
        first | refine g_call Tk Tryd.func45 (hg0 _) rfl rfl rfl rfl rfl ?_ | refine s_callq Tk (fun _ => hg0 _) rfl rfl rfl ?_
        first | refine g_need Tk Tryd.func45 (by exact hsz) ?_ | refine s_need Tk (by exact hsz) ?_
        refine g_loop ?_
        exact ih 1 _ _ h1 (by omega) ⟨rfl, rfl, rfl, rfl, trivial⟩ rfl ⟨rfl, by rw [e1]; exact congrArg some (oupds_app (F 0) ⟨(0 : Nat), .mk o0 v0 i0 a0⟩), trivial⟩ rfl rfl
      · have g2 : ¬ a.length > 0 := by have := of_decide_eq_false g2; omega
        rw [if_neg g2, List.append_nil] at e1
        refine g_loop ?_
        exact ih 1 _ _ h1 (by omega) ⟨rfl, rfl, rfl, rfl, trivial⟩ rfl ⟨rfl, congrArg (fun z => some (oupds z)) e1.symm, trivial⟩ rfl rfl
    · repeat (first | refine g_cnd Tk Tryd.func45 rfl (fun _ => ?_) (fun h => absurd h (by decide)) | refine g_know Tk Tryd.func45 rfl (fun _ => ?_) (fun h => absurd h (by decide)) | refine s_know Tk (fun _ => ?_) (fun h => absurd h (by decide)) | refine g_cnd Tk Tryd.func45 rfl (fun h => absurd h (by decide)) (fun _ => ?_) | refine g_know Tk Tryd.func45 rfl (fun h => absurd h (by decide)) (fun _ => ?_) | refine s_know Tk (fun h => absurd h (by decide)) (fun _ => ?_) | refine g_cnd Tk Tryd.func45 rfl (fun _ => ?_) (fun h => absurd (show true = false from h) (by decide)) | refine g_know Tk Tryd.func45 rfl (fun _ => ?_) (fun h => absurd (show true = false from h) (by decide)) | refine s_know Tk (fun _ => ?_) (fun h => absurd (show true = false from h) (by decide)) | refine g_cnd Tk Tryd.func45 rfl (fun h => absurd (show false = true from h) (by decide)) (fun _ => ?_) | refine g_know Tk Tryd.func45 rfl (fun h => absurd (show false = true from h) (by decide)) (fun _ => ?_) | refine s_know Tk (fun h => absurd (show false = true from h) (by decide)) (fun _ => ?_))
      first | refine g_need Tk Tryd.func45 (by decide) ?_ | refine s_need Tk (by decide) ?_
      first | refine g_cnd Tk Tryd.func45 rfl (fun g2 => ?_) (fun g2 => ?_) | refine g_know Tk Tryd.func45 rfl (fun g2 => ?_) (fun g2 => ?_) | refine s_know Tk (fun g2 => ?_) (fun g2 => ?_)
      · have g2 : b.length > 0 := by have := of_decide_eq_true g2; omega
        rw [if_pos g2] at e2
        first | refine g_need Tk Tryd.func45 (by decide) ?_ | refine s_need Tk (by decide) ?_
        first | refine g_call Tk Tryd.func45 (hg1 _) rfl rfl rfl rfl rfl ?_ | refine s_callq Tk (fun _ => hg1 _) rfl rfl rfl ?_
        first | refine g_need Tk Tryd.func45 (by exact hsz) ?_ | refine s_need Tk (by exact hsz) ?_
        refine g_loop ?_
        exact ih 2 _ _ h1 (by omega) ⟨rfl, rfl, rfl, rfl, trivial⟩ rfl ⟨rfl, by rw [e2]; exact congrArg some (oupds_app (F 1) ⟨(1 : Nat), .mk o1 v1 i1 a1⟩), trivial⟩ rfl rfl
      · have g2 : ¬ b.length > 0 := by have := of_decide_eq_false g2; omega
        rw [if_neg g2, List.append_nil] at e2
        refine g_loop ?_
        exact ih 2 _ _ h1 (by omega) ⟨rfl, rfl, rfl, rfl, trivial⟩ rfl ⟨rfl, congrArg (fun z => some (oupds z)) e2.symm, trivial⟩ rfl rfl
    · repeat (first | refine g_cnd Tk Tryd.func45 rfl (fun _ => ?_) (fun h => absurd h (by decide)) | refine g_know Tk Tryd.func45 rfl (fun _ => ?_) (fun h => absurd h (by decide)) | refine s_know Tk (fun _ => ?_) (fun h => absurd h (by decide)) | refine g_cnd Tk Tryd.func45 rfl (fun h => absurd h (by decide)) (fun _ => ?_) | refine g_know Tk Tryd.func45 rfl (fun h => absurd h (by decide)) (fun _ => ?_) | refine s_know Tk (fun h => absurd h (by decide)) (fun _ => ?_) | refine g_cnd Tk Tryd.func45 rfl (fun _ => ?_) (fun h => absurd (show true = false from h) (by decide)) | refine g_know Tk Tryd.func45 rfl (fun _ => ?_) (fun h => absurd (show true = false from h) (by decide)) | refine s_know Tk (fun _ => ?_) (fun h => absurd (show true = false from h) (by decide)) | refine g_cnd Tk Tryd.func45 rfl (fun h => absurd (show false = true from h) (by decide)) (fun _ => ?_) | refine g_know Tk Tryd.func45 rfl (fun h => absurd (show false = true from h) (by decide)) (fun _ => ?_) | refine s_know Tk (fun h => absurd (show false = true from h) (by decide)) (fun _ => ?_))
      first | refine g_need Tk Tryd.func45 (by decide) ?_ | refine s_need Tk (by decide) ?_
      first | refine g_cnd Tk Tryd.func45 rfl (fun g2 => ?_) (fun g2 => ?_) | refine g_know Tk Tryd.func45 rfl (fun g2 => ?_) (fun g2 => ?_) | refine s_know Tk (fun g2 => ?_) (fun g2 => ?_)
      · have g2 : cc.length > 0 := by have := of_decide_eq_true g2; omega
        rw [if_pos g2] at e3
        first | refine g_need Tk Tryd.func45 (by decide) ?_ | refine s_need Tk (by decide) ?_
        first | refine g_call Tk Tryd.func45 (hg2 _) rfl rfl rfl rfl rfl ?_ | refine s_callq Tk (fun _ => hg2 _) rfl rfl rfl ?_
        first | refine g_need Tk Tryd.func45 (by exact hsz) ?_ | refine s_need Tk (by exact hsz) ?_
        refine g_loop ?_
        exact ih 3 _ _ h1 (by omega) ⟨rfl, rfl, rfl, rfl, trivial⟩ rfl ⟨rfl, by rw [e3]; exact congrArg some (oupds_app (F 2) ⟨(2 : Nat), .mk o2 v2 i2 a2⟩), trivial⟩ rfl rfl
      · have g2 : ¬ cc.length > 0 := by have := of_decide_eq_false g2; omega
        rw [if_neg g2, List.append_nil] at e3
        refine g_loop ?_
        exact ih 3 _ _ h1 (by omega) ⟨rfl, rfl, rfl, rfl, trivial⟩ rfl ⟨rfl, congrArg (fun z => some (oupds z)) e3.symm, trivial⟩ rfl rfl
  · have h1 : i = l.length := by have : l.length ≤ i := by simpa using g1
                                 omega
    subst h1
    repeat (first | refine g_cnd Tk Tryd.func45 rfl (fun _ => ?_) (fun h => absurd h (by decide)) | refine g_know Tk Tryd.func45 rfl (fun _ => ?_) (fun h => absurd h (by decide)) | refine s_know Tk (fun _ => ?_) (fun h => absurd h (by decide)) | refine g_cnd Tk Tryd.func45 rfl (fun h => absurd h (by decide)) (fun _ => ?_) | refine g_know Tk Tryd.func45 rfl (fun h => absurd h (by decide)) (fun _ => ?_) | refine s_know Tk (fun h => absurd h (by decide)) (fun _ => ?_) | refine g_cnd Tk Tryd.func45 rfl (fun _ => ?_) (fun h => absurd (show true = false from h) (by decide)) | refine g_know Tk Tryd.func45 rfl (fun _ => ?_) (fun h => absurd (show true = false from h) (by decide)) | refine s_know Tk (fun _ => ?_) (fun h => absurd (show true = false from h) (by decide)) | refine g_cnd Tk Tryd.func45 rfl (fun h => absurd (show false = true from h) (by decide)) (fun _ => ?_) | refine g_know Tk Tryd.func45 rfl (fun h => absurd (show false = true from h) (by decide)) (fun _ => ?_) | refine s_know Tk (fun h => absurd (show false = true from h) (by decide)) (fun _ => ?_))
    refine g_rwk (wk_freeze 34 rfl rfl) ?_
    refine g_rwk (wk_imm rfl) ?_
    refine g_ret Tk (r := upds (F l.length)) rfl rfl rfl trivial rfl rfl ?_
    rfl
end Go.AI


/- The arguments of the statements about guards: changes. -/
namespace Go.Proofs.YtonnakcgopcfnaaDoor
open Go.ChangeShapes Go.WideShapes Go.ChangeAt Go.RowKit Go.Deep Go.WideElems
set_option maxRecDepth 100000
section
variable {H : Type} {enc : TypeId × Value → H} {W : World}
theorem opn_arr3 {P : Program} {t e : TypeId} {R : List AI.I → Prop} (ht : P.underlying t = some (.array 3 e)) (hc : P.cellsOf e = 1) (hct : P.cellsOf t = 3) (he : Opn enc P W e R) :
    Opn enc P W t fun is => ∃ a b c, is = a ++ b ++ c ∧ R a ∧ R b ∧ R c := by
  intro n cs x h
  obtain ⟨xs, f, rfl, rfl, hl, hlen, hx⟩ := DataW.trod_array ht h
  rw [hct] at hl
  have h0 := hx 0 (by omega)
  have h1 := hx 1 (by omega)
  have h2 := hx 2 (by omega)
  match cs, hl with
  | [c0, c1, c2], _ =>
    simp only [hc] at h0 h1 h2
    rw [List.getElem?_eq_getElem (by omega)] at h0 h1 h2
    obtain ⟨a, ra, ha⟩ := he _ _ _ h0
    obtain ⟨b, rb, hb⟩ := he _ _ _ h1
    obtain ⟨c, rc, hcc⟩ := he _ _ _ h2
    exact ⟨a ++ b ++ c, repL_app (repL_app (show AI.RepL (KW W) [c0] a from ra) (show AI.RepL (KW W) [c1] b from rb)) (show AI.RepL (KW W) [c2] c from rc), a, b, c, rfl, ha, hb, hcc⟩
theorem wf_u64 {z : Int} (h : (Lit.int .u64 z).wf = true) : 0 ≤ z ∧ z < 18446744073709551616 := by
  simp only [Lit.wf, Bool.and_eq_true, decide_eq_true_eq] at h
  have e1 : IntKind.u64.min = 0 := rfl
  have e2 : IntKind.u64.max = 18446744073709551615 := rfl
  rw [e1, e2] at h
  omega
theorem open_chg {r : Reach} {b0 : Nat} {v : Value} {d : DataW H} {p : List MemPlace} (hv : Value.okWide Tryd.prog W r b0 89 v) (h : DataW.Trod enc Tryd.prog W 0 (fun _ => true) true 89 v d p) :
    ∃ c : AI.Chg, (AI.chgOk c ∧ c.n < 18446744073709551616) ∧ ∀ ρ sh, AI.RepD (KW W) ρ sh v (AI.chgD c) := by
  obtain ⟨cs, rfl, _⟩ := okWide_struct Tryd.underlying89 hv
  obtain ⟨n, hn⟩ := h
  obtain ⟨is, hr, a, b, rfl, ⟨a0, a1, a2, rfl, ⟨l0, rfl, q0⟩, ⟨l1, rfl, q1⟩, ⟨l2, rfl, q2⟩⟩, ⟨z, rfl, hz⟩⟩ := opn_struct2 Tryd.underlying89 (z0 := 3) (z1 := 1) (by kernel_rfl) (by kernel_rfl) (by kernel_rfl) rfl rfl (opn_arr3 Tryd.underlying87 (by kernel_rfl) (by kernel_rfl) opn_byts) (opn_int Tryd.underlying23) n _ _ hn
  have hw := wf_u64 hz
  refine ⟨⟨l0, l1, l2, z⟩, ⟨⟨q0, q1, q2, hw.1⟩, hw.2⟩, fun ρ sh => ?_⟩
  have := AI.RepD.agg (AI.RepDL.ofL (ρ := ρ) (sh := sh) hr)
  simpa [Value.cells] using this
theorem open_u64b {r : Reach} {b0 : Nat} {v : Value} {d : DataW H} {p : List MemPlace} (hv : Value.okWide Tryd.prog W r b0 23 v) (h : DataW.Trod enc Tryd.prog W 0 (fun _ => true) true 23 v d p) :
    ∃ n : Int, (0 ≤ n ∧ n < 18446744073709551616) ∧ ∀ ρ sh, AI.RepD (KW W) ρ sh v (AI.u64D n) := by
  obtain ⟨x, rfl, _, _, hw⟩ := open_int Tryd.underlying23 hv h
  exact ⟨x, wf_u64 hw, fun ρ sh => .i (.v rfl)⟩
end
end Go.Proofs.YtonnakcgopcfnaaDoor


/- Laws of weakest preconditions. -/
namespace Go.AI
set_option maxRecDepth 20000
theorem typed_grown {vars : Int} (hv : 0 ≤ vars) (hv2 : vars ≤ 16) {bs : List Int} (hb : byteOk bs) : typedX (growE vars true bs) vars 1 = 0 := by
  have h := (grow_typed hv hv2 true hb).1
  have e : tyOf true = 1 := rfl
  rwa [e] at h
/-- One of the lists of a change. -/
theorem chg1_or (n : Int) (i : Nat) (a : List Int) : chg1 n i a = [] ∨ chg1 n i a = [⟨i, growE n true a⟩] := by
  unfold chg1
  split
  · exact .inr rfl
  · exact .inl rfl
theorem chgU_ok {c : Chg} (hc : chgOk c) {n : Nat} (hn : n ≤ 3) : updErr n none (chgU c n n) = 0 ∧ (chgU c n n ≠ [] → updErr n none (chgU c n n ++ chgU c n n) = 5) ∧ ∀ u ∈ chgU c n n, exOk u.x := by
  have t0 := typed_grown (vars := n) (by omega) (by omega) hc.h0.1
  have t1 := typed_grown (vars := n) (by omega) (by omega) hc.h1.1
  have t2 := typed_grown (vars := n) (by omega) (by omega) hc.h2.1
  have o0 := (grow_typed (vars := n) (by omega) (by omega) true hc.h0.1).2
  have o1 := (grow_typed (vars := n) (by omega) (by omega) true hc.h1.1).2
  have o2 := (grow_typed (vars := n) (by omega) (by omega) true hc.h2.1).2
  have q0 := chg1_or n 0 c.x0
  have q1 := chg1_or n 1 c.x1
  have q2 := chg1_or n 2 c.x2
  generalize growE n true c.x0 = X0 at *
  generalize growE n true c.x1 = X1 at *
  generalize growE n true c.x2 = X2 at *
  match n, hn with
  | 0, _ => exact ⟨rfl, fun h => absurd rfl h, fun u hu => by cases hu⟩
  | 1, _ =>
    have e : chgU c 1 1 = chg1 1 0 c.x0 := rfl
    rw [e]
    rcases q0 with q0 | q0 <;> rw [show chg1 (1 : Int) 0 c.x0 = _ from q0] <;> simp_all [updErr]
  | 2, _ =>
    have e : chgU c 2 2 = chg1 2 0 c.x0 ++ chg1 2 1 c.x1 := rfl
    rw [e]
    rcases q0 with q0 | q0 <;> rcases q1 with q1 | q1 <;> rw [show chg1 (2 : Int) 0 c.x0 = _ from q0, show chg1 (2 : Int) 1 c.x1 = _ from q1] <;> simp_all [updErr]
  | 3, _ =>
    have e : chgU c 3 3 = chg1 3 0 c.x0 ++ chg1 3 1 c.x1 ++ chg1 3 2 c.x2 := rfl
    rw [e]
    rcases q0 with q0 | q0 <;> rcases q1 with q1 | q1 <;> rcases q2 with q2 | q2 <;> rw [show chg1 (3 : Int) 0 c.x0 = _ from q0, show chg1 (3 : Int) 1 c.x1 = _ from q1, show chg1 (3 : Int) 2 c.x2 = _ from q2] <;> simp_all [updErr]
end Go.AI


/- Tables of a conjunction. -/
namespace Go.AI
open Go.Proofs
set_option maxRecDepth 20000
theorem bitU_nat {a i : Nat} (ha : a < 18446744073709551616) : bitU (a : Int) i = a.testBit i := by
  unfold bitU
  have e : (a : Int) / 2 ^ (i : Int).toNat = ((a / 2 ^ i : Nat) : Int) := by
    rw [Int.toNat_natCast, Int.natCast_ediv, Int.natCast_pow]
    rfl
  rw [e, show (1 : Int) = ((1 : Nat) : Int) from rfl, bits_and_u64_nat _ _ (Nat.lt_of_le_of_lt (Nat.div_le_self _ _) ha) (by decide), Nat.testBit_eq_decide_div_mod_eq, Nat.and_one_is_mod]
  rcases Nat.mod_two_eq_zero_or_one (a / 2 ^ i) with h | h <;> rw [h] <;> rfl
theorem bitU_and {a b : Int} (ha : 0 ≤ a ∧ a < 18446744073709551616) (hb : 0 ≤ b ∧ b < 18446744073709551616) (i : Nat) : bitU (bits .and .u64 a b) i = (bitU a i && bitU b i) := by
  obtain ⟨x, rfl⟩ := Int.eq_ofNat_of_zero_le ha.1
  obtain ⟨y, rfl⟩ := Int.eq_ofNat_of_zero_le hb.1
  have hx : x < 18446744073709551616 := by omega
  have hy : y < 18446744073709551616 := by omega
  rw [bits_and_u64_nat _ _ hx hy, bitU_nat hx, bitU_nat hy, bitU_nat (Nat.lt_of_le_of_lt Nat.and_le_left hx), Nat.testBit_and]
theorem and_pos {a b : Int} (ha : 0 ≤ a ∧ a < 18446744073709551616) (hb : 0 ≤ b ∧ b < 18446744073709551616) : 0 ≤ bits .and .u64 a b := by
  obtain ⟨x, rfl⟩ := Int.eq_ofNat_of_zero_le ha.1
  obtain ⟨y, rfl⟩ := Int.eq_ofNat_of_zero_le hb.1
  rw [bits_and_u64_nat _ _ (by omega) (by omega)]
  omega
theorem getD_bitsR (n : Int) (size m : Nat) (h : m < size) : (bitsR n size).getD m false = bitU n m := by
  rw [List.getD_eq_getElem?_getD, List.getElem?_eq_getElem (by rw [bitsR_len]; exact h)]
  simp [bitsR]
/-- The weakest precondition of a conjunction. -/
theorem weakB_and {l : List Vr} {us : List Upd} {a b : Int} {v : List Int} (hv : inV l v) (ha : 0 ≤ a ∧ a < 18446744073709551616) (hb : 0 ≤ b ∧ b < 18446744073709551616) :
    weakB l us (bitsR (bits .and .u64 a b) (allV l).length) v = (weakB l us (bitsR a (allV l).length) v && weakB l us (bitsR b (allV l).length) v) := by
  unfold weakB
  cases h : (updV l v us v).2 with
  | false => simp
  | true =>
    obtain ⟨m, e1, e2⟩ := place_all (updV_in hv h)
    have hm : m < (allV l).length := by
      apply Classical.byContradiction
      intro hc
      rw [List.getElem?_eq_none (by omega)] at e2
      cases e2
    rw [e1, Int.toNat_natCast, getD_bitsR _ _ _ hm, getD_bitsR _ _ _ hm, getD_bitsR _ _ _ hm, bitU_and ha hb]
    simp
end Go.AI
