/- The layer of abstract runs, part 39. -/
import Derived.Test.YtonnakcgopcfnaaDoorLayerZL
set_option linter.unusedSimpArgs false
set_option linter.unusedVariables false
set_option linter.all false

/- The law's own: within, permitted, grow. -/
namespace Go.AI
open Go.Proofs
set_option maxRecDepth 20000
theorem within28 (O : List Heap) (b : Bx) (v : List Int) (h1 : v.length ≤ b.low.length) (h2 : v.length ≤ b.high.length) (hl : v.length ≤ max63) : ASpec Tryd.prog 28 [bxD b, ints v] O (bb (b.has v)) [] O := by
  obtain ⟨lo, hi⟩ := b
  unfold Bx.has
  simp only at h1 h2 ⊢
  generalize hR : contB v lo hi = R
  refine aspec_intro TrydT_ok Tryd.func28 rfl Tryd.call28 Tryd.ntmps28 (Nat.le_of_ble_eq_true rfl) fun E => ?_
  refine g_run TrydT_ok Tryd.func28 ?_
  refine g_loop ?_
  refine rch_loop2 (fun i : Nat => [(1, ints v), (2, .own 0 2 0 0), (5, ii i)]) (fun i => [(2, .box [ints lo, ints hi])]) (fun _ => O) 34
    (fun i => i ≤ v.length ∧ contB (v.drop i) (lo.drop i) (hi.drop i) = R) (fun i => v.length - i) 0 ⟨Nat.zero_le _, hR⟩ ⟨rfl, rfl, rfl, trivial⟩ rfl ⟨rfl, trivial⟩ rfl rfl ?_
  rintro i ⟨hi', hno⟩ ih
  clear hR
  refine g_run TrydT_ok Tryd.func28 ?_
  first | refine g_cnd TrydT_ok Tryd.func28 rfl (fun g1 => ?_) (fun g1 => ?_) | refine g_know TrydT_ok Tryd.func28 rfl (fun g1 => ?_) (fun g1 => ?_) | refine s_know TrydT_ok (fun g1 => ?_) (fun g1 => ?_)
  · have h3 : i < v.length := by simpa using g1
    have gv : (v.map fun x => [vi x])[(i : Int).toNat]? = some [vi v[i]] := get_mapZ (f := fun x => [vi x]) h3
    have gl : (lo.map fun x => [vi x])[(i : Int).toNat]? = some [vi (lo[i]'(by omega))] := get_mapZ (f := fun x => [vi x]) (by omega)
    have gh : (hi.map fun x => [vi x])[(i : Int).toNat]? = some [vi (hi[i]'(by omega))] := get_mapZ (f := fun x => [vi x]) (by omega)
    have dv : v.drop i = v[i] :: v.drop (i + 1) := List.drop_eq_getElem_cons h3
    have dl : lo.drop i = (lo[i]'(by omega)) :: lo.drop (i + 1) := List.drop_eq_getElem_cons (by omega)
    have dh : hi.drop i = (hi[i]'(by omega)) :: hi.drop (i + 1) := List.drop_eq_getElem_cons (by omega)
    rw [dv, dl, dh] at hno
    simp only [contB] at hno
    clear dv dl dh
    generalize v[i] = x at *
    generalize lo[i]'(by omega) = a at *
    generalize hi[i]'(by omega) = c at *
    refine g_drawn TrydT_ok Tryd.func28 mixedT rfl ?_
    first | refine g_need TrydT_ok Tryd.func28 (by exact ⟨by omega, by show (i : Int) < (v.length : Int); omega⟩) ?_ | refine s_need TrydT_ok (by exact ⟨by omega, by show (i : Int) < (v.length : Int); omega⟩) ?_
    first | refine g_elem TrydT_ok Tryd.func28 (gv) ?_ | refine s_elem TrydT_ok (gv) ?_
    first | refine g_need TrydT_ok Tryd.func28 (by exact ⟨by omega, by show (i : Int) < (lo.length : Int); omega⟩) ?_ | refine s_need TrydT_ok (by exact ⟨by omega, by show (i : Int) < (lo.length : Int); omega⟩) ?_
    first | refine g_elem TrydT_ok Tryd.func28 (gl) ?_ | refine s_elem TrydT_ok (gl) ?_
    first | refine g_cnd TrydT_ok Tryd.func28 rfl (fun h4 => ?_) (fun h4 => ?_) | refine g_know TrydT_ok Tryd.func28 rfl (fun h4 => ?_) (fun h4 => ?_) | refine s_know TrydT_ok (fun h4 => ?_) (fun h4 => ?_)
    · have h4 : x < a := of_decide_eq_true h4
      have : R = false := by rw [← hno]; simp [h4]
      subst this
      refine e_done TrydT_ok Tryd.func28 (by kernel_rfl) ?_
      repeat (first | refine g_cnd TrydT_ok Tryd.func28 rfl (fun _ => ?_) (fun h => absurd h (by decide)) | refine g_cnd TrydT_ok Tryd.func28 rfl (fun h => absurd h (by decide)) (fun _ => ?_) | refine g_know TrydT_ok Tryd.func28 rfl (fun _ => ?_) (fun h => absurd h (by decide)) | refine g_know TrydT_ok Tryd.func28 rfl (fun h => absurd h (by decide)) (fun _ => ?_) | refine s_know TrydT_ok (fun _ => ?_) (fun h => absurd h (by decide)) | refine s_know TrydT_ok (fun h => absurd h (by decide)) (fun _ => ?_))
      refine g_ret TrydT_ok (r := bb false) rfl rfl rfl trivial rfl rfl ?_
      rfl
    have h4 : ¬ x < a := of_decide_eq_false h4
    first | refine g_need TrydT_ok Tryd.func28 (by exact ⟨by omega, by show (i : Int) < (v.length : Int); omega⟩) ?_ | refine s_need TrydT_ok (by exact ⟨by omega, by show (i : Int) < (v.length : Int); omega⟩) ?_
    first | refine g_elem TrydT_ok Tryd.func28 (gv) ?_ | refine s_elem TrydT_ok (gv) ?_
    first | refine g_need TrydT_ok Tryd.func28 (by exact ⟨by omega, by show (i : Int) < (hi.length : Int); omega⟩) ?_ | refine s_need TrydT_ok (by exact ⟨by omega, by show (i : Int) < (hi.length : Int); omega⟩) ?_
    first | refine g_elem TrydT_ok Tryd.func28 (gh) ?_ | refine s_elem TrydT_ok (gh) ?_
    refine e_done TrydT_ok Tryd.func28 (by kernel_rfl) ?_
    first | refine g_cnd TrydT_ok Tryd.func28 rfl (fun h5 => ?_) (fun h5 => ?_) | refine g_know TrydT_ok Tryd.func28 rfl (fun h5 => ?_) (fun h5 => ?_) | refine s_know TrydT_ok (fun h5 => ?_) (fun h5 => ?_)
    · have h5 : c < x := of_decide_eq_true h5
      have : R = false := by rw [← hno]; simp [h5]
      subst this
      refine g_ret TrydT_ok (r := bb false) rfl rfl rfl trivial rfl rfl ?_
      rfl
    have h5 : ¬ c < x := of_decide_eq_false h5
    have hno : contB (v.drop (i + 1)) (lo.drop (i + 1)) (hi.drop (i + 1)) = R := by rw [← hno]; simp [h4, h5]
    refine g_loop ?_
    exact ih (i + 1) _ _ ⟨h3, hno⟩ (by omega) ⟨rfl, rfl, congrArg ii (wsucc h3 hl), trivial⟩ rfl ⟨rfl, trivial⟩ rfl rfl
  · have h3 : v.length ≤ i := by simpa using g1
    rw [List.drop_eq_nil_of_le h3] at hno
    have : R = true := by rw [← hno]; cases lo.drop i <;> cases hi.drop i <;> rfl
    subst this
    refine g_ret TrydT_ok (r := bb true) rfl rfl rfl trivial rfl rfl ?_
    rfl
theorem within28o (O : List Heap) (b : Bx) (v : List Int) (d n1 n2 : Nat) (ho1 : objAt O d n1 = some (oints b.low)) (ho2 : objAt O d n2 = some (oints b.high)) (h1 : v.length ≤ b.low.length) (h2 : v.length ≤ b.high.length) (hl : v.length ≤ max63) : ASpec Tryd.prog 28 [.agg [.osl d n1, .osl d n2], ints v] O (bb (b.has v)) [] O := by
  obtain ⟨lo, hi⟩ := b
  unfold Bx.has
  simp only at h1 h2 ho1 ho2 ⊢
  have hO1 : ∀ H, objAt (H :: O) (d + 1) n1 = some (oints lo) := fun H => up_obj ho1
  have hO2 : ∀ H, objAt (H :: O) (d + 1) n2 = some (oints hi) := fun H => up_obj ho2
  generalize hR : contB v lo hi = R
  refine aspec_intro TrydT_ok Tryd.func28 rfl Tryd.call28 Tryd.ntmps28 (Nat.le_of_ble_eq_true rfl) fun E => ?_
  refine g_run TrydT_ok Tryd.func28 ?_
  refine g_loop ?_
  refine rch_loop2 (fun i : Nat => [(1, ints v), (2, .own 0 2 0 0), (5, ii i)]) (fun i => [(2, .box [.osl (d + 1) n1, .osl (d + 1) n2])]) (fun _ => O) 34
    (fun i => i ≤ v.length ∧ contB (v.drop i) (lo.drop i) (hi.drop i) = R) (fun i => v.length - i) 0 ⟨Nat.zero_le _, hR⟩ ⟨rfl, rfl, rfl, trivial⟩ rfl ⟨rfl, trivial⟩ rfl rfl ?_
  rintro i ⟨hi', hno⟩ ih
  clear hR
  refine g_run TrydT_ok Tryd.func28 ?_
  first | refine g_cnd TrydT_ok Tryd.func28 rfl (fun g1 => ?_) (fun g1 => ?_) | refine g_know TrydT_ok Tryd.func28 rfl (fun g1 => ?_) (fun g1 => ?_) | refine s_know TrydT_ok (fun g1 => ?_) (fun g1 => ?_)
  · have h3 : i < v.length := by simpa using g1
    have gv : (v.map fun x => [vi x])[(i : Int).toNat]? = some [vi v[i]] := get_mapZ (f := fun x => [vi x]) h3
    have gl : (lo.map fun x => [vi x])[(i : Int).toNat]? = some [vi (lo[i]'(by omega))] := get_mapZ (f := fun x => [vi x]) (by omega)
    have gh : (hi.map fun x => [vi x])[(i : Int).toNat]? = some [vi (hi[i]'(by omega))] := get_mapZ (f := fun x => [vi x]) (by omega)
    have dv : v.drop i = v[i] :: v.drop (i + 1) := List.drop_eq_getElem_cons h3
    have dl : lo.drop i = (lo[i]'(by omega)) :: lo.drop (i + 1) := List.drop_eq_getElem_cons (by omega)
    have dh : hi.drop i = (hi[i]'(by omega)) :: hi.drop (i + 1) := List.drop_eq_getElem_cons (by omega)
    rw [dv, dl, dh] at hno
    simp only [contB] at hno
    clear dv dl dh
    generalize v[i] = x at *
    generalize lo[i]'(by omega) = a at *
    generalize hi[i]'(by omega) = c at *
    refine g_drawn TrydT_ok Tryd.func28 mixedT rfl ?_
    first | refine g_need TrydT_ok Tryd.func28 (by exact ⟨by omega, by show (i : Int) < (v.length : Int); omega⟩) ?_ | refine s_need TrydT_ok (by exact ⟨by omega, by show (i : Int) < (v.length : Int); omega⟩) ?_
    first | refine g_elem TrydT_ok Tryd.func28 (gv) ?_ | refine s_elem TrydT_ok (gv) ?_
    first | refine g_obj TrydT_ok Tryd.func28 (hO1 [(2, .box [.osl (d + 1) n1, .osl (d + 1) n2])]) ?_ | refine s_obj TrydT_ok (hO1 [(2, .box [.osl (d + 1) n1, .osl (d + 1) n2])]) ?_
    first | refine g_need TrydT_ok Tryd.func28 (by exact ⟨by omega, by show (i : Int) < (lo.length : Int); omega⟩) ?_ | refine s_need TrydT_ok (by exact ⟨by omega, by show (i : Int) < (lo.length : Int); omega⟩) ?_
    first | refine g_obj TrydT_ok Tryd.func28 (hO1 [(2, .box [.osl (d + 1) n1, .osl (d + 1) n2])]) ?_ | refine s_obj TrydT_ok (hO1 [(2, .box [.osl (d + 1) n1, .osl (d + 1) n2])]) ?_
    first | refine g_elem TrydT_ok Tryd.func28 (gl) ?_ | refine s_elem TrydT_ok (gl) ?_
    first | refine g_cnd TrydT_ok Tryd.func28 rfl (fun h4 => ?_) (fun h4 => ?_) | refine g_know TrydT_ok Tryd.func28 rfl (fun h4 => ?_) (fun h4 => ?_) | refine s_know TrydT_ok (fun h4 => ?_) (fun h4 => ?_)
    · have h4 : x < a := of_decide_eq_true h4
      have : R = false := by rw [← hno]; simp [h4]
      subst this
      refine e_done TrydT_ok Tryd.func28 (by kernel_rfl) ?_
      repeat (first | refine g_cnd TrydT_ok Tryd.func28 rfl (fun _ => ?_) (fun h => absurd h (by decide)) | refine g_cnd TrydT_ok Tryd.func28 rfl (fun h => absurd h (by decide)) (fun _ => ?_) | refine g_know TrydT_ok Tryd.func28 rfl (fun _ => ?_) (fun h => absurd h (by decide)) | refine g_know TrydT_ok Tryd.func28 rfl (fun h => absurd h (by decide)) (fun _ => ?_) | refine s_know TrydT_ok (fun _ => ?_) (fun h => absurd h (by decide)) | refine s_know TrydT_ok (fun h => absurd h (by decide)) (fun _ => ?_))
      refine g_ret TrydT_ok (r := bb false) rfl rfl rfl trivial rfl rfl ?_
      rfl
    have h4 : ¬ x < a := of_decide_eq_false h4
    first | refine g_need TrydT_ok Tryd.func28 (by exact ⟨by omega, by show (i : Int) < (v.length : Int); omega⟩) ?_ | refine s_need TrydT_ok (by exact ⟨by omega, by show (i : Int) < (v.length : Int); omega⟩) ?_
    first | refine g_elem TrydT_ok Tryd.func28 (gv) ?_ | refine s_elem TrydT_ok (gv) ?_
    first | refine g_obj TrydT_ok Tryd.func28 (hO2 [(2, .box [.osl (d + 1) n1, .osl (d + 1) n2])]) ?_ | refine s_obj TrydT_ok (hO2 [(2, .box [.osl (d + 1) n1, .osl (d + 1) n2])]) ?_
    first | refine g_need TrydT_ok Tryd.func28 (by exact ⟨by omega, by show (i : Int) < (hi.length : Int); omega⟩) ?_ | refine s_need TrydT_ok (by exact ⟨by omega, by show (i : Int) < (hi.length : Int); omega⟩) ?_
    first | refine g_obj TrydT_ok Tryd.func28 (hO2 [(2, .box [.osl (d + 1) n1, .osl (d + 1) n2])]) ?_ | refine s_obj TrydT_ok (hO2 [(2, .box [.osl (d + 1) n1, .osl (d + 1) n2])]) ?_
    first | refine g_elem TrydT_ok Tryd.func28 (gh) ?_ | refine s_elem TrydT_ok (gh) ?_
    refine e_done TrydT_ok Tryd.func28 (by kernel_rfl) ?_
    first | refine g_cnd TrydT_ok Tryd.func28 rfl (fun h5 => ?_) (fun h5 => ?_) | refine g_know TrydT_ok Tryd.func28 rfl (fun h5 => ?_) (fun h5 => ?_) | refine s_know TrydT_ok (fun h5 => ?_) (fun h5 => ?_)
    · have h5 : c < x := of_decide_eq_true h5
      have : R = false := by rw [← hno]; simp [h5]
      subst this
      refine g_ret TrydT_ok (r := bb false) rfl rfl rfl trivial rfl rfl ?_
      rfl
    have h5 : ¬ c < x := of_decide_eq_false h5
    have hno : contB (v.drop (i + 1)) (lo.drop (i + 1)) (hi.drop (i + 1)) = R := by rw [← hno]; simp [h4, h5]
    refine g_loop ?_
    exact ih (i + 1) _ _ ⟨h3, hno⟩ (by omega) ⟨rfl, rfl, congrArg ii (wsucc h3 hl), trivial⟩ rfl ⟨rfl, trivial⟩ rfl rfl
  · have h3 : v.length ≤ i := by simpa using g1
    rw [List.drop_eq_nil_of_le h3] at hno
    have : R = true := by rw [← hno]; cases lo.drop i <;> cases hi.drop i <;> rfl
    subst this
    refine g_ret TrydT_ok (r := bb true) rfl rfl rfl trivial rfl rfl ?_
    rfl

def permR (b : Bx) : List (List Int) → List Bool → List Bool → Bool
  | d :: ds, t :: ts, c :: cs => if c then (if !t then (if b.has d then false else permR b ds ts cs) else permR b ds ts cs) else permR b ds ts cs
  | _, _, _ => true
theorem permR_free (b : Bx) : ∀ (all : List (List Int)) (t c : List Bool), permR b all t c = freeR (refusedR all t c) b
  | [], _, _ => rfl
  | _ :: _, [], _ => rfl
  | _ :: _, _ :: _, [] => rfl
  | d :: ds, t :: ts, c :: cs => by
    have ih := permR_free b ds ts cs
    unfold freeR at *
    simp only [permR, refusedR]
    cases c <;> cases t <;> simp [ih]
theorem permitted136 (O : List Heap) (all : List (List Int)) (t care : List Bool) (b : Bx) (d n1 n2 : Nat) (ho1 : objAt O d n1 = some (oints b.low)) (ho2 : objAt O d n2 = some (oints b.high)) (hr : all.length ≤ 4096) (ht : t.length = all.length) (hc : care.length = all.length)
    (hv : ∀ v ∈ all, v.length ≤ b.low.length ∧ v.length ≤ b.high.length ∧ v.length ≤ max63) : ASpec Tryd.prog 136 [.agg [.osl d n1, .osl d n2], intss all, bools t, bools care] O (bb (freeR (refusedR all t care) b)) [] O := by
  rw [← permR_free]
  generalize hR : permR b all t care = R
  refine aspec_intro TrydT_ok Tryd.func136 rfl Tryd.call136 Tryd.ntmps136 (Nat.le_of_ble_eq_true rfl) fun E => ?_
  refine g_run TrydT_ok Tryd.func136 ?_
  refine g_loop ?_
  refine rch_loop2 (fun i : Nat => [(1, intss all), (2, bools t), (3, bools care), (4, .own 0 4 0 0), (9, ii i)]) (fun i => [(4, .box [.osl (d + 1) n1, .osl (d + 1) n2])]) (fun _ => O) 35
    (fun i => i ≤ all.length ∧ permR b (all.drop i) (t.drop i) (care.drop i) = R) (fun i => all.length - i) 0 ⟨Nat.zero_le _, hR⟩ ⟨rfl, rfl, rfl, rfl, rfl, trivial⟩ rfl ⟨rfl, trivial⟩ rfl rfl ?_
  rintro i ⟨hi', hno⟩ ih
  clear hR
  refine g_run TrydT_ok Tryd.func136 ?_
  first | refine g_cnd TrydT_ok Tryd.func136 rfl (fun g1 => ?_) (fun g1 => ?_) | refine g_know TrydT_ok Tryd.func136 rfl (fun g1 => ?_) (fun g1 => ?_) | refine s_know TrydT_ok (fun g1 => ?_) (fun g1 => ?_)
  · have h3 : i < all.length := by simpa using g1
    have gv : (all.map fun x => [intsI x])[(i : Int).toNat]? = some [intsI all[i]] := get_mapZ (f := fun x => [intsI x]) h3
    have gl : (t.map fun x => [I.v (.bool x)])[(i : Int).toNat]? = some [I.v (.bool (t[i]'(by omega)))] := get_mapZ (f := fun x => [I.v (.bool x)]) (by omega)
    have gh : (care.map fun x => [I.v (.bool x)])[(i : Int).toNat]? = some [I.v (.bool (care[i]'(by omega)))] := get_mapZ (f := fun x => [I.v (.bool x)]) (by omega)
    have dv : all.drop i = all[i] :: all.drop (i + 1) := List.drop_eq_getElem_cons h3
    have dl : t.drop i = (t[i]'(by omega)) :: t.drop (i + 1) := List.drop_eq_getElem_cons (by omega)
    have dh : care.drop i = (care[i]'(by omega)) :: care.drop (i + 1) := List.drop_eq_getElem_cons (by omega)
    rw [dv, dl, dh] at hno
    simp only [permR] at hno
    clear dv dl dh
    have hx := hv _ (List.getElem_mem h3)
    generalize all[i] = x at *
    generalize t[i]'(by omega) = a at *
    generalize care[i]'(by omega) = c at *
    have hw := fun O d => within28o O b x d n1 n2
    have hi1 : ii (IntKind.i64.wrap ((i : Int) + 1)) = ii ((i + 1 : Nat) : Int) := congrArg ii (wsucc (n := 4096) (by omega) (by decide))
    refine g_drawn TrydT_ok Tryd.func136 mixedT rfl ?_
    first | refine g_need TrydT_ok Tryd.func136 (by exact ⟨by omega, by show (i : Int) < (care.length : Int); omega⟩) ?_ | refine s_need TrydT_ok (by exact ⟨by omega, by show (i : Int) < (care.length : Int); omega⟩) ?_
    first | refine g_elem TrydT_ok Tryd.func136 (gh) ?_ | refine s_elem TrydT_ok (gh) ?_
    cases c with
    | false =>
      first | refine g_cnd TrydT_ok Tryd.func136 rfl (fun h4 => ?_) (fun h4 => ?_) | refine g_know TrydT_ok Tryd.func136 rfl (fun h4 => ?_) (fun h4 => ?_) | refine s_know TrydT_ok (fun h4 => ?_) (fun h4 => ?_)
      · cases h4
      first | refine g_cnd TrydT_ok Tryd.func136 rfl (fun h5 => ?_) (fun h5 => ?_) | refine g_know TrydT_ok Tryd.func136 rfl (fun h5 => ?_) (fun h5 => ?_) | refine s_know TrydT_ok (fun h5 => ?_) (fun h5 => ?_)
      · cases h5
      refine e_done TrydT_ok Tryd.func136 (by kernel_rfl) ?_
      repeat (first | refine g_cnd TrydT_ok Tryd.func136 rfl (fun _ => ?_) (fun h => absurd h (by decide)) | refine g_cnd TrydT_ok Tryd.func136 rfl (fun h => absurd h (by decide)) (fun _ => ?_) | refine g_know TrydT_ok Tryd.func136 rfl (fun _ => ?_) (fun h => absurd h (by decide)) | refine g_know TrydT_ok Tryd.func136 rfl (fun h => absurd h (by decide)) (fun _ => ?_) | refine s_know TrydT_ok (fun _ => ?_) (fun h => absurd h (by decide)) | refine s_know TrydT_ok (fun h => absurd h (by decide)) (fun _ => ?_))
      refine g_loop ?_
      exact ih (i + 1) _ _ ⟨h3, hno⟩ (by omega) ⟨rfl, rfl, rfl, rfl, hi1, trivial⟩ rfl ⟨rfl, trivial⟩ rfl rfl
    | true =>
      first | refine g_cnd TrydT_ok Tryd.func136 rfl (fun h4 => ?_) (fun h4 => ?_) | refine g_know TrydT_ok Tryd.func136 rfl (fun h4 => ?_) (fun h4 => ?_) | refine s_know TrydT_ok (fun h4 => ?_) (fun h4 => ?_)
      rotate_left
      · cases h4
      first | refine g_need TrydT_ok Tryd.func136 (by exact ⟨by omega, by show (i : Int) < (t.length : Int); omega⟩) ?_ | refine s_need TrydT_ok (by exact ⟨by omega, by show (i : Int) < (t.length : Int); omega⟩) ?_
      first | refine g_elem TrydT_ok Tryd.func136 (gl) ?_ | refine s_elem TrydT_ok (gl) ?_
      cases a with
      | true =>
        first | refine g_cnd TrydT_ok Tryd.func136 rfl (fun h5 => ?_) (fun h5 => ?_) | refine g_know TrydT_ok Tryd.func136 rfl (fun h5 => ?_) (fun h5 => ?_) | refine s_know TrydT_ok (fun h5 => ?_) (fun h5 => ?_)
        · cases h5
        refine e_done TrydT_ok Tryd.func136 (by kernel_rfl) ?_
        repeat (first | refine g_cnd TrydT_ok Tryd.func136 rfl (fun _ => ?_) (fun h => absurd h (by decide)) | refine g_cnd TrydT_ok Tryd.func136 rfl (fun h => absurd h (by decide)) (fun _ => ?_) | refine g_know TrydT_ok Tryd.func136 rfl (fun _ => ?_) (fun h => absurd h (by decide)) | refine g_know TrydT_ok Tryd.func136 rfl (fun h => absurd h (by decide)) (fun _ => ?_) | refine s_know TrydT_ok (fun _ => ?_) (fun h => absurd h (by decide)) | refine s_know TrydT_ok (fun h => absurd h (by decide)) (fun _ => ?_))
        refine g_loop ?_
        exact ih (i + 1) _ _ ⟨h3, hno⟩ (by omega) ⟨rfl, rfl, rfl, rfl, hi1, trivial⟩ rfl ⟨rfl, trivial⟩ rfl rfl
      | false =>
        first | refine g_cnd TrydT_ok Tryd.func136 rfl (fun h5 => ?_) (fun h5 => ?_) | refine g_know TrydT_ok Tryd.func136 rfl (fun h5 => ?_) (fun h5 => ?_) | refine s_know TrydT_ok (fun h5 => ?_) (fun h5 => ?_)
        rotate_left
        · cases h5
        first | refine g_need TrydT_ok Tryd.func136 (by exact ⟨by omega, by show (i : Int) < (all.length : Int); omega⟩) ?_ | refine s_need TrydT_ok (by exact ⟨by omega, by show (i : Int) < (all.length : Int); omega⟩) ?_
        first | refine g_elem TrydT_ok Tryd.func136 (gv) ?_ | refine s_elem TrydT_ok (gv) ?_
        first | refine g_call TrydT_ok Tryd.func136 (hw _ _ (up_obj ho1) (up_obj ho2) hx.1 hx.2.1 hx.2.2) rfl rfl rfl rfl rfl ?_ | refine s_callq TrydT_ok (fun _ => hw _ _ (up_obj ho1) (up_obj ho2) hx.1 hx.2.1 hx.2.2) rfl rfl rfl ?_
        refine e_done TrydT_ok Tryd.func136 (by kernel_rfl) ?_
        first | refine g_cnd TrydT_ok Tryd.func136 rfl (fun h6 => ?_) (fun h6 => ?_) | refine g_know TrydT_ok Tryd.func136 rfl (fun h6 => ?_) (fun h6 => ?_) | refine s_know TrydT_ok (fun h6 => ?_) (fun h6 => ?_)
        · have : R = false := by rw [← hno]; simp [h6]
          subst this
          refine g_ret TrydT_ok (r := bb false) rfl rfl rfl trivial rfl rfl ?_
          rfl
        have hno : permR b (all.drop (i + 1)) (t.drop (i + 1)) (care.drop (i + 1)) = R := by rw [← hno]; simp [h6]
        refine g_loop ?_
        exact ih (i + 1) _ _ ⟨h3, hno⟩ (by omega) ⟨rfl, rfl, rfl, rfl, hi1, trivial⟩ rfl ⟨rfl, trivial⟩ rfl rfl
  · have h3 : all.length ≤ i := by simpa using g1
    rw [List.drop_eq_nil_of_le h3] at hno
    have : R = true := by rw [← hno]; rfl
    subst this
    refine g_ret TrydT_ok (r := bb true) rfl rfl rfl trivial rfl rfl ?_
    rfl
set_option maxHeartbeats 4000000 in
theorem grow73 (O : List Heap) (l : List Vr) (all : List (List Int)) (t care : List Bool) (v : List Int) (hl : l.length ≤ 16) (hb : ∀ a ∈ l, -65536 ≤ a.low ∧ a.high ≤ 65536) (hvl : v.length = l.length) (hvb : ∀ j, -65536 ≤ v.getD j 0 ∧ v.getD j 0 ≤ 65536) (hr : all.length ≤ 4096) (hrl : ∀ w ∈ all, w.length = l.length) (ht : t.length = all.length) (hc : care.length = all.length) :
    ASpec Tryd.prog 73 [vrs l, ints v, intss all, bools t, bools care] O (bxD (growVs (freeR (refusedR all t care)) l 0 ⟨v, v⟩)) [] O := by
  have hfree := fun (O : List Heap) (b : Bx) (d n1 n2 : Nat) (e1 : b.low.length = l.length) (e2 : b.high.length = l.length) (ho1 : objAt O d n1 = some (oints b.low)) (ho2 : objAt O d n2 = some (oints b.high)) => permitted136 O all t care b d n1 n2 ho1 ho2 hr ht hc (fun w hw => by have := hrl w hw; simp only [max63]; omega)
  generalize refusedR all t care = refused at *
  have hR0 : growVs (freeR refused) l 0 ⟨v, v⟩ = growVs (freeR refused) (l.drop 0) 0 ⟨v, v⟩ := rfl
  generalize growVs (freeR refused) l 0 ⟨v, v⟩ = R at *
  refine aspec_stop [7, 11] TrydT_ok Tryd.func73 rfl Tryd.call73 Tryd.ntmps73 (Nat.le_of_ble_eq_true rfl) fun E => ?_
  refine g_run TrydT_ok Tryd.func73 ?_
  first | refine g_need TrydT_ok Tryd.func73 (by exact ⟨by show (0 + v.length) * 8 ≤ 140737488355328; omega, by show 0 + v.length ≤ 9223372036854775807; omega⟩) ?_ | refine s_need TrydT_ok (by exact ⟨by show (0 + v.length) * 8 ≤ 140737488355328; omega, by show 0 + v.length ≤ 9223372036854775807; omega⟩) ?_
  first | refine g_need TrydT_ok Tryd.func73 (by exact ⟨by show (0 + v.length) * 8 ≤ 140737488355328; omega, by show 0 + v.length ≤ 9223372036854775807; omega⟩) ?_ | refine s_need TrydT_ok (by exact ⟨by show (0 + v.length) * 8 ≤ 140737488355328; omega, by show 0 + v.length ≤ 9223372036854775807; omega⟩) ?_
  refine g_loop ?_
  refine rch_loop2 (fun x : Nat × Bx => [(0, vrs l), (2, intss all), (3, bools t), (4, bools care), (10, .own 0 10 0 0), (11, .own 0 11 0 0), (12, ii x.1)]) (fun x => [(10, .box [.i (.v (.slice none 0 0)), .i (.v (.slice none 0 0))]), (11, .box [.osl 0 15, .osl 0 18]), (15, oints x.2.low), (18, oints x.2.high)]) (fun _ => O) 89
    (fun x => x.1 ≤ l.length ∧ x.2.low.length = l.length ∧ x.2.high.length = l.length ∧ (∀ j, -65536 ≤ x.2.low.getD j 0 ∧ x.2.low.getD j 0 ≤ 65536) ∧ (∀ j, -65536 ≤ x.2.high.getD j 0 ∧ x.2.high.getD j 0 ≤ 65536) ∧ R = growVs (freeR refused) (l.drop x.1) x.1 x.2) (fun x => l.length - x.1) (0, ⟨v, v⟩)
    ⟨Nat.zero_le _, hvl, hvl, hvb, hvb, hR0⟩ ⟨rfl, rfl, rfl, rfl, rfl, rfl, rfl, trivial⟩ rfl ⟨rfl, rfl, congrArg some (oints_zero v), congrArg some (oints_zero v), trivial⟩ rfl rfl ?_
  clear hR0
  rintro ⟨i, ⟨lo, hi⟩⟩ ⟨hi', hlo, hhi, hbl, hbh, hno⟩ ih
  simp only at hi' hlo hhi hbl hbh hno
  refine g_run TrydT_ok Tryd.func73 ?_
  first | refine g_cnd TrydT_ok Tryd.func73 rfl (fun g1 => ?_) (fun g1 => ?_) | refine g_know TrydT_ok Tryd.func73 rfl (fun g1 => ?_) (fun g1 => ?_) | refine s_know TrydT_ok (fun g1 => ?_) (fun g1 => ?_)
  · have h1 : i < l.length := by simpa using g1
    clear g1
    have hg : (l.map vrI)[(i : Int).toNat]? = some (vrI l[i]) := get_mapZ h1
    have hd : l.drop i = l[i] :: l.drop (i + 1) := List.drop_eq_getElem_cons h1
    have hbi := hb _ (List.getElem_mem h1)
    rw [hd] at hno
    simp only [growVs, growV] at hno
    generalize l[i] = va at *
    obtain ⟨nm, vl, vh, vi'⟩ := va
    simp only at hno hbi
    let n0 := (lo.getD i 0 - vl).toNat
    apply join_q (P := fun b : Bx => b.low.length = l.length ∧ b.high.length = l.length ∧ (∀ j, -65536 ≤ b.low.getD j 0 ∧ b.low.getD j 0 ≤ 65536) ∧ (∀ j, -65536 ≤ b.high.getD j 0 ∧ b.high.getD j 0 ≤ 65536) ∧ R = growVs (freeR refused) (l.drop (i + 1)) (i + 1) (upR (freeR refused) i vh (vh - b.high.getD i 0).toNat b))
      (s6 := fun b : Bx => { σ := [(0, vrs l), (2, intss all), (3, bools t), (4, bools care), (10, .own 0 10 0 0), (11, .own 0 11 0 0), (12, ii i)], S := [(10, .box [.i (.v (.slice none 0 0)), .i (.v (.slice none 0 0))]), (11, .box [.osl 0 15, .osl 0 18]), (15, oints b.low), (18, oints b.high)] :: O, n := 89 })
    · intro J
      refine g_loop ?_
      refine rch_loop2 (fun b : Bx => [(0, vrs l), (2, intss all), (3, bools t), (4, bools care), (10, .own 0 10 0 0), (11, .own 0 11 0 0), (12, ii i)]) (fun b => [(10, .box [.i (.v (.slice none 0 0)), .i (.v (.slice none 0 0))]), (11, .box [.osl 0 15, .osl 0 18]), (15, oints b.low), (18, oints b.high)]) (fun _ => O) 89
        (fun b => b.low.length = l.length ∧ b.high.length = l.length ∧ (∀ j, -65536 ≤ b.low.getD j 0 ∧ b.low.getD j 0 ≤ 65536) ∧ (∀ j, -65536 ≤ b.high.getD j 0 ∧ b.high.getD j 0 ≤ 65536) ∧ downR (freeR refused) i vl n0 ⟨lo, hi⟩ = downR (freeR refused) i vl (b.low.getD i 0 - vl).toNat b) (fun b => (b.low.getD i 0 - vl).toNat) ⟨lo, hi⟩
        ⟨hlo, hhi, hbl, hbh, rfl⟩ ⟨rfl, rfl, rfl, rfl, rfl, rfl, rfl, trivial⟩ rfl ⟨rfl, rfl, rfl, rfl, trivial⟩ rfl rfl ?_
      rintro ⟨lo', hi2⟩ ⟨hlo, hhi, hbl, hbh, hdn⟩ ih2
      simp only at hlo hhi hbl hbh hdn
      have hgl : (lo'.map fun x => [vi x])[(i : Int).toNat]? = some [vi (lo'.getD i 0)] := by
        rw [get_mapZ (f := fun x => [vi x]) (show i < lo'.length by omega), List.getD_eq_getElem?_getD, List.getElem?_eq_getElem (show i < lo'.length by omega)]; rfl
      have hxb := hbl i
      generalize hx : lo'.getD i 0 = x at *
      refine g_run TrydT_ok Tryd.func73 ?_
      refine g_drawn TrydT_ok Tryd.func73 mixedT rfl ?_
      first | refine g_need TrydT_ok Tryd.func73 (by exact ⟨by omega, by show (i : Int) < (lo'.length : Int); omega⟩) ?_ | refine s_need TrydT_ok (by exact ⟨by omega, by show (i : Int) < (lo'.length : Int); omega⟩) ?_
      first | refine g_elem TrydT_ok Tryd.func73 (hgl) ?_ | refine s_elem TrydT_ok (hgl) ?_
      first | refine g_need TrydT_ok Tryd.func73 (by exact ⟨by omega, by show (i : Int) < (l.length : Int); omega⟩) ?_ | refine s_need TrydT_ok (by exact ⟨by omega, by show (i : Int) < (l.length : Int); omega⟩) ?_
      first | refine g_elem TrydT_ok Tryd.func73 (hg) ?_ | refine s_elem TrydT_ok (hg) ?_
      refine e_done TrydT_ok Tryd.func73 (by kernel_rfl) ?_
      first | refine g_cnd TrydT_ok Tryd.func73 rfl (fun g2 => ?_) (fun g2 => ?_) | refine g_know TrydT_ok Tryd.func73 rfl (fun g2 => ?_) (fun g2 => ?_) | refine s_know TrydT_ok (fun g2 => ?_) (fun g2 => ?_)
      · have h2 : vl < x := of_decide_eq_true g2
        clear g2
        rw [show (x - vl).toNat = (x - 1 - vl).toNat + 1 by omega] at hdn
        simp only [downR, hx] at hdn
        rw [if_pos (by omega)] at hdn
        have hw : IntKind.i64.wrap (x - 1) = x - 1 := w64 (by omega) (by omega)
        first | refine g_need TrydT_ok Tryd.func73 (by exact ⟨by omega, by show (i : Int) < (lo'.length : Int); omega⟩) ?_ | refine s_need TrydT_ok (by exact ⟨by omega, by show (i : Int) < (lo'.length : Int); omega⟩) ?_
        first | refine g_elem TrydT_ok Tryd.func73 (hgl) ?_ | refine s_elem TrydT_ok (hgl) ?_
        first | refine g_need TrydT_ok Tryd.func73 (by exact ⟨by omega, by show (i : Int) < (lo'.length : Int); omega⟩) ?_ | refine s_need TrydT_ok (by exact ⟨by omega, by show (i : Int) < (lo'.length : Int); omega⟩) ?_
        refine g_stop ?_
        refine rch_meet (l := [(0, vrs l), (2, intss all), (3, bools t), (4, bools care), (10, .own 0 10 0 0), (11, .own 0 11 0 0), (12, ii i)]) (Hv := [(10, .box [.i (.v (.slice none 0 0)), .i (.v (.slice none 0 0))]), (11, .box [.osl 0 15, .osl 0 18]), (15, oints (lo'.set i (x - 1))), (18, oints hi2)]) (n := 89) ?_ ⟨rfl, rfl, rfl, rfl, rfl, rfl, rfl, trivial⟩ rfl ⟨rfl, rfl, by rw [hw]; exact congrArg some (oints_set lo' i (x - 1)), rfl, trivial⟩ rfl rfl
        refine g_run TrydT_ok Tryd.func73 ?_
        refine g_go TrydT_ok Tryd.func73 ?_
        first | refine g_call TrydT_ok Tryd.func73 (hfree _ ⟨lo'.set i (x - 1), hi2⟩ 0 15 18 (by simpa using hlo) hhi rfl rfl) rfl rfl rfl rfl rfl ?_ | refine s_callq TrydT_ok (fun _ => hfree _ ⟨lo'.set i (x - 1), hi2⟩ 0 15 18 (by simpa using hlo) hhi rfl rfl) rfl rfl rfl ?_
        have hlo2 : (lo'.set i (x - 1)).length = l.length := by simpa using hlo
        have hbl2 : ∀ j, -65536 ≤ (lo'.set i (x - 1)).getD j 0 ∧ (lo'.set i (x - 1)).getD j 0 ≤ 65536 := fun j => by
          rw [getD_set]
          split
          · omega
          · exact hbl j
        have hgx : (lo'.set i (x - 1)).getD i 0 = x - 1 := by rw [getD_set, if_pos ⟨rfl, by omega⟩]
        first | refine g_cnd TrydT_ok Tryd.func73 rfl (fun g3 => ?_) (fun g3 => ?_) | refine g_know TrydT_ok Tryd.func73 rfl (fun g3 => ?_) (fun g3 => ?_) | refine s_know TrydT_ok (fun g3 => ?_) (fun g3 => ?_)
        · have h3 : freeR refused ⟨lo'.set i (x - 1), hi2⟩ = false := notT g3
          rw [if_neg (by rw [h3]; simp)] at hdn
          have hw2 : IntKind.i64.wrap (x - 1 + 1) = x := by rw [w64 (by omega) (by omega)]; omega
          have hgl2 : ((lo'.set i (x - 1)).map fun x => [vi x])[(i : Int).toNat]? = some [vi (x - 1)] := by
            rw [get_mapZ (f := fun x => [vi x]) (show i < (lo'.set i (x - 1)).length by omega)]; simp
          have hback : (lo'.set i (x - 1)).set i x = lo' := by
            rw [List.set_set]
            apply List.ext_getElem? 
            intro j
            rw [List.getElem?_set]
            split
            · rename_i e
              subst e
              rw [if_pos (by omega), ← hx, List.getD_eq_getElem?_getD, List.getElem?_eq_getElem (show i < lo'.length by omega)]
              rfl
            · rfl
          first | refine g_need TrydT_ok Tryd.func73 (by exact ⟨by omega, by show (i : Int) < ((lo'.set i (x - 1)).length : Int); omega⟩) ?_ | refine s_need TrydT_ok (by exact ⟨by omega, by show (i : Int) < ((lo'.set i (x - 1)).length : Int); omega⟩) ?_
          first | refine g_elem TrydT_ok Tryd.func73 (hgl2) ?_ | refine s_elem TrydT_ok (hgl2) ?_
          first | refine g_need TrydT_ok Tryd.func73 (by exact ⟨by omega, by show (i : Int) < ((lo'.set i (x - 1)).length : Int); omega⟩) ?_ | refine s_need TrydT_ok (by exact ⟨by omega, by show (i : Int) < ((lo'.set i (x - 1)).length : Int); omega⟩) ?_
          refine g_loop ?_
          refine rch_meet (J ⟨lo', hi2⟩ ⟨hlo, hhi, hbl, hbh, ?_⟩) ⟨rfl, rfl, rfl, rfl, rfl, rfl, rfl, trivial⟩ rfl ⟨rfl, rfl, by rw [hw2]; exact congrArg some ((oints_set (lo'.set i (x - 1)) i x).trans (congrArg oints hback)), rfl, trivial⟩ rfl rfl
          rw [hno, hdn]
        · have h3 : freeR refused ⟨lo'.set i (x - 1), hi2⟩ = true := notF g3
          rw [if_pos h3] at hdn
          refine g_loop ?_
          refine ih2 ⟨lo'.set i (x - 1), hi2⟩ _ _ ⟨hlo2, hhi, hbl2, hbh, by simp only [hgx]; exact hdn⟩ (by simp only [hgx, hx]; omega) ⟨rfl, rfl, rfl, rfl, rfl, rfl, rfl, trivial⟩ rfl ⟨rfl, rfl, rfl, rfl, trivial⟩ rfl rfl
      · have h2 : ¬ vl < x := of_decide_eq_false g2
        rw [show (x - vl).toNat = 0 by omega] at hdn
        simp only [downR] at hdn
        refine g_loop ?_
        refine rch_meet (J ⟨lo', hi2⟩ ⟨hlo, hhi, hbl, hbh, ?_⟩) ⟨rfl, rfl, rfl, rfl, rfl, rfl, rfl, trivial⟩ rfl ⟨rfl, rfl, rfl, rfl, trivial⟩ rfl rfl
        rw [hno, hdn]
    rintro ⟨lo1, hi1⟩ ⟨hlo, hhi, hbl, hbh, hno⟩
    simp only at hlo hhi hbl hbh hno
    refine rch_loop2 (fun b : Bx => [(0, vrs l), (2, intss all), (3, bools t), (4, bools care), (10, .own 0 10 0 0), (11, .own 0 11 0 0), (12, ii i)]) (fun b => [(10, .box [.i (.v (.slice none 0 0)), .i (.v (.slice none 0 0))]), (11, .box [.osl 0 15, .osl 0 18]), (15, oints b.low), (18, oints b.high)]) (fun _ => O) 89
        (fun b => b.low.length = l.length ∧ b.high.length = l.length ∧ (∀ j, -65536 ≤ b.low.getD j 0 ∧ b.low.getD j 0 ≤ 65536) ∧ (∀ j, -65536 ≤ b.high.getD j 0 ∧ b.high.getD j 0 ≤ 65536) ∧ upR (freeR refused) i vh (vh - hi1.getD i 0).toNat ⟨lo1, hi1⟩ = upR (freeR refused) i vh (vh - b.high.getD i 0).toNat b) (fun b => (vh - b.high.getD i 0).toNat) ⟨lo1, hi1⟩
        ⟨hlo, hhi, hbl, hbh, rfl⟩ ⟨rfl, rfl, rfl, rfl, rfl, rfl, rfl, trivial⟩ rfl ⟨rfl, rfl, rfl, rfl, trivial⟩ rfl rfl ?_
    rintro ⟨lo2, hi'⟩ ⟨hlo, hhi, hbl, hbh, hdn⟩ ih2
    simp only at hlo hhi hbl hbh hdn
    have hgl : (hi'.map fun x => [vi x])[(i : Int).toNat]? = some [vi (hi'.getD i 0)] := by
      rw [get_mapZ (f := fun x => [vi x]) (show i < hi'.length by omega), List.getD_eq_getElem?_getD, List.getElem?_eq_getElem (show i < hi'.length by omega)]; rfl
    have hxb := hbh i
    generalize hx : hi'.getD i 0 = x at *
    refine g_run TrydT_ok Tryd.func73 ?_
    refine g_drawn TrydT_ok Tryd.func73 mixedT rfl ?_
    first | refine g_need TrydT_ok Tryd.func73 (by exact ⟨by omega, by show (i : Int) < (hi'.length : Int); omega⟩) ?_ | refine s_need TrydT_ok (by exact ⟨by omega, by show (i : Int) < (hi'.length : Int); omega⟩) ?_
    first | refine g_elem TrydT_ok Tryd.func73 (hgl) ?_ | refine s_elem TrydT_ok (hgl) ?_
    first | refine g_need TrydT_ok Tryd.func73 (by exact ⟨by omega, by show (i : Int) < (l.length : Int); omega⟩) ?_ | refine s_need TrydT_ok (by exact ⟨by omega, by show (i : Int) < (l.length : Int); omega⟩) ?_
    first | refine g_elem TrydT_ok Tryd.func73 (hg) ?_ | refine s_elem TrydT_ok (hg) ?_
    refine e_done TrydT_ok Tryd.func73 (by kernel_rfl) ?_
    first | refine g_cnd TrydT_ok Tryd.func73 rfl (fun g2 => ?_) (fun g2 => ?_) | refine g_know TrydT_ok Tryd.func73 rfl (fun g2 => ?_) (fun g2 => ?_) | refine s_know TrydT_ok (fun g2 => ?_) (fun g2 => ?_)
    · have h2 : x < vh := of_decide_eq_true g2
      clear g2
      rw [show (vh - x).toNat = (vh - (x + 1)).toNat + 1 by omega] at hdn
      simp only [upR, hx] at hdn
      rw [if_pos (by omega)] at hdn
      have hw : IntKind.i64.wrap (x + 1) = x + 1 := w64 (by omega) (by omega)
      first | refine g_need TrydT_ok Tryd.func73 (by exact ⟨by omega, by show (i : Int) < (hi'.length : Int); omega⟩) ?_ | refine s_need TrydT_ok (by exact ⟨by omega, by show (i : Int) < (hi'.length : Int); omega⟩) ?_
      first | refine g_elem TrydT_ok Tryd.func73 (hgl) ?_ | refine s_elem TrydT_ok (hgl) ?_
      first | refine g_need TrydT_ok Tryd.func73 (by exact ⟨by omega, by show (i : Int) < (hi'.length : Int); omega⟩) ?_ | refine s_need TrydT_ok (by exact ⟨by omega, by show (i : Int) < (hi'.length : Int); omega⟩) ?_
      refine g_stop ?_
      refine rch_meet (l := [(0, vrs l), (2, intss all), (3, bools t), (4, bools care), (10, .own 0 10 0 0), (11, .own 0 11 0 0), (12, ii i)]) (Hv := [(10, .box [.i (.v (.slice none 0 0)), .i (.v (.slice none 0 0))]), (11, .box [.osl 0 15, .osl 0 18]), (15, oints lo2), (18, oints (hi'.set i (x + 1)))]) (n := 89) ?_ ⟨rfl, rfl, rfl, rfl, rfl, rfl, rfl, trivial⟩ rfl ⟨rfl, rfl, rfl, by rw [hw]; exact congrArg some (oints_set hi' i (x + 1)), trivial⟩ rfl rfl
      refine g_run TrydT_ok Tryd.func73 ?_
      refine g_go TrydT_ok Tryd.func73 ?_
      first | refine g_call TrydT_ok Tryd.func73 (hfree _ ⟨lo2, hi'.set i (x + 1)⟩ 0 15 18 hlo (by simpa using hhi) rfl rfl) rfl rfl rfl rfl rfl ?_ | refine s_callq TrydT_ok (fun _ => hfree _ ⟨lo2, hi'.set i (x + 1)⟩ 0 15 18 hlo (by simpa using hhi) rfl rfl) rfl rfl rfl ?_
      have hhi2 : (hi'.set i (x + 1)).length = l.length := by simpa using hhi
      have hbh2 : ∀ j, -65536 ≤ (hi'.set i (x + 1)).getD j 0 ∧ (hi'.set i (x + 1)).getD j 0 ≤ 65536 := fun j => by
        rw [getD_set]
        split
        · omega
        · exact hbh j
      have hgx : (hi'.set i (x + 1)).getD i 0 = x + 1 := by rw [getD_set, if_pos ⟨rfl, by omega⟩]
      first | refine g_cnd TrydT_ok Tryd.func73 rfl (fun g3 => ?_) (fun g3 => ?_) | refine g_know TrydT_ok Tryd.func73 rfl (fun g3 => ?_) (fun g3 => ?_) | refine s_know TrydT_ok (fun g3 => ?_) (fun g3 => ?_)
      · have h3 : freeR refused ⟨lo2, hi'.set i (x + 1)⟩ = false := notT g3
        rw [if_neg (by rw [h3]; simp)] at hdn
        have hw2 : IntKind.i64.wrap (x + 1 - 1) = x := by rw [w64 (by omega) (by omega)]; omega
        have hgl2 : ((hi'.set i (x + 1)).map fun x => [vi x])[(i : Int).toNat]? = some [vi (x + 1)] := by
          rw [get_mapZ (f := fun x => [vi x]) (show i < (hi'.set i (x + 1)).length by omega)]; simp
        have hback : (hi'.set i (x + 1)).set i x = hi' := by
          rw [List.set_set]
          apply List.ext_getElem?
          intro j
          rw [List.getElem?_set]
          split
          · rename_i e
            subst e
            rw [if_pos (by omega), ← hx, List.getD_eq_getElem?_getD, List.getElem?_eq_getElem (show i < hi'.length by omega)]
            rfl
          · rfl
        first | refine g_need TrydT_ok Tryd.func73 (by exact ⟨by omega, by show (i : Int) < ((hi'.set i (x + 1)).length : Int); omega⟩) ?_ | refine s_need TrydT_ok (by exact ⟨by omega, by show (i : Int) < ((hi'.set i (x + 1)).length : Int); omega⟩) ?_
        first | refine g_elem TrydT_ok Tryd.func73 (hgl2) ?_ | refine s_elem TrydT_ok (hgl2) ?_
        first | refine g_need TrydT_ok Tryd.func73 (by exact ⟨by omega, by show (i : Int) < ((hi'.set i (x + 1)).length : Int); omega⟩) ?_ | refine s_need TrydT_ok (by exact ⟨by omega, by show (i : Int) < ((hi'.set i (x + 1)).length : Int); omega⟩) ?_
        refine g_loop ?_
        refine ih (i + 1, ⟨lo2, hi'⟩) _ _ ⟨h1, hlo, hhi, hbl, hbh, ?_⟩ (by simp only; omega) ⟨rfl, rfl, rfl, rfl, rfl, rfl, congrArg ii (wsucc (n := 16) (by omega) (by decide)), trivial⟩ rfl ⟨rfl, rfl, rfl, by rw [hw2]; exact congrArg some ((oints_set (hi'.set i (x + 1)) i x).trans (congrArg oints hback)), trivial⟩ rfl rfl
        rw [hno, hdn]
      · have h3 : freeR refused ⟨lo2, hi'.set i (x + 1)⟩ = true := notF g3
        rw [if_pos h3] at hdn
        refine g_loop ?_
        refine ih2 ⟨lo2, hi'.set i (x + 1)⟩ _ _ ⟨hlo, hhi2, hbl, hbh2, by simp only [hgx]; exact hdn⟩ (by simp only [hgx, hx]; omega) ⟨rfl, rfl, rfl, rfl, rfl, rfl, rfl, trivial⟩ rfl ⟨rfl, rfl, rfl, rfl, trivial⟩ rfl rfl
    · have h2 : ¬ x < vh := of_decide_eq_false g2
      rw [show (vh - x).toNat = 0 by omega] at hdn
      simp only [upR] at hdn
      refine g_loop ?_
      refine ih (i + 1, ⟨lo2, hi'⟩) _ _ ⟨h1, hlo, hhi, hbl, hbh, ?_⟩ (by simp only; omega) ⟨rfl, rfl, rfl, rfl, rfl, rfl, congrArg ii (wsucc (n := 16) (by omega) (by decide)), trivial⟩ rfl ⟨rfl, rfl, rfl, rfl, trivial⟩ rfl rfl
      rw [hno, hdn]
  · have h1 : l.length ≤ i := by simpa using g1
    rw [List.drop_eq_nil_of_le h1] at hno
    simp only [growVs] at hno
    subst hno
    refine g_rwk (wk_freeze 15 rfl rfl) ?_
    refine g_rwk (wk_freeze 18 rfl rfl) ?_
    refine g_rwk (wk_imm rfl) ?_
    refine g_ret TrydT_ok (r := bxD ⟨lo, hi⟩) rfl rfl rfl trivial rfl rfl ?_
    rfl
end Go.AI


/- The law's domain, table, bits. -/
namespace Go.AI
open Go.Proofs
set_option maxRecDepth 20000
theorem domain17 (O : List Heap) (l : List Vr) (hl : l.length ≤ 16) (hv : ∀ v ∈ l, (-65536 ≤ v.low ∧ v.high ≤ 65536) ∧ v.low ≤ v.high) (hcl : ∀ j, (allV (l.take j)).length ≤ 4096) : ASpec Tryd.prog 17 [vrs l] O (intss (allV l)) [] O := by
  refine aspec_stop [200045] TrydT_ok Tryd.func17 rfl Tryd.call17 Tryd.ntmps17 (Nat.le_of_ble_eq_true rfl) fun E => ?_
  refine g_run TrydT_ok Tryd.func17 ?_
  refine g_loop ?_
  have hco : CoD (.i (.sl 1 1 [[.v (.slice none 0 0)]])) (intss [[]]) := by
    show CoD _ (.i (.sl 1 1 [[.sl 1 0 []]]))
    repeat' (first | refine coD_tup ?_ | refine coD_agg ?_ | refine coD_i ?_ | refine CoDL.cons ?_ ?_ | exact CoDL.nil | exact coI_nil | refine coI_sl ?_ | refine CoLL.cons ?_ ?_ | exact CoLL.nil | refine CoL.cons ?_ ?_ | exact CoL.nil | exact CoI.refl _ | exact CoL.refl _ | exact CoLL.refl _ | exact CoDL.refl _ | exact CoD.refl _)
  refine rch_wk (wk_freeze 8 rfl rfl) ?_
  refine rch_wk (wk_imm rfl) ?_
  refine rch_wk (wk_co 3 (d := intss [[]]) (by exact hco)) ?_
  clear hco
  refine rch_loop2 (fun x : Nat × List (List Int) => [(0, vrs l), (3, intss x.2), (4, ii x.1)]) (fun _ => []) (fun _ => O) 49
    (fun x => x.1 ≤ l.length ∧ x.2 = allV (l.take x.1) ∧ ∀ y ∈ x.2, y.length = x.1) (fun x => l.length - x.1) (0, [[]]) ⟨Nat.zero_le _, rfl, by simp⟩ ⟨rfl, rfl, rfl, trivial⟩ rfl trivial rfl rfl ?_
  rintro ⟨j, out⟩ ⟨hj, hout, hvals⟩ ih
  simp only at hj hout hvals
  have hlen : out.length ≤ 4096 := by rw [hout]; exact hcl j
  refine g_run TrydT_ok Tryd.func17 ?_
  first | refine g_cnd TrydT_ok Tryd.func17 rfl (fun g1 => ?_) (fun g1 => ?_) | refine g_know TrydT_ok Tryd.func17 rfl (fun g1 => ?_) (fun g1 => ?_) | refine s_know TrydT_ok (fun g1 => ?_) (fun g1 => ?_)
  · have h1 : j < l.length := by simpa using g1
    clear g1
    have hg : (l.map vrI)[(j : Int).toNat]? = some (vrI l[j]) := get_mapZ h1
    have hvo := hv _ (List.getElem_mem h1)
    have hnext : allStep out l[j] = allV (l.take (j + 1)) := by
      rw [hout]
      unfold allV
      rw [List.take_add_one, List.getElem?_eq_getElem h1, List.foldl_append]
      rfl
    have hsl : (allStep out l[j]).length ≤ 4096 := by rw [hnext]; exact hcl (j + 1)
    generalize l[j] = v at *
    obtain ⟨⟨hlo, hhi⟩, hlh⟩ := hvo
    have hpre : ∀ i, (allStep (out.take i) v).length ≤ 4096 := fun i => by
      have h1 := allStep_len' out v (by omega)
      have h2 := allStep_len' (out.take i) v (by omega)
      have h3 : (out.take i).length ≤ out.length := by simp only [List.length_take]; omega
      have h4 : ((out.take i).length : Int) * v.w ≤ out.length * v.w := Int.mul_le_mul_of_nonneg_right (by omega) (by unfold Vr.w; omega)
      omega
    have hsv := allStep_vals (out := out) (v := v) hvals
    refine g_loop ?_
    refine rch_wk (wk_nil 5 46 53 1 rfl rfl rfl) ?_
    refine rch_loop2 (fun x : Nat × List (List Int) => [(0, vrs l), (3, intss out), (4, ii j), (5, .osl 0 46), (6, ii x.1)]) (fun x => [(46, ointss x.2)]) (fun _ => O) 49
      (fun x => x.1 ≤ out.length ∧ x.2 = allStep (out.take x.1) v) (fun x => out.length - x.1) (0, []) ⟨Nat.zero_le _, rfl⟩ ⟨rfl, rfl, rfl, rfl, rfl, trivial⟩ rfl ⟨rfl, trivial⟩ rfl rfl ?_
    rintro ⟨i, acc⟩ ⟨hi, hacc⟩ ih2
    simp only at hi hacc
    refine g_run TrydT_ok Tryd.func17 ?_
    first | refine g_cnd TrydT_ok Tryd.func17 rfl (fun g2 => ?_) (fun g2 => ?_) | refine g_know TrydT_ok Tryd.func17 rfl (fun g2 => ?_) (fun g2 => ?_) | refine s_know TrydT_ok (fun g2 => ?_) (fun g2 => ?_)
    · have h2 : i < out.length := by simpa using g2
      clear g2
      have hgo : (out.map fun x => [intsI x])[(i : Int).toNat]? = some [intsI out[i]] := get_mapZ (f := fun x => [intsI x]) h2
      have hxl := hvals _ (List.getElem_mem h2)
      have hnx : allStep (out.take (i + 1)) v = acc ++ (rangeI v.low v.high).map fun n => out[i] ++ [n] := by
        rw [hacc]
        unfold allStep
        rw [List.take_add_one, List.getElem?_eq_getElem h2, List.flatMap_append]
        simp
      have hal : acc.length ≤ 4096 := by
        rw [hacc]
        exact hpre i
      generalize out[i] = vals at *
      have hk0 : rangeI v.low (v.low + ((0 : Nat) : Int) - 1) = [] := by
        unfold rangeI
        rw [show (v.low + ((0 : Nat) : Int) - 1 - v.low + 1).toNat = 0 by omega]
        rfl
      have hjb : 0 ≤ (j : Int) ∧ (j : Int) < (l.length : Int) := by omega
      first | refine g_need TrydT_ok Tryd.func17 (by exact hjb) ?_ | refine s_need TrydT_ok (by exact hjb) ?_
      first | refine g_elem TrydT_ok Tryd.func17 (hg) ?_ | refine s_elem TrydT_ok (hg) ?_
      refine g_loop ?_
      refine rch_loop2 (fun k : Nat => [(0, vrs l), (3, intss out), (4, ii j), (5, .osl 0 46), (6, ii i), (7, ii (v.low + k))])
        (fun k => [(46, ointss (acc ++ (rangeI v.low (v.low + k - 1)).map fun n => vals ++ [n]))]) (fun _ => O) 49
        (fun k => (k : Int) ≤ v.high - v.low + 1) (fun k => (v.high - v.low + 1).toNat - k) 0 (show ((0 : Nat) : Int) ≤ v.high - v.low + 1 by omega) ⟨rfl, rfl, rfl, rfl, rfl, congrArg ii (by simp), trivial⟩ rfl ⟨by show some (ointss acc) = some (ointss (acc ++ (rangeI v.low (v.low + ((0 : Nat) : Int) - 1)).map fun n => vals ++ [n])); rw [hk0]; simp, trivial⟩ rfl rfl ?_
      rintro k hk ih3
      have hk : (k : Int) ≤ v.high - v.low + 1 := hk
      have hks : (rangeI v.low (v.low + ((k + 1 : Nat) : Int) - 1)).map (fun n => vals ++ [n]) = (rangeI v.low (v.low + k - 1)).map (fun n => vals ++ [n]) ++ [vals ++ [v.low + k]] := by
        unfold rangeI
        rw [show (v.low + ((k + 1 : Nat) : Int) - 1 - v.low + 1).toNat = k + 1 by omega, show (v.low + (k : Int) - 1 - v.low + 1).toNat = k by omega, List.range_succ, List.map_append, List.map_append]
        rfl
      have hkl : ((rangeI v.low (v.low + k - 1)).map fun n => vals ++ [n]).length = k := by
        unfold rangeI
        simp
        omega
      have hke : (k : Int) = v.high - v.low + 1 → (rangeI v.low (v.low + k - 1)).map (fun n => vals ++ [n]) = (rangeI v.low v.high).map fun n => vals ++ [n] := fun e => by rw [e, show v.low + (v.high - v.low + 1) - 1 = v.high by omega]
      generalize (rangeI v.low (v.low + k - 1)).map (fun n => vals ++ [n]) = part at *
      refine g_run TrydT_ok Tryd.func17 ?_
      first | refine g_need TrydT_ok Tryd.func17 (by exact hjb) ?_ | refine s_need TrydT_ok (by exact hjb) ?_
      first | refine g_elem TrydT_ok Tryd.func17 (hg) ?_ | refine s_elem TrydT_ok (hg) ?_
      first | refine g_cnd TrydT_ok Tryd.func17 rfl (fun g3 => ?_) (fun g3 => ?_) | refine g_know TrydT_ok Tryd.func17 rfl (fun g3 => ?_) (fun g3 => ?_) | refine s_know TrydT_ok (fun g3 => ?_) (fun g3 => ?_)
      · have h3 : v.low + k ≤ v.high := of_decide_eq_true g3
        clear g3
        first | refine g_need TrydT_ok Tryd.func17 (by exact ⟨by omega, by show (i : Int) < (out.length : Int); omega⟩) ?_ | refine s_need TrydT_ok (by exact ⟨by omega, by show (i : Int) < (out.length : Int); omega⟩) ?_
        first | refine g_elem TrydT_ok Tryd.func17 (hgo) ?_ | refine s_elem TrydT_ok (hgo) ?_
        first | refine g_need TrydT_ok Tryd.func17 (by exact ⟨by show (0 + vals.length) * 8 ≤ 140737488355328; omega, by show 0 + vals.length ≤ 9223372036854775807; omega⟩) ?_ | refine s_need TrydT_ok (by exact ⟨by show (0 + vals.length) * 8 ≤ 140737488355328; omega, by show 0 + vals.length ≤ 9223372036854775807; omega⟩) ?_
        first | refine g_need TrydT_ok Tryd.func17 (by exact ⟨by show (0 + vals.length + 1) * 8 ≤ 140737488355328; omega, by show 0 + vals.length + 1 ≤ 9223372036854775807; omega⟩) ?_ | refine s_need TrydT_ok (by exact ⟨by show (0 + vals.length + 1) * 8 ≤ 140737488355328; omega, by show 0 + vals.length + 1 ≤ 9223372036854775807; omega⟩) ?_
        refine g_pause TrydT_ok Tryd.func17 rfl rfl (Wk.trans (wk_freeze 44 rfl rfl) (wk_imm rfl)) ?_
        first | refine g_need TrydT_ok Tryd.func17 (by exact ⟨by show ((acc ++ part).length + 1) * 24 ≤ 140737488355328; simp only [List.length_append]; omega, by show (acc ++ part).length + 1 ≤ 9223372036854775807; simp only [List.length_append]; omega⟩) ?_ | refine s_need TrydT_ok (by exact ⟨by show ((acc ++ part).length + 1) * 24 ≤ 140737488355328; simp only [List.length_append]; omega, by show (acc ++ part).length + 1 ≤ 9223372036854775807; simp only [List.length_append]; omega⟩) ?_
        refine g_loop ?_
        refine ih3 (k + 1) _ _ (show ((k + 1 : Nat) : Int) ≤ v.high - v.low + 1 by omega) (by omega) ⟨rfl, rfl, rfl, rfl, rfl, congrArg ii ?_, trivial⟩ rfl ⟨?_, trivial⟩ rfl rfl
        · rw [w64 (by omega) (by omega)]; omega
        · rw [hks]
          have e : (vals ++ [v.low + (k : Int)]).map (fun x => [vi x]) = [] ++ vals.map (fun x => [vi x]) ++ [[vi (v.low + k)]] := by simp
          show some (Ob.arr 53 1 ((acc ++ part).length + 1) ((acc ++ part).map (fun x => [intsI x]) ++ [[.sl 1 (0 + vals.length + 1) ([] ++ vals.map (fun x => [vi x]) ++ [[vi (v.low + k)]])]]) true) = some (ointss (acc ++ (part ++ [vals ++ [v.low + (k : Int)]])))
          rw [← List.append_assoc acc part]
          have e2 : 0 + vals.length + 1 = (vals ++ [v.low + (k : Int)]).length := by simp
          rw [← e, e2]
          exact congrArg some (ointss_app _ _)
      · have h3 : ¬ v.low + k ≤ v.high := of_decide_eq_false g3
        clear g3
        rw [hke (by omega)]
        refine g_loop ?_
        refine ih2 (i + 1, acc ++ (rangeI v.low v.high).map fun n => vals ++ [n]) _ _ ⟨h2, hnx.symm⟩ (by simp only; omega) ⟨rfl, rfl, rfl, rfl, congrArg ii (wsucc (n := 4096) (by omega) (by decide)), trivial⟩ rfl ⟨rfl, trivial⟩ rfl rfl
    · have h2 : out.length ≤ i := by simpa using g2
      clear g2
      rw [List.take_of_length_le h2] at hacc
      refine g_loop ?_
      refine rch_wk (wk_freeze 46 rfl rfl) ?_
      refine rch_wk (wk_imm rfl) ?_
      rw [hacc] at *
      refine ih (j + 1, allStep out v) _ _ ⟨h1, hnext, hsv⟩ (by simp only; omega) ⟨rfl, rfl, congrArg ii (wsucc (n := 16) (by omega) (by decide)), trivial⟩ rfl trivial rfl rfl
  · have h1 : l.length ≤ j := by simpa using g1
    rw [List.take_of_length_le h1] at hout
    subst hout
    refine g_ret TrydT_ok (r := intss (allV l)) rfl rfl rfl trivial rfl rfl ?_
    rfl
end Go.AI


/- The law's table, bits, covered. -/
namespace Go.AI
open Go.Proofs
set_option maxRecDepth 20000
/-- What the law asks of variables. -/
structure domOk (l : List Vr) : Prop where
  len : l.length ≤ 16
  b : ∀ v ∈ l, (-65536 ≤ v.low ∧ v.high ≤ 65536) ∧ v.low ≤ v.high
  cnt : ∀ j, (allV (l.take j)).length ≤ 4096
theorem domOk.all {l : List Vr} (h : domOk l) : (allV l).length ≤ 4096 := by have := h.cnt l.length; rwa [List.take_length] at this
theorem allV_mem_len {l : List Vr} {v : List Int} (h : v ∈ allV l) : v.length = l.length := inV_len ((allV_dom l).mem v |>.1 h)
def bitU (n : Int) (i : Nat) : Bool := bits .and .u64 (n / 2 ^ (i : Int).toNat) 1 == 1
def bitsR (n : Int) (size : Nat) : List Bool := (List.range size).map (bitU n)
theorem bitsR_len (n : Int) (size : Nat) : (bitsR n size).length = size := by simp [bitsR]
theorem bitsR_succ (n : Int) (i : Nat) : bitsR n (i + 1) = bitsR n i ++ [bitU n i] := by simp [bitsR, List.range_succ]
abbrev u64D (n : Int) : D := .i (.v (.int .u64 n))
theorem bits18 (O : List Heap) (n : Int) (size : Nat) (hn : 0 ≤ n) (hs : size ≤ 64) : ASpec Tryd.prog 18 [u64D n, ii size] O (bools (bitsR n size)) [] O := by
  refine aspec_intro TrydT_ok Tryd.func18 rfl Tryd.call18 Tryd.ntmps18 (Nat.le_of_ble_eq_true rfl) fun E => ?_
  refine g_run TrydT_ok Tryd.func18 ?_
  refine g_loop ?_
  refine rch_wk (wk_nil 5 19 4 1 rfl rfl rfl) ?_
  refine rch_loop2 (fun i : Nat => [(0, u64D n), (1, ii size), (5, .osl 0 19), (6, ii i)]) (fun i => [(19, obools (bitsR n i))]) (fun _ => O) 21
    (fun i => i ≤ size) (fun i => size - i) 0 (Nat.zero_le _) ⟨rfl, rfl, rfl, rfl, trivial⟩ rfl ⟨rfl, trivial⟩ rfl rfl ?_
  intro i hi ih
  have hsu := bitsR_succ n i
  have hln := bitsR_len n i
  have hend : i = size → bitsR n i = bitsR n size := fun e => by rw [e]
  generalize bitsR n i = M at *
  generalize hq : bitU n i = q at *
  unfold bitU at hq
  refine g_run TrydT_ok Tryd.func18 ?_
  first | refine g_cnd TrydT_ok Tryd.func18 rfl (fun g1 => ?_) (fun g1 => ?_) | refine g_know TrydT_ok Tryd.func18 rfl (fun g1 => ?_) (fun g1 => ?_) | refine s_know TrydT_ok (fun g1 => ?_) (fun g1 => ?_)
  · have h1 : i < size := by have := of_decide_eq_true g1; omega
    first | refine g_need TrydT_ok Tryd.func18 (by exact ⟨by omega, by show (i : Int) ≤ 64; omega⟩) ?_ | refine s_need TrydT_ok (by exact ⟨by omega, by show (i : Int) ≤ 64; omega⟩) ?_
    first | refine g_need TrydT_ok Tryd.func18 (by exact ⟨by show (M.length + 1) * 1 ≤ 140737488355328; omega, by show M.length + 1 ≤ 9223372036854775807; omega⟩) ?_ | refine s_need TrydT_ok (by exact ⟨by show (M.length + 1) * 1 ≤ 140737488355328; omega, by show M.length + 1 ≤ 9223372036854775807; omega⟩) ?_
    refine g_loop ?_
    refine ih (i + 1) _ _ h1 (by omega) ⟨rfl, rfl, rfl, congrArg ii (wsucc (n := 64) (by omega) (by decide)), trivial⟩ rfl ⟨?_, trivial⟩ rfl rfl
    rw [hsu, ← hq]
    exact congrArg some (obools_app M _)
  · have h1 : size ≤ i := by have := of_decide_eq_false g1; omega
    rw [hend (by omega)]
    refine g_rwk (wk_freeze 19 rfl rfl) ?_
    refine g_rwk (wk_imm rfl) ?_
    refine g_ret TrydT_ok (r := bools (bitsR n size)) rfl rfl rfl trivial rfl rfl ?_
    rfl
end Go.AI


/- The law's covered and cover. -/
namespace Go.AI
open Go.Proofs
set_option maxRecDepth 20000
def covB : List Bx → List Bool → Int → Nat → List Int → Bool
  | b :: bs, l :: ls, but, i, v => if (i : Int) ≠ but then (if l then (if b.has v then true else covB bs ls but (i + 1) v) else covB bs ls but (i + 1) v) else covB bs ls but (i + 1) v
  | _, _, _, _, _ => false
def selB : List Bx → List Bool → List Bx
  | b :: bs, l :: ls => if l then b :: selB bs ls else selB bs ls
  | _, _ => []
theorem covB_app : ∀ (B1 B2 : List Bx) (F1 F2 : List Bool) (but : Int) (i : Nat) (v : List Int), B1.length = F1.length → covB (B1 ++ B2) (F1 ++ F2) but i v = (covB B1 F1 but i v || covB B2 F2 but (i + B1.length) v)
  | [], B2, [], F2, but, i, v, _ => by simp [covB]
  | b :: B1, B2, l :: F1, F2, but, i, v, h => by
    have ih := covB_app B1 B2 F1 F2 but (i + 1) v (by simpa using h)
    simp only [List.cons_append, covB, ih, List.length_cons, show i + 1 + B1.length = i + (B1.length + 1) by omega]
    by_cases h1 : (i : Int) = but
    · simp [h1]
    · cases l <;> cases b.has v <;> simp [h1]
  | [], _, _ :: _, _, _, _, _, h => by cases h
  | _ :: _, _, [], _, _, _, _, h => by cases h
theorem covB_sel : ∀ (B : List Bx) (F : List Bool) (but : Int) (i : Nat) (v : List Int), (but < i ∨ i + B.length ≤ but) → covB B F but i v = inBs (selB B F) v
  | [], F, but, i, v, _ => by cases F <;> rfl
  | b :: B, [], but, i, v, _ => rfl
  | b :: B, l :: F, but, i, v, h => by
    simp only [List.length_cons, Int.natCast_add, Int.natCast_one] at h
    have ih := covB_sel B F but (i + 1) v (by omega)
    simp only [covB, selB, ih]
    rw [if_pos (by omega)]
    cases l
    · simp
    · simp only [if_true]
      rw [inBs_cons]
      cases b.has v <;> simp
theorem selB_true : ∀ (B : List Bx), selB B (List.replicate B.length true) = B
  | [] => rfl
  | b :: B => by simp [selB, List.replicate_succ, selB_true B]
theorem covB_all (B : List Bx) (v : List Int) : covB B (List.replicate B.length true) (-1) 0 v = inBs B v := by
  rw [covB_sel _ _ _ _ _ (.inl (by decide)), selB_true]
/-- All but one. -/
theorem covB_but {B : List Bx} {F1 : List Bool} {k : Nat} (hk : k < B.length) (hF : F1.length = k) (v : List Int) : covB B (F1 ++ List.replicate (B.length - k) true) k 0 v = inBs (selB (B.take k) F1 ++ B.drop (k + 1)) v := by
  have hl : (B.take k).length = k := by simp; omega
  have e : B = B.take k ++ B.drop k := (List.take_append_drop k B).symm
  have hd : B.drop k = B[k] :: B.drop (k + 1) := List.drop_eq_getElem_cons hk
  have hr : List.replicate (B.length - k) true = true :: List.replicate (B.drop (k + 1)).length true := by
    rw [show B.length - k = (B.drop (k + 1)).length + 1 by simp; omega, List.replicate_succ]
  rw [show covB B (F1 ++ List.replicate (B.length - k) true) k 0 v = covB (B.take k ++ B.drop k) (F1 ++ List.replicate (B.length - k) true) k 0 v by rw [← e]]
  rw [covB_app _ _ _ _ _ _ _ (by rw [hl, hF]), covB_sel _ _ _ _ _ (.inr (by rw [hl]; omega)), hd, hr, inBs_app, hl]
  congr 1
  simp only [covB]
  rw [if_neg (by simp), covB_sel _ _ _ _ _ (.inl (by omega)), selB_true]
theorem selB_len : ∀ (B : List Bx) (F : List Bool), (selB B F).length ≤ B.length
  | [], F => by cases F <;> simp [selB]
  | b :: B, [] => by simp [selB]
  | b :: B, l :: F => by
    have := selB_len B F
    simp only [selB, List.length_cons]
    split
    · simp only [List.length_cons]; omega
    · omega
theorem selB_snoc : ∀ (B : List Bx) (F : List Bool) (b : Bx) (f : Bool), B.length = F.length → selB (B ++ [b]) (F ++ [f]) = selB B F ++ (if f then [b] else [])
  | [], [], b, f, _ => by cases f <;> rfl
  | c :: B, l :: F, b, f, h => by
    have := selB_snoc B F b f (by simpa using h)
    simp only [List.cons_append, selB, this]
    cases l <;> simp
  | [], _ :: _, _, _, h => by cases h
  | _ :: _, [], _, _, h => by cases h
theorem covered72 (O : List Heap) (B : List Bx) (F : List Bool) (but : Int) (v : List Int) (d n1 n2 : Nat) (ho1 : objAt O d n1 = some (obxs B)) (ho2 : objAt O d n2 = some (obools F)) (hb : B.length ≤ 4096) (hf : F.length = B.length)
    (hv : ∀ b ∈ B, v.length ≤ b.low.length ∧ v.length ≤ b.high.length) (hvl : v.length ≤ max63) : ASpec Tryd.prog 72 [.osl d n1, .osl d n2, ii but, ints v] O (bb (covB B F but 0 v)) [] O := by
  have hO1 : ∀ H, objAt (H :: O) (d + 1) n1 = some (obxs B) := fun H => up_obj ho1
  have hO2 : ∀ H, objAt (H :: O) (d + 1) n2 = some (obools F) := fun H => up_obj ho2
  generalize hR : covB B F but 0 v = R
  refine aspec_intro TrydT_ok Tryd.func72 rfl Tryd.call72 Tryd.ntmps72 (Nat.le_of_ble_eq_true rfl) fun E => ?_
  refine g_run TrydT_ok Tryd.func72 ?_
  refine g_loop ?_
  refine rch_loop2 (fun i : Nat => [(0, .osl (d + 1) n1), (1, .osl (d + 1) n2), (2, ii but), (3, ints v), (9, ii i)]) (fun _ => []) (fun _ => O) 33
    (fun i => i ≤ B.length ∧ covB (B.drop i) (F.drop i) but i v = R) (fun i => B.length - i) 0 ⟨Nat.zero_le _, hR⟩ ⟨rfl, rfl, rfl, rfl, rfl, trivial⟩ rfl trivial rfl rfl ?_
  rintro i ⟨hi, hno⟩ ih
  clear hR
  refine g_run TrydT_ok Tryd.func72 ?_
  first | refine g_obj TrydT_ok Tryd.func72 (hO1 _) ?_ | refine s_obj TrydT_ok (hO1 _) ?_
  first | refine g_cnd TrydT_ok Tryd.func72 rfl (fun g1 => ?_) (fun g1 => ?_) | refine g_know TrydT_ok Tryd.func72 rfl (fun g1 => ?_) (fun g1 => ?_) | refine s_know TrydT_ok (fun g1 => ?_) (fun g1 => ?_)
  · have h1 : i < B.length := by have := of_decide_eq_true g1; omega
    clear g1
    have gb : (B.map bxI)[(i : Int).toNat]? = some (bxI B[i]) := get_mapZ h1
    have gf : (F.map fun x => [I.v (.bool x)])[(i : Int).toNat]? = some [I.v (.bool (F[i]'(by omega)))] := get_mapZ (f := fun x => [I.v (.bool x)]) (by omega)
    have db : B.drop i = B[i] :: B.drop (i + 1) := List.drop_eq_getElem_cons h1
    have df : F.drop i = (F[i]'(by omega)) :: F.drop (i + 1) := List.drop_eq_getElem_cons (by omega)
    have hx := hv _ (List.getElem_mem h1)
    rw [db, df] at hno
    simp only [covB] at hno
    clear db df
    generalize B[i] = b at *
    generalize F[i]'(by omega) = f at *
    have hi1 : ii (IntKind.i64.wrap ((i : Int) + 1)) = ii ((i + 1 : Nat) : Int) := congrArg ii (wsucc (n := 4096) (by omega) (by decide))
    first | refine g_cnd TrydT_ok Tryd.func72 rfl (fun h2 => ?_) (fun h2 => ?_) | refine g_know TrydT_ok Tryd.func72 rfl (fun h2 => ?_) (fun h2 => ?_) | refine s_know TrydT_ok (fun h2 => ?_) (fun h2 => ?_)
    rotate_left
    · have h2 : (i : Int) = but := bneF h2
      rw [if_neg (by simpa using h2)] at hno
      repeat (first | refine g_cnd TrydT_ok Tryd.func72 rfl (fun _ => ?_) (fun h => absurd h (by decide)) | refine g_cnd TrydT_ok Tryd.func72 rfl (fun h => absurd h (by decide)) (fun _ => ?_) | refine g_know TrydT_ok Tryd.func72 rfl (fun _ => ?_) (fun h => absurd h (by decide)) | refine g_know TrydT_ok Tryd.func72 rfl (fun h => absurd h (by decide)) (fun _ => ?_) | refine s_know TrydT_ok (fun _ => ?_) (fun h => absurd h (by decide)) | refine s_know TrydT_ok (fun h => absurd h (by decide)) (fun _ => ?_))
      refine g_loop ?_
      exact ih (i + 1) _ _ ⟨h1, hno⟩ (by omega) ⟨rfl, rfl, rfl, rfl, hi1, trivial⟩ rfl trivial rfl rfl
    have h2 : (i : Int) ≠ but := bneT h2
    rw [if_pos h2] at hno
    first | refine g_obj TrydT_ok Tryd.func72 (hO2 _) ?_ | refine s_obj TrydT_ok (hO2 _) ?_
    first | refine g_need TrydT_ok Tryd.func72 (by exact ⟨by omega, by show (i : Int) < (F.length : Int); omega⟩) ?_ | refine s_need TrydT_ok (by exact ⟨by omega, by show (i : Int) < (F.length : Int); omega⟩) ?_
    first | refine g_obj TrydT_ok Tryd.func72 (hO2 _) ?_ | refine s_obj TrydT_ok (hO2 _) ?_
    first | refine g_elem TrydT_ok Tryd.func72 (gf) ?_ | refine s_elem TrydT_ok (gf) ?_
    cases f with
    | false =>
      first | refine g_cnd TrydT_ok Tryd.func72 rfl (fun h3 => ?_) (fun h3 => ?_) | refine g_know TrydT_ok Tryd.func72 rfl (fun h3 => ?_) (fun h3 => ?_) | refine s_know TrydT_ok (fun h3 => ?_) (fun h3 => ?_)
      · cases h3
      repeat (first | refine g_cnd TrydT_ok Tryd.func72 rfl (fun _ => ?_) (fun h => absurd h (by decide)) | refine g_cnd TrydT_ok Tryd.func72 rfl (fun h => absurd h (by decide)) (fun _ => ?_) | refine g_know TrydT_ok Tryd.func72 rfl (fun _ => ?_) (fun h => absurd h (by decide)) | refine g_know TrydT_ok Tryd.func72 rfl (fun h => absurd h (by decide)) (fun _ => ?_) | refine s_know TrydT_ok (fun _ => ?_) (fun h => absurd h (by decide)) | refine s_know TrydT_ok (fun h => absurd h (by decide)) (fun _ => ?_))
      refine g_loop ?_
      exact ih (i + 1) _ _ ⟨h1, hno⟩ (by omega) ⟨rfl, rfl, rfl, rfl, hi1, trivial⟩ rfl trivial rfl rfl
    | true =>
      first | refine g_cnd TrydT_ok Tryd.func72 rfl (fun h3 => ?_) (fun h3 => ?_) | refine g_know TrydT_ok Tryd.func72 rfl (fun h3 => ?_) (fun h3 => ?_) | refine s_know TrydT_ok (fun h3 => ?_) (fun h3 => ?_)
      rotate_left
      · cases h3
      first | refine g_obj TrydT_ok Tryd.func72 (hO1 _) ?_ | refine s_obj TrydT_ok (hO1 _) ?_
      first | refine g_need TrydT_ok Tryd.func72 (by exact ⟨by omega, by show (i : Int) < (B.length : Int); omega⟩) ?_ | refine s_need TrydT_ok (by exact ⟨by omega, by show (i : Int) < (B.length : Int); omega⟩) ?_
      first | refine g_obj TrydT_ok Tryd.func72 (hO1 _) ?_ | refine s_obj TrydT_ok (hO1 _) ?_
      first | refine g_elem TrydT_ok Tryd.func72 (gb) ?_ | refine s_elem TrydT_ok (gb) ?_
      first | refine g_call TrydT_ok Tryd.func72 (within28 _ b v hx.1 hx.2 hvl) rfl rfl rfl rfl rfl ?_ | refine s_callq TrydT_ok (fun _ => within28 _ b v hx.1 hx.2 hvl) rfl rfl rfl ?_
      first | refine g_cnd TrydT_ok Tryd.func72 rfl (fun h4 => ?_) (fun h4 => ?_) | refine g_know TrydT_ok Tryd.func72 rfl (fun h4 => ?_) (fun h4 => ?_) | refine s_know TrydT_ok (fun h4 => ?_) (fun h4 => ?_)
      · have : R = true := by rw [← hno]; simp [h4]
        subst this
        refine g_ret TrydT_ok (r := bb true) rfl rfl rfl trivial rfl rfl ?_
        rfl
      have hno : covB (B.drop (i + 1)) (F.drop (i + 1)) but (i + 1) v = R := by rw [← hno]; simp [h4]
      refine g_loop ?_
      exact ih (i + 1) _ _ ⟨h1, hno⟩ (by omega) ⟨rfl, rfl, rfl, rfl, hi1, trivial⟩ rfl trivial rfl rfl
  · have h1 : B.length ≤ i := by have := of_decide_eq_false g1; omega
    rw [List.drop_eq_nil_of_le h1] at hno
    have : R = false := by rw [← hno]; rfl
    subst this
    refine g_ret TrydT_ok (r := bb false) rfl rfl rfl trivial rfl rfl ?_
    rfl
end Go.AI


/- The law's cover. -/
namespace Go.AI
open Go.Proofs
set_option maxRecDepth 20000
def spareL (P : List Int → Bool) : List (List Int) → List Bool → List Bool → Bool → Bool
  | d :: ds, t :: ts, c :: cs, s => spareL P ds ts cs (s && (!c || !t || P d))
  | _, _, _, s => s
theorem spareL_all (P : List Int → Bool) : ∀ (all : List (List Int)) (t c : List Bool) (s : Bool), spareL P all t c s = (s && (neededR all t c).all P)
  | [], _, _, s => by simp [spareL, neededR]
  | _ :: _, [], _, s => by simp [spareL, neededR]
  | _ :: _, _ :: _, [], s => by simp [spareL, neededR]
  | d :: ds, t :: ts, c :: cs, s => by
    simp only [spareL, neededR, spareL_all P ds ts cs]
    cases c <;> cases t <;> simp [Bool.and_assoc]
theorem coverL_len (free : Bx → Bool) (vars : List Vr) : ∀ (n : List (List Int)) (l : List Bx), (coverL free vars n l).length ≤ l.length + n.length
  | [], l => by simp [coverL]
  | v :: r, l => by
    simp only [coverL]
    split
    · have := coverL_len free vars r l; simp only [List.length_cons]; omega
    · have := coverL_len free vars r (l ++ [growVs free vars 0 ⟨v, v⟩]); simp only [List.length_append, List.length_cons, List.length_nil] at this ⊢; omega
theorem neededR_len : ∀ (all : List (List Int)) (t c : List Bool), (neededR all t c).length ≤ all.length
  | [], _, _ => by simp [neededR]
  | _ :: _, [], _ => by simp [neededR]
  | _ :: _, _ :: _, [] => by simp [neededR]
  | d :: ds, t :: ts, c :: cs => by
    have := neededR_len ds ts cs
    simp only [neededR, List.length_cons]
    split
    · simp only [List.length_cons]; omega
    · omega
theorem rep_snoc (n : Nat) (x : Bool) : List.replicate n x ++ [x] = List.replicate (n + 1) x := by rw [List.replicate_succ']
theorem dom_bounds {l : List Vr} (h : domOk l) {v : List Int} (hv : v ∈ allV l) : ∀ j, -65536 ≤ v.getD j 0 ∧ v.getD j 0 ≤ 65536 := by
  have h1 := (allV_dom l).mem v |>.1 hv
  have hb := h.b
  clear h hv
  induction l generalizing v with
  | nil => cases v with
    | nil => intro j; simp
    | cons x xs => exact h1.elim
  | cons a r ih =>
    cases v with
    | nil => exact h1.elim
    | cons x xs =>
      intro j
      cases j with
      | zero => have := hb a (by simp); have := h1.1; simp only [List.getD_cons_zero]; omega
      | succ j => simpa using ih (v := xs) h1.2 (fun v hv => hb v (by simp [hv])) j
set_option maxHeartbeats 4000000 in
theorem cover21 (O : List Heap) (l : List Vr) (t care : List Bool) (hd : domOk l) (ht : t.length = (allV l).length) (hc : care.length = (allV l).length) : ASpec Tryd.prog 21 [vrs l, bools t, bools care] O (bxs (coverR l (allV l) t care)) [] O := by
  have hdm := fun O => domain17 O l hd.len hd.b hd.cnt
  have hdl := hd.all
  have hvb : ∀ v ∈ allV l, ∀ j, -65536 ≤ v.getD j 0 ∧ v.getD j 0 ≤ 65536 := fun v hv => dom_bounds hd hv
  have hvl : ∀ v ∈ allV l, v.length = l.length := fun v h => allV_mem_len h
  have hgr := fun O v hv => grow73 O l (allV l) t care v hd.len (fun a ha => (hd.b a ha).1) (hvl v hv) (hvb v hv) hdl hvl ht hc
  have hl16 := hd.len
  have hgs : ∀ (refused : List (List Int)) (v : List Int), v.length = l.length → (growVs (freeR refused) l 0 ⟨v, v⟩).low.length = l.length ∧ (growVs (freeR refused) l 0 ⟨v, v⟩).high.length = l.length := fun refused v h => by
    have := growVs_sub (freeR refused) l 0 ⟨v, v⟩
    exact ⟨this.1.symm.trans h, this.2.1.symm.trans h⟩
  generalize hR : coverR l (allV l) t care = R
  unfold coverR coversR at hR
  have hNl := neededR_len (allV l) t care
  have hsp := fun P => spareL_all P (allV l) t care true
  generalize refusedR (allV l) t care = refused at *
  have hCl := coverL_len (freeR refused) l (neededR (allV l) t care) []
  generalize hC : coverL (freeR refused) l (neededR (allV l) t care) [] = C at *
  have hmax : ∀ v ∈ allV l, v.length ≤ max63 := fun v h => by rw [hvl v h]; simp only [max63]; omega
  generalize hN : neededR (allV l) t care = N at hR hNl hsp hCl
  simp only [List.length_nil, Nat.zero_add] at hCl
  generalize allV l = all at *
  have hC0 : coverL (freeR refused) l (neededR (all.drop 0) (t.drop 0) (care.drop 0)) [] = C := hC
  clear hC
  refine aspec_intro TrydT_ok Tryd.func21 rfl Tryd.call21 Tryd.ntmps21 (Nat.le_of_ble_eq_true rfl) fun E => ?_
  refine g_run TrydT_ok Tryd.func21 ?_
  first | refine g_call TrydT_ok Tryd.func21 (hdm _) rfl rfl rfl rfl rfl ?_ | refine s_callq TrydT_ok (fun _ => hdm _) rfl rfl rfl ?_
  refine g_loop ?_
  refine rch_wk (wk_nil 8 54 55 2 rfl rfl rfl) ?_
  refine rch_wk (wk_nil 10 57 4 1 rfl rfl rfl) ?_
  refine rch_wk (wk_nil 9 120 55 2 rfl rfl rfl) ?_
  refine rch_loop2 (fun x : Nat × List Bx => [(0, vrs l), (1, bools t), (2, bools care), (7, intss all), (8, .osl 0 54), (9, .osl 0 120), (10, .osl 0 57), (11, ii x.1)]) (fun x => [(54, obxs x.2), (57, obools (List.replicate x.2.length true)), (120, obxs [])]) (fun _ => O) 122
    (fun x => x.1 ≤ all.length ∧ x.2.length ≤ x.1 ∧ (∀ b ∈ x.2, b.low.length = l.length ∧ b.high.length = l.length) ∧ coverL (freeR refused) l (neededR (all.drop x.1) (t.drop x.1) (care.drop x.1)) x.2 = C) (fun x => all.length - x.1) (0, [])
    ⟨Nat.zero_le _, by simp, by simp, hC0⟩ ⟨rfl, rfl, rfl, rfl, rfl, rfl, rfl, rfl, trivial⟩ rfl ⟨rfl, rfl, rfl, trivial⟩ rfl rfl ?_
  clear hC0
  rintro ⟨i, B⟩ ⟨hi, hBl, hBs, hno⟩ ih
  simp only at hi hBl hBs hno
  refine g_run TrydT_ok Tryd.func21 ?_
  first | refine g_cnd TrydT_ok Tryd.func21 rfl (fun g1 => ?_) (fun g1 => ?_) | refine g_know TrydT_ok Tryd.func21 rfl (fun g1 => ?_) (fun g1 => ?_) | refine s_know TrydT_ok (fun g1 => ?_) (fun g1 => ?_)
  · have h1 : i < all.length := by simpa using g1
    clear g1
    have gv : (all.map fun x => [intsI x])[(i : Int).toNat]? = some [intsI all[i]] := get_mapZ (f := fun x => [intsI x]) h1
    have gl : (t.map fun x => [I.v (.bool x)])[(i : Int).toNat]? = some [I.v (.bool (t[i]'(by omega)))] := get_mapZ (f := fun x => [I.v (.bool x)]) (by omega)
    have gh : (care.map fun x => [I.v (.bool x)])[(i : Int).toNat]? = some [I.v (.bool (care[i]'(by omega)))] := get_mapZ (f := fun x => [I.v (.bool x)]) (by omega)
    have dv : all.drop i = all[i] :: all.drop (i + 1) := List.drop_eq_getElem_cons h1
    have dl : t.drop i = (t[i]'(by omega)) :: t.drop (i + 1) := List.drop_eq_getElem_cons (by omega)
    have dh : care.drop i = (care[i]'(by omega)) :: care.drop (i + 1) := List.drop_eq_getElem_cons (by omega)
    have hx1 := hvl _ (List.getElem_mem h1)
    have hx2 := hmax _ (List.getElem_mem h1)
    have hgr := fun O => hgr O _ (List.getElem_mem h1)
    rw [dv, dl, dh] at hno
    simp only [neededR] at hno
    clear dv dl dh
    generalize all[i] = v at *
    generalize t[i]'(by omega) = a at *
    generalize care[i]'(by omega) = c at *
    have hi1 : ii (IntKind.i64.wrap ((i : Int) + 1)) = ii ((i + 1 : Nat) : Int) := congrArg ii (wsucc (n := 4096) (by omega) (by decide))
    have hb1 : 0 ≤ (i : Int) ∧ (i : Int) < (all.length : Int) := by omega
    have hb2 : 0 ≤ (i : Int) ∧ (i : Int) < (t.length : Int) := by omega
    have hb3 : 0 ≤ (i : Int) ∧ (i : Int) < (care.length : Int) := by omega
    have hcv := fun O d n1 n2 ho1 ho2 => covered72 O B (List.replicate B.length true) (-1) v d n1 n2 ho1 ho2 (by omega) (by simp) (fun b hb => by have := hBs b hb; omega) hx2
    rw [covB_all] at hcv
    first | refine g_need TrydT_ok Tryd.func21 (by exact hb3) ?_ | refine s_need TrydT_ok (by exact hb3) ?_
    first | refine g_elem TrydT_ok Tryd.func21 (gh) ?_ | refine s_elem TrydT_ok (gh) ?_
    cases c with
    | false =>
      repeat (first | refine g_cnd TrydT_ok Tryd.func21 rfl (fun _ => ?_) (fun h => absurd h (by decide)) | refine g_know TrydT_ok Tryd.func21 rfl (fun _ => ?_) (fun h => absurd h (by decide)) | refine s_know TrydT_ok (fun _ => ?_) (fun h => absurd h (by decide)) | refine g_cnd TrydT_ok Tryd.func21 rfl (fun h => absurd h (by decide)) (fun _ => ?_) | refine g_know TrydT_ok Tryd.func21 rfl (fun h => absurd h (by decide)) (fun _ => ?_) | refine s_know TrydT_ok (fun h => absurd h (by decide)) (fun _ => ?_) | refine g_cnd TrydT_ok Tryd.func21 rfl (fun _ => ?_) (fun h => absurd (show true = false from h) (by decide)) | refine g_know TrydT_ok Tryd.func21 rfl (fun _ => ?_) (fun h => absurd (show true = false from h) (by decide)) | refine s_know TrydT_ok (fun _ => ?_) (fun h => absurd (show true = false from h) (by decide)) | refine g_cnd TrydT_ok Tryd.func21 rfl (fun h => absurd (show false = true from h) (by decide)) (fun _ => ?_) | refine g_know TrydT_ok Tryd.func21 rfl (fun h => absurd (show false = true from h) (by decide)) (fun _ => ?_) | refine s_know TrydT_ok (fun h => absurd (show false = true from h) (by decide)) (fun _ => ?_))
      refine g_loop ?_
      exact ih (i + 1, B) _ _ ⟨h1, by simp only; omega, hBs, hno⟩ (by simp only; omega) ⟨rfl, rfl, rfl, rfl, rfl, rfl, rfl, hi1, trivial⟩ rfl ⟨rfl, rfl, rfl, trivial⟩ rfl rfl
    | true =>
      repeat (first | refine g_cnd TrydT_ok Tryd.func21 rfl (fun _ => ?_) (fun h => absurd h (by decide)) | refine g_know TrydT_ok Tryd.func21 rfl (fun _ => ?_) (fun h => absurd h (by decide)) | refine s_know TrydT_ok (fun _ => ?_) (fun h => absurd h (by decide)) | refine g_cnd TrydT_ok Tryd.func21 rfl (fun h => absurd h (by decide)) (fun _ => ?_) | refine g_know TrydT_ok Tryd.func21 rfl (fun h => absurd h (by decide)) (fun _ => ?_) | refine s_know TrydT_ok (fun h => absurd h (by decide)) (fun _ => ?_) | refine g_cnd TrydT_ok Tryd.func21 rfl (fun _ => ?_) (fun h => absurd (show true = false from h) (by decide)) | refine g_know TrydT_ok Tryd.func21 rfl (fun _ => ?_) (fun h => absurd (show true = false from h) (by decide)) | refine s_know TrydT_ok (fun _ => ?_) (fun h => absurd (show true = false from h) (by decide)) | refine g_cnd TrydT_ok Tryd.func21 rfl (fun h => absurd (show false = true from h) (by decide)) (fun _ => ?_) | refine g_know TrydT_ok Tryd.func21 rfl (fun h => absurd (show false = true from h) (by decide)) (fun _ => ?_) | refine s_know TrydT_ok (fun h => absurd (show false = true from h) (by decide)) (fun _ => ?_))
      first | refine g_need TrydT_ok Tryd.func21 (by exact hb2) ?_ | refine s_need TrydT_ok (by exact hb2) ?_
      first | refine g_elem TrydT_ok Tryd.func21 (gl) ?_ | refine s_elem TrydT_ok (gl) ?_
      cases a with
      | false =>
        repeat (first | refine g_cnd TrydT_ok Tryd.func21 rfl (fun _ => ?_) (fun h => absurd h (by decide)) | refine g_know TrydT_ok Tryd.func21 rfl (fun _ => ?_) (fun h => absurd h (by decide)) | refine s_know TrydT_ok (fun _ => ?_) (fun h => absurd h (by decide)) | refine g_cnd TrydT_ok Tryd.func21 rfl (fun h => absurd h (by decide)) (fun _ => ?_) | refine g_know TrydT_ok Tryd.func21 rfl (fun h => absurd h (by decide)) (fun _ => ?_) | refine s_know TrydT_ok (fun h => absurd h (by decide)) (fun _ => ?_) | refine g_cnd TrydT_ok Tryd.func21 rfl (fun _ => ?_) (fun h => absurd (show true = false from h) (by decide)) | refine g_know TrydT_ok Tryd.func21 rfl (fun _ => ?_) (fun h => absurd (show true = false from h) (by decide)) | refine s_know TrydT_ok (fun _ => ?_) (fun h => absurd (show true = false from h) (by decide)) | refine g_cnd TrydT_ok Tryd.func21 rfl (fun h => absurd (show false = true from h) (by decide)) (fun _ => ?_) | refine g_know TrydT_ok Tryd.func21 rfl (fun h => absurd (show false = true from h) (by decide)) (fun _ => ?_) | refine s_know TrydT_ok (fun h => absurd (show false = true from h) (by decide)) (fun _ => ?_))
        refine g_loop ?_
        exact ih (i + 1, B) _ _ ⟨h1, by simp only; omega, hBs, hno⟩ (by simp only; omega) ⟨rfl, rfl, rfl, rfl, rfl, rfl, rfl, hi1, trivial⟩ rfl ⟨rfl, rfl, rfl, trivial⟩ rfl rfl
      | true =>
        simp only [Bool.and_self, if_true, coverL] at hno
        repeat (first | refine g_cnd TrydT_ok Tryd.func21 rfl (fun _ => ?_) (fun h => absurd h (by decide)) | refine g_know TrydT_ok Tryd.func21 rfl (fun _ => ?_) (fun h => absurd h (by decide)) | refine s_know TrydT_ok (fun _ => ?_) (fun h => absurd h (by decide)) | refine g_cnd TrydT_ok Tryd.func21 rfl (fun h => absurd h (by decide)) (fun _ => ?_) | refine g_know TrydT_ok Tryd.func21 rfl (fun h => absurd h (by decide)) (fun _ => ?_) | refine s_know TrydT_ok (fun h => absurd h (by decide)) (fun _ => ?_) | refine g_cnd TrydT_ok Tryd.func21 rfl (fun _ => ?_) (fun h => absurd (show true = false from h) (by decide)) | refine g_know TrydT_ok Tryd.func21 rfl (fun _ => ?_) (fun h => absurd (show true = false from h) (by decide)) | refine s_know TrydT_ok (fun _ => ?_) (fun h => absurd (show true = false from h) (by decide)) | refine g_cnd TrydT_ok Tryd.func21 rfl (fun h => absurd (show false = true from h) (by decide)) (fun _ => ?_) | refine g_know TrydT_ok Tryd.func21 rfl (fun h => absurd (show false = true from h) (by decide)) (fun _ => ?_) | refine s_know TrydT_ok (fun h => absurd (show false = true from h) (by decide)) (fun _ => ?_))
        first | refine g_need TrydT_ok Tryd.func21 (by exact hb1) ?_ | refine s_need TrydT_ok (by exact hb1) ?_
        first | refine g_elem TrydT_ok Tryd.func21 (gv) ?_ | refine s_elem TrydT_ok (gv) ?_
        first | refine g_call TrydT_ok Tryd.func21 (hcv _ 0 54 57 rfl rfl) rfl rfl rfl rfl rfl ?_ | refine s_callq TrydT_ok (fun _ => hcv _ 0 54 57 rfl rfl) rfl rfl rfl ?_
        first | refine g_cnd TrydT_ok Tryd.func21 rfl (fun h4 => ?_) (fun h4 => ?_) | refine g_know TrydT_ok Tryd.func21 rfl (fun h4 => ?_) (fun h4 => ?_) | refine s_know TrydT_ok (fun h4 => ?_) (fun h4 => ?_)
        rotate_left
        · have h4 : inBs B v = true := notF h4
          rw [if_pos h4] at hno
          refine g_loop ?_
          exact ih (i + 1, B) _ _ ⟨h1, by simp only; omega, hBs, hno⟩ (by simp only; omega) ⟨rfl, rfl, rfl, rfl, rfl, rfl, rfl, hi1, trivial⟩ rfl ⟨rfl, rfl, rfl, trivial⟩ rfl rfl
        have h4 : inBs B v = false := notT h4
        rw [if_neg (by rw [h4]; simp)] at hno
        have hgs := hgs refused v hx1
        generalize growVs (freeR refused) l 0 ⟨v, v⟩ = nb at *
        first | refine g_need TrydT_ok Tryd.func21 (by exact hb1) ?_ | refine s_need TrydT_ok (by exact hb1) ?_
        first | refine g_elem TrydT_ok Tryd.func21 (gv) ?_ | refine s_elem TrydT_ok (gv) ?_
        first | refine g_call TrydT_ok Tryd.func21 (hgr _) rfl rfl rfl rfl rfl ?_ | refine s_callq TrydT_ok (fun _ => hgr _) rfl rfl rfl ?_
        first | refine g_need TrydT_ok Tryd.func21 (by exact ⟨by show (B.length + 1) * 48 ≤ 140737488355328; omega, by show B.length + 1 ≤ 9223372036854775807; omega⟩) ?_ | refine s_need TrydT_ok (by exact ⟨by show (B.length + 1) * 48 ≤ 140737488355328; omega, by show B.length + 1 ≤ 9223372036854775807; omega⟩) ?_
        first | refine g_need TrydT_ok Tryd.func21 (by exact ⟨by show ((List.replicate B.length true).length + 1) * 1 ≤ 140737488355328; simp only [List.length_replicate]; omega, by show (List.replicate B.length true).length + 1 ≤ 9223372036854775807; simp only [List.length_replicate]; omega⟩) ?_ | refine s_need TrydT_ok (by exact ⟨by show ((List.replicate B.length true).length + 1) * 1 ≤ 140737488355328; simp only [List.length_replicate]; omega, by show (List.replicate B.length true).length + 1 ≤ 9223372036854775807; simp only [List.length_replicate]; omega⟩) ?_
        refine g_loop ?_
        refine ih (i + 1, B ++ [nb]) _ _ ⟨h1, by simp only [List.length_append, List.length_cons, List.length_nil]; omega, fun b hb => ?_, hno⟩ (by simp only; omega) ⟨rfl, rfl, rfl, rfl, rfl, rfl, rfl, hi1, trivial⟩ rfl ⟨congrArg some (obxs_app B nb), ?_, rfl, trivial⟩ rfl rfl
        · rcases List.mem_append.1 hb with hb | hb
          · exact hBs b hb
          · rw [List.mem_singleton.1 hb]; exact hgs
        · refine (congrArg some (obools_app (List.replicate B.length true) true)).trans ?_
          rw [rep_snoc, List.length_append]
          rfl
  · have h1 : all.length ≤ i := by simpa using g1
    rw [List.drop_eq_nil_of_le h1] at hno
    simp only [neededR, coverL] at hno
    subst hno
    clear ih hgr hgs g1 h1 hi
    refine g_loop ?_
    refine rch_loop2 (fun x : Nat × List Bool => [(1, bools t), (2, bools care), (7, intss all), (8, .osl 0 54), (9, .osl 0 120), (10, .osl 0 57), (12, ii x.1)]) (fun x => [(54, obxs B), (57, obools (x.2 ++ List.replicate (B.length - x.1) true)), (120, obxs (selB (B.take x.1) x.2))]) (fun _ => O) 122
      (fun x => x.1 ≤ B.length ∧ x.2.length = x.1 ∧ thin N (selB (B.take x.1) x.2) (B.drop x.1) = R) (fun x => B.length - x.1) (0, [])
      ⟨Nat.zero_le _, rfl, by simpa [selB] using hR⟩ ⟨rfl, rfl, rfl, rfl, rfl, rfl, rfl, trivial⟩ rfl ⟨rfl, rfl, rfl, trivial⟩ rfl rfl ?_
    clear hR
    rintro ⟨k, F1⟩ ⟨hk, hF1, hno⟩ ih
    simp only at hk hF1 hno
    refine g_run TrydT_ok Tryd.func21 ?_
    first | refine g_cnd TrydT_ok Tryd.func21 rfl (fun g1 => ?_) (fun g1 => ?_) | refine g_know TrydT_ok Tryd.func21 rfl (fun g1 => ?_) (fun g1 => ?_) | refine s_know TrydT_ok (fun g1 => ?_) (fun g1 => ?_)
    · have h1 : k < B.length := by simpa using g1
      clear g1
      have gb : (B.map bxI)[(k : Int).toNat]? = some (bxI B[k]) := get_mapZ h1
      have db : B.drop k = B[k] :: B.drop (k + 1) := List.drop_eq_getElem_cons h1
      have hbt : B.take (k + 1) = B.take k ++ [B[k]] := by rw [List.take_add_one, List.getElem?_eq_getElem h1]; rfl
      have hbs := hBs _ (List.getElem_mem h1)
      have hFl : (F1 ++ List.replicate (B.length - k) true).length = B.length := by simp; omega
      have hset : ∀ s : Bool, (F1 ++ List.replicate (B.length - k) true).set k s = (F1 ++ [s]) ++ List.replicate (B.length - (k + 1)) true := fun s => by
        rw [List.set_append_right _ _ (by omega), hF1, Nat.sub_self, show B.length - k = (B.length - (k + 1)) + 1 by omega, List.replicate_succ, List.set_cons_zero]
        simp
      have hcb := covB_but h1 hF1
      have hsn := fun f => selB_snoc (B.take k) F1 B[k] f (by simp; omega)
      rw [← hbt] at hsn
      rw [db] at hno
      simp only [thin] at hno
      have hcv := fun O d n1 n2 v ho1 ho2 hv => covered72 O B (F1 ++ List.replicate (B.length - k) true) k v d n1 n2 ho1 ho2 (by omega) hFl (fun b hb => by have := hBs b hb; have := hvl v hv; omega) (hmax v hv)
      have hsp := hsp (fun v => !B[k].has v || covB B (F1 ++ List.replicate (B.length - k) true) k 0 v)
      have hKl := selB_len (B.take k) F1
      simp only [List.length_take] at hKl
      have hwi := fun O v hv => within28 O B[k] v (by have := hvl v hv; omega) (by have := hvl v hv; omega) (hmax v hv)
      clear db hbt
      generalize B[k] = b at *
      generalize hK : selB (B.take k) F1 = K at *
      have hthin : N.any (fun v => b.has v && !inBs (K ++ B.drop (k + 1)) v) = !(N.all fun v => !b.has v || covB B (F1 ++ List.replicate (B.length - k) true) k 0 v) := by
        rw [List.not_all_eq_any_not]
        congr 1
        funext v
        rw [hcb]
        simp
      rw [hthin] at hno
      rw [Bool.true_and] at hsp
      rw [← hsp] at hno
      clear hthin hcb
      generalize F1 ++ List.replicate (B.length - k) true = F at *
      refine g_loop ?_
      refine rch_loop2 (fun x : Nat × Bool => [(1, bools t), (2, bools care), (7, intss all), (8, .osl 0 54), (9, .osl 0 120), (10, .osl 0 57), (12, ii k), (13, bb x.2), (14, ii x.1)]) (fun x => [(54, obxs B), (57, obools F), (120, obxs K)]) (fun _ => O) 122
        (fun x => x.1 ≤ all.length ∧ spareL (fun v => !b.has v || covB B F k 0 v) all t care true = spareL (fun v => !b.has v || covB B F k 0 v) (all.drop x.1) (t.drop x.1) (care.drop x.1) x.2) (fun x => all.length - x.1) (0, true)
        ⟨Nat.zero_le _, rfl⟩ ⟨rfl, rfl, rfl, rfl, rfl, rfl, rfl, rfl, rfl, trivial⟩ rfl ⟨rfl, rfl, rfl, trivial⟩ rfl rfl ?_
      rintro ⟨j, s⟩ ⟨hj, hsn2⟩ ih2
      simp only at hj hsn2
      refine g_run TrydT_ok Tryd.func21 ?_
      first | refine g_cnd TrydT_ok Tryd.func21 rfl (fun g2 => ?_) (fun g2 => ?_) | refine g_know TrydT_ok Tryd.func21 rfl (fun g2 => ?_) (fun g2 => ?_) | refine s_know TrydT_ok (fun g2 => ?_) (fun g2 => ?_)
      · have h2 : j < all.length := by simpa using g2
        clear g2
        have gv : (all.map fun x => [intsI x])[(j : Int).toNat]? = some [intsI all[j]] := get_mapZ (f := fun x => [intsI x]) h2
        have gl : (t.map fun x => [I.v (.bool x)])[(j : Int).toNat]? = some [I.v (.bool (t[j]'(by omega)))] := get_mapZ (f := fun x => [I.v (.bool x)]) (by omega)
        have gh : (care.map fun x => [I.v (.bool x)])[(j : Int).toNat]? = some [I.v (.bool (care[j]'(by omega)))] := get_mapZ (f := fun x => [I.v (.bool x)]) (by omega)
        have dv : all.drop j = all[j] :: all.drop (j + 1) := List.drop_eq_getElem_cons h2
        have dl : t.drop j = (t[j]'(by omega)) :: t.drop (j + 1) := List.drop_eq_getElem_cons (by omega)
        have dh : care.drop j = (care[j]'(by omega)) :: care.drop (j + 1) := List.drop_eq_getElem_cons (by omega)
        have hcv := fun O d n1 n2 ho1 ho2 => hcv O d n1 n2 all[j] ho1 ho2 (List.getElem_mem h2)
        have hwi := fun O => hwi O all[j] (List.getElem_mem h2)
        rw [dv, dl, dh] at hsn2
        simp only [spareL] at hsn2
        clear dv dl dh
        generalize all[j] = v at *
        generalize t[j]'(by omega) = a at *
        generalize care[j]'(by omega) = c at *
        generalize b.has v = hb at *
        generalize covB B F k 0 v = cv at *
        have hj1 : ii (IntKind.i64.wrap ((j : Int) + 1)) = ii ((j + 1 : Nat) : Int) := congrArg ii (wsucc (n := 4096) (by omega) (by decide))
        have hb0 : 0 ≤ (k : Int) ∧ (k : Int) < (B.length : Int) := by omega
        have hb1 : 0 ≤ (j : Int) ∧ (j : Int) < (all.length : Int) := by omega
        have hb2 : 0 ≤ (j : Int) ∧ (j : Int) < (t.length : Int) := by omega
        have hb3 : 0 ≤ (j : Int) ∧ (j : Int) < (care.length : Int) := by omega
        refine g_drawn TrydT_ok Tryd.func21 mixedT rfl ?_
        cases s with
        | false =>
          repeat (first | refine g_cnd TrydT_ok Tryd.func21 rfl (fun _ => ?_) (fun h => absurd h (by decide)) | refine g_know TrydT_ok Tryd.func21 rfl (fun _ => ?_) (fun h => absurd h (by decide)) | refine s_know TrydT_ok (fun _ => ?_) (fun h => absurd h (by decide)) | refine g_cnd TrydT_ok Tryd.func21 rfl (fun h => absurd h (by decide)) (fun _ => ?_) | refine g_know TrydT_ok Tryd.func21 rfl (fun h => absurd h (by decide)) (fun _ => ?_) | refine s_know TrydT_ok (fun h => absurd h (by decide)) (fun _ => ?_) | refine g_cnd TrydT_ok Tryd.func21 rfl (fun _ => ?_) (fun h => absurd (show true = false from h) (by decide)) | refine g_know TrydT_ok Tryd.func21 rfl (fun _ => ?_) (fun h => absurd (show true = false from h) (by decide)) | refine s_know TrydT_ok (fun _ => ?_) (fun h => absurd (show true = false from h) (by decide)) | refine g_cnd TrydT_ok Tryd.func21 rfl (fun h => absurd (show false = true from h) (by decide)) (fun _ => ?_) | refine g_know TrydT_ok Tryd.func21 rfl (fun h => absurd (show false = true from h) (by decide)) (fun _ => ?_) | refine s_know TrydT_ok (fun h => absurd (show false = true from h) (by decide)) (fun _ => ?_))
          refine e_done TrydT_ok Tryd.func21 (by kernel_rfl) ?_
          refine g_loop ?_
          exact ih2 (j + 1, false) _ _ ⟨h2, hsn2⟩ (by simp only; omega) ⟨rfl, rfl, rfl, rfl, rfl, rfl, rfl, rfl, hj1, trivial⟩ rfl ⟨rfl, rfl, rfl, trivial⟩ rfl rfl
        | true =>
          repeat (first | refine g_cnd TrydT_ok Tryd.func21 rfl (fun _ => ?_) (fun h => absurd h (by decide)) | refine g_know TrydT_ok Tryd.func21 rfl (fun _ => ?_) (fun h => absurd h (by decide)) | refine s_know TrydT_ok (fun _ => ?_) (fun h => absurd h (by decide)) | refine g_cnd TrydT_ok Tryd.func21 rfl (fun h => absurd h (by decide)) (fun _ => ?_) | refine g_know TrydT_ok Tryd.func21 rfl (fun h => absurd h (by decide)) (fun _ => ?_) | refine s_know TrydT_ok (fun h => absurd h (by decide)) (fun _ => ?_) | refine g_cnd TrydT_ok Tryd.func21 rfl (fun _ => ?_) (fun h => absurd (show true = false from h) (by decide)) | refine g_know TrydT_ok Tryd.func21 rfl (fun _ => ?_) (fun h => absurd (show true = false from h) (by decide)) | refine s_know TrydT_ok (fun _ => ?_) (fun h => absurd (show true = false from h) (by decide)) | refine g_cnd TrydT_ok Tryd.func21 rfl (fun h => absurd (show false = true from h) (by decide)) (fun _ => ?_) | refine g_know TrydT_ok Tryd.func21 rfl (fun h => absurd (show false = true from h) (by decide)) (fun _ => ?_) | refine s_know TrydT_ok (fun h => absurd (show false = true from h) (by decide)) (fun _ => ?_))
          first | refine g_need TrydT_ok Tryd.func21 (by exact hb3) ?_ | refine s_need TrydT_ok (by exact hb3) ?_
          first | refine g_elem TrydT_ok Tryd.func21 (gh) ?_ | refine s_elem TrydT_ok (gh) ?_
          cases c with
          | false =>
            repeat (first | refine g_cnd TrydT_ok Tryd.func21 rfl (fun _ => ?_) (fun h => absurd h (by decide)) | refine g_know TrydT_ok Tryd.func21 rfl (fun _ => ?_) (fun h => absurd h (by decide)) | refine s_know TrydT_ok (fun _ => ?_) (fun h => absurd h (by decide)) | refine g_cnd TrydT_ok Tryd.func21 rfl (fun h => absurd h (by decide)) (fun _ => ?_) | refine g_know TrydT_ok Tryd.func21 rfl (fun h => absurd h (by decide)) (fun _ => ?_) | refine s_know TrydT_ok (fun h => absurd h (by decide)) (fun _ => ?_) | refine g_cnd TrydT_ok Tryd.func21 rfl (fun _ => ?_) (fun h => absurd (show true = false from h) (by decide)) | refine g_know TrydT_ok Tryd.func21 rfl (fun _ => ?_) (fun h => absurd (show true = false from h) (by decide)) | refine s_know TrydT_ok (fun _ => ?_) (fun h => absurd (show true = false from h) (by decide)) | refine g_cnd TrydT_ok Tryd.func21 rfl (fun h => absurd (show false = true from h) (by decide)) (fun _ => ?_) | refine g_know TrydT_ok Tryd.func21 rfl (fun h => absurd (show false = true from h) (by decide)) (fun _ => ?_) | refine s_know TrydT_ok (fun h => absurd (show false = true from h) (by decide)) (fun _ => ?_))
            refine e_done TrydT_ok Tryd.func21 (by kernel_rfl) ?_
            refine g_loop ?_
            exact ih2 (j + 1, true) _ _ ⟨h2, hsn2⟩ (by simp only; omega) ⟨rfl, rfl, rfl, rfl, rfl, rfl, rfl, rfl, hj1, trivial⟩ rfl ⟨rfl, rfl, rfl, trivial⟩ rfl rfl
          | true =>
            repeat (first | refine g_cnd TrydT_ok Tryd.func21 rfl (fun _ => ?_) (fun h => absurd h (by decide)) | refine g_know TrydT_ok Tryd.func21 rfl (fun _ => ?_) (fun h => absurd h (by decide)) | refine s_know TrydT_ok (fun _ => ?_) (fun h => absurd h (by decide)) | refine g_cnd TrydT_ok Tryd.func21 rfl (fun h => absurd h (by decide)) (fun _ => ?_) | refine g_know TrydT_ok Tryd.func21 rfl (fun h => absurd h (by decide)) (fun _ => ?_) | refine s_know TrydT_ok (fun h => absurd h (by decide)) (fun _ => ?_) | refine g_cnd TrydT_ok Tryd.func21 rfl (fun _ => ?_) (fun h => absurd (show true = false from h) (by decide)) | refine g_know TrydT_ok Tryd.func21 rfl (fun _ => ?_) (fun h => absurd (show true = false from h) (by decide)) | refine s_know TrydT_ok (fun _ => ?_) (fun h => absurd (show true = false from h) (by decide)) | refine g_cnd TrydT_ok Tryd.func21 rfl (fun h => absurd (show false = true from h) (by decide)) (fun _ => ?_) | refine g_know TrydT_ok Tryd.func21 rfl (fun h => absurd (show false = true from h) (by decide)) (fun _ => ?_) | refine s_know TrydT_ok (fun h => absurd (show false = true from h) (by decide)) (fun _ => ?_))
            first | refine g_need TrydT_ok Tryd.func21 (by exact hb2) ?_ | refine s_need TrydT_ok (by exact hb2) ?_
            first | refine g_elem TrydT_ok Tryd.func21 (gl) ?_ | refine s_elem TrydT_ok (gl) ?_
            cases a with
            | false =>
              repeat (first | refine g_cnd TrydT_ok Tryd.func21 rfl (fun _ => ?_) (fun h => absurd h (by decide)) | refine g_know TrydT_ok Tryd.func21 rfl (fun _ => ?_) (fun h => absurd h (by decide)) | refine s_know TrydT_ok (fun _ => ?_) (fun h => absurd h (by decide)) | refine g_cnd TrydT_ok Tryd.func21 rfl (fun h => absurd h (by decide)) (fun _ => ?_) | refine g_know TrydT_ok Tryd.func21 rfl (fun h => absurd h (by decide)) (fun _ => ?_) | refine s_know TrydT_ok (fun h => absurd h (by decide)) (fun _ => ?_) | refine g_cnd TrydT_ok Tryd.func21 rfl (fun _ => ?_) (fun h => absurd (show true = false from h) (by decide)) | refine g_know TrydT_ok Tryd.func21 rfl (fun _ => ?_) (fun h => absurd (show true = false from h) (by decide)) | refine s_know TrydT_ok (fun _ => ?_) (fun h => absurd (show true = false from h) (by decide)) | refine g_cnd TrydT_ok Tryd.func21 rfl (fun h => absurd (show false = true from h) (by decide)) (fun _ => ?_) | refine g_know TrydT_ok Tryd.func21 rfl (fun h => absurd (show false = true from h) (by decide)) (fun _ => ?_) | refine s_know TrydT_ok (fun h => absurd (show false = true from h) (by decide)) (fun _ => ?_))
              refine e_done TrydT_ok Tryd.func21 (by kernel_rfl) ?_
              refine g_loop ?_
              exact ih2 (j + 1, true) _ _ ⟨h2, hsn2⟩ (by simp only; omega) ⟨rfl, rfl, rfl, rfl, rfl, rfl, rfl, rfl, hj1, trivial⟩ rfl ⟨rfl, rfl, rfl, trivial⟩ rfl rfl
            | true =>
              repeat (first | refine g_cnd TrydT_ok Tryd.func21 rfl (fun _ => ?_) (fun h => absurd h (by decide)) | refine g_know TrydT_ok Tryd.func21 rfl (fun _ => ?_) (fun h => absurd h (by decide)) | refine s_know TrydT_ok (fun _ => ?_) (fun h => absurd h (by decide)) | refine g_cnd TrydT_ok Tryd.func21 rfl (fun h => absurd h (by decide)) (fun _ => ?_) | refine g_know TrydT_ok Tryd.func21 rfl (fun h => absurd h (by decide)) (fun _ => ?_) | refine s_know TrydT_ok (fun h => absurd h (by decide)) (fun _ => ?_) | refine g_cnd TrydT_ok Tryd.func21 rfl (fun _ => ?_) (fun h => absurd (show true = false from h) (by decide)) | refine g_know TrydT_ok Tryd.func21 rfl (fun _ => ?_) (fun h => absurd (show true = false from h) (by decide)) | refine s_know TrydT_ok (fun _ => ?_) (fun h => absurd (show true = false from h) (by decide)) | refine g_cnd TrydT_ok Tryd.func21 rfl (fun h => absurd (show false = true from h) (by decide)) (fun _ => ?_) | refine g_know TrydT_ok Tryd.func21 rfl (fun h => absurd (show false = true from h) (by decide)) (fun _ => ?_) | refine s_know TrydT_ok (fun h => absurd (show false = true from h) (by decide)) (fun _ => ?_))
              first | refine g_need TrydT_ok Tryd.func21 (by exact hb0) ?_ | refine s_need TrydT_ok (by exact hb0) ?_
              first | refine g_elem TrydT_ok Tryd.func21 (gb) ?_ | refine s_elem TrydT_ok (gb) ?_
              first | refine g_need TrydT_ok Tryd.func21 (by exact hb1) ?_ | refine s_need TrydT_ok (by exact hb1) ?_
              first | refine g_elem TrydT_ok Tryd.func21 (gv) ?_ | refine s_elem TrydT_ok (gv) ?_
              first | refine g_call TrydT_ok Tryd.func21 (hwi _) rfl rfl rfl rfl rfl ?_ | refine s_callq TrydT_ok (fun _ => hwi _) rfl rfl rfl ?_
              cases hb with
              | false =>
                repeat (first | refine g_cnd TrydT_ok Tryd.func21 rfl (fun _ => ?_) (fun h => absurd h (by decide)) | refine g_know TrydT_ok Tryd.func21 rfl (fun _ => ?_) (fun h => absurd h (by decide)) | refine s_know TrydT_ok (fun _ => ?_) (fun h => absurd h (by decide)) | refine g_cnd TrydT_ok Tryd.func21 rfl (fun h => absurd h (by decide)) (fun _ => ?_) | refine g_know TrydT_ok Tryd.func21 rfl (fun h => absurd h (by decide)) (fun _ => ?_) | refine s_know TrydT_ok (fun h => absurd h (by decide)) (fun _ => ?_) | refine g_cnd TrydT_ok Tryd.func21 rfl (fun _ => ?_) (fun h => absurd (show true = false from h) (by decide)) | refine g_know TrydT_ok Tryd.func21 rfl (fun _ => ?_) (fun h => absurd (show true = false from h) (by decide)) | refine s_know TrydT_ok (fun _ => ?_) (fun h => absurd (show true = false from h) (by decide)) | refine g_cnd TrydT_ok Tryd.func21 rfl (fun h => absurd (show false = true from h) (by decide)) (fun _ => ?_) | refine g_know TrydT_ok Tryd.func21 rfl (fun h => absurd (show false = true from h) (by decide)) (fun _ => ?_) | refine s_know TrydT_ok (fun h => absurd (show false = true from h) (by decide)) (fun _ => ?_))
                refine e_done TrydT_ok Tryd.func21 (by kernel_rfl) ?_
                refine g_loop ?_
                exact ih2 (j + 1, true) _ _ ⟨h2, hsn2⟩ (by simp only; omega) ⟨rfl, rfl, rfl, rfl, rfl, rfl, rfl, rfl, hj1, trivial⟩ rfl ⟨rfl, rfl, rfl, trivial⟩ rfl rfl
              | true =>
                repeat (first | refine g_cnd TrydT_ok Tryd.func21 rfl (fun _ => ?_) (fun h => absurd h (by decide)) | refine g_know TrydT_ok Tryd.func21 rfl (fun _ => ?_) (fun h => absurd h (by decide)) | refine s_know TrydT_ok (fun _ => ?_) (fun h => absurd h (by decide)) | refine g_cnd TrydT_ok Tryd.func21 rfl (fun h => absurd h (by decide)) (fun _ => ?_) | refine g_know TrydT_ok Tryd.func21 rfl (fun h => absurd h (by decide)) (fun _ => ?_) | refine s_know TrydT_ok (fun h => absurd h (by decide)) (fun _ => ?_) | refine g_cnd TrydT_ok Tryd.func21 rfl (fun _ => ?_) (fun h => absurd (show true = false from h) (by decide)) | refine g_know TrydT_ok Tryd.func21 rfl (fun _ => ?_) (fun h => absurd (show true = false from h) (by decide)) | refine s_know TrydT_ok (fun _ => ?_) (fun h => absurd (show true = false from h) (by decide)) | refine g_cnd TrydT_ok Tryd.func21 rfl (fun h => absurd (show false = true from h) (by decide)) (fun _ => ?_) | refine g_know TrydT_ok Tryd.func21 rfl (fun h => absurd (show false = true from h) (by decide)) (fun _ => ?_) | refine s_know TrydT_ok (fun h => absurd (show false = true from h) (by decide)) (fun _ => ?_))
                first | refine g_need TrydT_ok Tryd.func21 (by exact hb1) ?_ | refine s_need TrydT_ok (by exact hb1) ?_
                first | refine g_elem TrydT_ok Tryd.func21 (gv) ?_ | refine s_elem TrydT_ok (gv) ?_
                refine s_call TrydT_ok (hcv _ 0 54 57 rfl rfl) rfl rfl rfl ?_
                refine e_done TrydT_ok Tryd.func21 (by kernel_rfl) ?_
                refine g_loop ?_
                exact ih2 (j + 1, cv) _ _ ⟨h2, hsn2⟩ (by simp only; omega) ⟨rfl, rfl, rfl, rfl, rfl, rfl, rfl, rfl, hj1, trivial⟩ rfl ⟨rfl, rfl, rfl, trivial⟩ rfl rfl
      · have h2 : all.length ≤ j := by simpa using g2
        rw [List.drop_eq_nil_of_le h2] at hsn2
        simp only [spareL] at hsn2
        rw [hsn2] at hno
        have hk1 : ii (IntKind.i64.wrap ((k : Int) + 1)) = ii ((k + 1 : Nat) : Int) := congrArg ii (wsucc (n := 4096) (by omega) (by decide))
        have hobs : ∀ x : Bool, Ob.arr 4 1 F.length ((F.map fun b => [I.v (.bool b)]).set k [.v (.bool x)]) true = obools (F1 ++ [x] ++ List.replicate (B.length - (k + 1)) true) := fun x => by
          rw [← hset x]
          simp [List.map_set]
        first | refine g_need TrydT_ok Tryd.func21 (by exact ⟨by omega, by show (k : Int) < (F.length : Int); omega⟩) ?_ | refine s_need TrydT_ok (by exact ⟨by omega, by show (k : Int) < (F.length : Int); omega⟩) ?_
        cases s with
        | false =>
          repeat (first | refine g_cnd TrydT_ok Tryd.func21 rfl (fun _ => ?_) (fun h => absurd h (by decide)) | refine g_know TrydT_ok Tryd.func21 rfl (fun _ => ?_) (fun h => absurd h (by decide)) | refine s_know TrydT_ok (fun _ => ?_) (fun h => absurd h (by decide)) | refine g_cnd TrydT_ok Tryd.func21 rfl (fun h => absurd h (by decide)) (fun _ => ?_) | refine g_know TrydT_ok Tryd.func21 rfl (fun h => absurd h (by decide)) (fun _ => ?_) | refine s_know TrydT_ok (fun h => absurd h (by decide)) (fun _ => ?_) | refine g_cnd TrydT_ok Tryd.func21 rfl (fun _ => ?_) (fun h => absurd (show true = false from h) (by decide)) | refine g_know TrydT_ok Tryd.func21 rfl (fun _ => ?_) (fun h => absurd (show true = false from h) (by decide)) | refine s_know TrydT_ok (fun _ => ?_) (fun h => absurd (show true = false from h) (by decide)) | refine g_cnd TrydT_ok Tryd.func21 rfl (fun h => absurd (show false = true from h) (by decide)) (fun _ => ?_) | refine g_know TrydT_ok Tryd.func21 rfl (fun h => absurd (show false = true from h) (by decide)) (fun _ => ?_) | refine s_know TrydT_ok (fun h => absurd (show false = true from h) (by decide)) (fun _ => ?_))
          have hb0 : 0 ≤ (k : Int) ∧ (k : Int) < (B.length : Int) := by omega
          first | refine g_need TrydT_ok Tryd.func21 (by exact hb0) ?_ | refine s_need TrydT_ok (by exact hb0) ?_
          first | refine g_elem TrydT_ok Tryd.func21 (gb) ?_ | refine s_elem TrydT_ok (gb) ?_
          first | refine g_need TrydT_ok Tryd.func21 (by exact ⟨by show (K.length + 1) * 48 ≤ 140737488355328; omega, by show K.length + 1 ≤ 9223372036854775807; omega⟩) ?_ | refine s_need TrydT_ok (by exact ⟨by show (K.length + 1) * 48 ≤ 140737488355328; omega, by show K.length + 1 ≤ 9223372036854775807; omega⟩) ?_
          refine g_loop ?_
          have e1 : selB (B.take (k + 1)) (F1 ++ [true]) = K ++ [b] := by rw [hsn]; simp
          refine ih (k + 1, F1 ++ [true]) _ _ ⟨h1, by simp [hF1], ?_⟩ (by simp only; omega) ⟨rfl, rfl, rfl, rfl, rfl, rfl, hk1, trivial⟩ rfl ⟨rfl, congrArg some (hobs true), ?_, trivial⟩ rfl rfl
          · simp only [e1]
            simpa using hno
          · simp only [e1]
            exact congrArg some (obxs_app K b)
        | true =>
          repeat (first | refine g_cnd TrydT_ok Tryd.func21 rfl (fun _ => ?_) (fun h => absurd h (by decide)) | refine g_know TrydT_ok Tryd.func21 rfl (fun _ => ?_) (fun h => absurd h (by decide)) | refine s_know TrydT_ok (fun _ => ?_) (fun h => absurd h (by decide)) | refine g_cnd TrydT_ok Tryd.func21 rfl (fun h => absurd h (by decide)) (fun _ => ?_) | refine g_know TrydT_ok Tryd.func21 rfl (fun h => absurd h (by decide)) (fun _ => ?_) | refine s_know TrydT_ok (fun h => absurd h (by decide)) (fun _ => ?_) | refine g_cnd TrydT_ok Tryd.func21 rfl (fun _ => ?_) (fun h => absurd (show true = false from h) (by decide)) | refine g_know TrydT_ok Tryd.func21 rfl (fun _ => ?_) (fun h => absurd (show true = false from h) (by decide)) | refine s_know TrydT_ok (fun _ => ?_) (fun h => absurd (show true = false from h) (by decide)) | refine g_cnd TrydT_ok Tryd.func21 rfl (fun h => absurd (show false = true from h) (by decide)) (fun _ => ?_) | refine g_know TrydT_ok Tryd.func21 rfl (fun h => absurd (show false = true from h) (by decide)) (fun _ => ?_) | refine s_know TrydT_ok (fun h => absurd (show false = true from h) (by decide)) (fun _ => ?_))
          refine g_loop ?_
          have e1 : selB (B.take (k + 1)) (F1 ++ [false]) = K := by rw [hsn]; simp
          refine ih (k + 1, F1 ++ [false]) _ _ ⟨h1, by simp [hF1], ?_⟩ (by simp only; omega) ⟨rfl, rfl, rfl, rfl, rfl, rfl, hk1, trivial⟩ rfl ⟨rfl, congrArg some (hobs false), ?_, trivial⟩ rfl rfl
          · simp only [e1]
            simpa using hno
          · simp only [e1]
            rfl
    · have h1 : B.length ≤ k := by simpa using g1
      rw [List.drop_eq_nil_of_le h1] at hno
      simp only [thin] at hno
      rw [hno]
      refine g_rwk (wk_freeze 120 rfl rfl) ?_
      refine g_rwk (wk_imm rfl) ?_
      refine g_ret TrydT_ok (r := bxs R) rfl rfl rfl trivial rfl rfl ?_
      rfl
end Go.AI
