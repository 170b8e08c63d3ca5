/- The layer of abstract runs, part 42. -/
import Derived.Test.YtonnakcgopcfnaaDoorJilZO
set_option linter.unusedSimpArgs false
set_option linter.unusedVariables false
set_option linter.all false

/- Variables of small ranges. -/
namespace Go.AI
set_option maxRecDepth 20000
theorem rngsR_take (l : List (Int × Int)) : rngsR (l.take 3) = rngsR l := by
  unfold rngsR
  rw [List.length_take, show min (min 3 l.length) 3 = min l.length 3 by omega]
  refine List.map_congr_left fun i hi => ?_
  have hi : i < min l.length 3 := List.mem_range.1 hi
  congr 1
  simp only [List.getD_eq_getElem?_getD, List.getElem?_take]
  rw [if_pos (by omega)]
theorem rngs_err3 {l : List (Int × Int)} (h : ∀ p ∈ l, pairOk p) : varsErr (rngsR l) = 0 := by
  rw [← rngsR_take]
  have h' : ∀ p ∈ l.take 3, pairOk p := fun p hp => h p (List.mem_of_mem_take hp)
  have hl : (l.take 3).length ≤ 3 := List.length_take_le _ _
  generalize l.take 3 = l at *
  have hlen : (rngsR l).length ≤ 3 := by rw [rngsR_len]; omega
  unfold varsErr
  rw [if_neg (by omega)]
  have hok := rngsR_ok h'
  have n0 : isNameB (nameR 0) = true := by kernel_rfl
  have n1 : isNameB (nameR 1) = true := by kernel_rfl
  have n2 : isNameB (nameR 2) = true := by kernel_rfl
  have n01 : ((nameR 0).toList == (nameR 1).toList) = false := by kernel_rfl
  have n02 : ((nameR 0).toList == (nameR 2).toList) = false := by kernel_rfl
  have n12 : ((nameR 1).toList == (nameR 2).toList) = false := by kernel_rfl
  match l, hl with
  | [], _ => rfl
  | [a], _ =>
    have e : rngsR [a] = [rngV 0 a] := rfl
    rw [e] at hok ⊢
    simp only [checkVrs]
    rw [checkVr_ok n0 (by simp) (hok _ (by simp))]
  | [a, b], _ =>
    have e : rngsR [a, b] = [rngV 0 a, rngV 1 b] := rfl
    rw [e] at hok ⊢
    simp only [checkVrs]
    rw [checkVr_ok n0 (by simp) (hok _ (by simp))]
    simp only
    rw [checkVr_ok n1 ?_ (hok _ (by simp))]
    simp only [List.take_succ_cons, List.take_zero, List.any_cons, List.any_nil, Bool.or_false]
    exact n01
  | [a, b, c], _ =>
    have e : rngsR [a, b, c] = [rngV 0 a, rngV 1 b, rngV 2 c] := rfl
    rw [e] at hok ⊢
    simp only [checkVrs]
    rw [checkVr_ok n0 (by simp) (hok _ (by simp))]
    simp only
    rw [checkVr_ok n1 ?_ (hok _ (by simp))]
    · simp only
      rw [checkVr_ok n2 ?_ (hok _ (by simp))]
      simp only [List.take_succ_cons, List.take_zero, List.any_cons, List.any_nil, Bool.or_false, Bool.or_eq_false_iff]
      exact ⟨n02, n12⟩
    · simp only [List.take_succ_cons, List.take_zero, List.any_cons, List.any_nil, Bool.or_false]
      exact n01
theorem cntR_some : ∀ {l : List Vr} {c : Int}, (∀ v ∈ l, v.low ≤ v.high ∧ v.high ≤ v.low + 3) → 1 ≤ c → c * (4 ^ l.length : Nat) ≤ 4096 → ∃ d, cntR l c = some d ∧ 1 ≤ d ∧ d ≤ c * (4 ^ l.length : Nat)
  | [], c, _, h1, h => ⟨c, rfl, h1, by simp⟩
  | v :: r, c, hv, h1, h => by
    have hw := hv v (by simp)
    have hwb : 1 ≤ v.w ∧ v.w ≤ 4 := by unfold Vr.w; omega
    have hp : 1 ≤ ((4 ^ r.length : Nat) : Int) := by have := Nat.pow_pos (n := r.length) (show 0 < 4 by decide); omega
    have e : ((4 ^ (v :: r).length : Nat) : Int) = 4 * ((4 ^ r.length : Nat) : Int) := by rw [List.length_cons, Nat.pow_succ]; omega
    have h2 : c * v.w ≤ c * 4 := Int.mul_le_mul_of_nonneg_left hwb.2 (by omega)
    have h3 : 1 ≤ c * v.w := by have := Int.mul_le_mul_of_nonneg_left (c := c) hwb.1 (by omega); rw [Int.mul_one] at this; omega
    rw [e, ← Int.mul_assoc] at h
    have h4 : c * v.w * ((4 ^ r.length : Nat) : Int) ≤ c * 4 * ((4 ^ r.length : Nat) : Int) := Int.mul_le_mul_of_nonneg_right h2 (by omega)
    have h5 : c * v.w ≤ 4096 := by
      have := Int.mul_le_mul_of_nonneg_left (c := c * v.w) hp (by omega)
      rw [Int.mul_one] at this
      omega
    obtain ⟨d, d1, d2, d3⟩ := cntR_some (l := r) (c := c * v.w) (fun w hw => hv w (by simp [hw])) h3 (by omega)
    refine ⟨d, ?_, d2, ?_⟩
    · simp only [cntR]
      rw [if_neg (by omega)]
      exact d1
    · rw [e, ← Int.mul_assoc]; omega
theorem cntR_size : ∀ {l : List Vr} {c d : Int} {out : List (List Int)}, (∀ v ∈ l, v.low ≤ v.high) → cntR l c = some d → (out.length : Int) = c → ((l.foldl allStep out).length : Int) = d
  | [], c, d, out, _, h, ho => by
    simp only [cntR, Option.some.injEq] at h
    simp only [List.foldl_nil]
    omega
  | v :: r, c, d, out, hv, h, ho => by
    simp only [cntR] at h
    split at h
    · cases h
    · simp only [List.foldl_cons]
      refine cntR_size (fun w hw => hv w (by simp [hw])) h ?_
      rw [allStep_len' out v (hv v (by simp)), ho]
/-- The variables that the laws draw. -/
structure small (l : List Vr) : Prop where
  dom : domOk l
  all : allG l = (allV l, 0)
  len : l.length ≤ 3
  pos : 1 ≤ (allV l).length
  most : (allV l).length ≤ 64
  v : ∀ x ∈ l, vrOk x
theorem rngs_small {l : List (Int × Int)} (h : ∀ p ∈ l, pairOk p) : small (rngsR l) := by
  have he := rngs_err3 h
  have hv := rngsR_ok h
  have hlen : (rngsR l).length ≤ 3 := by rw [rngsR_len]; omega
  have hp : (4 ^ (rngsR l).length : Nat) ≤ 64 := Nat.pow_le_pow_right (n := 4) (by decide) hlen
  obtain ⟨d, d1, d2, d3⟩ := cntR_some (l := rngsR l) (c := 1) (fun v hm => (hv v hm).w) (by decide) (by omega)
  have hs := cntR_size (out := [[]]) (fun v hm => (hv v hm).w.1) d1 rfl
  have hs : ((allV (rngsR l)).length : Int) = d := hs
  have ha : allG (rngsR l) = (allV (rngsR l), 0) := by
    unfold allG
    rw [if_neg (by simpa using he), d1]
  obtain ⟨g1, g2⟩ := allG_ok (l := rngsR l) (by rw [ha])
  exact ⟨g1, ha, hlen, by omega, by omega, hv⟩
theorem small.max {l : List Vr} (h : small l) : l.length ≤ max63 ∧ ∀ v ∈ l, v.name.size ≤ max63 :=
  ⟨by have := h.len; simp only [max63]; omega, fun v hv => by rw [(h.v v hv).nm]; decide⟩
end Go.AI


/- The arguments of the statements about guards: data. -/
namespace Go.Proofs.YtonnakcgopcfnaaDoor
open Go.ChangeShapes Go.WideShapes Go.ChangeAt Go.RowKit Go.Deep Go.WideElems
set_option maxRecDepth 100000
section
variable {H : Type} {enc : TypeId × Value → H} {W : World}
theorem okWide_sl {P : Program} {W : World} {r : Reach} {b0 : Nat} {t e : TypeId} {v : Value} (ht : P.underlying t = some (.slice e)) (h : Value.okWide P W r b0 t v) : v.cells.toList = [v] := by
  simp only [Value.okWide, ht, Cell.okWide] at h
  cases v <;> simp_all [Cell.ok, Value.cells]
theorem open_pairs {r : Reach} {b0 : Nat} {v : Value} {d : DataW H} {p : List MemPlace} (hv : Value.okWide Tryd.prog W r b0 22 v) (h : DataW.Trod enc Tryd.prog W 0 (fun _ => true) true 22 v d p) :
    ∃ l : List (Int × Int), (l.length ≤ AI.max63 ∧ ∀ x ∈ l, AI.pairOk x) ∧ ∀ ρ sh, AI.RepD (KW W) ρ sh v (AI.r8s l) := by
  obtain ⟨n, hn⟩ := h
  obtain ⟨is, hr, l, rfl, h1, h2⟩ := opn_pairs n _ _ hn
  rw [okWide_sl Tryd.underlying22 hv] at hr
  cases hr with
  | cons a b => exact ⟨l, ⟨h2, h1⟩, fun ρ sh => .i a⟩
end
end Go.Proofs.YtonnakcgopcfnaaDoor


/- The arguments of the statements about guards: boxes. -/
namespace Go.Proofs.YtonnakcgopcfnaaDoor
open Go.ChangeShapes Go.WideShapes Go.ChangeAt Go.RowKit Go.Deep Go.WideElems
set_option maxRecDepth 100000
section
variable {H : Type} {enc : TypeId × Value → H} {W : World}
end
end Go.Proofs.YtonnakcgopcfnaaDoor


/- A region whose order is drawn, with a floating operation (an append) among reads: it may come at any place behind what it needs. -/
namespace Go.AI
/-- The rule of a prefix in any order and a tail: what one operation does is asked for, for each closed set that may be executed before it. -/
theorem rch_tailG {c : Cx} (hm : c.P.follows .mixedOrders = true) {id : Nat} {ops : Array Oper} {O : List Heap} {n : Nat} {x0 : SH} {ps : List Pl} {k : List Item} {pre : List (List Nat)} (hpr : pre = presGo ops.toList []) (hpre : preOk ops pre = true) (htl : tailB ops pre ps.length = true) (hlen' : ps.length ≤ ops.size)
    (hstep : ∀ (L : Nat → Bool), Closed ops L → ∀ i o, ops[i]? = some o → i < ps.length → L i = false → (∀ j ∈ befores o, L j = true) → (∀ j, j < ops.size → ps.length ≤ j → L j = false) → ∀ K ρ a w, Inv c.E K ρ (St.of O n (fold ps (ord ops.size L) x0)) a w →
      ∀ (Q : Exit → Act → World → Prop) (next : Act → World → Prop), (∀ a' w' K' ρ', Inv c.E K' ρ' (St.of O n (fold ps (ord ops.size fun k => L k || Nat.beq k i) x0)) a' w' → next a' w') → wpOp c.P ops Q i next a w)
    (hend : RG c ops (List.range' ps.length (ops.size - ps.length)) (St.of O n (foldP ps x0)) (Rch c k)) : Rch c (.code (.region id ops true) :: k) (St.of O n x0) := by
  subst hpr
  intro K ρ a w b cs hi hb hk
  let Q : Exit → Act → World → Prop := fun e a' w' => e = .normal ∧ ∃ s' K ρ, Inv c.E K ρ s' a' w' ∧ Rch c k s'
  have hgetD : ∀ (listed : Array Bool) (i : Nat), listed.size = ops.size → i < ops.size → ∀ k, (listed.setIfInBounds i true).getD k false = (listed.getD k false || Nat.beq k i) := by
    intro listed i hsz hlt k
    by_cases hki : k = i
    · subst hki
      simp [hsz, hlt]
    · have : Nat.beq k i = false := by
        cases hb : Nat.beq k i with
        | false => rfl
        | true => exact absurd (Nat.eq_of_beq_eq_true hb) hki
      rw [this, Bool.or_false, getD_set_ne false (Ne.symm hki)]
  have hcntlt : ∀ (listed : Array Bool) (i : Nat), listed.size = ops.size → i < ops.size → listed.getD i false = false → (List.range ops.size).countP (fun k => !(listed.setIfInBounds i true).getD k false) < (List.range ops.size).countP (fun k => !listed.getD k false) := by
    intro listed i hsz hlt hLi
    have e1 : (fun k => !(listed.setIfInBounds i true).getD k false) = fun k => !listed.getD k false && !Nat.beq k i := by
      funext k; rw [hgetD listed i hsz hlt]; simp
    rw [e1]
    obtain ⟨l1, l2, hl⟩ := List.append_of_mem (List.mem_range.2 hlt)
    rw [hl]
    simp only [List.countP_append, List.countP_cons]
    have m1 : l1.countP (fun k => !listed.getD k false && !Nat.beq k i) ≤ l1.countP (fun k => !listed.getD k false) := List.countP_mono_left fun x _ hx => by simp only [Bool.and_eq_true] at hx; exact hx.1
    have m2 : l2.countP (fun k => !listed.getD k false && !Nat.beq k i) ≤ l2.countP (fun k => !listed.getD k false) := List.countP_mono_left fun x _ hx => by simp only [Bool.and_eq_true] at hx; exact hx.1
    have e2 : (!listed.getD i false) = true := by rw [hLi]; rfl
    have e3 : Nat.beq i i = true := Nat.beq_refl i
    rw [if_pos e2, if_neg (by rw [e3]; simp)]
    omega
  have hready : ∀ (listed : Array Bool), listed.size = ops.size → ∀ i, i < ops.size → listed.getD i false = false → (∀ o, ops[i]? = some o → ∀ j ∈ befores o, listed.getD j false = true) → i ∈ Region.ready .any ops listed := by
    intro listed hsz i hlt hLi hbe
    rw [mem_ready]
    obtain ⟨o, ho⟩ : ∃ o, ops[i]? = some o := ⟨ops[i], by rw [Array.getElem?_eq_getElem]⟩
    refine ⟨?_, o, ho, fun e he hb1 => hbe o ho e.on (mem_befores.2 ⟨e, he, hb1, rfl⟩)⟩
    simp only [Array.getD_eq_getD_getElem?] at hLi ⊢
    rw [Array.getElem?_eq_getElem (by omega)] at hLi ⊢
    simpa using hLi
  have hfromReady : ∀ (listed : Array Bool), listed.size = ops.size → ∀ i ∈ Region.ready .any ops listed, ∃ o, ops[i]? = some o ∧ i < ops.size ∧ listed.getD i false = false ∧ ∀ j ∈ befores o, listed.getD j false = true := by
    intro listed hsz i hi
    obtain ⟨h1, o, ho, hbe⟩ := mem_ready.1 hi
    have hlt : i < ops.size := (Array.getElem?_eq_some_iff.1 ho).1
    refine ⟨o, ho, hlt, ?_, fun j hj => ?_⟩
    · simp only [Array.getD_eq_getD_getElem?] at h1 ⊢
      rw [Array.getElem?_eq_getElem (by omega)] at h1 ⊢
      simpa using h1
    · obtain ⟨e, he, hb1, rfl⟩ := mem_befores.1 hj
      exact hbe e he hb1
  have hclose : ∀ (listed : Array Bool) (i : Nat) (o : Oper), listed.size = ops.size → ops[i]? = some o → i < ops.size → (∀ j ∈ befores o, listed.getD j false = true) → Closed ops (fun k => listed.getD k false) → Closed ops (fun k => (listed.setIfInBounds i true).getD k false) := by
    intro listed i o hsz ho hlt hbef hc k ok hok2 hk2 j hj
    have hk2 : (listed.setIfInBounds i true).getD k false = true := hk2
    show (listed.setIfInBounds i true).getD j false = true
    rw [hgetD listed i hsz hlt] at hk2 ⊢
    simp only [Bool.or_eq_true] at hk2
    rcases hk2 with hk2 | hk2
    · have hcj : listed.getD j false = true := hc k ok hok2 hk2 j hj
      rw [hcj]; rfl
    · have := Nat.eq_of_beq_eq_true hk2
      subst this
      rw [ho] at hok2
      simp only [Option.some.injEq] at hok2
      subst hok2
      rw [hbef j hj]; rfl
  have htail : ∀ (listed : Array Bool) (i : Nat) (o : Oper), ops[i]? = some o → ps.length ≤ i → Closed ops (fun k => listed.getD k false) → (∀ j ∈ befores o, listed.getD j false = true) → ∀ j, j < i → listed.getD j false = true := by
    intro listed i o ho hge hc hbef j hj
    have hlt : i < ops.size := (Array.getElem?_eq_some_iff.1 ho).1
    have h1 := allN_iff htl i hlt
    simp only [Bool.or_eq_true] at h1
    rcases h1 with h1 | h1
    · have := Nat.le_of_ble_eq_true h1; omega
    · exact (pre_down hpre hc (i + 1) i o (by omega) ho hbef j (memN_iff.1 (allN_iff h1 j hj))).1
  -- the tail
  have tail : ∀ (fuel m : Nat) (listed : Array Bool) (a : Act) (w : World), listed.size = ops.size → ps.length ≤ m → m ≤ ops.size → ops.size - m ≤ fuel → (∀ j, j < ops.size → listed.getD j false = Nat.ble (j + 1) m) → Closed ops (fun k => listed.getD k false) →
      wpOps c.P ops Q (List.range' m (ops.size - m)) a w → wpAny c.P .any ops Q fuel listed a w := by
    intro fuel
    induction fuel with
    | zero =>
      intro m listed a w hsz hm1 hm2 hf hl hc hw
      have : ops.size - m = 0 := by omega
      rw [this] at hw
      refine ⟨?_, hw⟩
      cases hr : Region.ready .any ops listed with
      | nil => rfl
      | cons i r =>
        obtain ⟨o, ho, hlt, hLi, _⟩ := hfromReady listed hsz i (by rw [hr]; simp)
        rw [hl i hlt, Nat.ble_eq_true_of_le (by omega)] at hLi
        cases hLi
    | succ fuel ih =>
      intro m listed a w hsz hm1 hm2 hf hl hc hw
      refine ⟨fun hr => ?_, fun i hi => ?_⟩
      · by_cases hms : m = ops.size
        · have : ops.size - m = 0 := by omega
          rw [this] at hw
          exact hw
        · exfalso
          have hmlt : m < ops.size := by omega
          have : m ∈ Region.ready .any ops listed := by
            refine hready listed hsz m hmlt ?_ fun o ho j hj => ?_
            · rw [hl m hmlt]
              cases hb : Nat.ble (m + 1) m with
              | false => rfl
              | true => have := Nat.le_of_ble_eq_true hb; omega
            · have hjm := (pre_lt hpre m o ho).1 j hj
              rw [hl j (by omega)]
              exact Nat.ble_eq_true_of_le hjm
          rw [hr] at this; cases this
      · obtain ⟨o, ho, hlt, hLi, hbef⟩ := hfromReady listed hsz i hi
        have him : m ≤ i := by
          rw [hl i hlt] at hLi
          apply Nat.le_of_not_lt
          intro h
          rw [Nat.ble_eq_true_of_le h] at hLi; cases hLi
        have : i = m := by
          apply Classical.byContradiction
          intro hne
          have := htail listed i o ho (by omega) hc hbef m (by omega)
          rw [hl m (by omega)] at this
          have := Nat.le_of_ble_eq_true this
          omega
        subst this
        rw [show ops.size - i = (ops.size - (i + 1)) + 1 by omega, List.range'_succ, wpOps_cons] at hw
        refine wpOp_mono (fun a w h => ?_) hw
        refine ih (i + 1) _ a w (by simpa using hsz) (by omega) (by omega) (by omega) (fun j hj => ?_) (hclose listed i o hsz ho hlt hbef hc) h
        rw [hgetD listed i hsz hlt, hl j hj]
        by_cases hji : j = i
        · subst hji
          rw [Nat.beq_refl, Bool.or_true]
          exact (Nat.ble_eq_true_of_le (Nat.le_refl _)).symm
        · have hbn : Nat.beq j i = false := by
            cases hb : Nat.beq j i with
            | false => rfl
            | true => exact absurd (Nat.eq_of_beq_eq_true hb) hji
          rw [hbn, Bool.or_false]
          by_cases hji2 : j + 1 ≤ i
          · rw [Nat.ble_eq_true_of_le hji2, Nat.ble_eq_true_of_le (by omega)]
          · have e1 : Nat.ble (j + 1) i = false := by
              cases hb : Nat.ble (j + 1) i with
              | false => rfl
              | true => exact absurd (Nat.le_of_ble_eq_true hb) hji2
            have e2 : Nat.ble (j + 1) (i + 1) = false := by
              cases hb : Nat.ble (j + 1) (i + 1) with
              | false => rfl
              | true => have := Nat.le_of_ble_eq_true hb; omega
            rw [e1, e2]
  have hclosedlt : ∀ (listed : Array Bool), Closed ops (fun k => listed.getD k false) → (∃ j, j < ps.length ∧ listed.getD j false = false) → ∀ i, i < ops.size → ps.length ≤ i → listed.getD i false = false := by
    intro listed hc ⟨j, hj, hjf⟩ i hi hge
    cases hLi : listed.getD i false with
    | false => rfl
    | true =>
      obtain ⟨o, ho⟩ : ∃ o, ops[i]? = some o := ⟨ops[i], by rw [Array.getElem?_eq_getElem]⟩
      have := htail listed i o ho hge hc (fun k hk => hc i o ho hLi k hk) j (by omega)
      rw [hjf] at this; cases this
  have key : ∀ (fuel : Nat) (listed : Array Bool) (a : Act) (w : World), listed.size = ops.size → (List.range ops.size).countP (fun k => !listed.getD k false) ≤ fuel → Closed ops (fun k => listed.getD k false) →
      (∀ i, i < ops.size → ps.length ≤ i → listed.getD i false = false) → (∃ K ρ, Inv c.E K ρ (St.of O n (fold ps (ord ops.size fun k => listed.getD k false) x0)) a w) → wpAny c.P .any ops Q fuel listed a w := by
    intro fuel
    induction fuel with
    | zero =>
      intro listed a w hsz hcnt hc hno hinv
      have hl : ∀ i, i < ops.size → listed.getD i false = true := by
        have h0 := List.countP_eq_zero.1 (Nat.le_zero.1 hcnt)
        intro i hi
        have := h0 i (List.mem_range.2 hi)
        simpa using this
      have hps : ps.length = ops.size := by
        apply Classical.byContradiction
        intro hne
        have h1 := hno ps.length (by omega) (Nat.le_refl _)
        rw [hl _ (by omega)] at h1; cases h1
      refine tail 0 ops.size listed a w hsz (by omega) (Nat.le_refl _) (by omega) (fun j hj => ?_) hc ?_
      · rw [hl j hj, Nat.ble_eq_true_of_le (by omega)]
      · rw [Nat.sub_self]
        obtain ⟨K, ρ, hinv⟩ := hinv
        have e : ord ops.size (fun k => listed.getD k false) = List.range ps.length := by
          rw [hps]
          unfold ord
          rw [List.filter_eq_self]
          intro k hk
          exact hl k (List.mem_range.1 hk)
        rw [e, fold_range _ (Nat.le_refl _), List.take_of_length_le (Nat.le_refl _)] at hinv
        have := hend K ρ a w hinv
        rw [hps, Nat.sub_self] at this
        exact this
    | succ fuel ih =>
      intro listed a w hsz hcnt hc hno hinv
      by_cases hall : ∀ j, j < ps.length → listed.getD j false = true
      · -- the prefix is whole
        have hl : ∀ j, j < ops.size → listed.getD j false = Nat.ble (j + 1) ps.length := by
          intro j hj
          by_cases hjl : j < ps.length
          · rw [hall j hjl, Nat.ble_eq_true_of_le hjl]
          · rw [hno j hj (by omega)]
            cases hb : Nat.ble (j + 1) ps.length with
            | false => rfl
            | true => have := Nat.le_of_ble_eq_true hb; omega
        refine tail (fuel + 1) ps.length listed a w hsz (Nat.le_refl _) hlen' ?_ hl hc ?_
        · refine Nat.le_trans ?_ hcnt
          have e : (List.range ops.size) = List.range ps.length ++ (List.range' ps.length (ops.size - ps.length)) := by
            have h := List.range'_append_1 (s := 0) (m := ps.length) (n := ops.size - ps.length)
            rw [Nat.zero_add, Nat.add_sub_cancel' hlen'] at h
            rw [List.range_eq_range', List.range_eq_range', h]
          rw [e, List.countP_append]
          have : (List.range' ps.length (ops.size - ps.length)).countP (fun k => !listed.getD k false) = (List.range' ps.length (ops.size - ps.length)).length := by
            rw [List.countP_eq_length]
            intro k hk
            rw [List.mem_range'_1] at hk
            rw [hno k (by omega) hk.1]; rfl
          rw [this, List.length_range']
          omega
        · obtain ⟨K, ρ, hinv⟩ := hinv
          have e : ord ops.size (fun k => listed.getD k false) = List.range ps.length := by
            rw [← ord_range (n := ops.size) hlen']
            exact ord_congr fun k hk => hl k hk
          rw [e, fold_range _ (Nat.le_refl _), List.take_of_length_le (Nat.le_refl _)] at hinv
          exact hend K ρ a w hinv
      · have hex : ∃ j, j < ps.length ∧ listed.getD j false = false := by
          apply Classical.byContradiction
          intro hne
          apply hall
          intro j hj
          cases hb : listed.getD j false with
          | true => rfl
          | false => exact absurd ⟨j, hj, hb⟩ hne
        obtain ⟨K, ρ, hinv⟩ := hinv
        refine ⟨fun hr => ?_, fun i hi => ?_⟩
        · -- something of the prefix is ready
          exfalso
          obtain ⟨j, hj, hjf⟩ := hex
          have : ∀ m i, i < m → i < ops.size → listed.getD i false = true := by
            intro m
            induction m with
            | zero => intro i h; omega
            | succ m ih =>
              intro i hi1 hi2
              cases hcc : listed.getD i false with
              | true => rfl
              | false =>
                exfalso
                have : i ∈ Region.ready .any ops listed := hready listed hsz i hi2 hcc fun o ho k hk => by
                  have := (pre_lt hpre i o ho).1 k hk
                  exact ih k (by omega) (by omega)
                rw [hr] at this; cases this
          rw [this (j + 1) j (by omega) (by omega)] at hjf
          cases hjf
        · obtain ⟨o, ho, hlt, hLi, hbef⟩ := hfromReady listed hsz i hi
          have hil : i < ps.length := by
            apply Nat.lt_of_not_le
            intro hge
            obtain ⟨j, hj, hjf⟩ := hex
            rw [htail listed i o ho hge hc hbef j (by omega)] at hjf
            cases hjf
          refine hstep (fun k => listed.getD k false) hc i o ho hil hLi hbef hno K ρ a w hinv Q _ fun a' w' K' ρ' hinv' => ?_
          refine ih _ _ _ (by simpa using hsz) ?_ (hclose listed i o hsz ho hlt hbef hc) (fun k hk1 hk2 => ?_) ⟨K', ρ', ?_⟩
          · have := hcntlt listed i hsz hlt hLi
            omega
          · rw [hgetD listed i hsz hlt, hno k hk1 hk2, Bool.false_or]
            cases hb : Nat.beq k i with
            | false => rfl
            | true => have := Nat.eq_of_beq_eq_true hb; omega
          · rw [ord_congr fun k _ => hgetD listed i hsz hlt k]
            exact hinv'
  have hrep : ∀ k, (Array.replicate ops.size false).getD k false = false := by
    intro k
    simp only [Array.getD_eq_getD_getElem?, Array.getElem?_replicate]
    split <;> rfl
  have h0 : ord ops.size (fun k => (Array.replicate ops.size false).getD k false) = [] := by
    unfold ord
    rw [List.filter_eq_nil_iff]
    intro k _
    rw [hrep]; simp
  obtain ⟨e, a', w', ⟨rfl, s', K', ρ', hi', hq⟩, harr⟩ := wp_region_any (id := id) hm (key ops.size _ a { w with drawn := w.drawn + 1 } (by simp) (by
    refine Nat.le_trans (List.countP_le_length ..) ?_
    simp) (fun i o _ h => by
      have h : (Array.replicate ops.size false).getD i false = true := h
      rw [hrep] at h
      cases h) (fun i _ _ => hrep i) ⟨K, ρ, by rw [h0]; exact inv_draw hi _⟩) b k cs
  obtain ⟨v, w'', fr, hp, hst, h3⟩ := hq K' ρ' a' w' b cs hi' hb hk
  exact ⟨v, w'', fr, hp, Steps.trans harr hst, h3⟩
section
variable {ps ps' : List Pl}
theorem fold_pl_congr : ∀ (l : List Nat) {x : SH}, (∀ i ∈ l, pl ps i = pl ps' i) → fold ps l x = fold ps' l x
  | [], _, _ => rfl
  | i :: l, x, h => by
    simp only [fold, List.foldl_cons]
    rw [h i (by simp)]
    exact fold_pl_congr l fun j hj => h j (by simp [hj])
/-- Operations that only set slots, that are not among some. -/
def pureB (rem : Option Nat) (bad : Nat → Bool) (p : Pl) : Bool := (match p.adds with | [] => true | _ => false) && (match p.rem with | none => true | _ => false) && allS (fun t d => !bad t && d.within (butG rem)) p.sets
theorem pure_get {rem : Option Nat} {bad : Nat → Bool} {p : Pl} (h : pureB rem bad p = true) : p.adds = [] ∧ p.rem = none ∧ ∀ t d, look p.sets t = some d → bad t = false ∧ d.within (butG rem) = true := by
  obtain ⟨ss, ad, rm⟩ := p
  simp only [pureB, Bool.and_eq_true] at h
  obtain ⟨⟨p1, p2⟩, p3⟩ := h
  cases ad with
  | cons => cases p1
  | nil =>
    cases rm with
    | some => cases p2
    | none =>
      refine ⟨rfl, rfl, fun t d e => ?_⟩
      have := allS_look p3 e
      simpa using this
theorem pure_fold {rem : Option Nat} {bad : Nat → Bool} : ∀ (l : List Nat) {x : SH}, (∀ i ∈ l, pureB rem bad (pl ps i) = true) →
    (fold ps l x).2 = x.2 ∧ (∀ t, bad t = true → look (fold ps l x).1 t = look x.1 t) ∧ ∀ t d, look (fold ps l x).1 t = some d → look x.1 t = some d ∨ d.within (butG rem) = true
  | [], x, _ => ⟨rfl, fun _ _ => rfl, fun _ _ h => .inl h⟩
  | i :: l, x, h => by
    obtain ⟨h1, h2, h3⟩ := pure_fold (x := (pl ps i).ap x) l fun j hj => h j (by simp [hj])
    obtain ⟨p1, p2, p3⟩ := pure_get (h i (by simp))
    have hs : fold ps (i :: l) x = fold ps l ((pl ps i).ap x) := rfl
    rw [hs]
    refine ⟨?_, fun t ht => ?_, fun t d e => ?_⟩
    · rw [h1]
      simp only [Pl.ap, p1, p2, rmv, List.nil_append]
    · rw [h2 t ht, ap_S]
      cases hl : look (pl ps i).sets t with
      | none => rfl
      | some d => have := (p3 t d hl).1; rw [ht] at this; cases this
    · rcases h3 t d e with h4 | h4
      · rw [ap_S] at h4
        cases hl : look (pl ps i).sets t with
        | none => rw [hl] at h4; exact .inl h4
        | some d' =>
          rw [hl] at h4
          simp only [Option.some.injEq] at h4
          subst h4
          exact .inr (p3 t _ hl).2
      · exact .inr h4
theorem fold_same_at {t : Nat} : ∀ (l : List Nat) {x y : SH}, look x.1 t = look y.1 t → look (fold ps l x).1 t = look (fold ps l y).1 t
  | [], _, _, h => h
  | i :: l, x, y, h => by
    have hs : ∀ z, fold ps (i :: l) z = fold ps l ((pl ps i).ap z) := fun _ => rfl
    rw [hs, hs]
    refine fold_same_at l ?_
    rw [ap_S, ap_S, h]
end
theorem no_ap (x : SH) : noPl.ap x = x := rfl
theorem foldP_no (m : Nat) (x : SH) : foldP (List.replicate m noPl) x = x := by
  induction m with
  | zero => rfl
  | succ m ih => simp only [List.replicate_succ, foldP, List.foldl_cons, no_ap]; exact ih
theorem foldP_append (l l' : List Pl) (x : SH) : foldP (l ++ l') x = foldP l' (foldP l x) := List.foldl_append
/-- The executed operations, when all up to f are. -/
theorem ord_split {N m : Nat} {L : Nat → Bool} (hm : m ≤ N) (h : ∀ j, j < m → L j = true) : ord N L = List.range m ++ (List.range' m (N - m)).filter L := by
  have e : (List.range N) = List.range m ++ List.range' m (N - m) := by
    have h := List.range'_append_1 (s := 0) (m := m) (n := N - m)
    rw [Nat.zero_add, Nat.add_sub_cancel' hm] at h
    rw [List.range_eq_range', List.range_eq_range', h]
  unfold ord
  rw [e, List.filter_append]
  congr 1
  rw [List.filter_eq_self]
  intro k hk
  exact h k (List.mem_range.1 hk)
theorem pl_left {ps qs : List Pl} {i : Nat} (h : i < ps.length) : pl (ps ++ qs) i = pl ps i := by
  unfold pl
  rw [List.getElem?_append_left h]
theorem pl_right {ps qs : List Pl} {i : Nat} (h : ps.length ≤ i) : pl (ps ++ qs) i = pl qs (i - ps.length) := by
  unfold pl
  rw [List.getElem?_append_right h]
theorem pl_some {ps : List Pl} {i : Nat} (h : i < ps.length) : ps[i]? = some (pl ps i) := by
  unfold pl
  rw [List.getElem?_eq_getElem h]
/-- An operation that makes a new state, up to how the state is written. -/
def PQL (O : List Heap) (n : Nat) (v : SH) (p : Pl) (s' : St) : Prop :=
  ∃ H', s'.S = H' :: O ∧ (∀ nm, look H' nm = look (p.adds ++ rmv p.rem v.2) nm) ∧ s'.n = n ∧ ∀ t d, look p.sets t = some d → d = .dead ∨ look s'.σ t = some d
theorem stepOK_ofL {c : Cx} {ops : Array Oper} {O : List Heap} {n : Nat} {o : Oper} {v : SH} {p : Pl} (hw : wantedD ops (St.of O n v) o = some true) (hg : p.rem = goneOf (St.of O n v) o)
    (h : ∀ E, EOk c.E E O → Stp { c with E := E } o (St.of O n v) (PQL O n v p)) : StepOK c ops O n o v p := by
  refine .inr ⟨hw, fun E hE K ρ a w hi next Qe hn => h E hE K ρ a w hi next Qe fun val w' s' K' ρ' hle hk hi' hq => ?_⟩
  obtain ⟨H', h1, h2, h3, h4⟩ := hq
  have hh := hi'.h
  rw [h1] at hh hk
  have hsh := shape_same (O := O) fun nm => (h2 nm).symm
  refine hn val w' p.sets K' ρ' hle (fun d n x e1 e2 => ?_) ⟨hh.same fun nm => (h2 nm).symm, hi'.defers, by rw [hi'.size, h3], fun t d e => ?_⟩ fun t d e => .inr e
  · have := hk d n x (by rw [← hg]; exact e1) e2
    rw [hsh]
    exact this
  · rw [hsh]
    rcases h4 t d e with rfl | h4
    · exact .dead _
    · have := hi'.slots t d h4
      rw [h1] at this
      exact this
/-- The floating operation, when it makes a state: all slots and all objects are told. -/
def flP (σ : List (Nat × D)) (H : Heap) (g : Option Nat) : Pl := ⟨σ, H, g⟩
def flB (H H' : Heap) (g : Option Nat) : Bool := allH (fun nm _ => isG g nm || hasK H' nm) H
theorem fl_look {H H' : Heap} {g : Option Nat} (h : flB H H' g = true) (nm : Nat) : look H' nm = look (H' ++ rmv g H) nm := by
  rw [look_append]
  cases h1 : look H' nm with
  | some _ => rfl
  | none =>
    simp only [look_rmv]
    split
    · rfl
    · rename_i hg
      cases h2 : look H nm with
      | none => rfl
      | some ob =>
        have := allH_look h h2
        simp only [Bool.or_eq_true] at this
        rcases this with h3 | h3
        · exact absurd (isG_iff.1 h3) hg
        · rw [hasK_not.2 h1] at h3; cases h3
theorem step_fl {c : Cx} (hT : TOk c.P c.T) {ops : Array Oper} {O : List Heap} {n : Nat} {o : Oper} {v : SH} {σ : List (Nat × D)} {H : Heap} {g : Option Nat} {q : Prop} (ht : turns o = true) (hw : wantedD ops (St.of O n v) o = some true) (hg : goneOf (St.of O n v) o = g)
    (he : exec c.T (St.of O n v) o = .need q (.mod ⟨σ, H :: O, n⟩)) (hq : q) (hb : flB v.2 H g = true) : StepOK c ops O n o v (flP σ H g) := by
  refine stepOK_ofL hw hg.symm fun E hE => stp_of_does (c := { c with E := E }) hT ?_
  show Does { c with E := E } o _ _ (exec c.T _ o)
  rw [he]
  exact ⟨hq, ht, H, rfl, fl_look hb, rfl, fun t d e => .inr e⟩
section
variable {c : Cx} {k : List Item} {ops : Array Oper} {O : List Heap} {n : Nat} {x x0 xA xB : SH} {acc : List Pl}
end
end Go.AI


/- A region whose order is drawn, with two floating operations (appends), each behind all earlier ones. -/
namespace Go.AI
section
variable {c : Cx} {ops : Array Oper} {O : List Heap} {n : Nat} {ps : List Pl} {x0 : SH}
theorem flt_step {f : Nat} {oF : Oper} {pF : Pl} {xA : SH} (hfl : f < ps.length) (hp : pl ps f = pF) (hxA : foldP (ps.take f) x0 = xA) (hoF : ops[f]? = some oF) (hF : StepOK c ops O n oF xA pF)
    (hs1 : allS (fun t d => d.within (hasK xA.2) && hasK pF.sets t) xA.1 = true) (hs2 : allH (fun _ d => d.within (hasK xA.2)) xA.2 = true) (hd : (match oF.dst with
    | some t => hasK pF.sets t
    | none => true) = true)
    (hr : (match pF.rem with
    | some g => hasK xA.2 g
    | none => true) = true) {L : Nat → Bool} (hb : ∀ j, j < f → L j = true) (hLi : L f = false) (hq : ∀ k, f < k → k < ops.size → L k = true → pureB pF.rem (hasK pF.sets) (pl ps k) = true)
    {K : Kn} {ρ : Nat → Nat → Loc} {a : Act} {w : World} (hi : Inv c.E K ρ (St.of O n (fold ps (ord ops.size L) x0)) a w) {Q : Exit → Act → World → Prop} {next : Act → World → Prop}
    (hn : ∀ a' w' K' ρ', Inv c.E K' ρ' (St.of O n (fold ps (ord ops.size fun k => L k || Nat.beq k f) x0)) a' w' → next a' w') : wpOp c.P ops Q f next a w := by
  have hilt : f < ops.size := (Array.getElem?_eq_some_iff.1 hoF).1
  have hxA' : fold ps (List.range f) x0 = xA := by rw [fold_range f (by omega), hxA]
  obtain ⟨xB, hxB⟩ : ∃ xB, xB = pF.ap xA := ⟨_, rfl⟩
  have hxB' : fold ps (List.range (f + 1)) x0 = xB := by
    rw [List.range_succ, fold_append, hxA', hxB]
    simp only [fold, List.foldl_cons, List.foldl_nil, hp]
  let l := (List.range' (f + 1) (ops.size - (f + 1))).filter L
  have hl : ∀ k ∈ l, pureB pF.rem (hasK pF.sets) (pl ps k) = true := by
    intro k hk
    obtain ⟨h1, h2⟩ := List.mem_filter.1 hk
    rw [List.mem_range'_1] at h1
    exact hq k (by omega) (by omega) h2
  have eL : ord ops.size L = List.range f ++ l := by
    rw [ord_split (m := f) (by omega) hb]
    congr 1
    have e : ops.size - f = (ops.size - (f + 1)) + 1 := by omega
    rw [e, List.range'_succ, List.filter_cons, hLi]
    rfl
  have eL' : ord ops.size (fun k => L k || Nat.beq k f) = List.range (f + 1) ++ l := by
    rw [ord_split (m := f + 1) (by omega) fun j hj => ?_]
    · congr 1
      refine List.filter_congr fun k hk => ?_
      rw [List.mem_range'_1] at hk
      have : Nat.beq k f = false := by
        cases hb : Nat.beq k f with
        | false => rfl
        | true => have := Nat.eq_of_beq_eq_true hb; omega
      rw [this, Bool.or_false]
    · show (L j || Nat.beq j f) = true
      by_cases h : j = f
      · subst h; rw [Nat.beq_refl, Bool.or_true]
      · rw [hb j (by omega), Bool.true_or]
  rw [eL, fold_append, hxA'] at hi
  rw [eL', fold_append, hxB'] at hn
  obtain ⟨q1, q2, q3⟩ := pure_fold (ps := ps) l (x := xA) hl
  obtain ⟨r1, r2, r3⟩ := pure_fold (ps := ps) l (x := xB) hl
  have hasEq : has xA.2 = hasK xA.2 := by
    funext n; unfold has hasK; cases look xA.2 n <;> rfl
  have hin : ∀ t d, look xA.1 t = some d → d.within (hasK xA.2) = true ∧ hasK pF.sets t = true := by
    intro t d h
    have := allS_look hs1 h
    simpa using this
  refine step_frame hoF hF (x := fold ps l xA) (y := fold ps l xB) ⟨?_, ?_, ?_, ?_, ?_, ?_, ?_, ?_, ?_⟩ ?_ ?_ hi hn
  · intro t d h
    rw [q2 t (hin t d h).2]; exact h
  · intro nm ob h
    rw [q1]; exact h
  · intro t d h
    rw [hasEq]; exact (hin t d h).1
  · intro nm ob h
    rw [hasEq]; exact allH_look hs2 h
  · intro t h
    rw [h] at hd; exact hd
  · intro nm _ h
    rw [q1] at h; exact h
  · intro t d h h1
    rcases q3 t d h with h2 | h2
    · rw [(hin t d h2).2] at h1; cases h1
    · exact h2
  · intro nm ob h h1
    rw [q1, h1] at h; cases h
  · intro g hg
    rw [hg] at hr
    rw [hasEq]; exact hr
  · intro t
    rw [ap_S]
    cases hl2 : look pF.sets t with
    | some d =>
      rw [r2 t (hasK_iff.2 ⟨_, hl2⟩), hxB, ap_S, hl2]
    | none =>
      refine fold_same_at l ?_
      rw [hxB, ap_S, hl2]
  · intro nm
    rw [r1, hxB, ap_H, ap_H, q1]
theorem read_step {psX : List Pl} {xX y : SH} {pre : List (List Nat)} (hpre : preOk ops pre = true) {i : Nat} {o : Oper} (ho : ops[i]? = some o) {L : Nat → Bool} (hc : Closed ops L) (hLi : L i = false) (hbef : ∀ j ∈ befores o, L j = true)
    (e1 : fold ps (ord ops.size L) x0 = fold psX (ord ops.size L) xX) (e2 : fold ps (ord ops.size fun k => L k || Nat.beq k i) x0 = fold psX (ord ops.size fun k => L k || Nat.beq k i) xX)
    (hokI : okI ops pre psX xX i o y (pl psX i) = true) (hy : y = fold psX (List.range i) xX) (hst : StepOK c ops O n o (viewOf ops o y) (pl psX i))
    {K : Kn} {ρ : Nat → Nat → Loc} {a : Act} {w : World} (hi : Inv c.E K ρ (St.of O n (fold ps (ord ops.size L) x0)) a w) {Q : Exit → Act → World → Prop} {next : Act → World → Prop}
    (hn : ∀ a' w' K' ρ', Inv c.E K' ρ' (St.of O n (fold ps (ord ops.size fun k => L k || Nat.beq k i) x0)) a' w' → next a' w') : wpOp c.P ops Q i next a w := by
  have hilt : i < ops.size := (Array.getElem?_eq_some_iff.1 ho).1
  rw [e1] at hi
  rw [e2] at hn
  rw [← ord_range (n := ops.size) (by omega)] at hy
  obtain ⟨f1, f2, f3⟩ := fits hpre ho hokI hy hc hLi hbef
  exact step_frame ho hst f1 f2 f3 hi hn
end
def killP (t : Nat) : Pl := ⟨[(t, .dead)], [], none⟩
/-- What is checked of one floating operation, on its state. -/
def okF1 (oF : Oper) (pF : Pl) (xA : SH) (qs : List Pl) : Bool :=
  allS (fun t d => d.within (hasK xA.2) && hasK pF.sets t) xA.1 && allH (fun _ d => d.within (hasK xA.2)) xA.2 &&
  (match oF.dst with
    | some t => hasK pF.sets t
    | none => true) &&
  (match pF.rem with
    | some g => hasK xA.2 g
    | none => true) &&
  qs.all (pureB pF.rem (hasK pF.sets))
/-- What is checked of a region: ps0, F, qs, G, rs, then a tail. -/
def okFl2 (ops : Array Oper) (ps0 : List Pl) (tF : Nat) (oF : Oper) (pF : Pl) (qs : List Pl) (tG : Nat) (oG : Oper) (pG : Pl) (rs : List Pl) (x0 xA xB xC xD : SH) : Bool :=
  let pre := presGo ops.toList []
  let f := ps0.length
  let g := f + 1 + qs.length
  let m := g + 1 + rs.length
  let psA := ps0 ++ killP tF :: qs
  let psB := List.replicate (f + 1) noPl ++ (qs ++ killP tG :: rs)
  let psC := List.replicate (g + 1) noPl ++ rs
  preOk ops pre && tailB ops pre m && allN f (fun j => memN (getL pre f) j) && allN g (fun j => memN (getL pre g) j) && allN m (fun j => Nat.ble (j + 1) g || memN (getL pre j) f) && Nat.ble m ops.size &&
  okGo ops pre psA x0 ops.toList psA 0 x0 &&
  okGo ops pre psB xB (ops.toList.drop (f + 1)) (qs ++ killP tG :: rs) (f + 1) xB &&
  okGo ops pre psC xD (ops.toList.drop (g + 1)) rs (g + 1) xD &&
  okF1 oF pF xA qs && okF1 oG pG xC rs
theorem fold_key {ps r : List Pl} {m N : Nat} {x0 xX : SH} {M : Nat → Bool} (hmN : m ≤ N) (hml : m ≤ ps.length) (hx : foldP (ps.take m) x0 = xX) (hM : ∀ j, j < m → M j = true) (hpl : ∀ k, m ≤ k → k < N → M k = true → pl ps k = pl (List.replicate m noPl ++ r) k) :
    fold ps (ord N M) x0 = fold (List.replicate m noPl ++ r) (ord N M) xX := by
  rw [ord_split hmN hM, fold_append, fold_append, fold_range m hml, hx]
  have : fold (List.replicate m noPl ++ r) (List.range m) xX = xX := by
    rw [fold_range m (by simp), List.take_append_of_le_length (by simp), List.take_of_length_le (by simp), foldP_no]
  rw [this]
  refine fold_pl_congr _ fun k hk => ?_
  obtain ⟨h1, h2⟩ := List.mem_filter.1 hk
  rw [List.mem_range'_1] at h1
  exact hpl k (by omega) (by omega) h2
theorem fold_rep {r : List Pl} {m i : Nat} {x : SH} (h1 : m ≤ i) (h2 : i ≤ m + r.length) : fold (List.replicate m noPl ++ r) (List.range i) x = foldP (r.take (i - m)) x := by
  rw [fold_range i (by simp; omega), List.take_append, List.take_of_length_le (l := List.replicate m noPl) (by simp; omega), foldP_append, foldP_no]
  simp only [List.length_replicate]
theorem pl_rep {r : List Pl} {m i : Nat} (h : m ≤ i) : pl (List.replicate m noPl ++ r) i = pl r (i - m) := by
  rw [pl_right (by simpa using h)]
  simp only [List.length_replicate]
theorem pl_mid {a b : List Pl} {p p' : Pl} {i : Nat} (h : i ≠ a.length) : pl (a ++ p :: b) i = pl (a ++ p' :: b) i := by
  by_cases h1 : i < a.length
  · rw [pl_left h1, pl_left h1]
  · rw [pl_right (by omega), pl_right (by omega)]
    unfold pl
    rw [show i - a.length = (i - a.length - 1) + 1 by omega]
    simp only [List.getElem?_cons_succ]
theorem pl_at {a b : List Pl} {p : Pl} : pl (a ++ p :: b) a.length = p := by
  unfold pl
  rw [List.getElem?_append_right (Nat.le_refl _), Nat.sub_self]
  rfl
theorem pl_after {a b : List Pl} {p : Pl} {i : Nat} (h : a.length < i) : pl (a ++ p :: b) i = pl b (i - a.length - 1) := by
  rw [pl_right (by omega)]
  unfold pl
  rw [show i - a.length = (i - a.length - 1) + 1 by omega, List.getElem?_cons_succ]
  rfl
theorem pl_mem {l : List Pl} {i : Nat} (h : i < l.length) : pl l i ∈ l := by
  have := pl_some h
  exact List.mem_of_getElem? this
theorem rch_float2 {c : Cx} (hm : c.P.follows .mixedOrders = true) {id : Nat} {ops : Array Oper} {O : List Heap} {n : Nat} {x0 : SH} {ps0 qs rs : List Pl} {tF tG : Nat} {oF oG : Oper} {pF pG : Pl} {k : List Item} {xA xB xC xD : SH} (hxA : xA = foldP ps0 x0) (hxB : xB = pF.ap xA) (hxC : xC = foldP qs xB) (hxD : xD = pG.ap xC)
    (hoF : ops[ps0.length]? = some oF) (hoG : ops[ps0.length + 1 + qs.length]? = some oG) (hok : okFl2 ops ps0 tF oF pF qs tG oG pG rs x0 xA xB xC xD = true) (ch0 : ChainS c ops O n ops.toList ps0 x0) (hF : StepOK c ops O n oF xA pF) (chA : ChainS c ops O n (ops.toList.drop (ps0.length + 1)) qs ((killP tF).ap xA))
    (chB : ChainS c ops O n (ops.toList.drop (ps0.length + 1)) qs xB) (hG : StepOK c ops O n oG xC pG) (chC : ChainS c ops O n (ops.toList.drop (ps0.length + 1 + qs.length + 1)) rs ((killP tG).ap xC)) (chD : ChainS c ops O n (ops.toList.drop (ps0.length + 1 + qs.length + 1)) rs xD)
    (hend : RG c ops (List.range' (ps0.length + 1 + qs.length + 1 + rs.length) (ops.size - (ps0.length + 1 + qs.length + 1 + rs.length))) (St.of O n (foldP rs xD)) (Rch c k)) : Rch c (.code (.region id ops true) :: k) (St.of O n x0) := by
  simp only [okFl2, okF1, Bool.and_eq_true] at hok
  obtain ⟨⟨⟨⟨⟨⟨⟨⟨⟨⟨hpre, htl⟩, hFb⟩, hGb⟩, hFa⟩, hlen⟩, hA⟩, hB⟩, hC⟩, ⟨⟨⟨⟨s1, s2⟩, s3⟩, s4⟩, s5⟩⟩, ⟨⟨⟨⟨u1, u2⟩, u3⟩, u4⟩, u5⟩⟩ := hok
  have hlen := Nat.le_of_ble_eq_true hlen
  generalize hp : presGo ops.toList [] = pre at *
  generalize hfd : ps0.length = f at *
  generalize hgd : f + 1 + qs.length = g at *
  have hflt : f < ops.size := (Array.getElem?_eq_some_iff.1 hoF).1
  have hglt : g < ops.size := (Array.getElem?_eq_some_iff.1 hoG).1
  obtain ⟨-, getA⟩ := okGo_get hA
  obtain ⟨-, getB⟩ := okGo_get hB
  obtain ⟨-, getC⟩ := okGo_get hC
  have hoL : ∀ i o, ops[i]? = some o → ops.toList[i]? = some o := fun i o h => by rw [Array.getElem?_toList]; exact h
  have hoD : ∀ m i o, m ≤ i → ops[i]? = some o → (ops.toList.drop m)[i - m]? = some o := fun m i o h1 h => by
    rw [List.getElem?_drop, show m + (i - m) = i by omega]; exact hoL i o h
  have hgl : (ps0 ++ pF :: qs).length = g := by simp only [List.length_append, List.length_cons]; omega
  have eps : ps0 ++ pF :: (qs ++ pG :: rs) = (ps0 ++ pF :: qs) ++ pG :: rs := by simp
  have e0 : (ps0 ++ pF :: (qs ++ pG :: rs)).length = g + 1 + rs.length := by rw [eps, List.length_append, hgl]; simp only [List.length_cons]; omega
  refine rch_tailG (ps := ps0 ++ pF :: (qs ++ pG :: rs)) hm (pre := pre) hp.symm hpre (by rw [e0]; exact htl) (by rw [e0]; exact hlen) ?_ ?_
  · intro L hc i o ho hil hLi hbef hno K ρ a w hi Q next hn
    rw [e0] at hil hno
    have hilt : i < ops.size := (Array.getElem?_eq_some_iff.1 ho).1
    have takeF : (ps0 ++ pF :: (qs ++ pG :: rs)).take f = ps0 := by rw [← hfd]; simp
    have takeG : (ps0 ++ pF :: (qs ++ pG :: rs)).take g = ps0 ++ pF :: qs := by rw [eps, List.take_append_of_le_length (by omega), List.take_of_length_le (by omega)]
    have plF : pl (ps0 ++ pF :: (qs ++ pG :: rs)) f = pF := by rw [← hfd]; exact pl_at
    have plG : pl (ps0 ++ pF :: (qs ++ pG :: rs)) g = pG := by rw [eps, ← hgl]; exact pl_at
    have plQ : ∀ k, f < k → pl (ps0 ++ pF :: (qs ++ pG :: rs)) k = pl (qs ++ pG :: rs) (k - f - 1) := fun k hk => by rw [pl_after (by omega), hfd]
    have plR : ∀ k, g < k → pl (ps0 ++ pF :: (qs ++ pG :: rs)) k = pl rs (k - g - 1) := fun k hk => by rw [eps, pl_after (by omega), hgl]
    have xBe : foldP ((ps0 ++ pF :: (qs ++ pG :: rs)).take (f + 1)) x0 = xB := by
      have : (ps0 ++ pF :: (qs ++ pG :: rs)).take (f + 1) = ps0 ++ [pF] := by rw [List.take_append, hfd, List.take_of_length_le (by omega)]; simp
      rw [this, foldP_append, ← hxA, hxB]; rfl
    have xCe : foldP (ps0 ++ pF :: qs) x0 = xC := by
      rw [foldP_append, ← hxA, hxC, hxB]; rfl
    have xDe : foldP ((ps0 ++ pF :: (qs ++ pG :: rs)).take (g + 1)) x0 = xD := by
      have : (ps0 ++ pF :: (qs ++ pG :: rs)).take (g + 1) = (ps0 ++ pF :: qs) ++ [pG] := by rw [eps, List.take_append, hgl, List.take_of_length_le (by omega)]; simp
      rw [this, foldP_append, xCe, hxD]; rfl
    have down : ∀ (M : Nat → Bool) j o, Closed ops M → ops[j]? = some o → (∀ q ∈ befores o, M q = true) → ∀ q ∈ getL pre j, M q = true := fun M j o hM ho hb q hq =>
      (pre_down hpre hM (j + 1) j o (by omega) ho hb q hq).1
    have belowF : ∀ j, g ≤ j → j < g + 1 + rs.length → f ∈ getL pre j := fun j h1 h2 => by
      have := allN_iff hFa j h2
      simp only [Bool.or_eq_true] at this
      rcases this with h | h
      · have := Nat.le_of_ble_eq_true h; omega
      · exact memN_iff.1 h
    have getO : ∀ j, j < ops.size → ∃ o, ops[j]? = some o := fun j hj => ⟨ops[j], by rw [Array.getElem?_eq_getElem]⟩
    have hor : ∀ k, (L k || Nat.beq k i) = true → k = i ∨ L k = true := by
      intro k h
      simp only [Bool.or_eq_true] at h
      rcases h with h | h
      · exact .inr h
      · exact .inl (Nat.eq_of_beq_eq_true h)
    by_cases hLf : L f = true
    · have bF : ∀ j, j < f → L j = true := fun j hj => down L f oF hc hoF (fun q hq => hc f oF hoF hLf q hq) j (memN_iff.1 (allN_iff hFb j hj))
      have bF1 : ∀ j, j < f + 1 → L j = true := fun j hj => by
        by_cases h : j = f
        · subst h; exact hLf
        · exact bF j (by omega)
      have hfi : f < i := by
        apply Nat.lt_of_not_le
        intro h
        rw [bF1 i (by omega)] at hLi; cases hLi
      by_cases hig : i = g
      · subst hig
        rw [hoG] at ho
        simp only [Option.some.injEq] at ho
        subst ho
        refine flt_step (by omega) plG (by rw [takeG]; exact xCe) hoG hG u1 u2 u3 u4 (fun j hj => down L i oG hc hoG hbef j (memN_iff.1 (allN_iff hGb j hj))) hLi (fun k h1 h2 h3 => ?_) hi hn
        have : k < i + 1 + rs.length := by
          apply Nat.lt_of_not_le
          intro h
          rw [hno k h2 h] at h3; cases h3
        rw [plR k h1]
        exact List.all_eq_true.1 u5 _ (pl_mem (by omega))
      · by_cases hLg : L g = true
        · have bG : ∀ j, j < g → L j = true := fun j hj => down L g oG hc hoG (fun q hq => hc g oG hoG hLg q hq) j (memN_iff.1 (allN_iff hGb j hj))
          have bG1 : ∀ j, j < g + 1 → L j = true := fun j hj => by
            by_cases h : j = g
            · subst h; exact hLg
            · exact bG j (by omega)
          have hgi : g < i := by
            apply Nat.lt_of_not_le
            intro h
            rw [bG1 i (by omega)] at hLi; cases hLi
          have hkey : ∀ M : Nat → Bool, (∀ j, j < g + 1 → M j = true) → fold (ps0 ++ pF :: (qs ++ pG :: rs)) (ord ops.size M) x0 = fold (List.replicate (g + 1) noPl ++ rs) (ord ops.size M) xD := fun M hM =>
            fold_key (by omega) (by omega) xDe hM fun k h1 h2 h3 => by rw [plR k (by omega), pl_rep (by omega)]; congr 1
          have hokI := getC (i - (g + 1)) o _ (hoD (g + 1) i o (by omega) ho) (pl_some (by omega))
          rw [show g + 1 + (i - (g + 1)) = i by omega] at hokI
          have hst := chain_get chD (i - (g + 1)) o _ (hoD (g + 1) i o (by omega) ho) (pl_some (by omega))
          have e' : pl (List.replicate (g + 1) noPl ++ rs) i = pl rs (i - (g + 1)) := pl_rep (by omega)
          rw [← e'] at hokI hst
          exact read_step hpre ho hc hLi hbef (hkey L bG1) (hkey _ fun j hj => by rw [bG1 j hj, Bool.true_or]) hokI (fold_rep (by omega) (by omega)).symm hst hi hn
        · have hLg : L g = false := by simpa using hLg
          have hkey : ∀ M : Nat → Bool, (∀ j, j < f + 1 → M j = true) → M g = false → fold (ps0 ++ pF :: (qs ++ pG :: rs)) (ord ops.size M) x0 = fold (List.replicate (f + 1) noPl ++ (qs ++ killP tG :: rs)) (ord ops.size M) xB := fun M hM hMg =>
            fold_key (by omega) (by omega) xBe hM fun k h1 h2 h3 => by
              rw [plQ k (by omega), pl_rep (by omega), show k - f - 1 = k - (f + 1) by omega]
              refine pl_mid fun e => ?_
              have : k = g := by omega
              subst this
              rw [hMg] at h3; cases h3
          have hlq : (qs ++ killP tG :: rs).length = qs.length + 1 + rs.length := by simp only [List.length_append, List.length_cons]; omega
          have hokI := getB (i - (f + 1)) o _ (hoD (f + 1) i o (by omega) ho) (pl_some (by omega))
          rw [show f + 1 + (i - (f + 1)) = i by omega] at hokI
          have hst : StepOK c ops O n o (viewOf ops o (foldP ((qs ++ killP tG :: rs).take (i - (f + 1))) xB)) (pl (qs ++ killP tG :: rs) (i - (f + 1))) := by
            by_cases h : i < g
            · rw [pl_left (by omega), List.take_append_of_le_length (by omega)]
              exact chain_get chB (i - (f + 1)) o _ (hoD (f + 1) i o (by omega) ho) (pl_some (by omega))
            · have e : (qs ++ killP tG :: rs).take (i - (f + 1)) = qs ++ killP tG :: rs.take (i - (g + 1)) := by
                rw [List.take_append, List.take_of_length_le (by omega), show i - (f + 1) - qs.length = (i - (g + 1)) + 1 by omega, List.take_succ_cons]
              have e' : pl (qs ++ killP tG :: rs) (i - (f + 1)) = pl rs (i - (g + 1)) := by rw [pl_after (by omega)]; congr 1; omega
              rw [e, e', foldP_append, ← hxC]
              exact chain_get chC (i - (g + 1)) o _ (hoD (g + 1) i o (by omega) ho) (pl_some (by omega))
          have e' : pl (List.replicate (f + 1) noPl ++ (qs ++ killP tG :: rs)) i = pl (qs ++ killP tG :: rs) (i - (f + 1)) := pl_rep (by omega)
          rw [← e'] at hokI hst
          refine read_step hpre ho hc hLi hbef (hkey L bF1 hLg) (hkey _ (fun j hj => by rw [bF1 j hj, Bool.true_or]) ?_) hokI (fold_rep (by omega) (by omega)).symm hst hi hn
          rw [hLg, Bool.false_or]
          cases hb : Nat.beq g i with
          | false => rfl
          | true => exact absurd (Nat.eq_of_beq_eq_true hb).symm hig
    · have hLf : L f = false := by simpa using hLf
      have above : ∀ j, j < ops.size → L j = true → j < g := by
        intro j hj hLj
        apply Nat.lt_of_not_le
        intro h
        by_cases h2 : j < g + 1 + rs.length
        · obtain ⟨oj, hoj⟩ := getO j hj
          have := down L j oj hc hoj (fun q hq => hc j oj hoj hLj q hq) f (belowF j h h2)
          rw [hLf] at this; cases this
        · rw [hno j hj (by omega)] at hLj; cases hLj
      by_cases hif : i = f
      · subst hif
        rw [hoF] at ho
        simp only [Option.some.injEq] at ho
        subst ho
        refine flt_step (by omega) plF (by rw [takeF]; exact hxA.symm) hoF hF s1 s2 s3 s4 (fun j hj => down L i oF hc hoF hbef j (memN_iff.1 (allN_iff hFb j hj))) hLi (fun k h1 h2 h3 => ?_) hi hn
        have := above k h2 h3
        rw [plQ k h1, pl_left (by omega)]
        exact List.all_eq_true.1 s5 _ (pl_mem (by omega))
      · have hig : i < g := by
          apply Nat.lt_of_not_le
          intro h
          have := down L i o hc ho hbef f (belowF i h hil)
          rw [hLf] at this; cases this
        have hpl : ∀ k, k ≠ f → k < g → pl (ps0 ++ pF :: (qs ++ pG :: rs)) k = pl (ps0 ++ killP tF :: qs) k := fun k h1 h2 => by
          rw [eps, pl_left (by omega)]
          exact pl_mid (by omega)
        have hi' : i < (ps0 ++ killP tF :: qs).length := by simp only [List.length_append, List.length_cons]; omega
        have hokI := getA i o _ (hoL i o ho) (pl_some hi')
        rw [Nat.zero_add] at hokI
        have hst : StepOK c ops O n o (viewOf ops o (foldP ((ps0 ++ killP tF :: qs).take i) x0)) (pl (ps0 ++ killP tF :: qs) i) := by
          by_cases h : i < f
          · rw [pl_left (by omega), List.take_append_of_le_length (by omega)]
            exact chain_get ch0 i o _ (hoL i o ho) (pl_some (by omega))
          · have e : (ps0 ++ killP tF :: qs).take i = ps0 ++ (killP tF :: qs.take (i - (f + 1))) := by
              rw [List.take_append, List.take_of_length_le (by omega), show i - ps0.length = (i - (f + 1)) + 1 by omega, List.take_succ_cons]
            have e' : pl (ps0 ++ killP tF :: qs) i = pl qs (i - (f + 1)) := by rw [pl_after (by omega)]; congr 1; omega
            rw [e, e', foldP_append, ← hxA]
            exact chain_get chA (i - (f + 1)) o _ (hoD (f + 1) i o (by omega) ho) (pl_some (by omega))
        refine read_step (psX := ps0 ++ killP tF :: qs) hpre ho hc hLi hbef (fold_pl_congr _ fun k hk => ?_) (fold_pl_congr _ fun k hk => ?_) hokI (fold_range i (by omega)).symm hst hi hn
        · rw [mem_ord] at hk
          exact hpl k (fun e => by rw [e, hLf] at hk; cases hk.2) (above k hk.1 hk.2)
        · rw [mem_ord] at hk
          rcases hor k hk.2 with rfl | h
          · exact hpl k hif hig
          · exact hpl k (fun e => by rw [e, hLf] at h; cases h) (above k hk.1 h)
  · rw [e0, eps, foldP_append, foldP_append, ← hxA]
    have : foldP (pG :: rs) (foldP (pF :: qs) xA) = foldP rs xD := by
      show foldP rs (pG.ap (foldP qs (pF.ap xA))) = _
      rw [← hxB, ← hxC, ← hxD]
    rw [this]
    exact hend
def F2D (c : Cx) (ops : Array Oper) (O : List Heap) (n : Nat) (x0 : SH) (k : List Item) (ps0 : List Pl) (tF : Nat) (oF : Oper) (pF : Pl) (qs : List Pl) (tG : Nat) (oG : Oper) (pG : Pl) (xA xB xC xD : SH) (rs : List Pl) (x : SH) (rs' : List Pl) : Prop :=
  rs' = rs ∧ okFl2 ops ps0 tF oF pF qs tG oG pG rs x0 xA xB xC xD = true ∧ RG c ops (List.range' (ps0.length + 1 + qs.length + 1 + rs.length) (ops.size - (ps0.length + 1 + qs.length + 1 + rs.length))) (St.of O n x) (Rch c k)
def F2C (c : Cx) (ops : Array Oper) (O : List Heap) (n : Nat) (x0 : SH) (k : List Item) (ps0 : List Pl) (tF : Nat) (oF : Oper) (pF : Pl) (qs : List Pl) (r tG : Nat) (oG : Oper) (pG : Pl) (xA xB xC xD : SH) (_ : SH) (rs : List Pl) : Prop :=
  GE c ops O n (F2D c ops O n x0 k ps0 tF oF pF qs tG oG pG xA xB xC xD rs) (forceX xD fun xD => runS c.T ops O n (ps0.length + 1 + qs.length + 1) ((ops.toList.drop (ps0.length + 1 + qs.length + 1)).take r) xD [])
def F2B (c : Cx) (ops : Array Oper) (O : List Heap) (n : Nat) (x0 : SH) (k : List Item) (ps0 : List Pl) (tF : Nat) (oF : Oper) (pF : Pl) (xA xB : SH) (qs : List Pl) (xC : SH) (qs' : List Pl) : Prop :=
  qs' = qs ∧ ∃ r tG oG pG xD, ops[ps0.length + 1 + qs.length]? = some oG ∧ xD = pG.ap xC ∧ StepOK c ops O n oG xC pG ∧ GE c ops O n (F2C c ops O n x0 k ps0 tF oF pF qs r tG oG pG xA xB xC xD) (runS c.T ops O n (ps0.length + 1 + qs.length + 1) ((ops.toList.drop (ps0.length + 1 + qs.length + 1)).take r) (setX xC tG .dead) [])
def F2A (c : Cx) (ops : Array Oper) (O : List Heap) (n : Nat) (x0 : SH) (k : List Item) (q : Nat) (ps0 : List Pl) (tF : Nat) (oF : Oper) (pF : Pl) (xA xB : SH) (_ : SH) (qs : List Pl) : Prop :=
  GE c ops O n (F2B c ops O n x0 k ps0 tF oF pF xA xB qs) (forceX xB fun xB => runS c.T ops O n (ps0.length + 1) ((ops.toList.drop (ps0.length + 1)).take q) xB [])
def F20 (c : Cx) (ops : Array Oper) (O : List Heap) (n : Nat) (x0 : SH) (k : List Item) (x : SH) (ps0 : List Pl) : Prop :=
  ∃ q tF oF pF xB, ops[ps0.length]? = some oF ∧ xB = pF.ap x ∧ StepOK c ops O n oF x pF ∧ GE c ops O n (F2A c ops O n x0 k q ps0 tF oF pF x xB) (runS c.T ops O n (ps0.length + 1) ((ops.toList.drop (ps0.length + 1)).take q) (setX x tF .dead) [])
theorem g_float2 {c : Cx} {s : St} {k : List Item} {ops : Array Oper} (hT : TOk c.P c.T) (m : Nat) {id : Nat} {O : List Heap} (hm : c.P.follows .mixedOrders = true) {H : Heap} (hS : s.S = H :: O)
    (h : GE c ops O s.n (F20 c ops O s.n (s.σ, H) k) (runS c.T ops O s.n 0 (ops.toList.take m) (s.σ, H) [])) : GM c (.drawn id ops s k) := by
  obtain ⟨ps0, h1, h2⟩ := runS_sound hT _ _ _ _ h.h
  rw [List.nil_append] at h2
  have hs : s = St.of O s.n (s.σ, H) := by
    cases s
    simp only at hS
    subst hS
    rfl
  refine ⟨?_⟩
  show Rch c (.code (.region id ops true) :: k) s
  rw [hs]
  obtain ⟨q, tF, oF, pF, xB, e1, e2, e3, e4⟩ := h2
  obtain ⟨qs, a1, a2⟩ := runS_sound hT _ _ _ _ e4.h
  rw [List.nil_append] at a2
  have a2 := (show GE _ _ _ _ _ _ from a2).h
  rw [forceX_eq] at a2
  obtain ⟨qs', b1, b2, r, tG, oG, pG, xD, f1, f2, f3, f4⟩ := runS_sound hT _ _ _ _ a2
  rw [List.nil_append] at b2
  subst b2
  obtain ⟨rs, g1, g2⟩ := runS_sound hT _ _ _ _ f4.h
  rw [List.nil_append] at g2
  have g2 := (show GE _ _ _ _ _ _ from g2).h
  rw [forceX_eq] at g2
  obtain ⟨rs', i1, i2, i3, i4⟩ := runS_sound hT _ _ _ _ g2
  rw [List.nil_append] at i2
  subst i2
  have ca := chain_take a1
  have cc := chain_take g1
  rw [setX_eq] at ca cc
  exact rch_float2 (tF := tF) (oF := oF) (pF := pF) (tG := tG) (oG := oG) (pG := pG) hm rfl e2 rfl f2 e1 f1 i3 (chain_take h1) e3 ca (chain_take b1) f3 cc (chain_take i1) i4
section
variable {c : Cx} {k : List Item} {ops : Array Oper} {O : List Heap} {n : Nat} {x x0 xA xB xC xD : SH} {acc : List Pl}
/-- At the first floating operation: its effect is told; then the reads before it (A), then those behind it (B). -/
theorem e_f2F (hT : TOk c.P c.T) (q tF : Nat) (g : Option Nat) {oF : Oper} {σ : List (Nat × D)} {H : Heap} {qq : Prop} (hoF : ops[acc.length]? = some oF) (ht : turns oF = true) (hw : wantedD ops (St.of O n x) oF = some true) (hg : goneOf (St.of O n x) oF = g)
    (he : exec c.T (St.of O n x) oF = .need qq (.mod ⟨σ, H :: O, n⟩)) (hq : qq) (hb : flB x.2 H g = true) (h : GE c ops O n (F2A c ops O n x0 k q acc tF oF (flP σ H g) x ((flP σ H g).ap x)) (runS c.T ops O n (acc.length + 1) ((ops.toList.drop (acc.length + 1)).take q) (setX x tF .dead) [])) :
    GE c ops O n (F20 c ops O n x0 k) (.done x acc) := ⟨⟨q, tF, oF, flP σ H g, _, hoF, rfl, step_fl hT ht hw hg he hq hb, h⟩⟩
theorem e_f2A {q tF : Nat} {oF : Oper} {pF : Pl} {ps0 qs : List Pl} (h : GE c ops O n (F2B c ops O n x0 k ps0 tF oF pF xA xB qs) (forceX xB fun xB => runS c.T ops O n (ps0.length + 1) ((ops.toList.drop (ps0.length + 1)).take q) xB [])) : GE c ops O n (F2A c ops O n x0 k q ps0 tF oF pF xA xB) (.done x qs) := ⟨h⟩
/-- At the second one. -/
theorem e_f2B (hT : TOk c.P c.T) (r tG : Nat) (g : Option Nat) {tF : Nat} {oF oG : Oper} {pF : Pl} {ps0 qs qs' : List Pl} {σ : List (Nat × D)} {H : Heap} {qq : Prop} (gi : Nat) (hgi : ps0.length + 1 + qs.length = gi) (heq : qs' = qs) (hoG : ops[gi]? = some oG) (ht : turns oG = true) (hw : wantedD ops (St.of O n x) oG = some true) (hg : goneOf (St.of O n x) oG = g)
    (he : exec c.T (St.of O n x) oG = .need qq (.mod ⟨σ, H :: O, n⟩)) (hq : qq) (hb : flB x.2 H g = true) (h : GE c ops O n (F2C c ops O n x0 k ps0 tF oF pF qs r tG oG (flP σ H g) xA xB x ((flP σ H g).ap x)) (runS c.T ops O n (gi + 1) ((ops.toList.drop (gi + 1)).take r) (setX x tG .dead) [])) :
    GE c ops O n (F2B c ops O n x0 k ps0 tF oF pF xA xB qs) (.done x qs') := by
  subst hgi
  exact ⟨⟨heq, r, tG, oG, flP σ H g, _, hoG, rfl, step_fl hT ht hw hg he hq hb, h⟩⟩
theorem e_f2C {r tF tG : Nat} {oF oG : Oper} {pF pG : Pl} {ps0 qs rs : List Pl} (gi : Nat) (hgi : ps0.length + 1 + qs.length = gi) (h : GE c ops O n (F2D c ops O n x0 k ps0 tF oF pF qs tG oG pG xA xB xC xD rs) (forceX xD fun xD => runS c.T ops O n (gi + 1) ((ops.toList.drop (gi + 1)).take r) xD [])) : GE c ops O n (F2C c ops O n x0 k ps0 tF oF pF qs r tG oG pG xA xB xC xD) (.done x rs) := by
  subst hgi
  exact ⟨h⟩
theorem e_f2D (hT : TOk c.P c.T) (hfn : c.P.funcs[c.f]? = some c.fn) {tF tG : Nat} {oF oG : Oper} {pF pG : Pl} {ps0 qs rs rs' : List Pl} (l : List Nat) (he : rs' = rs) (hok : okFl2 ops ps0 tF oF pF qs tG oG pG rs x0 xA xB xC xD = true) (hl : List.range' (ps0.length + 1 + qs.length + 1 + rs.length) (ops.size - (ps0.length + 1 + qs.length + 1 + rs.length)) = l)
    (h : GM c (forceX x fun x => run c.T c.stop 1000 (.inRegion ops l :: k) (St.of O n x))) : GE c ops O n (F2D c ops O n x0 k ps0 tF oF pF qs tG oG pG xA xB xC xD rs) (.done x rs') := by
  subst hl
  have h := h.h
  rw [forceX_eq] at h
  exact ⟨⟨he, hok, run_sound hT hfn 1000 _ _ h⟩⟩
end
end Go.AI


/- The boxes of a draft. -/
namespace Go.AI
open Go.Proofs
set_option maxRecDepth 20000
theorem e_force {c : Cx} {ops : Array Oper} {O : List Heap} {n : Nat} {F : SH → List Pl → Prop} {x : SH} {acc : List Pl} (h : GE c ops O n F (forceX x fun x => .done x acc)) : GE c ops O n F (.done x acc) := by
  rw [forceX_eq] at h
  exact h
structure Tri where
  a0 : Int
  b0 : Int
  a1 : Int
  b1 : Int
  a2 : Int
  b2 : Int
abbrev vu (x : Int) : I := .v (.int .u8 x)
abbrev triI (t : Tri) : List I := [vu t.a0, vu t.b0, vu t.a1, vu t.b1, vu t.a2, vu t.b2]
abbrev dft (d : List Tri) : D := .i (.sl 6 d.length (d.map triI))
def Tri.at (t : Tri) : Nat → Int × Int
  | 0 => (t.a0, t.b0)
  | 1 => (t.a1, t.b1)
  | _ => (t.a2, t.b2)
def Tri.byte (t : Tri) : Prop := ∀ k, (0 ≤ (t.at k).1 ∧ (t.at k).1 < 256) ∧ 0 ≤ (t.at k).2 ∧ (t.at k).2 < 256
def boxV (v : Vr) (p : Int × Int) : Int × Int := (v.low + p.1.tmod (v.high - v.low + 1), v.low + p.1.tmod (v.high - v.low + 1) + p.2.tmod (v.high - v.low + 1 - p.1.tmod (v.high - v.low + 1)))
def rowR : List Vr → Nat → Tri → List (Int × Int)
  | [], _, _ => []
  | v :: r, k, t => boxV v (t.at k) :: rowR r (k + 1) t
def boxT (l : List Vr) (t : Tri) : Bx := ⟨(rowR l 0 t).map (·.1), (rowR l 0 t).map (·.2)⟩
theorem rowR_len : ∀ (l : List Vr) (k : Nat) (t : Tri), (rowR l k t).length = l.length
  | [], _, _ => rfl
  | _ :: r, k, t => congrArg (· + 1) (rowR_len r (k + 1) t)
abbrev rawW (v : Vr) : Int := IntKind.i64.wrap (IntKind.i64.wrap (v.high - v.low) + 1)
abbrev rawS (v : Vr) (a : Int) : Int := (IntKind.i64.wrap a).tmod (rawW v)
structure bvOk (v : Vr) (a b : Int) : Prop where
  v : (-1000 ≤ v.low ∧ v.high ≤ 1000) ∧ v.low ≤ v.high
  a : 0 ≤ a ∧ a < 256
  b : 0 ≤ b ∧ b < 256
theorem rawW_eq {v : Vr} {a b : Int} (h : bvOk v a b) : rawW v = v.high - v.low + 1 := by
  have := h.v
  unfold rawW
  rw [w64 (n := v.high - v.low) (by omega) (by omega), w64 (by omega) (by omega)]
theorem rawS_eq {v : Vr} {a b : Int} (h : bvOk v a b) : rawS v a = a.tmod (v.high - v.low + 1) ∧ 0 ≤ a.tmod (v.high - v.low + 1) ∧ a.tmod (v.high - v.low + 1) < v.high - v.low + 1 := by
  have h1 := h.v
  have h2 := h.a
  refine ⟨?_, Int.tmod_nonneg _ h2.1, Int.tmod_lt_of_pos _ (by omega)⟩
  unfold rawS
  rw [rawW_eq h, w64 (by omega) (by omega)]
theorem rawD_eq {v : Vr} {a b : Int} (h : bvOk v a b) : IntKind.i64.wrap (rawW v - rawS v a) = v.high - v.low + 1 - a.tmod (v.high - v.low + 1) := by
  have h1 := h.v
  obtain ⟨e, h2, h3⟩ := rawS_eq h
  rw [rawW_eq h, e, w64 (by omega) (by omega)]
theorem box_ne {v : Vr} {a b : Int} (h : bvOk v a b) : IntKind.i64.wrap (rawW v - rawS v a) ≠ 0 := by
  obtain ⟨e, h2, h3⟩ := rawS_eq h
  rw [rawD_eq h]
  omega
theorem box_lo {v : Vr} {a b : Int} (h : bvOk v a b) : IntKind.i64.wrap (v.low + rawS v a) = (boxV v (a, b)).1 := by
  have h1 := h.v
  obtain ⟨e, h2, h3⟩ := rawS_eq h
  rw [e, w64 (by omega) (by omega)]
  rfl
theorem box_hi {v : Vr} {a b : Int} (h : bvOk v a b) : IntKind.i64.wrap (IntKind.i64.wrap (v.low + rawS v a) + (IntKind.i64.wrap b).tmod (IntKind.i64.wrap (rawW v - rawS v a))) = (boxV v (a, b)).2 := by
  have h1 := h.v
  have h4 := h.b
  obtain ⟨e, h2, h3⟩ := rawS_eq h
  have h5 := Int.tmod_lt_of_pos b (show 0 < v.high - v.low + 1 - a.tmod (v.high - v.low + 1) by omega)
  have h6 := Int.tmod_nonneg (v.high - v.low + 1 - a.tmod (v.high - v.low + 1)) h4.1
  rw [rawD_eq h, e, w64 (n := v.low + a.tmod (v.high - v.low + 1)) (by omega) (by omega), w64 (n := b) (by omega) (by omega), w64 (by omega) (by omega)]
  rfl
set_option maxHeartbeats 4000000 in
theorem boxes37 (O : List Heap) (l : List Vr) (d : List Tri) (hl : l.length ≤ 3) (hv : ∀ v ∈ l, (-1000 ≤ v.low ∧ v.high ≤ 1000) ∧ v.low ≤ v.high) (hd : ∀ t ∈ d, t.byte) (hdl : d.length ≤ max63) : ASpec Tryd.prog 37 [dft d, vrs l] O (bxs ((d.take 4).map (boxT l))) [] O := by
  generalize hR : (d.take 4).map (boxT l) = R
  have hR0 : [] ++ ((d.drop 0).take (4 - 0)).map (boxT l) = R := hR
  clear hR
  refine aspec_stop [12] Tk Tryd.func37 rfl Tryd.call37 Tryd.ntmps37 (Nat.le_of_ble_eq_true rfl) fun E => ?_
  refine g_run Tk Tryd.func37 ?_
  refine g_loop ?_
  refine rch_wk (wk_nil 5 89 55 2 rfl rfl rfl) ?_
  refine rch_loop2 (fun x : Nat × List Bx => [(0, dft d), (1, vrs l), (5, .osl 0 89), (6, ii x.1)]) (fun x => [(89, obxs x.2)]) (fun _ => O) 91
    (fun x => x.1 ≤ 4 ∧ x.1 ≤ d.length ∧ x.2.length = x.1 ∧ x.2 ++ ((d.drop x.1).take (4 - x.1)).map (boxT l) = R) (fun x => 4 - x.1) (0, []) ⟨by simp, by simp, rfl, hR0⟩ ⟨rfl, rfl, rfl, rfl, trivial⟩ rfl ⟨rfl, trivial⟩ rfl rfl ?_
  clear hR0
  rintro ⟨i, B⟩ ⟨hi4, hid, hBl, hno⟩ ih
  simp only at hi4 hid hBl hno
  refine g_run Tk Tryd.func37 ?_
  first | refine g_cnd Tk Tryd.func37 rfl (fun g1 => ?_) (fun g1 => ?_) | refine g_know Tk Tryd.func37 rfl (fun g1 => ?_) (fun g1 => ?_) | refine s_know Tk (fun g1 => ?_) (fun g1 => ?_)
  rotate_left
  · have h1 : d.length ≤ i := by simpa using g1
    rw [List.drop_eq_nil_of_le h1] at hno
    simp only [List.take_nil, List.map_nil, List.append_nil] at hno
    subst hno
    repeat (first | refine g_cnd Tk Tryd.func37 rfl (fun _ => ?_) (fun h => absurd h (by decide)) | refine g_know Tk Tryd.func37 rfl (fun _ => ?_) (fun h => absurd h (by decide)) | refine s_know Tk (fun _ => ?_) (fun h => absurd h (by decide)) | refine g_cnd Tk Tryd.func37 rfl (fun h => absurd h (by decide)) (fun _ => ?_) | refine g_know Tk Tryd.func37 rfl (fun h => absurd h (by decide)) (fun _ => ?_) | refine s_know Tk (fun h => absurd h (by decide)) (fun _ => ?_) | refine g_cnd Tk Tryd.func37 rfl (fun _ => ?_) (fun h => absurd (show true = false from h) (by decide)) | refine g_know Tk Tryd.func37 rfl (fun _ => ?_) (fun h => absurd (show true = false from h) (by decide)) | refine s_know Tk (fun _ => ?_) (fun h => absurd (show true = false from h) (by decide)) | refine g_cnd Tk Tryd.func37 rfl (fun h => absurd (show false = true from h) (by decide)) (fun _ => ?_) | refine g_know Tk Tryd.func37 rfl (fun h => absurd (show false = true from h) (by decide)) (fun _ => ?_) | refine s_know Tk (fun h => absurd (show false = true from h) (by decide)) (fun _ => ?_))
    refine g_rwk (wk_freeze 89 rfl rfl) ?_
    refine g_ret Tk (r := bxs B) rfl rfl rfl trivial rfl rfl ?_
    rfl
  have h1 : i < d.length := by simpa using g1
  clear g1
  first | refine g_cnd Tk Tryd.func37 rfl (fun g2 => ?_) (fun g2 => ?_) | refine g_know Tk Tryd.func37 rfl (fun g2 => ?_) (fun g2 => ?_) | refine s_know Tk (fun g2 => ?_) (fun g2 => ?_)
  rotate_left
  · have h2 : i = 4 := by
      have : ¬ ((i : Int) < 4) := by simpa using g2
      omega
    subst h2
    simp only [Nat.sub_self, List.take_zero, List.map_nil, List.append_nil] at hno
    subst hno
    refine g_rwk (wk_freeze 89 rfl rfl) ?_
    refine g_ret Tk (r := bxs B) rfl rfl rfl trivial rfl rfl ?_
    rfl
  have h2 : i < 4 := by
    have : (i : Int) < 4 := by simpa using g2
    omega
  clear g2
  have gd : (d.map triI)[(i : Int).toNat]? = some (triI d[i]) := get_mapI rfl h1
  have dd : d.drop i = d[i] :: d.drop (i + 1) := List.drop_eq_getElem_cons h1
  rw [dd, show 4 - i = (4 - (i + 1)) + 1 by omega, List.take_succ_cons, List.map_cons] at hno
  have hby := hd _ (List.getElem_mem h1)
  have hb1 : 0 ≤ (i : Int) ∧ (i : Int) < (d.length : Int) := by omega
  have hi1 : ii (IntKind.i64.wrap ((i : Int) + 1)) = ii ((i + 1 : Nat) : Int) := congrArg ii (wsucc (n := 4096) (by omega) (by decide))
  clear dd
  generalize d[i] = t at *
  refine g_loop ?_
  refine rch_wk (wk_nilbox2 7 83 3 1 (pre := [.i (.v (.slice none 0 0))]) (post := []) rfl rfl rfl) ?_
  refine rch_wk (wk_nilbox2 7 59 3 1 (pre := []) (post := [.osl 0 83]) rfl rfl rfl) ?_
  generalize hQ : rowR l 0 t = Q at *
  have hQ0 : [] ++ rowR (l.drop 0) 0 t = Q := hQ
  have hQl : Q.length = l.length := by rw [← hQ]; exact rowR_len l 0 t
  have hbt : boxT l t = ⟨Q.map (·.1), Q.map (·.2)⟩ := by rw [← hQ]; rfl
  clear hQ
  refine rch_loop2 (fun x : Nat × List (Int × Int) => [(0, dft d), (1, vrs l), (5, .osl 0 89), (6, ii i), (7, .own 0 7 0 0), (8, ii x.1)]) (fun x => [(7, .box [.osl 0 59, .osl 0 83]), (59, oints (x.2.map (·.1))), (83, oints (x.2.map (·.2))), (89, obxs B)]) (fun _ => O) 91
    (fun x => x.1 ≤ l.length ∧ x.2.length = x.1 ∧ x.2 ++ rowR (l.drop x.1) x.1 t = Q) (fun x => l.length - x.1) (0, []) ⟨by simp, rfl, hQ0⟩ ⟨rfl, rfl, rfl, rfl, rfl, rfl, trivial⟩ rfl ⟨rfl, rfl, rfl, rfl, trivial⟩ rfl rfl ?_
  clear hQ0
  rintro ⟨k, P⟩ ⟨hk, hPl, hpo⟩ ih2
  simp only at hk hPl hpo
  refine g_run Tk Tryd.func37 ?_
  first | refine g_cnd Tk Tryd.func37 rfl (fun g3 => ?_) (fun g3 => ?_) | refine g_know Tk Tryd.func37 rfl (fun g3 => ?_) (fun g3 => ?_) | refine s_know Tk (fun g3 => ?_) (fun g3 => ?_)
  rotate_left
  · have h3 : l.length ≤ k := by simpa using g3
    rw [List.drop_eq_nil_of_le h3] at hpo
    simp only [rowR, List.append_nil] at hpo
    subst hpo
    refine g_stop ?_
    refine rch_wk (wk_freeze 59 rfl rfl) ?_
    refine rch_wk (wk_freeze 83 rfl rfl) ?_
    refine rch_wk (wk_imm rfl) ?_
    refine g_run Tk Tryd.func37 ?_
    refine g_go Tk Tryd.func37 ?_
    first | refine g_need Tk Tryd.func37 (by exact ⟨by show (B.length + 1) * 48 ≤ 140737488355328; omega, by show B.length + 1 ≤ 9223372036854775807; omega⟩) ?_ | refine s_need Tk (by exact ⟨by show (B.length + 1) * 48 ≤ 140737488355328; omega, by show B.length + 1 ≤ 9223372036854775807; omega⟩) ?_
    refine g_loop ?_
    refine ih (i + 1, B ++ [boxT l t]) _ _ ⟨h2, h1, by simp [hBl], by rw [← hno]; simp⟩ (by simp only; omega) ⟨rfl, rfl, rfl, hi1, trivial⟩ rfl ⟨?_, trivial⟩ rfl rfl
    rw [hbt]
    exact congrArg some (obxs_app B ⟨_, _⟩)
  have h3 : k < l.length := by simpa using g3
  clear g3
  have gl : (l.map vrI)[(k : Int).toNat]? = some (vrI l[k]) := get_mapI rfl h3
  have dl : l.drop k = l[k] :: l.drop (k + 1) := List.drop_eq_getElem_cons h3
  have hvk := hv _ (List.getElem_mem h3)
  rw [dl] at hpo
  simp only [rowR] at hpo
  clear dl
  generalize l[k] = v at *
  have hb3 : 0 ≤ (k : Int) ∧ (k : Int) < (l.length : Int) := by omega
  have hk1 : ii (IntKind.i64.wrap ((k : Int) + 1)) = ii ((k + 1 : Nat) : Int) := congrArg ii (wsucc (n := 4096) (by omega) (by decide))
  refine g_drawn Tk Tryd.func37 mixedT rfl ?_
  first | refine g_need Tk Tryd.func37 (hb3) ?_ | refine s_need Tk (hb3) ?_
  first | refine g_elem Tk Tryd.func37 (gl) ?_ | refine s_elem Tk (gl) ?_
  first | refine g_need Tk Tryd.func37 (hb3) ?_ | refine s_need Tk (hb3) ?_
  first | refine g_elem Tk Tryd.func37 (gl) ?_ | refine s_elem Tk (gl) ?_
  refine e_done Tk Tryd.func37 (by kernel_rfl) ?_
  have hw : IntKind.i64.wrap (IntKind.i64.wrap (v.high - v.low) + 1) = v.high - v.low + 1 := by rw [w64 (n := v.high - v.low) (by omega) (by omega), w64 (by omega) (by omega)]
  have hw0 : IntKind.i64.wrap (IntKind.i64.wrap (v.high - v.low) + 1) ≠ 0 := by rw [hw]; omega
  have hk3 : k = 0 ∨ k = 1 ∨ k = 2 := by omega
  have hok : bvOk v (t.at k).1 (t.at k).2 := ⟨hvk, (hby k).1, (hby k).2⟩
  have hne := box_ne hok
  obtain ⟨q, hq⟩ : ∃ q, boxV v (t.at k) = q := ⟨_, rfl⟩
  have hlo := (box_lo hok).trans (show _ = q.1 from congrArg (·.1) hq)
  have hhi := (box_hi hok).trans (show _ = q.2 from congrArg (·.2) hq)
  rw [hq] at hpo
  rcases hk3 with rfl | rfl | rfl
  all_goals
    first | refine g_need Tk Tryd.func37 (hb1) ?_ | refine s_need Tk (hb1) ?_
    first | refine g_need Tk Tryd.func37 (by simp) ?_ | refine s_need Tk (by simp) ?_
    first | refine g_need Tk Tryd.func37 (by decide) ?_ | refine s_need Tk (by decide) ?_
    first | refine g_elem Tk Tryd.func37 (gd) ?_ | refine s_elem Tk (gd) ?_
    first | refine g_need Tk Tryd.func37 (hw0) ?_ | refine s_need Tk (hw0) ?_
    refine g_float2 Tk 10 mixedT rfl ?_
    first | refine g_need Tk Tryd.func37 (hb3) ?_ | refine s_need Tk (hb3) ?_
    first | refine g_elem Tk Tryd.func37 (gl) ?_ | refine s_elem Tk (gl) ?_
    refine e_f2F Tk 23 59 (some 59) rfl rfl rfl rfl rfl ?_ (by kernel_rfl) ?_
    · exact ⟨by show ((P.map (·.1)).length + 1) * 8 ≤ 140737488355328; simp only [List.length_map]; omega, by show (P.map (·.1)).length + 1 ≤ 9223372036854775807; simp only [List.length_map]; omega⟩
    first | refine g_need Tk Tryd.func37 (hb3) ?_ | refine s_need Tk (hb3) ?_
    first | refine g_elem Tk Tryd.func37 (gl) ?_ | refine s_elem Tk (gl) ?_
    first | refine g_need Tk Tryd.func37 (hb1) ?_ | refine s_need Tk (hb1) ?_
    first | refine g_need Tk Tryd.func37 (by simp) ?_ | refine s_need Tk (by simp) ?_
    first | refine g_need Tk Tryd.func37 (by decide) ?_ | refine s_need Tk (by decide) ?_
    first | refine g_elem Tk Tryd.func37 (gd) ?_ | refine s_elem Tk (gd) ?_
    first | refine g_need Tk Tryd.func37 (hne) ?_ | refine s_need Tk (hne) ?_
    refine e_f2A ?_
    first | refine g_need Tk Tryd.func37 (hb3) ?_ | refine s_need Tk (hb3) ?_
    first | refine g_elem Tk Tryd.func37 (gl) ?_ | refine s_elem Tk (gl) ?_
    first | refine g_need Tk Tryd.func37 (hb1) ?_ | refine s_need Tk (hb1) ?_
    first | refine g_need Tk Tryd.func37 (by simp) ?_ | refine s_need Tk (by simp) ?_
    first | refine g_need Tk Tryd.func37 (by decide) ?_ | refine s_need Tk (by decide) ?_
    first | refine g_elem Tk Tryd.func37 (gd) ?_ | refine s_elem Tk (gd) ?_
    first | refine g_need Tk Tryd.func37 (hne) ?_ | refine s_need Tk (hne) ?_
    refine e_force ?_
    refine e_f2B Tk 1 83 (some 83) 34 (by kernel_rfl) rfl rfl rfl rfl rfl rfl ?_ (by kernel_rfl) ?_
    · exact ⟨by show ((P.map (·.2)).length + 1) * 8 ≤ 140737488355328; simp only [List.length_map]; omega, by show (P.map (·.2)).length + 1 ≤ 9223372036854775807; simp only [List.length_map]; omega⟩
    refine e_f2C 34 (by kernel_rfl) ?_
    refine e_f2D Tk Tryd.func37 [36, 37, 38] rfl (by kernel_rfl) (by kernel_rfl) ?_
    refine g_loop ?_
    refine ih2 (_, P ++ [q]) _ _ ⟨h3, by simp [hPl], by rw [← hpo]; simp⟩ (by simp only; omega) ⟨rfl, rfl, rfl, rfl, rfl, hk1, trivial⟩ rfl ⟨rfl, ?_, ?_, rfl, trivial⟩ rfl rfl
    · refine congrArg some (Eq.trans (b := Ob.arr 3 1 ((P.map (·.1)).length + 1) ((P.map (·.1)).map (fun x => [vi x]) ++ [[vi q.1]]) true) ?_ (by simp))
      rw [← hlo]; rfl
    · refine congrArg some (Eq.trans (b := Ob.arr 3 1 ((P.map (·.2)).length + 1) ((P.map (·.2)).map (fun x => [vi x]) ++ [[vi q.2]]) true) ?_ (by simp))
      rw [← hhi]; rfl
end Go.AI


/- A draft of boxes, opened. -/
namespace Go.Proofs.YtonnakcgopcfnaaDoor
open Go.ChangeShapes Go.WideShapes Go.ChangeAt Go.RowKit Go.Deep Go.WideElems
set_option maxRecDepth 100000
section
variable {H : Type} {enc : TypeId × Value → H} {P : Program} {W : World}
theorem opn_arrayG {t e : TypeId} {m z : Nat} {R : List AI.I → Prop} (ht : P.underlying t = some (.array m e)) (hc : P.cellsOf e = z) (hct : P.cellsOf t = m * z) (he : Opn enc P W e R) :
    Opn enc P W t fun is => ∃ xs : List (List AI.I), xs.length = m ∧ is = xs.flatten ∧ ∀ x ∈ xs, R x := by
  intro n cs x h
  obtain ⟨xs, f, rfl, rfl, hl, hlen, hx⟩ := DataW.trod_array ht h
  rw [hct] at hl
  have build : ∀ k, k ≤ m → ∃ ys : List (List AI.I), ys.length = k ∧ AI.RepL (KW W) (cs.take (k * z)) ys.flatten ∧ ∀ y ∈ ys, R y := by
    intro k
    induction k with
    | zero => intro _; exact ⟨[], rfl, by rw [Nat.zero_mul, List.take_zero]; exact .nil, by simp⟩
    | succ k ih =>
      intro hk
      obtain ⟨ys, h1, h2, h3⟩ := ih (by omega)
      have h0 := hx k (by omega)
      rw [hc, List.getElem?_eq_getElem (by omega)] at h0
      obtain ⟨is, hr, hR⟩ := he _ _ _ h0
      refine ⟨ys ++ [is], by simp [h1], ?_, fun y hy => ?_⟩
      · rw [Nat.succ_mul, List.take_add, List.flatten_append]
        simpa using repL_app h2 hr
      · rcases List.mem_append.1 hy with hy | hy
        · exact h3 y hy
        · rw [List.mem_singleton] at hy
          subst hy
          exact hR
  obtain ⟨ys, h1, h2, h3⟩ := build m (Nat.le_refl _)
  rw [List.take_of_length_le (by omega)] at h2
  exact ⟨_, h2, ys, h1, rfl, h3⟩
end
section
variable {H : Type} {enc : TypeId × Value → H} {W : World}
theorem opn_dft : Opn enc Tryd.prog W 72 fun is => ∃ l : List AI.Tri, is = [.sl 6 l.length (l.map AI.triI)] ∧ (∀ t ∈ l, t.byte) ∧ l.length ≤ AI.max63 := by
  intro n cs x h
  obtain ⟨is, hr, xs, rfl, hx, hl⟩ := opn_slice Tryd.underlying72 (z := 6) (by kernel_rfl) (by decide) (opn_arrayG Tryd.underlying163 (z := 2) (by kernel_rfl) (by kernel_rfl) (opn_array Tryd.underlying162 Tryd.underlying5 (by kernel_rfl) (by kernel_rfl))) n cs x h
  obtain ⟨l, rfl, hq⟩ := list_of (f := AI.triI) (Q := AI.Tri.byte) (xs := xs) fun d hd => by
    obtain ⟨ys, hy, he, hw⟩ := hx d hd
    match ys, hy with
    | [p, q, r], _ =>
      obtain ⟨zp, hp, rfl, wp⟩ := hw p (by simp)
      obtain ⟨zq, hq, rfl, wq⟩ := hw q (by simp)
      obtain ⟨zr, hr, rfl, wr⟩ := hw r (by simp)
      match zp, hp, zq, hq, zr, hr with
      | [a0, b0], _, [a1, b1], _, [a2, b2], _ =>
        have c0 := wf_u8 (wp a0 (by simp))
        have d0 := wf_u8 (wp b0 (by simp))
        have c1 := wf_u8 (wq a1 (by simp))
        have d1 := wf_u8 (wq b1 (by simp))
        have c2 := wf_u8 (wr a2 (by simp))
        have d2 := wf_u8 (wr b2 (by simp))
        refine ⟨⟨a0, b0, a1, b1, a2, b2⟩, he, fun k => ?_⟩
        match k with
        | 0 => simp only [AI.Tri.at]; omega
        | 1 => simp only [AI.Tri.at]; omega
        | _ + 2 => simp only [AI.Tri.at]; omega
  refine ⟨_, hr, l, by simp, hq, maxLen63 (by simpa using hl)⟩
theorem open_dft {r : Reach} {b0 : Nat} {v : Value} {d : DataW H} {p : List MemPlace} (hv : Value.okWide Tryd.prog W r b0 72 v) (h : DataW.Trod enc Tryd.prog W 0 (fun _ => true) true 72 v d p) :
    ∃ l : List AI.Tri, ((∀ t ∈ l, t.byte) ∧ l.length ≤ AI.max63) ∧ ∀ ρ sh, AI.RepD (KW W) ρ sh v (AI.dft l) := by
  obtain ⟨n, hn⟩ := h
  obtain ⟨is, hr, l, rfl, h1, h2⟩ := opn_dft n _ _ hn
  rw [okWide_sl Tryd.underlying72 hv] at hr
  cases hr with
  | cons a b => exact ⟨l, ⟨h1, h2⟩, fun ρ sh => .i a⟩
end
end Go.Proofs.YtonnakcgopcfnaaDoor
