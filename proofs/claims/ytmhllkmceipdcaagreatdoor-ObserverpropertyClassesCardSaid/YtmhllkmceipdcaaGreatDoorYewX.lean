/- The layer of abstract runs, part 24. -/
import Derived.Test.YtmhllkmceipdcaaGreatDoorYewW
set_option linter.unusedSimpArgs false
set_option linter.unusedVariables false
set_option linter.all false

namespace Go.AI
def okGo (ops : Array Oper) (pre : List (List Nat)) (ps : List Pl) (x0 : SH) : List Oper → List Pl → Nat → SH → Bool
  | [], [], _, _ => true
  | o :: r, p :: qs, i, x => okI ops pre ps x0 i o x p && okGo ops pre ps x0 r qs (i + 1) (p.ap x)
  | _ :: _, [], _, _ => true
  | [], _ :: _, _, _ => false
def tailB (ops : Array Oper) (pre : List (List Nat)) (m : Nat) : Bool := allN ops.size fun j => Nat.ble (j + 1) m || allN j fun k => memN (getL pre j) k
def okT (ops : Array Oper) (ps : List Pl) (x0 : SH) : Bool :=
  let pre := presGo ops.toList []
  preOk ops pre && okGo ops pre ps x0 ops.toList ps 0 x0 && tailB ops pre ps.length
def okD (ops : Array Oper) (ps : List Pl) (x0 : SH) : Bool :=
  let pre := presGo ops.toList []
  preOk ops pre && okGo ops pre ps x0 ops.toList ps 0 x0 && Nat.beq ps.length ops.size
def ChainS (c : Cx) (ops : Array Oper) (O : List Heap) (n : Nat) : List Oper → List Pl → SH → Prop
  | [], [], _ => True
  | o :: r, p :: qs, x => StepOK c ops O n o (viewOf ops o x) p ∧ ChainS c ops O n r qs (p.ap x)
  | _ :: _, [], _ => True
  | [], _ :: _, _ => False
theorem okT_of_okD {ops : Array Oper} {ps : List Pl} {x0 : SH} (h : okD ops ps x0 = true) : okT ops ps x0 = true ∧ ps.length = ops.size := by
  simp only [okD, Bool.and_eq_true] at h
  have hl := Nat.eq_of_beq_eq_true h.2
  refine ⟨?_, hl⟩
  simp only [okT, Bool.and_eq_true]
  refine ⟨h.1, ?_⟩
  unfold tailB
  have : ∀ m, m ≤ ops.size → allN m (fun j => Nat.ble (j + 1) ps.length || allN j fun k => memN (getL (presGo ops.toList []) j) k) = true := by
    intro m
    induction m with
    | zero => intro _; rfl
    | succ m ih =>
      intro hm
      simp only [allN, Bool.and_eq_true, Bool.or_eq_true]
      exact ⟨.inl (Nat.ble_eq_true_of_le (by omega)), ih (by omega)⟩
  exact this _ (Nat.le_refl _)
def foldP (qs : List Pl) (x : SH) : SH := qs.foldl (fun x p => p.ap x) x
theorem okGo_get {ops : Array Oper} {pre : List (List Nat)} {ps : List Pl} {x0 : SH} : ∀ {l : List Oper} {qs : List Pl} {i : Nat} {x : SH}, okGo ops pre ps x0 l qs i x = true →
    qs.length ≤ l.length ∧ ∀ k o p, l[k]? = some o → qs[k]? = some p → okI ops pre ps x0 (i + k) o (foldP (qs.take k) x) p = true
  | [], [], i, x, _ => ⟨Nat.le_refl _, by simp⟩
  | o :: r, p :: qs, i, x, h => by
    simp only [okGo, Bool.and_eq_true] at h
    obtain ⟨h1, h2⟩ := okGo_get h.2
    refine ⟨by simp only [List.length_cons]; omega, fun k o' p' hk hp => ?_⟩
    cases k with
    | zero =>
      simp only [List.getElem?_cons_zero, Option.some.injEq] at hk hp
      subst hk hp
      exact h.1
    | succ k =>
      have hh := h2 k o' p' (by simpa using hk) (by simpa using hp)
      rw [show i + (k + 1) = i + 1 + k by omega]
      exact hh
  | [], _ :: _, _, _, h => by simp [okGo] at h
  | _ :: _, [], _, _, h => ⟨Nat.zero_le _, by simp⟩
theorem chain_get {c : Cx} {ops : Array Oper} {O : List Heap} {n : Nat} : ∀ {l : List Oper} {qs : List Pl} {x : SH}, ChainS c ops O n l qs x →
    ∀ k o p, l[k]? = some o → qs[k]? = some p → StepOK c ops O n o (viewOf ops o (foldP (qs.take k) x)) p
  | [], [], x, _ => by simp
  | o :: r, p :: qs, x, h => by
    intro k o' p' hk hp
    cases k with
    | zero =>
      simp only [List.getElem?_cons_zero, Option.some.injEq] at hk hp
      subst hk hp
      exact h.1
    | succ k => exact chain_get h.2 k o' p' (by simpa using hk) (by simpa using hp)
  | [], _ :: _, _, h => h.elim
  | _ :: _, [], _, h => by simp
theorem fold_range {ps : List Pl} {x : SH} : ∀ k, k ≤ ps.length → fold ps (List.range k) x = foldP (ps.take k) x
  | 0, _ => by simp [fold, foldP]
  | k + 1, h => by
    rw [List.range_succ, fold_append, fold_range k (by omega), List.take_add_one]
    have : ps[k]? = some (ps[k]'(by omega)) := List.getElem?_eq_getElem _
    rw [this]
    simp only [foldP, List.foldl_append, Option.toList, List.foldl_cons, List.foldl_nil]
    simp only [fold, List.foldl_cons, List.foldl_nil, pl, this]
theorem ord_congr {n : Nat} {m m' : Nat → Bool} (h : ∀ k, k < n → m k = m' k) : ord n m = ord n m' := by
  unfold ord
  refine List.filter_congr fun k hk => h k (List.mem_range.1 hk)
theorem mem_befores {o : Oper} {j : Nat} : j ∈ befores o ↔ ∃ e ∈ o.after, Region.binds .any e = true ∧ e.on = j := by
  simp only [befores, List.mem_map, List.mem_filter, Array.mem_toList_iff]
  constructor
  · rintro ⟨e, ⟨h1, h2⟩, h3⟩; exact ⟨e, h1, h2, h3⟩
  · rintro ⟨e, h1, h2, h3⟩; exact ⟨e, ⟨h1, h2⟩, h3⟩
theorem inv_draw {E : Env} {K : Kn} {ρ : Nat → Nat → Loc} {s : St} {a : Act} {w : World} (h : Inv E K ρ s a w) (d : Nat) : Inv E K ρ s a { w with drawn := d } := by
  obtain ⟨⟨h1, h2, h3, h4, h5, h6, h7, h8, h9, h10⟩, h11, h12, h13⟩ := h
  refine ⟨⟨h1, fun dep nm ob e => ?_, h3, h4, h5, h6, h7, h8, h9, h10⟩, h11, h12, h13⟩
  have := h2 dep nm ob e
  cases ob with
  | box cs => exact this
  | tb => exact this
  | arr => exact this
  | mp => exact this
theorem rch_tail {c : Cx} (hm : c.P.follows .mixedOrders = true) {id : Nat} {ops : Array Oper} {O : List Heap} {n : Nat} {x0 : SH} {ps : List Pl} {k : List Item} (hok : okT ops ps x0 = true) (hch : ChainS c ops O n ops.toList ps x0)
    (hend : RG c ops (List.range' ps.length (ops.size - ps.length)) (St.of O n (foldP ps x0)) k) : Rch c (.code (.region id ops true) :: k) (St.of O n x0) := by
  simp only [okT, Bool.and_eq_true] at hok
  obtain ⟨⟨hpre, hgo⟩, htl⟩ := hok
  obtain ⟨hlen, hget⟩ := okGo_get hgo
  have hlen' : ps.length ≤ ops.size := by simpa using hlen
  intro K ρ a w b cs hi hb hk
  let Q : Exit → Act → World → Prop := fun e a' w' => e = .normal ∧ Ends c k a' w'
  have hgetD : ∀ (listed : Array Bool) (i : Nat), listed.size = ops.size → i < ops.size → ∀ k, (listed.setIfInBounds i true).getD k false = (listed.getD k false || Nat.beq k i) := by
    intro listed i hsz hlt k
    by_cases hki : k = i
    · subst hki
      simp [hsz, hlt]
    · have : Nat.beq k i = false := by
        cases hb : Nat.beq k i with
        | false => rfl
        | true => exact absurd (Nat.eq_of_beq_eq_true hb) hki
      rw [this, Bool.or_false, getD_set_ne false (Ne.symm hki)]
  have hcntlt : ∀ (listed : Array Bool) (i : Nat), listed.size = ops.size → i < ops.size → listed.getD i false = false → (List.range ops.size).countP (fun k => !(listed.setIfInBounds i true).getD k false) < (List.range ops.size).countP (fun k => !listed.getD k false) := by
    intro listed i hsz hlt hLi
    have e1 : (fun k => !(listed.setIfInBounds i true).getD k false) = fun k => !listed.getD k false && !Nat.beq k i := by
      funext k; rw [hgetD listed i hsz hlt]; simp
    rw [e1]
    obtain ⟨l1, l2, hl⟩ := List.append_of_mem (List.mem_range.2 hlt)
    rw [hl]
    simp only [List.countP_append, List.countP_cons]
    have m1 : l1.countP (fun k => !listed.getD k false && !Nat.beq k i) ≤ l1.countP (fun k => !listed.getD k false) := List.countP_mono_left fun x _ hx => by simp only [Bool.and_eq_true] at hx; exact hx.1
    have m2 : l2.countP (fun k => !listed.getD k false && !Nat.beq k i) ≤ l2.countP (fun k => !listed.getD k false) := List.countP_mono_left fun x _ hx => by simp only [Bool.and_eq_true] at hx; exact hx.1
    have e2 : (!listed.getD i false) = true := by rw [hLi]; rfl
    have e3 : Nat.beq i i = true := Nat.beq_refl i
    rw [if_pos e2, if_neg (by rw [e3]; simp)]
    omega
  have hready : ∀ (listed : Array Bool), listed.size = ops.size → ∀ i, i < ops.size → listed.getD i false = false → (∀ o, ops[i]? = some o → ∀ j ∈ befores o, listed.getD j false = true) → i ∈ Region.ready .any ops listed := by
    intro listed hsz i hlt hLi hbe
    rw [mem_ready]
    obtain ⟨o, ho⟩ : ∃ o, ops[i]? = some o := ⟨ops[i], by rw [Array.getElem?_eq_getElem]⟩
    refine ⟨?_, o, ho, fun e he hb1 => hbe o ho e.on (mem_befores.2 ⟨e, he, hb1, rfl⟩)⟩
    simp only [Array.getD_eq_getD_getElem?] at hLi ⊢
    rw [Array.getElem?_eq_getElem (by omega)] at hLi ⊢
    simpa using hLi
  have hfromReady : ∀ (listed : Array Bool), listed.size = ops.size → ∀ i ∈ Region.ready .any ops listed, ∃ o, ops[i]? = some o ∧ i < ops.size ∧ listed.getD i false = false ∧ ∀ j ∈ befores o, listed.getD j false = true := by
    intro listed hsz i hi
    obtain ⟨h1, o, ho, hbe⟩ := mem_ready.1 hi
    have hlt : i < ops.size := (Array.getElem?_eq_some_iff.1 ho).1
    refine ⟨o, ho, hlt, ?_, fun j hj => ?_⟩
    · simp only [Array.getD_eq_getD_getElem?] at h1 ⊢
      rw [Array.getElem?_eq_getElem (by omega)] at h1 ⊢
      simpa using h1
    · obtain ⟨e, he, hb1, rfl⟩ := mem_befores.1 hj
      exact hbe e he hb1
  have hclose : ∀ (listed : Array Bool) (i : Nat) (o : Oper), listed.size = ops.size → ops[i]? = some o → i < ops.size → (∀ j ∈ befores o, listed.getD j false = true) → Closed ops (fun k => listed.getD k false) → Closed ops (fun k => (listed.setIfInBounds i true).getD k false) := by
    intro listed i o hsz ho hlt hbef hc k ok hok2 hk2 j hj
    have hk2 : (listed.setIfInBounds i true).getD k false = true := hk2
    show (listed.setIfInBounds i true).getD j false = true
    rw [hgetD listed i hsz hlt] at hk2 ⊢
    simp only [Bool.or_eq_true] at hk2
    rcases hk2 with hk2 | hk2
    · have hcj : listed.getD j false = true := hc k ok hok2 hk2 j hj
      rw [hcj]; rfl
    · have := Nat.eq_of_beq_eq_true hk2
      subst this
      rw [ho] at hok2
      simp only [Option.some.injEq] at hok2
      subst hok2
      rw [hbef j hj]; rfl
  have htail : ∀ (listed : Array Bool) (i : Nat) (o : Oper), ops[i]? = some o → ps.length ≤ i → Closed ops (fun k => listed.getD k false) → (∀ j ∈ befores o, listed.getD j false = true) → ∀ j, j < i → listed.getD j false = true := by
    intro listed i o ho hge hc hbef j hj
    have hlt : i < ops.size := (Array.getElem?_eq_some_iff.1 ho).1
    have h1 := allN_iff htl i hlt
    simp only [Bool.or_eq_true] at h1
    rcases h1 with h1 | h1
    · have := Nat.le_of_ble_eq_true h1; omega
    · exact (pre_down hpre hc (i + 1) i o (by omega) ho hbef j (memN_iff.1 (allN_iff h1 j hj))).1
  -- the tail
  have tail : ∀ (fuel m : Nat) (listed : Array Bool) (a : Act) (w : World), listed.size = ops.size → ps.length ≤ m → m ≤ ops.size → ops.size - m ≤ fuel → (∀ j, j < ops.size → listed.getD j false = Nat.ble (j + 1) m) → Closed ops (fun k => listed.getD k false) →
      wpOps c.P ops Q (List.range' m (ops.size - m)) a w → wpAny c.P .any ops Q fuel listed a w := by
    intro fuel
    induction fuel with
    | zero =>
      intro m listed a w hsz hm1 hm2 hf hl hc hw
      have : ops.size - m = 0 := by omega
      rw [this] at hw
      refine ⟨?_, hw⟩
      cases hr : Region.ready .any ops listed with
      | nil => rfl
      | cons i r =>
        obtain ⟨o, ho, hlt, hLi, _⟩ := hfromReady listed hsz i (by rw [hr]; simp)
        rw [hl i hlt, Nat.ble_eq_true_of_le (by omega)] at hLi
        cases hLi
    | succ fuel ih =>
      intro m listed a w hsz hm1 hm2 hf hl hc hw
      refine ⟨fun hr => ?_, fun i hi => ?_⟩
      · by_cases hms : m = ops.size
        · have : ops.size - m = 0 := by omega
          rw [this] at hw
          exact hw
        · exfalso
          have hmlt : m < ops.size := by omega
          have : m ∈ Region.ready .any ops listed := by
            refine hready listed hsz m hmlt ?_ fun o ho j hj => ?_
            · rw [hl m hmlt]
              cases hb : Nat.ble (m + 1) m with
              | false => rfl
              | true => have := Nat.le_of_ble_eq_true hb; omega
            · have hjm := (pre_lt hpre m o ho).1 j hj
              rw [hl j (by omega)]
              exact Nat.ble_eq_true_of_le hjm
          rw [hr] at this; cases this
      · obtain ⟨o, ho, hlt, hLi, hbef⟩ := hfromReady listed hsz i hi
        have him : m ≤ i := by
          rw [hl i hlt] at hLi
          apply Nat.le_of_not_lt
          intro h
          rw [Nat.ble_eq_true_of_le h] at hLi; cases hLi
        have : i = m := by
          apply Classical.byContradiction
          intro hne
          have := htail listed i o ho (by omega) hc hbef m (by omega)
          rw [hl m (by omega)] at this
          have := Nat.le_of_ble_eq_true this
          omega
        subst this
        rw [show ops.size - i = (ops.size - (i + 1)) + 1 by omega, List.range'_succ, wpOps_cons] at hw
        refine wpOp_mono (fun a w h => ?_) hw
        refine ih (i + 1) _ a w (by simpa using hsz) (by omega) (by omega) (by omega) (fun j hj => ?_) (hclose listed i o hsz ho hlt hbef hc) h
        rw [hgetD listed i hsz hlt, hl j hj]
        by_cases hji : j = i
        · subst hji
          rw [Nat.beq_refl, Bool.or_true]
          exact (Nat.ble_eq_true_of_le (Nat.le_refl _)).symm
        · have hbn : Nat.beq j i = false := by
            cases hb : Nat.beq j i with
            | false => rfl
            | true => exact absurd (Nat.eq_of_beq_eq_true hb) hji
          rw [hbn, Bool.or_false]
          by_cases hji2 : j + 1 ≤ i
          · rw [Nat.ble_eq_true_of_le hji2, Nat.ble_eq_true_of_le (by omega)]
          · have e1 : Nat.ble (j + 1) i = false := by
              cases hb : Nat.ble (j + 1) i with
              | false => rfl
              | true => exact absurd (Nat.le_of_ble_eq_true hb) hji2
            have e2 : Nat.ble (j + 1) (i + 1) = false := by
              cases hb : Nat.ble (j + 1) (i + 1) with
              | false => rfl
              | true => have := Nat.le_of_ble_eq_true hb; omega
            rw [e1, e2]
  have hclosedlt : ∀ (listed : Array Bool), Closed ops (fun k => listed.getD k false) → (∃ j, j < ps.length ∧ listed.getD j false = false) → ∀ i, i < ops.size → ps.length ≤ i → listed.getD i false = false := by
    intro listed hc ⟨j, hj, hjf⟩ i hi hge
    cases hLi : listed.getD i false with
    | false => rfl
    | true =>
      obtain ⟨o, ho⟩ : ∃ o, ops[i]? = some o := ⟨ops[i], by rw [Array.getElem?_eq_getElem]⟩
      have := htail listed i o ho hge hc (fun k hk => hc i o ho hLi k hk) j (by omega)
      rw [hjf] at this; cases this
  have key : ∀ (fuel : Nat) (listed : Array Bool) (a : Act) (w : World), listed.size = ops.size → (List.range ops.size).countP (fun k => !listed.getD k false) ≤ fuel → Closed ops (fun k => listed.getD k false) →
      (∀ i, i < ops.size → ps.length ≤ i → listed.getD i false = false) → (∃ K ρ, Inv c.E K ρ (St.of O n (fold ps (ord ops.size fun k => listed.getD k false) x0)) a w) → wpAny c.P .any ops Q fuel listed a w := by
    intro fuel
    induction fuel with
    | zero =>
      intro listed a w hsz hcnt hc hno hinv
      have hl : ∀ i, i < ops.size → listed.getD i false = true := by
        have h0 := List.countP_eq_zero.1 (Nat.le_zero.1 hcnt)
        intro i hi
        have := h0 i (List.mem_range.2 hi)
        simpa using this
      have hps : ps.length = ops.size := by
        apply Classical.byContradiction
        intro hne
        have h1 := hno ps.length (by omega) (Nat.le_refl _)
        rw [hl _ (by omega)] at h1; cases h1
      refine tail 0 ops.size listed a w hsz (by omega) (Nat.le_refl _) (by omega) (fun j hj => ?_) hc ?_
      · rw [hl j hj, Nat.ble_eq_true_of_le (by omega)]
      · rw [Nat.sub_self]
        obtain ⟨K, ρ, hinv⟩ := hinv
        have e : ord ops.size (fun k => listed.getD k false) = List.range ps.length := by
          rw [hps]
          unfold ord
          rw [List.filter_eq_self]
          intro k hk
          exact hl k (List.mem_range.1 hk)
        rw [e, fold_range _ (Nat.le_refl _), List.take_of_length_le (Nat.le_refl _)] at hinv
        have := hend K ρ a w hinv
        rw [hps, Nat.sub_self] at this
        exact this
    | succ fuel ih =>
      intro listed a w hsz hcnt hc hno hinv
      by_cases hall : ∀ j, j < ps.length → listed.getD j false = true
      · -- the prefix is whole
        have hl : ∀ j, j < ops.size → listed.getD j false = Nat.ble (j + 1) ps.length := by
          intro j hj
          by_cases hjl : j < ps.length
          · rw [hall j hjl, Nat.ble_eq_true_of_le hjl]
          · rw [hno j hj (by omega)]
            cases hb : Nat.ble (j + 1) ps.length with
            | false => rfl
            | true => have := Nat.le_of_ble_eq_true hb; omega
        refine tail (fuel + 1) ps.length listed a w hsz (Nat.le_refl _) hlen' ?_ hl hc ?_
        · refine Nat.le_trans ?_ hcnt
          have e : (List.range ops.size) = List.range ps.length ++ (List.range' ps.length (ops.size - ps.length)) := by
            have h := List.range'_append_1 (s := 0) (m := ps.length) (n := ops.size - ps.length)
            rw [Nat.zero_add, Nat.add_sub_cancel' hlen'] at h
            rw [List.range_eq_range', List.range_eq_range', h]
          rw [e, List.countP_append]
          have : (List.range' ps.length (ops.size - ps.length)).countP (fun k => !listed.getD k false) = (List.range' ps.length (ops.size - ps.length)).length := by
            rw [List.countP_eq_length]
            intro k hk
            rw [List.mem_range'_1] at hk
            rw [hno k (by omega) hk.1]; rfl
          rw [this, List.length_range']
          omega
        · obtain ⟨K, ρ, hinv⟩ := hinv
          have e : ord ops.size (fun k => listed.getD k false) = List.range ps.length := by
            rw [← ord_range (n := ops.size) hlen']
            exact ord_congr fun k hk => hl k hk
          rw [e, fold_range _ (Nat.le_refl _), List.take_of_length_le (Nat.le_refl _)] at hinv
          exact hend K ρ a w hinv
      · have hex : ∃ j, j < ps.length ∧ listed.getD j false = false := by
          apply Classical.byContradiction
          intro hne
          apply hall
          intro j hj
          cases hb : listed.getD j false with
          | true => rfl
          | false => exact absurd ⟨j, hj, hb⟩ hne
        obtain ⟨K, ρ, hinv⟩ := hinv
        refine ⟨fun hr => ?_, fun i hi => ?_⟩
        · -- something of the prefix is ready
          exfalso
          obtain ⟨j, hj, hjf⟩ := hex
          have : ∀ m i, i < m → i < ops.size → listed.getD i false = true := by
            intro m
            induction m with
            | zero => intro i h; omega
            | succ m ih =>
              intro i hi1 hi2
              cases hcc : listed.getD i false with
              | true => rfl
              | false =>
                exfalso
                have : i ∈ Region.ready .any ops listed := hready listed hsz i hi2 hcc fun o ho k hk => by
                  have := (pre_lt hpre i o ho).1 k hk
                  exact ih k (by omega) (by omega)
                rw [hr] at this; cases this
          rw [this (j + 1) j (by omega) (by omega)] at hjf
          cases hjf
        · obtain ⟨o, ho, hlt, hLi, hbef⟩ := hfromReady listed hsz i hi
          have hil : i < ps.length := by
            apply Nat.lt_of_not_le
            intro hge
            obtain ⟨j, hj, hjf⟩ := hex
            rw [htail listed i o ho hge hc hbef j (by omega)] at hjf
            cases hjf
          have hp : ps[i]? = some ps[i] := List.getElem?_eq_getElem hil
          have hok1 := hget i o _ (by simpa using ho) hp
          have hst := chain_get hch i o _ (by simpa using ho) hp
          generalize ps[i] = p at *
          have hpl : pl ps i = p := by simp [pl, hp]
          rw [Nat.zero_add] at hok1
          rw [← fold_range i (by omega), ← ord_range (n := ops.size) (by omega)] at hok1 hst
          rw [← hpl] at hok1 hst
          obtain ⟨hf, hy1, hy2⟩ := fits hpre ho hok1 rfl hc hLi hbef
          refine step_frame ho hst hf hy1 hy2 hinv fun a' w' K' ρ' hinv' => ?_
          refine ih _ _ _ (by simpa using hsz) ?_ (hclose listed i o hsz ho hlt hbef hc) (fun k hk1 hk2 => ?_) ⟨K', ρ', ?_⟩
          · have := hcntlt listed i hsz hlt hLi
            omega
          · rw [hgetD listed i hsz hlt, hno k hk1 hk2, Bool.false_or]
            cases hb : Nat.beq k i with
            | false => rfl
            | true => have := Nat.eq_of_beq_eq_true hb; omega
          · rw [ord_congr fun k _ => hgetD listed i hsz hlt k]
            exact hinv'
  have hrep : ∀ k, (Array.replicate ops.size false).getD k false = false := by
    intro k
    simp only [Array.getD_eq_getD_getElem?, Array.getElem?_replicate]
    split <;> rfl
  have h0 : ord ops.size (fun k => (Array.replicate ops.size false).getD k false) = [] := by
    unfold ord
    rw [List.filter_eq_nil_iff]
    intro k _
    rw [hrep]; simp
  obtain ⟨e, a', w', ⟨rfl, hq⟩, harr⟩ := wp_region_any (id := id) hm (key ops.size _ a { w with drawn := w.drawn + 1 } (by simp) (by
    refine Nat.le_trans (List.countP_le_length ..) ?_
    simp) (fun i o _ h => by
      have h : (Array.replicate ops.size false).getD i false = true := h
      rw [hrep] at h
      cases h) (fun i _ _ => hrep i) ⟨K, ρ, by rw [h0]; exact inv_draw hi _⟩) b k cs
  obtain ⟨v, w'', fr, hp, hst, h3⟩ := hq b cs hb hk
  exact ⟨v, w'', fr, hp, Steps.trans harr hst, h3⟩
def FD (c : Cx) (ops : Array Oper) (O : List Heap) (n : Nat) (x0 : SH) (k : List Item) (x : SH) (ps : List Pl) : Prop := okT ops ps x0 = true ∧ RG c ops (List.range' ps.length (ops.size - ps.length)) (St.of O n x) k
theorem fd_done {c : Cx} {ops : Array Oper} {O : List Heap} {n : Nat} {x0 : SH} {k : List Item} {x : SH} {ps : List Pl} (hok : okD ops ps x0 = true) (h : Rch c k (St.of O n x)) : FD c ops O n x0 k x ps := by
  obtain ⟨h1, h2⟩ := okT_of_okD hok
  refine ⟨h1, ?_⟩
  rw [h2, Nat.sub_self]
  exact rg_nil h
end Go.AI
