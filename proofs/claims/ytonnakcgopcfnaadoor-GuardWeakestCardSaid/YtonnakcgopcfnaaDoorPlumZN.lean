/- The layer of abstract runs, part 40. -/
import Derived.Test.YtonnakcgopcfnaaDoorPlumZM
set_option linter.unusedSimpArgs false
set_option linter.unusedVariables false
set_option linter.all false

/- A region whose order is drawn, with a late operation: behind a prefix an old operation, one that may come ahead of it, and a last one. -/
namespace Go.AI
def noPl : Pl := ⟨[], [], none⟩
def okL (ops : Array Oper) (ps : List Pl) (p6 : Pl) (x0 x : SH) : Bool :=
  let pre := presGo ops.toList []
  let ps' := ps ++ [noPl, p6]
  preOk ops pre && okGo ops pre ps' x0 ops.toList ps 0 x0 && Nat.beq ops.size (ps.length + 3) && (match ops[ps.length + 1]? with
    | some o => okI ops pre ps' x0 (ps.length + 1) o x p6
    | none => false) && allN ps.length (fun k => memN (getL pre ps.length) k) && allN (ps.length + 2) (fun k => memN (getL pre (ps.length + 2)) k)
theorem rch_late {c : Cx} (hm : c.P.follows .mixedOrders = true) {id : Nat} {ops : Array Oper} {O : List Heap} {n : Nat} {x0 : SH} {ps : List Pl} {p6 : Pl} {o6 : Oper} {k : List Item} (hok : okL ops ps p6 x0 (foldP ps x0) = true) (hch : ChainS c ops O n ops.toList ps x0)
    (ho6 : ops[ps.length + 1]? = some o6) (hs6 : StepOK c ops O n o6 (viewOf ops o6 (foldP ps x0)) p6)
    (hA : RG c ops [ps.length, ps.length + 1, ps.length + 2] (St.of O n (foldP ps x0)) (Rch c k)) (hB : RG c ops [ps.length, ps.length + 2] (St.of O n (p6.ap (foldP ps x0))) (Rch c k)) : Rch c (.code (.region id ops true) :: k) (St.of O n x0) := by
  simp only [okL, ho6, Bool.and_eq_true] at hok
  obtain ⟨⟨⟨⟨⟨hpre, hgo⟩, hsize⟩, hok6⟩, hdm⟩, hde⟩ := hok
  have hsize := Nat.eq_of_beq_eq_true hsize
  obtain ⟨hlen, hget⟩ := okGo_get hgo
  generalize hps' : ps ++ [noPl, p6] = ps' at *
  have hpl' : ps'.length = ps.length + 2 := by rw [← hps']; simp
  have hplt : ∀ i (h : i < ps.length), pl ps' i = ps[i] := fun i h => by
    unfold pl
    rw [← hps', List.getElem?_append_left h, List.getElem?_eq_getElem h]
  have hple : pl ps' (ps.length + 1) = p6 := by
    unfold pl
    rw [← hps', List.getElem?_append_right (by omega), show ps.length + 1 - ps.length = 1 by omega]
    rfl
  have hfold : ∀ i, i ≤ ps.length → fold ps' (List.range i) x0 = foldP (ps.take i) x0 := fun i h => by
    rw [fold_range i (by omega), ← hps', List.take_append_of_le_length h]
  have hfm : fold ps' (List.range ps.length) x0 = foldP ps x0 := by rw [hfold _ (Nat.le_refl _), List.take_of_length_le (Nat.le_refl _)]
  have hfe : fold ps' (List.range (ps.length + 1)) x0 = foldP ps x0 := by
    rw [List.range_succ, fold_append, hfm]
    have : pl ps' ps.length = noPl := by
      unfold pl
      rw [← hps', List.getElem?_append_right (by omega), Nat.sub_self]
      rfl
    simp only [fold, List.foldl_cons, List.foldl_nil, this]
    rfl
  intro K ρ a w b cs hi hb hk
  let Q : Exit → Act → World → Prop := fun e a' w' => e = .normal ∧ ∃ s' K ρ, Inv c.E K ρ s' a' w' ∧ Rch c k s'
  have hgetD : ∀ (listed : Array Bool) (i : Nat), listed.size = ops.size → i < ops.size → ∀ k, (listed.setIfInBounds i true).getD k false = (listed.getD k false || Nat.beq k i) := by
    intro listed i hsz hlt k
    by_cases hki : k = i
    · subst hki
      simp [hsz, hlt]
    · have : Nat.beq k i = false := by
        cases hb : Nat.beq k i with
        | false => rfl
        | true => exact absurd (Nat.eq_of_beq_eq_true hb) hki
      rw [this, Bool.or_false, getD_set_ne false (Ne.symm hki)]
  have hcntlt : ∀ (listed : Array Bool) (i : Nat), listed.size = ops.size → i < ops.size → listed.getD i false = false → (List.range ops.size).countP (fun k => !(listed.setIfInBounds i true).getD k false) < (List.range ops.size).countP (fun k => !listed.getD k false) := by
    intro listed i hsz hlt hLi
    have e1 : (fun k => !(listed.setIfInBounds i true).getD k false) = fun k => !listed.getD k false && !Nat.beq k i := by
      funext k; rw [hgetD listed i hsz hlt]; simp
    rw [e1]
    obtain ⟨l1, l2, hl⟩ := List.append_of_mem (List.mem_range.2 hlt)
    rw [hl]
    simp only [List.countP_append, List.countP_cons]
    have m1 : l1.countP (fun k => !listed.getD k false && !Nat.beq k i) ≤ l1.countP (fun k => !listed.getD k false) := List.countP_mono_left fun x _ hx => by simp only [Bool.and_eq_true] at hx; exact hx.1
    have m2 : l2.countP (fun k => !listed.getD k false && !Nat.beq k i) ≤ l2.countP (fun k => !listed.getD k false) := List.countP_mono_left fun x _ hx => by simp only [Bool.and_eq_true] at hx; exact hx.1
    have e2 : (!listed.getD i false) = true := by rw [hLi]; rfl
    have e3 : Nat.beq i i = true := Nat.beq_refl i
    rw [if_pos e2, if_neg (by rw [e3]; simp)]
    omega
  have hready : ∀ (listed : Array Bool), listed.size = ops.size → ∀ i, i < ops.size → listed.getD i false = false → (∀ o, ops[i]? = some o → ∀ j ∈ befores o, listed.getD j false = true) → i ∈ Region.ready .any ops listed := by
    intro listed hsz i hlt hLi hbe
    rw [mem_ready]
    obtain ⟨o, ho⟩ : ∃ o, ops[i]? = some o := ⟨ops[i], by rw [Array.getElem?_eq_getElem]⟩
    refine ⟨?_, o, ho, fun e he hb1 => hbe o ho e.on (mem_befores.2 ⟨e, he, hb1, rfl⟩)⟩
    simp only [Array.getD_eq_getD_getElem?] at hLi ⊢
    rw [Array.getElem?_eq_getElem (by omega)] at hLi ⊢
    simpa using hLi
  have hfromReady : ∀ (listed : Array Bool), listed.size = ops.size → ∀ i ∈ Region.ready .any ops listed, ∃ o, ops[i]? = some o ∧ i < ops.size ∧ listed.getD i false = false ∧ ∀ j ∈ befores o, listed.getD j false = true := by
    intro listed hsz i hi
    obtain ⟨h1, o, ho, hbe⟩ := mem_ready.1 hi
    have hlt : i < ops.size := (Array.getElem?_eq_some_iff.1 ho).1
    refine ⟨o, ho, hlt, ?_, fun j hj => ?_⟩
    · simp only [Array.getD_eq_getD_getElem?] at h1 ⊢
      rw [Array.getElem?_eq_getElem (by omega)] at h1 ⊢
      simpa using h1
    · obtain ⟨e, he, hb1, rfl⟩ := mem_befores.1 hj
      exact hbe e he hb1
  have hclose : ∀ (listed : Array Bool) (i : Nat) (o : Oper), listed.size = ops.size → ops[i]? = some o → i < ops.size → (∀ j ∈ befores o, listed.getD j false = true) → Closed ops (fun k => listed.getD k false) → Closed ops (fun k => (listed.setIfInBounds i true).getD k false) := by
    intro listed i o hsz ho hlt hbef hc k ok hok2 hk2 j hj
    have hk2 : (listed.setIfInBounds i true).getD k false = true := hk2
    show (listed.setIfInBounds i true).getD j false = true
    rw [hgetD listed i hsz hlt] at hk2 ⊢
    simp only [Bool.or_eq_true] at hk2
    rcases hk2 with hk2 | hk2
    · have hcj : listed.getD j false = true := hc k ok hok2 hk2 j hj
      rw [hcj]; rfl
    · have := Nat.eq_of_beq_eq_true hk2
      subst this
      rw [ho] at hok2
      simp only [Option.some.injEq] at hok2
      subst hok2
      rw [hbef j hj]; rfl
  have hdepM : ∀ (listed : Array Bool) (o : Oper), ops[ps.length]? = some o → Closed ops (fun k => listed.getD k false) → (∀ j ∈ befores o, listed.getD j false = true) → ∀ j, j < ps.length → listed.getD j false = true := by
    intro listed o ho hc hbef j hj
    exact (pre_down hpre hc (ps.length + 1) ps.length o (by omega) ho hbef j (memN_iff.1 (allN_iff hdm j hj))).1
  have hdepE : ∀ (listed : Array Bool) (i : Nat) (o : Oper), ops[i]? = some o → ps.length + 2 ≤ i → Closed ops (fun k => listed.getD k false) → (∀ j ∈ befores o, listed.getD j false = true) → ∀ j, j < i → listed.getD j false = true := by
    intro listed i o ho hge hc hbef j hj
    have hlt : i < ops.size := (Array.getElem?_eq_some_iff.1 ho).1
    have : i = ps.length + 2 := by omega
    subst this
    exact (pre_down hpre hc (ps.length + 2 + 1) (ps.length + 2) o (by omega) ho hbef j (memN_iff.1 (allN_iff hde j hj))).1
  -- the tail
  have tail : ∀ (fuel m : Nat) (listed : Array Bool) (a : Act) (w : World), listed.size = ops.size → ps.length + 1 ≤ m → m ≤ ops.size → ops.size - m ≤ fuel → (∀ j, j < ops.size → listed.getD j false = Nat.ble (j + 1) m) → Closed ops (fun k => listed.getD k false) →
      wpOps c.P ops Q (List.range' m (ops.size - m)) a w → wpAny c.P .any ops Q fuel listed a w := by
    intro fuel
    induction fuel with
    | zero =>
      intro m listed a w hsz hm1 hm2 hf hl hc hw
      have : ops.size - m = 0 := by omega
      rw [this] at hw
      refine ⟨?_, hw⟩
      cases hr : Region.ready .any ops listed with
      | nil => rfl
      | cons i r =>
        obtain ⟨o, ho, hlt, hLi, _⟩ := hfromReady listed hsz i (by rw [hr]; simp)
        rw [hl i hlt, Nat.ble_eq_true_of_le (by omega)] at hLi
        cases hLi
    | succ fuel ih =>
      intro m listed a w hsz hm1 hm2 hf hl hc hw
      refine ⟨fun hr => ?_, fun i hi => ?_⟩
      · by_cases hms : m = ops.size
        · have : ops.size - m = 0 := by omega
          rw [this] at hw
          exact hw
        · exfalso
          have hmlt : m < ops.size := by omega
          have : m ∈ Region.ready .any ops listed := by
            refine hready listed hsz m hmlt ?_ fun o ho j hj => ?_
            · rw [hl m hmlt]
              cases hb : Nat.ble (m + 1) m with
              | false => rfl
              | true => have := Nat.le_of_ble_eq_true hb; omega
            · have hjm := (pre_lt hpre m o ho).1 j hj
              rw [hl j (by omega)]
              exact Nat.ble_eq_true_of_le hjm
          rw [hr] at this; cases this
      · obtain ⟨o, ho, hlt, hLi, hbef⟩ := hfromReady listed hsz i hi
        have him : m ≤ i := by
          rw [hl i hlt] at hLi
          apply Nat.le_of_not_lt
          intro h
          rw [Nat.ble_eq_true_of_le h] at hLi; cases hLi
        have : i = m := by
          apply Classical.byContradiction
          intro hne
          have := hdepE listed i o ho (by omega) hc hbef m (by omega)
          rw [hl m (by omega)] at this
          have := Nat.le_of_ble_eq_true this
          omega
        subst this
        rw [show ops.size - i = (ops.size - (i + 1)) + 1 by omega, List.range'_succ, wpOps_cons] at hw
        refine wpOp_mono (fun a w h => ?_) hw
        refine ih (i + 1) _ a w (by simpa using hsz) (by omega) (by omega) (by omega) (fun j hj => ?_) (hclose listed i o hsz ho hlt hbef hc) h
        rw [hgetD listed i hsz hlt, hl j hj]
        by_cases hji : j = i
        · subst hji
          rw [Nat.beq_refl, Bool.or_true]
          exact (Nat.ble_eq_true_of_le (Nat.le_refl _)).symm
        · have hbn : Nat.beq j i = false := by
            cases hb : Nat.beq j i with
            | false => rfl
            | true => exact absurd (Nat.eq_of_beq_eq_true hb) hji
          rw [hbn, Bool.or_false]
          by_cases hji2 : j + 1 ≤ i
          · rw [Nat.ble_eq_true_of_le hji2, Nat.ble_eq_true_of_le (by omega)]
          · have e1 : Nat.ble (j + 1) i = false := by
              cases hb : Nat.ble (j + 1) i with
              | false => rfl
              | true => exact absurd (Nat.le_of_ble_eq_true hb) hji2
            have e2 : Nat.ble (j + 1) (i + 1) = false := by
              cases hb : Nat.ble (j + 1) (i + 1) with
              | false => rfl
              | true => have := Nat.le_of_ble_eq_true hb; omega
            rw [e1, e2]
  have key : ∀ (fuel : Nat) (listed : Array Bool) (a : Act) (w : World), listed.size = ops.size → (List.range ops.size).countP (fun k => !listed.getD k false) ≤ fuel → Closed ops (fun k => listed.getD k false) →
      listed.getD ps.length false = false → listed.getD (ps.length + 2) false = false → (∃ K ρ, Inv c.E K ρ (St.of O n (fold ps' (ord ops.size fun k => listed.getD k false) x0)) a w) → wpAny c.P .any ops Q fuel listed a w := by
    intro fuel
    induction fuel with
    | zero =>
      intro listed a w hsz hcnt hc hno hno2 hinv
      have h0 := List.countP_eq_zero.1 (Nat.le_zero.1 hcnt)
      have := h0 ps.length (List.mem_range.2 (by omega))
      rw [hno] at this
      exact absurd rfl this
    | succ fuel ih =>
      intro listed a w hsz hcnt hc hno hno2 hinv
      obtain ⟨K, ρ, hinv⟩ := hinv
      refine ⟨fun hr => ?_, fun i hi => ?_⟩
      · exfalso
        have : ∀ m i, i < m → i < ops.size → listed.getD i false = true := by
          intro m
          induction m with
          | zero => intro i h; omega
          | succ m ih =>
            intro i hi1 hi2
            cases hcc : listed.getD i false with
            | true => rfl
            | false =>
              exfalso
              have : i ∈ Region.ready .any ops listed := hready listed hsz i hi2 hcc fun o ho k hk => by
                have := (pre_lt hpre i o ho).1 k hk
                exact ih k (by omega) (by omega)
              rw [hr] at this; cases this
        rw [this (ps.length + 1) ps.length (by omega) (by omega)] at hno
        cases hno
      · obtain ⟨o, ho, hlt, hLi, hbef⟩ := hfromReady listed hsz i hi
        have hset : ∀ j, j < ops.size → (listed.setIfInBounds i true).getD j false = (listed.getD j false || Nat.beq j i) := fun j _ => hgetD listed i hsz hlt j
        have hbne : ∀ a b : Nat, a ≠ b → Nat.beq a b = false := fun a b h => by
          cases hb : Nat.beq a b with
          | false => rfl
          | true => exact absurd (Nat.eq_of_beq_eq_true hb) h
        have hbf : ∀ a b : Nat, ¬ a ≤ b → Nat.ble a b = false := fun a b h => by
          cases hb : Nat.ble a b with
          | false => rfl
          | true => exact absurd (Nat.le_of_ble_eq_true hb) h
        by_cases him : i = ps.length
        · subst him
          have hall := hdepM listed o ho hc hbef
          cases he : listed.getD (ps.length + 1) false with
          | false =>
            have e : ord ops.size (fun k => listed.getD k false) = List.range ps.length := by
              rw [← ord_range (n := ops.size) (by omega)]
              refine ord_congr fun k hk => ?_
              by_cases h1 : k < ps.length
              · rw [hall k h1, Nat.ble_eq_true_of_le h1]
              · rw [hbf _ _ (by omega)]
                have : k = ps.length ∨ k = ps.length + 1 ∨ k = ps.length + 2 := by omega
                rcases this with rfl | rfl | rfl <;> assumption
            rw [e, hfm] at hinv
            have hw := hA K ρ a w hinv
            rw [wpOps_cons] at hw
            refine wpOp_mono (fun a w h => ?_) hw
            refine tail fuel (ps.length + 1) _ a w (by simpa using hsz) (Nat.le_refl _) (by omega) ?_ (fun j hj => ?_) (hclose listed ps.length o hsz ho hlt hbef hc) ?_
            · have h1 := hcntlt listed ps.length hsz hlt hno
              have h2 : ops.size - (ps.length + 1) = 2 := by omega
              have h3 : 3 ≤ (List.range ops.size).countP (fun k => !listed.getD k false) := by
                rw [hsize, show ps.length + 3 = ps.length + 2 + 1 by omega, List.range_succ, List.range_succ, List.range_succ]
                simp only [List.countP_append, List.countP_cons, List.countP_nil, hno, hno2, he]
                simp
              omega
            · rw [hset j hj]
              by_cases h1 : j < ps.length
              · rw [hall j h1, Nat.ble_eq_true_of_le (by omega)]; rfl
              · by_cases h2 : j = ps.length
                · subst h2
                  rw [Nat.beq_refl, Bool.or_true, Nat.ble_eq_true_of_le (Nat.le_refl _)]
                · rw [hbne _ _ h2, Bool.or_false, hbf _ _ (by omega)]
                  have : j = ps.length + 1 ∨ j = ps.length + 2 := by omega
                  rcases this with rfl | rfl <;> assumption
            · rw [show ops.size - (ps.length + 1) = 2 by omega]
              exact h
          | true =>
            have e : ord ops.size (fun k => listed.getD k false) = List.range ps.length ++ [ps.length + 1] := by
              unfold ord
              rw [hsize, show ps.length + 3 = ps.length + 2 + 1 by omega, List.range_succ, List.range_succ, List.range_succ, List.filter_append, List.filter_append, List.filter_append]
              have h1 : (List.range ps.length).filter (fun k => listed.getD k false) = List.range ps.length := by
                rw [List.filter_eq_self]
                intro k hk
                exact hall k (List.mem_range.1 hk)
              rw [h1]
              simp only [List.filter_cons, List.filter_nil, hno, hno2, he]
              simp
            have e2 : fold ps' (List.range ps.length ++ [ps.length + 1]) x0 = p6.ap (foldP ps x0) := by
              rw [fold_append, hfm]
              simp only [fold, List.foldl_cons, List.foldl_nil, hple]
            rw [e, e2] at hinv
            have hw := hB K ρ a w hinv
            rw [wpOps_cons] at hw
            refine wpOp_mono (fun a w h => ?_) hw
            refine tail fuel (ps.length + 2) _ a w (by simpa using hsz) (by omega) (by omega) ?_ (fun j hj => ?_) (hclose listed ps.length o hsz ho hlt hbef hc) ?_
            · have h3 : 2 ≤ (List.range ops.size).countP (fun k => !listed.getD k false) := by
                rw [hsize, show ps.length + 3 = ps.length + 2 + 1 by omega, List.range_succ, List.range_succ, List.range_succ]
                simp only [List.countP_append, List.countP_cons, List.countP_nil, hno, hno2, he]
                simp
              omega
            · rw [hset j hj]
              by_cases h1 : j < ps.length
              · rw [hall j h1, Nat.ble_eq_true_of_le (by omega)]; rfl
              · by_cases h2 : j = ps.length
                · subst h2
                  rw [Nat.beq_refl, Bool.or_true, Nat.ble_eq_true_of_le (by omega)]
                · rw [hbne _ _ h2, Bool.or_false]
                  have : j = ps.length + 1 ∨ j = ps.length + 2 := by omega
                  rcases this with rfl | rfl
                  · rw [he, Nat.ble_eq_true_of_le (Nat.le_refl _)]
                  · rw [hno2, hbf _ _ (by omega)]
            · rw [show ops.size - (ps.length + 2) = 1 by omega]
              exact h
        · by_cases hie : i = ps.length + 2
          · subst hie
            have := hdepE listed _ o ho (Nat.le_refl _) hc hbef ps.length (by omega)
            rw [hno] at this; cases this
          · have hp : ∃ p, pl ps' i = p ∧ okI ops (presGo ops.toList []) ps' x0 i o (fold ps' (List.range i) x0) p = true ∧ StepOK c ops O n o (viewOf ops o (fold ps' (List.range i) x0)) p := by
              by_cases hil : i < ps.length
              · have hp : ps[i]? = some ps[i] := List.getElem?_eq_getElem hil
                have hok1 := hget i o _ (by simpa using ho) hp
                have hst := chain_get hch i o _ (by simpa using ho) hp
                rw [Nat.zero_add] at hok1
                rw [← hfold i (by omega)] at hok1 hst
                exact ⟨_, hplt i hil, hok1, hst⟩
              · have hi6 : i = ps.length + 1 := by omega
                subst hi6
                rw [ho6] at ho
                simp only [Option.some.injEq] at ho
                subst ho
                rw [hfe]
                exact ⟨_, hple, hok6, hs6⟩
            obtain ⟨p, hpl, hok1, hst⟩ := hp
            rw [← ord_range (n := ops.size) (by omega)] at hok1 hst
            rw [← hpl] at hok1 hst
            obtain ⟨hf, hy1, hy2⟩ := fits hpre ho hok1 rfl hc hLi hbef
            refine step_frame ho hst hf hy1 hy2 hinv fun a' w' K' ρ' hinv' => ?_
            refine ih _ _ _ (by simpa using hsz) ?_ (hclose listed i o hsz ho hlt hbef hc) ?_ ?_ ⟨K', ρ', ?_⟩
            · have := hcntlt listed i hsz hlt hLi
              omega
            · rw [hgetD listed i hsz hlt, hno, hbne _ _ (fun e => him e.symm)]; rfl
            · rw [hgetD listed i hsz hlt, hno2, hbne _ _ (fun e => hie e.symm)]; rfl
            · rw [ord_congr fun k _ => hgetD listed i hsz hlt k]
              exact hinv'
  have hrep : ∀ k, (Array.replicate ops.size false).getD k false = false := by
    intro k
    simp only [Array.getD_eq_getD_getElem?, Array.getElem?_replicate]
    split <;> rfl
  have h0 : ord ops.size (fun k => (Array.replicate ops.size false).getD k false) = [] := by
    unfold ord
    rw [List.filter_eq_nil_iff]
    intro k _
    rw [hrep]; simp
  obtain ⟨e, a', w', ⟨rfl, s', K', ρ', hi', hq⟩, harr⟩ := wp_region_any (id := id) hm (key ops.size _ a { w with drawn := w.drawn + 1 } (by simp) (by
    refine Nat.le_trans (List.countP_le_length ..) ?_
    simp) (fun i o _ h => by
      have h : (Array.replicate ops.size false).getD i false = true := h
      rw [hrep] at h
      cases h) (hrep _) (hrep _) ⟨K, ρ, by rw [h0]; exact inv_draw hi _⟩) b k cs
  obtain ⟨v, w'', fr, hp, hst, h3⟩ := hq K' ρ' a' w' b cs hi' hb hk
  exact ⟨v, w'', fr, hp, Steps.trans harr hst, h3⟩

def FDL (c : Cx) (ops : Array Oper) (O : List Heap) (n : Nat) (x0 : SH) (k : List Item) (x : SH) (ps : List Pl) : Prop :=
  ∃ p6 o6, ops[ps.length + 1]? = some o6 ∧ StepOK c ops O n o6 (viewOf ops o6 x) p6 ∧ okL ops ps p6 x0 x = true ∧ RG c ops [ps.length, ps.length + 1, ps.length + 2] (St.of O n x) (Rch c k) ∧ RG c ops [ps.length, ps.length + 2] (St.of O n (p6.ap x)) (Rch c k)
section
variable {c : Cx} {s : St} {k : List Item} {ops : Array Oper} {rest : List Nat} {o : Oper}
theorem chain_take {c : Cx} {ops : Array Oper} {O : List Heap} {n : Nat} : ∀ {m : Nat} {l : List Oper} {qs : List Pl} {x : SH}, ChainS c ops O n (l.take m) qs x → ChainS c ops O n l qs x
  | 0, l, [], x, _ => by cases l <;> trivial
  | 0, l, _ :: _, x, h => by
    rw [List.take_zero] at h
    exact h.elim
  | m + 1, [], qs, x, h => by simpa using h
  | m + 1, o :: r, [], x, _ => trivial
  | m + 1, o :: r, p :: qs, x, h => by
    rw [List.take_succ_cons] at h
    exact ⟨h.1, chain_take h.2⟩
theorem g_drawnL (hT : TOk c.P c.T) (hfn : c.P.funcs[c.f]? = some c.fn) (m : Nat) {id : Nat} {O : List Heap} (hm : c.P.follows .mixedOrders = true) {H : Heap} (hS : s.S = H :: O) (h : GE c ops O s.n (FDL c ops O s.n (s.σ, H) k) (runS c.T ops O s.n 0 (ops.toList.take m) (s.σ, H) [])) :
    GM c (.drawn id ops s k) := by
  obtain ⟨qs, h1, h2⟩ := runS_sound hT _ _ _ _ h.h
  rw [List.nil_append] at h2
  have hs : s = St.of O s.n (s.σ, H) := by
    cases s
    simp only at hS
    subst hS
    rfl
  refine ⟨?_⟩
  show Rch c (.code (.region id ops true) :: k) s
  rw [hs]
  obtain ⟨p6, o6, e1, e2, e3, e4, e5⟩ := h2
  exact rch_late hm e3 (chain_take h1) e1 e2 e4 e5
theorem e_late (hT : TOk c.P c.T) (hfn : c.P.funcs[c.f]? = some c.fn) {o6 : Oper} {O : List Heap} {n : Nat} {x : SH} {acc : List Pl} {x0 : SH} (p6 : Pl) (lA lB : List Nat) (h6 : ops[acc.length + 1]? = some o6)
    (hr : runS c.T ops O n (acc.length + 1) [o6] x acc = .done (p6.ap x) (acc ++ [p6])) (hok : okL ops acc p6 x0 x = true) (hlA : [acc.length, acc.length + 1, acc.length + 2] = lA) (hlB : [acc.length, acc.length + 2] = lB)
    (hA : GM c (forceX x fun x => run c.T c.stop 1000 (.inRegion ops lA :: k) (St.of O n x))) (hB : GM c (forceX (p6.ap x) fun x => run c.T c.stop 1000 (.inRegion ops lB :: k) (St.of O n x))) :
    GE c ops O n (FDL c ops O n x0 k) (.done x acc) := by
  subst hlA hlB
  refine ⟨?_⟩
  have hs : MEx c ops O n (fun _ ps' => ps' = acc ++ [p6]) (runS c.T ops O n (acc.length + 1) [o6] x acc) := by rw [hr]; rfl
  obtain ⟨qs, h1, h2⟩ := runS_sound hT _ _ _ _ hs
  have hq : qs = [p6] := by simpa using h2
  subst hq
  have hA := hA.h
  have hB := hB.h
  rw [forceX_eq] at hA hB
  exact ⟨p6, o6, h6, h1.1, hok, run_sound hT hfn 1000 _ _ hA, run_sound hT hfn 1000 _ _ hB⟩
end
end Go.AI


/- Searches in lists of one's own, clones, the closure of boxes. -/
namespace Go.AI
open Go.Proofs
set_option maxRecDepth 20000
theorem indexFunc176o (O : List Heap) (l : List Bx) (f : Nat) (e m d nm : Nat) (ho : objAt O e m = some (obxs l)) (p : Bx → Bool) (hl : l.length ≤ max63) (hp : ∀ x ∈ l, ASpec Tryd.prog f [bxD x, .own (d + 1) nm 0 0] ([] :: O) (bb (p x)) [] ([] :: O)) :
    ASpec Tryd.prog 176 [.osl e m, .fn (.func f) [] [.own d nm 0 0]] O (ii (findIx p l 0)) [] O := by
  have hO : ∀ H, objAt (H :: O) (e + 1) m = some (obxs l) := fun H => up_obj ho
  refine aspec_intro Tk Tryd.func176 rfl Tryd.call176 Tryd.ntmps176 (Nat.le_of_ble_eq_true rfl) fun E => ?_
  refine g_run Tk Tryd.func176 ?_
  first | refine g_obj Tk Tryd.func176 (hO _) ?_ | refine s_obj Tk (hO _) ?_
  refine g_loop ?_
  refine rch_loop2 (fun i : Nat => [(0, .osl (e + 1) m), (1, .fn (.func f) [] [.own (d + 1) nm 0 0]), (6, .osl (e + 1) m), (7, ii l.length), (8, ii i)]) (fun _ => []) (fun _ => O) 19 (fun i => i ≤ l.length ∧ findIx p l 0 = findIx p (l.drop i) i) (fun i => l.length - i) 0 ⟨Nat.zero_le _, rfl⟩ ⟨rfl, rfl, rfl, rfl, rfl, trivial⟩ rfl trivial rfl rfl ?_
  intro i ⟨hi, hno⟩ ih
  rw [hno]
  rw [hno] at ih
  refine g_run Tk Tryd.func176 ?_
  first | refine g_cnd Tk Tryd.func176 rfl (fun h1 => ?_) (fun h1 => ?_) | refine g_know Tk Tryd.func176 rfl (fun h1 => ?_) (fun h1 => ?_) | refine s_know Tk (fun h1 => ?_) (fun h1 => ?_)
  · have h1 : i < l.length := by simpa using h1
    have hd : l.drop i = l[i] :: l.drop (i + 1) := (List.drop_eq_getElem_cons h1)
    first | refine g_obj Tk Tryd.func176 (hO _) ?_ | refine s_obj Tk (hO _) ?_
    first | refine g_need Tk Tryd.func176 (by exact ⟨by omega, by show (i : Int) < (l.length : Int); omega⟩) ?_ | refine s_need Tk (by exact ⟨by omega, by show (i : Int) < (l.length : Int); omega⟩) ?_
    first | refine g_obj Tk Tryd.func176 (hO _) ?_ | refine s_obj Tk (hO _) ?_
    first | refine g_elem Tk Tryd.func176 (get_mapZ (f := bxI) h1) ?_ | refine s_elem Tk (get_mapZ (f := bxI) h1) ?_
    first | refine g_call Tk Tryd.func176 (hp l[i] (List.getElem_mem h1)) rfl rfl rfl rfl rfl ?_ | refine s_callq Tk (fun _ => hp l[i] (List.getElem_mem h1)) rfl rfl rfl ?_
    first | refine g_cnd Tk Tryd.func176 rfl (fun h2 => ?_) (fun h2 => ?_) | refine g_know Tk Tryd.func176 rfl (fun h2 => ?_) (fun h2 => ?_) | refine s_know Tk (fun h2 => ?_) (fun h2 => ?_)
    · refine g_ret Tk (r := ii _) rfl rfl rfl trivial rfl rfl ?_
      rw [hd]
      simp only [findIx]
      rw [if_pos h2]
    · refine g_loop ?_
      refine ih (i + 1) _ _ ⟨h1, ?_⟩ (by omega) ⟨rfl, rfl, rfl, rfl, congrArg ii (wsucc h1 hl), trivial⟩ rfl trivial rfl rfl
      rw [hd]
      simp only [findIx]
      rw [if_neg (by rw [h2]; simp)]
  · have h1 : l.length ≤ i := by simpa using h1
    refine g_ret Tk (r := ii _) rfl rfl rfl trivial rfl rfl ?_
    rw [List.drop_eq_nil_of_le h1]
    rfl
theorem containsFunc150o (O : List Heap) (l : List Bx) (f : Nat) (e m d nm : Nat) (ho : objAt O e m = some (obxs l)) (p : Bx → Bool) (hl : l.length ≤ max63) (hp : ∀ x ∈ l, ASpec Tryd.prog f [bxD x, .own (d + 2) nm 0 0] ([] :: [] :: O) (bb (p x)) [] ([] :: [] :: O)) :
    ASpec Tryd.prog 150 [.osl e m, .fn (.func f) [] [.own d nm 0 0]] O (bb (l.any p)) [] O := by
  refine aspec_intro Tk Tryd.func150 rfl Tryd.call150 Tryd.ntmps150 (Nat.le_of_ble_eq_true rfl) fun E => ?_
  refine g_run Tk Tryd.func150 ?_
  first | refine g_call Tk Tryd.func150 (indexFunc176o _ l f (e + 1) m (d + 1) nm (up_obj ho) p hl hp) rfl rfl rfl rfl rfl ?_ | refine s_callq Tk (fun _ => indexFunc176o _ l f (e + 1) m (d + 1) nm (up_obj ho) p hl hp) rfl rfl rfl ?_
  refine g_ret Tk (r := bb _) rfl rfl rfl trivial rfl rfl ?_
  exact congrArg bb (findIx_any p l 0)
theorem in94o (O : List Heap) (l : List Bx) (v : List Int) (e m : Nat) (ho : objAt O e m = some (obxs l)) (hll : l.length ≤ max63) (hb : ∀ b ∈ l, v.length ≤ b.low.length ∧ v.length ≤ b.high.length) (hl : v.length ≤ max63) : ASpec Tryd.prog 94 [.osl e m, ints v] O (bb (inBs l v)) [] O := by
  refine aspec_intro Tk Tryd.func94 rfl Tryd.call94 Tryd.ntmps94 (Nat.le_of_ble_eq_true rfl) fun E => ?_
  refine g_run Tk Tryd.func94 ?_
  first | refine g_call Tk Tryd.func94 (containsFunc150o _ l 151 (e + 1) m 0 3 (up_obj ho) (fun b => b.has v) hll (fun b hm => in151 _ b v 2 3 rfl (hb b hm).1 (hb b hm).2 hl)) rfl rfl rfl rfl rfl ?_ | refine s_callq Tk (fun _ => containsFunc150o _ l 151 (e + 1) m 0 3 (up_obj ho) (fun b => b.has v) hll (fun b hm => in151 _ b v 2 3 rfl (hb b hm).1 (hb b hm).2 hl)) rfl rfl rfl ?_
  refine g_ret Tk (r := bb _) rfl rfl rfl trivial rfl rfl ?_
  rfl
theorem clone169 (nm : Nat) (O : List Heap) (l : List Bx) (hl : l.length * 48 ≤ big) : ASpec Tryd.prog 169 [bxs l] O (.osl 0 nm) [(nm, obxs l)] O := by
  refine aspec_intro Tk Tryd.func169 rfl Tryd.call169 Tryd.ntmps169 (Nat.le_of_ble_eq_true rfl) fun E => ?_
  refine rch_run Tk Tryd.func169 ?_
  refine m_anyb Tk Tryd.func169 rfl rfl fun b hb => ?_
  refine m_cnd Tk Tryd.func169 rfl (fun h1 => ?_) (fun h1 => ?_)
  · have hl0 : l = [] := List.eq_nil_of_length_eq_zero (hb h1)
    subst hl0
    refine ret_wk (wk_nil 2 nm 55 2 rfl rfl rfl) ?_
    exact m_ret' (hT := Tk) (r := .osl 0 nm) rfl rfl rfl (takes_one _ _ _ _ rfl) (ret_osl _ _ _) rfl rfl
  · refine m_need Tk Tryd.func169 ⟨?_, ?_⟩ ?_
    · show (0 + l.length) * 48 ≤ 140737488355328
      simp only [big] at hl; omega
    · simp only [big] at hl; omega
    refine ret_wk (wk_cut (l := [(2, .osl 0 7)]) (Hv := [(7, .arr 55 2 (0 + l.length) ([] ++ l.map bxI) true)]) ⟨rfl, trivial⟩ rfl ⟨rfl, trivial⟩ rfl rfl) ?_
    refine ret_wk (wk_rename 7 nm rfl rfl) ?_
    refine m_ret' (hT := Tk) (r := .osl 0 nm) rfl rfl rfl (takes_one _ _ _ _ ?_) (ret_osl _ _ _) rfl rfl
    rw [Nat.zero_add]
    rfl
theorem clos171 (O : List Heap) (L others : List Bx) (i : Nat) (b : Bx) (v : List Int) (d n1 n2 n3 : Nat) (ho1 : objAt O d n1 = some (.box [bxs L])) (ho2 : objAt O d n2 = some (.box [ii i])) (ho3 : objAt O d n3 = some (.box [bxs others])) (hi : L[i]? = some b) (hb : v.length ≤ b.low.length ∧ v.length ≤ b.high.length)
    (hos : ∀ b ∈ others, v.length ≤ b.low.length ∧ v.length ≤ b.high.length) (hol : others.length ≤ max63) (hl : v.length ≤ max63) : ASpec Tryd.prog 171 [ints v, .own d n1 0 0, .own d n2 0 0, .own d n3 0 0] O (bb (b.has v && !inBs others v)) [] O := by
  have hO1 : ∀ H, objAt (H :: O) (d + 1) n1 = some (.box [bxs L]) := fun H => up_obj ho1
  have hO2 : ∀ H, objAt (H :: O) (d + 1) n2 = some (.box [ii i]) := fun H => up_obj ho2
  have hO3 : ∀ H, objAt (H :: O) (d + 1) n3 = some (.box [bxs others]) := fun H => up_obj ho3
  have hlt := (List.getElem?_eq_some_iff.1 hi).1
  have hg : (L.map bxI)[(i : Int).toNat]? = some (bxI b) := by simp [hi]
  have hc := fun O => contains152 O b v hb.1 hb.2 hl
  have hin := fun O => in94 O others v hol hos hl
  generalize b.has v = q at *
  refine aspec_intro Tk Tryd.func171 rfl Tryd.call171 Tryd.ntmps171 (Nat.le_of_ble_eq_true rfl) fun E => ?_
  refine g_run Tk Tryd.func171 ?_
  first | refine g_obj Tk Tryd.func171 (hO1 _) ?_ | refine s_obj Tk (hO1 _) ?_
  first | refine g_obj Tk Tryd.func171 (hO2 _) ?_ | refine s_obj Tk (hO2 _) ?_
  first | refine g_need Tk Tryd.func171 (by exact ⟨by omega, by show (i : Int) < (L.length : Int); omega⟩) ?_ | refine s_need Tk (by exact ⟨by omega, by show (i : Int) < (L.length : Int); omega⟩) ?_
  first | refine g_elem Tk Tryd.func171 (hg) ?_ | refine s_elem Tk (hg) ?_
  first | refine g_call Tk Tryd.func171 (hc _) rfl rfl rfl rfl rfl ?_ | refine s_callq Tk (fun _ => hc _) rfl rfl rfl ?_
  cases q with
  | false =>
    repeat (first | refine g_cnd Tk Tryd.func171 rfl (fun _ => ?_) (fun h => absurd h (by decide)) | refine g_know Tk Tryd.func171 rfl (fun _ => ?_) (fun h => absurd h (by decide)) | refine s_know Tk (fun _ => ?_) (fun h => absurd h (by decide)) | refine g_cnd Tk Tryd.func171 rfl (fun h => absurd h (by decide)) (fun _ => ?_) | refine g_know Tk Tryd.func171 rfl (fun h => absurd h (by decide)) (fun _ => ?_) | refine s_know Tk (fun h => absurd h (by decide)) (fun _ => ?_) | refine g_cnd Tk Tryd.func171 rfl (fun _ => ?_) (fun h => absurd (show true = false from h) (by decide)) | refine g_know Tk Tryd.func171 rfl (fun _ => ?_) (fun h => absurd (show true = false from h) (by decide)) | refine s_know Tk (fun _ => ?_) (fun h => absurd (show true = false from h) (by decide)) | refine g_cnd Tk Tryd.func171 rfl (fun h => absurd (show false = true from h) (by decide)) (fun _ => ?_) | refine g_know Tk Tryd.func171 rfl (fun h => absurd (show false = true from h) (by decide)) (fun _ => ?_) | refine s_know Tk (fun h => absurd (show false = true from h) (by decide)) (fun _ => ?_))
    refine g_ret Tk (r := bb false) rfl rfl rfl trivial rfl rfl ?_
    rfl
  | true =>
    repeat (first | refine g_cnd Tk Tryd.func171 rfl (fun _ => ?_) (fun h => absurd h (by decide)) | refine g_know Tk Tryd.func171 rfl (fun _ => ?_) (fun h => absurd h (by decide)) | refine s_know Tk (fun _ => ?_) (fun h => absurd h (by decide)) | refine g_cnd Tk Tryd.func171 rfl (fun h => absurd h (by decide)) (fun _ => ?_) | refine g_know Tk Tryd.func171 rfl (fun h => absurd h (by decide)) (fun _ => ?_) | refine s_know Tk (fun h => absurd h (by decide)) (fun _ => ?_) | refine g_cnd Tk Tryd.func171 rfl (fun _ => ?_) (fun h => absurd (show true = false from h) (by decide)) | refine g_know Tk Tryd.func171 rfl (fun _ => ?_) (fun h => absurd (show true = false from h) (by decide)) | refine s_know Tk (fun _ => ?_) (fun h => absurd (show true = false from h) (by decide)) | refine g_cnd Tk Tryd.func171 rfl (fun h => absurd (show false = true from h) (by decide)) (fun _ => ?_) | refine g_know Tk Tryd.func171 rfl (fun h => absurd (show false = true from h) (by decide)) (fun _ => ?_) | refine s_know Tk (fun h => absurd (show false = true from h) (by decide)) (fun _ => ?_))
    first | refine g_obj Tk Tryd.func171 (hO3 _) ?_ | refine s_obj Tk (hO3 _) ?_
    first | refine g_call Tk Tryd.func171 (hin _) rfl rfl rfl rfl rfl ?_ | refine s_callq Tk (fun _ => hin _) rfl rfl rfl ?_
    refine g_ret Tk (r := bb _) rfl rfl rfl trivial rfl rfl ?_
    simp
theorem does_delete' {c : Cx} (hP : c.P = Tryd.prog) {s : St} {o : Oper} {t nm n i : Nat} {j : Int} {xs : List (List I)} {H : Heap} {O : List Heap} (hj : j = ((i + 1 : Nat) : Int)) (hi : i < n) (ht : o.dst = some t) (hn : t < s.n) (hS : s.S = H :: O) (ha : look H nm = some (.arr 55 2 n xs true)) :
    Wp c o s 168 [.osl 0 nm, ii i, ii j] { σ := (t, .osl 0 nm) :: killσ nm s.σ, S := ((nm, .arr 55 2 (n - 1) (xs.eraseIdx i) true) :: killH nm H) :: O, n := s.n } := by
  subst hj
  exact does_delete hP hi ht hn hS ha
end Go.AI


/- The program's cover. -/
namespace Go.AI
open Go.Proofs
set_option maxRecDepth 20000
theorem thin_len (N : List (List Int)) : ∀ (rest kept : List Bx), (thin N kept rest).length ≤ kept.length + rest.length
  | [], kept => by simp [thin]
  | b :: r, kept => by
    simp only [thin]
    split
    · have := thin_len N r (kept ++ [b]); simp only [List.length_append, List.length_cons, List.length_nil] at this ⊢; omega
    · have := thin_len N r kept; simp only [List.length_cons]; omega
set_option maxHeartbeats 4000000 in
theorem boxes135 (O : List Heap) (l : List Vr) (dom needed refused : List (List Int)) (hl : l.length ≤ 16) (hb : ∀ a ∈ l, -65536 ≤ a.low ∧ a.high ≤ 65536) (hnl : needed.length ≤ 4096) (hr : refused.length ≤ max63)
    (hn1 : ∀ v ∈ needed, v.length = l.length) (hn2 : ∀ v ∈ needed, ∀ j, -65536 ≤ v.getD j 0 ∧ v.getD j 0 ≤ 65536) (hrl : ∀ w ∈ refused, w.length = l.length) :
    ASpec Tryd.prog 135 [.agg [vrs l, intss dom, intss needed, intss refused]] O (bxs (coversR l needed refused)) [] O := by
  have hgr := fun O v hv => grow167 O l dom needed refused v hl hb (hn1 v hv) (hn2 v hv) hr hrl
  have hgs : ∀ (v : List Int), v.length = l.length → (growVs (freeR refused) l 0 ⟨v, v⟩).low.length = l.length ∧ (growVs (freeR refused) l 0 ⟨v, v⟩).high.length = l.length := fun v h => by
    have := growVs_sub (freeR refused) l 0 ⟨v, v⟩
    exact ⟨this.1.symm.trans h, this.2.1.symm.trans h⟩
  have hmax : ∀ v ∈ needed, v.length ≤ max63 := fun v h => by rw [hn1 v h]; simp only [max63]; omega
  generalize hR : coversR l needed refused = R
  unfold coversR at hR
  have hC0 : coverL (freeR refused) l (needed.drop 0) [] = coverL (freeR refused) l needed [] := rfl
  generalize coverL (freeR refused) l needed [] = C at *
  refine aspec_stop [11, 16, 200036] Tk Tryd.func135 rfl Tryd.call135 Tryd.ntmps135 (Nat.le_of_ble_eq_true rfl) fun E => ?_
  refine g_run Tk Tryd.func135 ?_
  refine g_loop ?_
  refine rch_wk (wk_nilbox 3 25 55 2 rfl rfl rfl) ?_
  refine rch_loop2 (fun x : Nat × List Bx => [(1, .own 0 1 0 0), (3, .own 0 3 0 0), (10, intss needed), (11, ii needed.length), (12, ii x.1)]) (fun x => [(1, .box [vrs l, intss dom, intss needed, intss refused]), (3, .box [.osl 0 25]), (25, obxs x.2)]) (fun _ => O) 48
    (fun x => x.1 ≤ needed.length ∧ x.2.length ≤ x.1 ∧ (∀ b ∈ x.2, b.low.length = l.length ∧ b.high.length = l.length) ∧ coverL (freeR refused) l (needed.drop x.1) x.2 = C) (fun x => needed.length - x.1) (0, [])
    ⟨Nat.zero_le _, by simp, by simp, hC0⟩ ⟨rfl, rfl, rfl, rfl, rfl, trivial⟩ rfl ⟨rfl, rfl, rfl, trivial⟩ rfl rfl ?_
  clear hC0
  rintro ⟨i, B⟩ ⟨hi, hBl, hBs, hno⟩ ih
  simp only at hi hBl hBs hno
  refine g_run Tk Tryd.func135 ?_
  first | refine g_cnd Tk Tryd.func135 rfl (fun g1 => ?_) (fun g1 => ?_) | refine g_know Tk Tryd.func135 rfl (fun g1 => ?_) (fun g1 => ?_) | refine s_know Tk (fun g1 => ?_) (fun g1 => ?_)
  · have h1 : i < needed.length := by simpa using g1
    clear g1
    have gv : (needed.map fun x => [intsI x])[(i : Int).toNat]? = some [intsI needed[i]] := get_mapZ (f := fun x => [intsI x]) h1
    have dv : needed.drop i = needed[i] :: needed.drop (i + 1) := List.drop_eq_getElem_cons h1
    have hx1 := hn1 _ (List.getElem_mem h1)
    have hx2 := hmax _ (List.getElem_mem h1)
    have hgr := fun O => hgr O _ (List.getElem_mem h1)
    rw [dv] at hno
    simp only [coverL] at hno
    clear dv
    generalize needed[i] = v at *
    have hgs := hgs v hx1
    generalize growVs (freeR refused) l 0 ⟨v, v⟩ = nb at *
    have hi1 : ii (IntKind.i64.wrap ((i : Int) + 1)) = ii ((i + 1 : Nat) : Int) := congrArg ii (wsucc (n := 4096) (by omega) (by decide))
    have hin := fun O e m ho => in94o O B v e m ho (by simp only [max63]; omega) (fun b hb => by have := hBs b hb; omega) hx2
    first | refine g_need Tk Tryd.func135 (by exact ⟨by omega, by show (i : Int) < (needed.length : Int); omega⟩) ?_ | refine s_need Tk (by exact ⟨by omega, by show (i : Int) < (needed.length : Int); omega⟩) ?_
    first | refine g_elem Tk Tryd.func135 (gv) ?_ | refine s_elem Tk (gv) ?_
    first | refine g_call Tk Tryd.func135 (hin _ 0 25 rfl) rfl rfl rfl rfl rfl ?_ | refine s_callq Tk (fun _ => hin _ 0 25 rfl) rfl rfl rfl ?_
    first | refine g_cnd Tk Tryd.func135 rfl (fun h4 => ?_) (fun h4 => ?_) | refine g_know Tk Tryd.func135 rfl (fun h4 => ?_) (fun h4 => ?_) | refine s_know Tk (fun h4 => ?_) (fun h4 => ?_)
    rotate_left
    · have h4 : inBs B v = true := notF h4
      rw [if_pos h4] at hno
      refine g_loop ?_
      exact ih (i + 1, B) _ _ ⟨h1, by simp only; omega, hBs, hno⟩ (by simp only; omega) ⟨rfl, rfl, rfl, rfl, hi1, trivial⟩ rfl ⟨rfl, rfl, rfl, trivial⟩ rfl rfl
    have h4 : inBs B v = false := notT h4
    rw [if_neg (by rw [h4]; simp)] at hno
    refine g_drawn Tk Tryd.func135 mixedT rfl ?_
    first | refine g_call Tk Tryd.func135 (hgr _) rfl rfl rfl rfl rfl ?_ | refine s_callq Tk (fun _ => hgr _) rfl rfl rfl ?_
    refine e_tail Tk Tryd.func135 ([5, 6]) (by kernel_rfl) (by kernel_rfl) ?_
    first | refine g_need Tk Tryd.func135 (by exact ⟨by show (B.length + 1) * 48 ≤ 140737488355328; omega, by show B.length + 1 ≤ 9223372036854775807; omega⟩) ?_ | refine s_need Tk (by exact ⟨by show (B.length + 1) * 48 ≤ 140737488355328; omega, by show B.length + 1 ≤ 9223372036854775807; omega⟩) ?_
    refine g_loop ?_
    refine ih (i + 1, B ++ [nb]) _ _ ⟨h1, by simp only [List.length_append, List.length_cons, List.length_nil]; omega, fun b hb => ?_, hno⟩ (by simp only; omega) ⟨rfl, rfl, rfl, rfl, hi1, trivial⟩ rfl ⟨rfl, rfl, congrArg some (obxs_app B nb), trivial⟩ rfl rfl
    rcases List.mem_append.1 hb with hb | hb
    · exact hBs b hb
    · rw [List.mem_singleton.1 hb]; exact hgs
  · have h1 : needed.length ≤ i := by simpa using g1
    rw [List.drop_eq_nil_of_le h1] at hno
    simp only [coverL] at hno
    subst hno
    have hBl : B.length ≤ 4096 := by omega
    clear ih hgr hgs g1 h1 hi
    refine g_loop ?_
    refine rch_wk (wk_freeze 25 rfl rfl) ?_
    refine rch_wk (wk_imm rfl) ?_
    refine rch_loop2 (fun x : List Bx × List Bx => [(1, .own 0 1 0 0), (3, .own 0 3 0 0), (6, .own 0 6 0 0)]) (fun x => [(1, .box [vrs l, intss dom, intss needed, intss refused]), (3, .box [bxs (x.1 ++ x.2)]), (6, .box [ii x.1.length])]) (fun _ => O) 48
      (fun x => x.1.length + x.2.length ≤ 4096 ∧ (∀ b ∈ x.1 ++ x.2, b.low.length = l.length ∧ b.high.length = l.length) ∧ thin needed x.1 x.2 = R) (fun x => x.2.length) ([], B)
      ⟨by simpa using hBl, by simpa using hBs, hR⟩ ⟨rfl, rfl, rfl, trivial⟩ rfl ⟨rfl, rfl, rfl, trivial⟩ rfl rfl ?_
    clear hR hBs hBl
    rintro ⟨kept, rest⟩ ⟨hkl, hks, hno⟩ ih
    simp only at hkl hks hno
    refine g_run Tk Tryd.func135 ?_
    cases rest with
    | nil =>
      simp only [thin] at hno
      subst hno
      first | refine g_cnd Tk Tryd.func135 rfl (fun g1 => ?_) (fun g1 => ?_) | refine g_know Tk Tryd.func135 rfl (fun g1 => ?_) (fun g1 => ?_) | refine s_know Tk (fun g1 => ?_) (fun g1 => ?_)
      · have := of_decide_eq_true g1
        simp at this
      refine g_ret Tk (r := bxs (kept ++ [])) rfl rfl rfl trivial rfl rfl ?_
      simp
    | cons b r =>
      first | refine g_cnd Tk Tryd.func135 rfl (fun g1 => ?_) (fun g1 => ?_) | refine g_know Tk Tryd.func135 rfl (fun g1 => ?_) (fun g1 => ?_) | refine s_know Tk (fun g1 => ?_) (fun g1 => ?_)
      rotate_left
      · have := of_decide_eq_false g1
        simp at this
        omega
      clear g1
      simp only [thin] at hno
      simp only [List.length_cons] at hkl
      have hLb : (kept ++ b :: r)[kept.length]? = some b := by simp
      have her : (kept ++ b :: r).eraseIdx kept.length = kept ++ r := by rw [List.eraseIdx_append_of_length_le (Nat.le_refl _)]; simp
      have hbs := hks b (by simp)
      have hos : ∀ c ∈ kept ++ r, c.low.length = l.length ∧ c.high.length = l.length := fun c hc => hks c (by rcases List.mem_append.1 hc with h | h <;> simp [h])
      have hll : (kept ++ b :: r).length = kept.length + r.length + 1 := by simp; omega
      have hks1 : kept ++ [b] ++ r = kept ++ b :: r := by simp
      have hkb : (kept ++ [b]).length = kept.length + 1 := by simp
      have hcl := fun O v (hv : v ∈ needed) d n1 n2 n3 ho1 ho2 ho3 => clos171 O (kept ++ b :: r) (kept ++ r) kept.length b v d n1 n2 n3 ho1 ho2 ho3 hLb (by have := hn1 v hv; omega) (fun c hc => by have := hn1 v hv; have := hos c hc; omega) (by simp only [max63, List.length_append]; omega) (hmax v hv)
      generalize hL : kept ++ b :: r = L at *
      have hw1 : IntKind.i64.wrap ((kept.length : Int) + 1) = ((kept.length + 1 : Nat) : Int) := wsucc (n := 4096) (by omega) (by decide)
      have hj : IntKind.i64.wrap ((kept.length : Int) + 1) = ((kept.length + 1 : Nat) : Int) := hw1
      have hoth : Ob.box [.i (.sl 2 (L.length - 1) ((L.map bxI).eraseIdx kept.length))] = Ob.box [bxs (kept ++ r)] := by
        rw [← her]
        have e1 : (L.map bxI).eraseIdx kept.length = (L.eraseIdx kept.length).map bxI := by simp [List.eraseIdx_eq_take_drop_succ, List.map_take, List.map_drop]
        have e2 : (L.eraseIdx kept.length).length = L.length - 1 := by rw [List.length_eraseIdx, if_pos (by omega)]
        rw [e1, ← e2]
      have hlt : kept.length < L.length := by omega
      apply join_p (P := True) (s6 := { σ := [(1, .own 0 1 0 0), (3, .own 0 3 0 0), (6, .own 0 6 0 0), (7, .own 0 7 0 0)], S := [(1, .box [vrs l, intss dom, intss needed, intss refused]), (3, .box [bxs L]), (6, .box [ii kept.length]), (7, .box [bxs (kept ++ r)])] :: O, n := 48 })
      · intro J
        refine g_drawnL Tk Tryd.func135 5 mixedT rfl ?_
        first | refine g_call Tk Tryd.func135 (clone169 32 _ L (by simp only [big]; omega)) rfl rfl rfl rfl rfl ?_ | refine s_callq Tk (fun _ => clone169 32 _ L (by simp only [big]; omega)) rfl rfl rfl ?_
        refine e_late Tk Tryd.func135 ⟨[(7, .own 0 7 0 0)], [(7, .box [.i (.v (.slice none 0 0))])], none⟩ [5, 6, 7] [5, 7] rfl rfl (by kernel_rfl) rfl rfl ?_ ?_
        · refine g_callP Tk Tryd.func135 rfl rfl rfl rfl (does_delete' rfl hj hlt rfl (show 36 < 48 by decide) rfl rfl) ?_
          refine g_stop ?_
          refine rch_wk (wk_freeze 32 rfl rfl) ?_
          refine rch_wk (wk_imm rfl) ?_
          refine rch_meet (J trivial) ⟨rfl, rfl, rfl, rfl, trivial⟩ rfl ⟨rfl, rfl, rfl, ?_, trivial⟩ rfl rfl
          exact congrArg some hoth
        · refine g_callP Tk Tryd.func135 rfl rfl rfl rfl (does_delete' rfl hj hlt rfl (show 36 < 48 by decide) rfl rfl) ?_
          refine g_stop ?_
          refine rch_wk (wk_freeze 32 rfl rfl) ?_
          refine rch_wk (wk_imm rfl) ?_
          refine rch_meet (J trivial) ⟨rfl, rfl, rfl, rfl, trivial⟩ rfl ⟨rfl, rfl, rfl, ?_, trivial⟩ rfl rfl
          exact congrArg some hoth
      · intro _
        refine g_run Tk Tryd.func135 ?_
        refine g_go Tk Tryd.func135 ?_
        first | refine g_call Tk Tryd.func135 (containsFunc170c _ needed 171 0 3 6 7 (fun v => b.has v && !inBs (kept ++ r) v) (by simp only [max63]; omega) (fun v hv => hcl _ v hv _ _ _ _ rfl rfl rfl)) rfl rfl rfl rfl rfl ?_ | refine s_callq Tk (fun _ => containsFunc170c _ needed 171 0 3 6 7 (fun v => b.has v && !inBs (kept ++ r) v) (by simp only [max63]; omega) (fun v hv => hcl _ v hv _ _ _ _ rfl rfl rfl)) rfl rfl rfl ?_
        first | refine g_cnd Tk Tryd.func135 rfl (fun g2 => ?_) (fun g2 => ?_) | refine g_know Tk Tryd.func135 rfl (fun g2 => ?_) (fun g2 => ?_) | refine s_know Tk (fun g2 => ?_) (fun g2 => ?_)
        · have g2 : (needed.any fun v => b.has v && !inBs (kept ++ r) v) = false := notT g2
          rw [if_neg (by rw [g2]; simp)] at hno
          refine g_stop ?_
          refine rch_meet (l := [(1, .own 0 1 0 0), (3, .own 0 3 0 0), (46, ii kept.length)]) (Hv := [(1, .box [vrs l, intss dom, intss needed, intss refused]), (3, .box [bxs (kept ++ r)])]) (n := 48) ?_ ⟨rfl, rfl, rfl, trivial⟩ rfl ⟨rfl, rfl, trivial⟩ rfl rfl
          refine g_run Tk Tryd.func135 ?_
          refine g_go Tk Tryd.func135 ?_
          refine g_loop ?_
          exact ih (kept, r) _ _ ⟨by simp only; omega, hos, hno⟩ (by simp) ⟨rfl, rfl, rfl, trivial⟩ rfl ⟨rfl, rfl, rfl, trivial⟩ rfl rfl
        · have g2 : (needed.any fun v => b.has v && !inBs (kept ++ r) v) = true := notF g2
          rw [if_pos g2] at hno
          refine g_stop ?_
          refine rch_meet (l := [(1, .own 0 1 0 0), (3, .own 0 3 0 0), (46, ii (IntKind.i64.wrap ((kept.length : Int) + 1)))]) (Hv := [(1, .box [vrs l, intss dom, intss needed, intss refused]), (3, .box [bxs L])]) (n := 48) ?_ ⟨rfl, rfl, rfl, trivial⟩ rfl ⟨rfl, rfl, trivial⟩ rfl rfl
          refine g_run Tk Tryd.func135 ?_
          refine g_go Tk Tryd.func135 ?_
          refine g_loop ?_
          refine ih (kept ++ [b], r) _ _ ⟨by simp only [hkb]; omega, by rw [hks1]; exact hks, hno⟩ (by simp) ⟨rfl, rfl, rfl, trivial⟩ rfl ⟨rfl, by simp only [hks1]; rfl, by simp only [hkb]; exact congrArg (fun n => some (Ob.box [ii n])) hw1, trivial⟩ rfl rfl
end Go.AI


/- covered, Boxes, equal lists of boxes. -/
namespace Go.AI
open Go.Proofs
set_option maxRecDepth 20000
/-- What a domain's values are. -/
structure valsB (l : List Vr) (dom : List (List Int)) : Prop where
  vb : ∀ a ∈ l, -65536 ≤ a.low ∧ a.high ≤ 65536
  ll : l.length ≤ 16
  len : dom.length ≤ 4096
  vl : ∀ v ∈ dom, v.length = l.length
  b : ∀ v ∈ dom, ∀ j, -65536 ≤ v.getD j 0 ∧ v.getD j 0 ≤ 65536
theorem neededR_sub : ∀ {all : List (List Int)} {t c : List Bool} {v : List Int}, v ∈ neededR all t c → v ∈ all := fun h => by obtain ⟨i, h1, _⟩ := neededR_mem h; exact List.mem_of_getElem? h1
theorem refusedR_sub : ∀ {all : List (List Int)} {t c : List Bool} {v : List Int}, v ∈ refusedR all t c → v ∈ all := fun h => by obtain ⟨i, h1, _⟩ := refusedR_mem h; exact List.mem_of_getElem? h1
theorem refusedR_len : ∀ (all : List (List Int)) (t c : List Bool), (refusedR all t c).length ≤ all.length
  | [], _, _ => by simp [refusedR]
  | _ :: _, [], _ => by simp [refusedR]
  | _ :: _, _ :: _, [] => by simp [refusedR]
  | d :: ds, t :: ts, c :: cs => by
    have := refusedR_len ds ts cs
    simp only [refusedR, List.length_cons]
    split
    · simp only [List.length_cons]; omega
    · omega
theorem covered71 (O : List Heap) (l : List Vr) (dom : List (List Int)) (t care : List Bool) (hv : valsB l dom) (ht : t.length = dom.length) (hc : care.length = dom.length) : ASpec Tryd.prog 71 [vrs l, intss dom, bools t, bools care] O (bxs (coverR l dom t care)) [] O := by
  have hnl := neededR_len dom t care
  have hrl := refusedR_len dom t care
  have hdl := hv.len
  have hbx := fun O => boxes135 O l dom (neededR dom t care) (refusedR dom t care) hv.ll hv.vb (by omega) (by simp only [max63]; omega) (fun v h => hv.vl v (neededR_sub h)) (fun v h => hv.b v (neededR_sub h)) (fun v h => hv.vl v (refusedR_sub h))
  unfold coverR
  have hN0 : neededR dom t care = [] ++ neededR (dom.drop 0) (t.drop 0) (care.drop 0) := rfl
  have hR0 : refusedR dom t care = [] ++ refusedR (dom.drop 0) (t.drop 0) (care.drop 0) := rfl
  generalize neededR dom t care = N at *
  generalize refusedR dom t care = F at *
  refine aspec_stop [10] Tk Tryd.func71 rfl Tryd.call71 Tryd.ntmps71 (Nat.le_of_ble_eq_true rfl) fun E => ?_
  refine g_run Tk Tryd.func71 ?_
  refine g_loop ?_
  refine rch_wk (wk_nilbox2 9 43 53 1 (pre := [vrs l, intss dom]) (post := [.i (.v (.slice none 0 0))]) rfl rfl rfl) ?_
  refine rch_wk (wk_nilbox2 9 26 53 1 (pre := [vrs l, intss dom, .osl 0 43]) (post := []) rfl rfl rfl) ?_
  refine rch_loop2 (fun x : Nat × List (List Int) × List (List Int) => [(2, bools t), (3, bools care), (9, .own 0 9 0 0), (15, intss dom), (16, ii dom.length), (17, ii x.1)]) (fun x => [(9, .box [vrs l, intss dom, .osl 0 43, .osl 0 26]), (43, ointss x.2.1), (26, ointss x.2.2)]) (fun _ => O) 48
    (fun x => x.1 ≤ dom.length ∧ x.2.1.length ≤ x.1 ∧ x.2.2.length ≤ x.1 ∧ N = x.2.1 ++ neededR (dom.drop x.1) (t.drop x.1) (care.drop x.1) ∧ F = x.2.2 ++ refusedR (dom.drop x.1) (t.drop x.1) (care.drop x.1)) (fun x => dom.length - x.1) (0, [], [])
    ⟨Nat.zero_le _, by simp, by simp, hN0, hR0⟩ ⟨rfl, rfl, rfl, rfl, rfl, rfl, trivial⟩ rfl ⟨rfl, rfl, rfl, trivial⟩ rfl rfl ?_
  clear hN0 hR0
  rintro ⟨i, A, B⟩ ⟨hi, hAl, hBl, hA, hB⟩ ih
  simp only at hi hAl hBl hA hB
  refine g_run Tk Tryd.func71 ?_
  first | refine g_cnd Tk Tryd.func71 rfl (fun g1 => ?_) (fun g1 => ?_) | refine g_know Tk Tryd.func71 rfl (fun g1 => ?_) (fun g1 => ?_) | refine s_know Tk (fun g1 => ?_) (fun g1 => ?_)
  · have h1 : i < dom.length := by simpa using g1
    clear g1
    have gv : (dom.map fun x => [intsI x])[(i : Int).toNat]? = some [intsI dom[i]] := get_mapZ (f := fun x => [intsI x]) h1
    have gl : (t.map fun x => [I.v (.bool x)])[(i : Int).toNat]? = some [I.v (.bool (t[i]'(by omega)))] := get_mapZ (f := fun x => [I.v (.bool x)]) (by omega)
    have gh : (care.map fun x => [I.v (.bool x)])[(i : Int).toNat]? = some [I.v (.bool (care[i]'(by omega)))] := get_mapZ (f := fun x => [I.v (.bool x)]) (by omega)
    have dv : dom.drop i = dom[i] :: dom.drop (i + 1) := List.drop_eq_getElem_cons h1
    have dl : t.drop i = (t[i]'(by omega)) :: t.drop (i + 1) := List.drop_eq_getElem_cons (by omega)
    have dh : care.drop i = (care[i]'(by omega)) :: care.drop (i + 1) := List.drop_eq_getElem_cons (by omega)
    rw [dv, dl, dh] at hA hB
    simp only [neededR, refusedR] at hA hB
    clear dv dl dh
    generalize dom[i] = v at *
    generalize t[i]'(by omega) = a at *
    generalize care[i]'(by omega) = c at *
    have hi1 : ii (IntKind.i64.wrap ((i : Int) + 1)) = ii ((i + 1 : Nat) : Int) := congrArg ii (wsucc (n := 4096) (by omega) (by decide))
    first | refine g_need Tk Tryd.func71 (by exact ⟨by omega, by show (i : Int) < (dom.length : Int); omega⟩) ?_ | refine s_need Tk (by exact ⟨by omega, by show (i : Int) < (dom.length : Int); omega⟩) ?_
    first | refine g_elem Tk Tryd.func71 (gv) ?_ | refine s_elem Tk (gv) ?_
    first | refine g_need Tk Tryd.func71 (by exact ⟨by omega, by show (i : Int) < (care.length : Int); omega⟩) ?_ | refine s_need Tk (by exact ⟨by omega, by show (i : Int) < (care.length : Int); omega⟩) ?_
    first | refine g_elem Tk Tryd.func71 (gh) ?_ | refine s_elem Tk (gh) ?_
    cases c with
    | false =>
      repeat (first | refine g_cnd Tk Tryd.func71 rfl (fun _ => ?_) (fun h => absurd h (by decide)) | refine g_know Tk Tryd.func71 rfl (fun _ => ?_) (fun h => absurd h (by decide)) | refine s_know Tk (fun _ => ?_) (fun h => absurd h (by decide)) | refine g_cnd Tk Tryd.func71 rfl (fun h => absurd h (by decide)) (fun _ => ?_) | refine g_know Tk Tryd.func71 rfl (fun h => absurd h (by decide)) (fun _ => ?_) | refine s_know Tk (fun h => absurd h (by decide)) (fun _ => ?_) | refine g_cnd Tk Tryd.func71 rfl (fun _ => ?_) (fun h => absurd (show true = false from h) (by decide)) | refine g_know Tk Tryd.func71 rfl (fun _ => ?_) (fun h => absurd (show true = false from h) (by decide)) | refine s_know Tk (fun _ => ?_) (fun h => absurd (show true = false from h) (by decide)) | refine g_cnd Tk Tryd.func71 rfl (fun h => absurd (show false = true from h) (by decide)) (fun _ => ?_) | refine g_know Tk Tryd.func71 rfl (fun h => absurd (show false = true from h) (by decide)) (fun _ => ?_) | refine s_know Tk (fun h => absurd (show false = true from h) (by decide)) (fun _ => ?_))
      refine g_loop ?_
      exact ih (i + 1, A, B) _ _ ⟨h1, by simp only; omega, by simp only; omega, hA, hB⟩ (by simp only; omega) ⟨rfl, rfl, rfl, rfl, rfl, hi1, trivial⟩ rfl ⟨rfl, rfl, rfl, trivial⟩ rfl rfl
    | true =>
      repeat (first | refine g_cnd Tk Tryd.func71 rfl (fun _ => ?_) (fun h => absurd h (by decide)) | refine g_know Tk Tryd.func71 rfl (fun _ => ?_) (fun h => absurd h (by decide)) | refine s_know Tk (fun _ => ?_) (fun h => absurd h (by decide)) | refine g_cnd Tk Tryd.func71 rfl (fun h => absurd h (by decide)) (fun _ => ?_) | refine g_know Tk Tryd.func71 rfl (fun h => absurd h (by decide)) (fun _ => ?_) | refine s_know Tk (fun h => absurd h (by decide)) (fun _ => ?_) | refine g_cnd Tk Tryd.func71 rfl (fun _ => ?_) (fun h => absurd (show true = false from h) (by decide)) | refine g_know Tk Tryd.func71 rfl (fun _ => ?_) (fun h => absurd (show true = false from h) (by decide)) | refine s_know Tk (fun _ => ?_) (fun h => absurd (show true = false from h) (by decide)) | refine g_cnd Tk Tryd.func71 rfl (fun h => absurd (show false = true from h) (by decide)) (fun _ => ?_) | refine g_know Tk Tryd.func71 rfl (fun h => absurd (show false = true from h) (by decide)) (fun _ => ?_) | refine s_know Tk (fun h => absurd (show false = true from h) (by decide)) (fun _ => ?_))
      first | refine g_need Tk Tryd.func71 (by exact ⟨by omega, by show (i : Int) < (t.length : Int); omega⟩) ?_ | refine s_need Tk (by exact ⟨by omega, by show (i : Int) < (t.length : Int); omega⟩) ?_
      first | refine g_elem Tk Tryd.func71 (gl) ?_ | refine s_elem Tk (gl) ?_
      cases a with
      | false =>
        repeat (first | refine g_cnd Tk Tryd.func71 rfl (fun _ => ?_) (fun h => absurd h (by decide)) | refine g_know Tk Tryd.func71 rfl (fun _ => ?_) (fun h => absurd h (by decide)) | refine s_know Tk (fun _ => ?_) (fun h => absurd h (by decide)) | refine g_cnd Tk Tryd.func71 rfl (fun h => absurd h (by decide)) (fun _ => ?_) | refine g_know Tk Tryd.func71 rfl (fun h => absurd h (by decide)) (fun _ => ?_) | refine s_know Tk (fun h => absurd h (by decide)) (fun _ => ?_) | refine g_cnd Tk Tryd.func71 rfl (fun _ => ?_) (fun h => absurd (show true = false from h) (by decide)) | refine g_know Tk Tryd.func71 rfl (fun _ => ?_) (fun h => absurd (show true = false from h) (by decide)) | refine s_know Tk (fun _ => ?_) (fun h => absurd (show true = false from h) (by decide)) | refine g_cnd Tk Tryd.func71 rfl (fun h => absurd (show false = true from h) (by decide)) (fun _ => ?_) | refine g_know Tk Tryd.func71 rfl (fun h => absurd (show false = true from h) (by decide)) (fun _ => ?_) | refine s_know Tk (fun h => absurd (show false = true from h) (by decide)) (fun _ => ?_))
        first | refine g_need Tk Tryd.func71 (by exact ⟨by show (B.length + 1) * 24 ≤ 140737488355328; omega, by show B.length + 1 ≤ 9223372036854775807; omega⟩) ?_ | refine s_need Tk (by exact ⟨by show (B.length + 1) * 24 ≤ 140737488355328; omega, by show B.length + 1 ≤ 9223372036854775807; omega⟩) ?_
        refine g_loop ?_
        exact ih (i + 1, A, B ++ [v]) _ _ ⟨h1, by simp only; omega, by simp; omega, hA, by simpa using hB⟩ (by simp only; omega) ⟨rfl, rfl, rfl, rfl, rfl, hi1, trivial⟩ rfl ⟨rfl, rfl, congrArg some (ointss_app B v), trivial⟩ rfl rfl
      | true =>
        repeat (first | refine g_cnd Tk Tryd.func71 rfl (fun _ => ?_) (fun h => absurd h (by decide)) | refine g_know Tk Tryd.func71 rfl (fun _ => ?_) (fun h => absurd h (by decide)) | refine s_know Tk (fun _ => ?_) (fun h => absurd h (by decide)) | refine g_cnd Tk Tryd.func71 rfl (fun h => absurd h (by decide)) (fun _ => ?_) | refine g_know Tk Tryd.func71 rfl (fun h => absurd h (by decide)) (fun _ => ?_) | refine s_know Tk (fun h => absurd h (by decide)) (fun _ => ?_) | refine g_cnd Tk Tryd.func71 rfl (fun _ => ?_) (fun h => absurd (show true = false from h) (by decide)) | refine g_know Tk Tryd.func71 rfl (fun _ => ?_) (fun h => absurd (show true = false from h) (by decide)) | refine s_know Tk (fun _ => ?_) (fun h => absurd (show true = false from h) (by decide)) | refine g_cnd Tk Tryd.func71 rfl (fun h => absurd (show false = true from h) (by decide)) (fun _ => ?_) | refine g_know Tk Tryd.func71 rfl (fun h => absurd (show false = true from h) (by decide)) (fun _ => ?_) | refine s_know Tk (fun h => absurd (show false = true from h) (by decide)) (fun _ => ?_))
        first | refine g_need Tk Tryd.func71 (by exact ⟨by show (A.length + 1) * 24 ≤ 140737488355328; omega, by show A.length + 1 ≤ 9223372036854775807; omega⟩) ?_ | refine s_need Tk (by exact ⟨by show (A.length + 1) * 24 ≤ 140737488355328; omega, by show A.length + 1 ≤ 9223372036854775807; omega⟩) ?_
        refine g_loop ?_
        exact ih (i + 1, A ++ [v], B) _ _ ⟨h1, by simp; omega, by simp only; omega, by simpa using hA, hB⟩ (by simp only; omega) ⟨rfl, rfl, rfl, rfl, rfl, hi1, trivial⟩ rfl ⟨rfl, congrArg some (ointss_app A v), rfl, trivial⟩ rfl rfl
  · have h1 : dom.length ≤ i := by simpa using g1
    rw [List.drop_eq_nil_of_le h1] at hA hB
    simp only [neededR, refusedR, List.append_nil] at hA hB
    subst hA hB
    refine g_stop ?_
    refine rch_wk (wk_freeze 43 rfl rfl) ?_
    refine rch_wk (wk_freeze 26 rfl rfl) ?_
    refine rch_wk (wk_imm rfl) ?_
    refine g_run Tk Tryd.func71 ?_
    refine g_go Tk Tryd.func71 ?_
    first | refine g_call Tk Tryd.func71 (hbx _) rfl rfl rfl rfl rfl ?_ | refine s_callq Tk (fun _ => hbx _) rfl rfl rfl ?_
    refine g_ret Tk (r := bxs _) rfl rfl rfl trivial rfl rfl ?_
    rfl
theorem domOk.vals {l : List Vr} (h : domOk l) : valsB l (allV l) := ⟨fun a ha => (h.b a ha).1, h.len, h.all, fun v hv => allV_mem_len hv, fun v hv => dom_bounds h hv⟩
/-- What variables are that pass All. -/
theorem allG_ok {l : List Vr} (h : (allG l).2 = 0) : domOk l ∧ allG l = (allV l, 0) := by
  unfold allG at h ⊢
  by_cases h1 : varsErr l ≠ 0
  · rw [if_pos h1] at h; exact absurd h h1
  rw [if_neg h1] at h ⊢
  have hv := vars_ok (l := l) (by simpa using h1)
  have hl := vars_len (l := l) (by simpa using h1)
  cases hc : cntR l 1 with
  | none => rw [hc] at h; cases h
  | some d =>
    refine ⟨⟨hl, fun v hm => by have := hv v hm; omega, ?_⟩, rfl⟩
    exact cntR_len (fun v h => by have := hv v h; omega) hc (by decide) (out := [[]]) rfl
def boxesG (l : List Vr) (t care : List Bool) : List Bx × Int :=
  if (allG l).2 ≠ 0 then ([], (allG l).2) else if t.length ≠ (allG l).1.length ∨ care.length ≠ (allG l).1.length then ([], 4) else (coverR l (allG l).1 t care, 0)
theorem boxes19 (O : List Heap) (l : List Vr) (t care : List Bool) (hl : l.length ≤ max63) (hn : ∀ v ∈ l, v.name.size ≤ max63) : ASpec Tryd.prog 19 [vrs l, bools t, bools care] O (.tup [bxs (boxesG l t care).1, ii (boxesG l t care).2]) [] O := by
  have ha := fun O => allG30 O l hl hn
  have hok := @allG_ok l
  generalize hR : boxesG l t care = R
  unfold boxesG at hR
  by_cases he : (allG l).2 ≠ 0
  · rw [if_pos he] at hR
    subst hR
    generalize allG l = A at *
    obtain ⟨dom, e⟩ := A
    simp only at ha he
    refine aspec_intro Tk Tryd.func19 rfl Tryd.call19 Tryd.ntmps19 (Nat.le_of_ble_eq_true rfl) fun E => ?_
    refine g_run Tk Tryd.func19 ?_
    first | refine g_call Tk Tryd.func19 (ha _) rfl rfl rfl rfl rfl ?_ | refine s_callq Tk (fun _ => ha _) rfl rfl rfl ?_
    first | refine g_cnd Tk Tryd.func19 rfl (fun h1 => ?_) (fun h1 => ?_) | refine g_know Tk Tryd.func19 rfl (fun h1 => ?_) (fun h1 => ?_) | refine s_know Tk (fun h1 => ?_) (fun h1 => ?_)
    rotate_left
    · exact absurd (bneF h1) he
    refine g_ret_co Tk (r := _) rfl rfl rfl trivial rfl rfl ?_
    repeat' (first | refine coD_tup ?_ | refine coD_agg ?_ | refine coD_i ?_ | refine CoDL.cons ?_ ?_ | exact CoDL.nil | exact coI_nil | refine coI_sl ?_ | refine CoLL.cons ?_ ?_ | exact CoLL.nil | refine CoL.cons ?_ ?_ | exact CoL.nil | exact CoI.refl _ | exact CoL.refl _ | exact CoLL.refl _ | exact CoDL.refl _ | exact CoD.refl _)
  rw [if_neg he] at hR
  obtain ⟨hd, e⟩ := hok (by simpa using he)
  have hv := hd.vals
  rw [e] at ha hR
  simp only at ha hR
  clear hok he e hd
  generalize allV l = dom at *
  have hcov := fun O h1 h2 => covered71 O l dom t care hv h1 h2
  refine aspec_intro Tk Tryd.func19 rfl Tryd.call19 Tryd.ntmps19 (Nat.le_of_ble_eq_true rfl) fun E => ?_
  refine g_run Tk Tryd.func19 ?_
  first | refine g_call Tk Tryd.func19 (ha _) rfl rfl rfl rfl rfl ?_ | refine s_callq Tk (fun _ => ha _) rfl rfl rfl ?_
  repeat (first | refine g_cnd Tk Tryd.func19 rfl (fun _ => ?_) (fun h => absurd h (by decide)) | refine g_know Tk Tryd.func19 rfl (fun _ => ?_) (fun h => absurd h (by decide)) | refine s_know Tk (fun _ => ?_) (fun h => absurd h (by decide)) | refine g_cnd Tk Tryd.func19 rfl (fun h => absurd h (by decide)) (fun _ => ?_) | refine g_know Tk Tryd.func19 rfl (fun h => absurd h (by decide)) (fun _ => ?_) | refine s_know Tk (fun h => absurd h (by decide)) (fun _ => ?_) | refine g_cnd Tk Tryd.func19 rfl (fun _ => ?_) (fun h => absurd (show true = false from h) (by decide)) | refine g_know Tk Tryd.func19 rfl (fun _ => ?_) (fun h => absurd (show true = false from h) (by decide)) | refine s_know Tk (fun _ => ?_) (fun h => absurd (show true = false from h) (by decide)) | refine g_cnd Tk Tryd.func19 rfl (fun h => absurd (show false = true from h) (by decide)) (fun _ => ?_) | refine g_know Tk Tryd.func19 rfl (fun h => absurd (show false = true from h) (by decide)) (fun _ => ?_) | refine s_know Tk (fun h => absurd (show false = true from h) (by decide)) (fun _ => ?_))
  first | refine g_cnd Tk Tryd.func19 rfl (fun h1 => ?_) (fun h1 => ?_) | refine g_know Tk Tryd.func19 rfl (fun h1 => ?_) (fun h1 => ?_) | refine s_know Tk (fun h1 => ?_) (fun h1 => ?_)
  · have h1 : (t.length : Int) ≠ dom.length := bneT h1
    rw [if_pos (.inl (by omega))] at hR
    subst hR
    repeat (first | refine g_cnd Tk Tryd.func19 rfl (fun _ => ?_) (fun h => absurd h (by decide)) | refine g_know Tk Tryd.func19 rfl (fun _ => ?_) (fun h => absurd h (by decide)) | refine s_know Tk (fun _ => ?_) (fun h => absurd h (by decide)) | refine g_cnd Tk Tryd.func19 rfl (fun h => absurd h (by decide)) (fun _ => ?_) | refine g_know Tk Tryd.func19 rfl (fun h => absurd h (by decide)) (fun _ => ?_) | refine s_know Tk (fun h => absurd h (by decide)) (fun _ => ?_) | refine g_cnd Tk Tryd.func19 rfl (fun _ => ?_) (fun h => absurd (show true = false from h) (by decide)) | refine g_know Tk Tryd.func19 rfl (fun _ => ?_) (fun h => absurd (show true = false from h) (by decide)) | refine s_know Tk (fun _ => ?_) (fun h => absurd (show true = false from h) (by decide)) | refine g_cnd Tk Tryd.func19 rfl (fun h => absurd (show false = true from h) (by decide)) (fun _ => ?_) | refine g_know Tk Tryd.func19 rfl (fun h => absurd (show false = true from h) (by decide)) (fun _ => ?_) | refine s_know Tk (fun h => absurd (show false = true from h) (by decide)) (fun _ => ?_))
    refine g_ret_co Tk (r := _) rfl rfl rfl trivial rfl rfl ?_
    repeat' (first | refine coD_tup ?_ | refine coD_agg ?_ | refine coD_i ?_ | refine CoDL.cons ?_ ?_ | exact CoDL.nil | exact coI_nil | refine coI_sl ?_ | refine CoLL.cons ?_ ?_ | exact CoLL.nil | refine CoL.cons ?_ ?_ | exact CoL.nil | exact CoI.refl _ | exact CoL.refl _ | exact CoLL.refl _ | exact CoDL.refl _ | exact CoD.refl _)
  have h1 : (t.length : Int) = dom.length := bneF h1
  first | refine g_cnd Tk Tryd.func19 rfl (fun h2 => ?_) (fun h2 => ?_) | refine g_know Tk Tryd.func19 rfl (fun h2 => ?_) (fun h2 => ?_) | refine s_know Tk (fun h2 => ?_) (fun h2 => ?_)
  · have h2 : (care.length : Int) ≠ dom.length := bneT h2
    rw [if_pos (.inr (by omega))] at hR
    subst hR
    refine g_ret_co Tk (r := _) rfl rfl rfl trivial rfl rfl ?_
    repeat' (first | refine coD_tup ?_ | refine coD_agg ?_ | refine coD_i ?_ | refine CoDL.cons ?_ ?_ | exact CoDL.nil | exact coI_nil | refine coI_sl ?_ | refine CoLL.cons ?_ ?_ | exact CoLL.nil | refine CoL.cons ?_ ?_ | exact CoL.nil | exact CoI.refl _ | exact CoL.refl _ | exact CoLL.refl _ | exact CoDL.refl _ | exact CoD.refl _)
  have h2 : (care.length : Int) = dom.length := bneF h2
  rw [if_neg (by omega)] at hR
  subst hR
  first | refine g_call Tk Tryd.func19 (hcov _ (by omega) (by omega)) rfl rfl rfl rfl rfl ?_ | refine s_callq Tk (fun _ => hcov _ (by omega) (by omega)) rfl rfl rfl ?_
  refine g_ret Tk (r := .tup [bxs _, ii 0]) rfl rfl rfl trivial rfl rfl ?_
  rfl
instance bxDec : DecidableEq Bx := fun a b => decidable_of_iff (a.low = b.low ∧ a.high = b.high) ⟨fun ⟨h1, h2⟩ => by cases a; cases b; cases h1; cases h2; rfl, fun h => by subst h; exact ⟨rfl, rfl⟩⟩
end Go.AI


/- Variables of small ranges. -/
namespace Go.AI
set_option maxRecDepth 20000
theorem rngsR_take (l : List (Int × Int)) : rngsR (l.take 3) = rngsR l := by
  unfold rngsR
  rw [List.length_take, show min (min 3 l.length) 3 = min l.length 3 by omega]
  refine List.map_congr_left fun i hi => ?_
  have hi : i < min l.length 3 := List.mem_range.1 hi
  congr 1
  simp only [List.getD_eq_getElem?_getD, List.getElem?_take]
  rw [if_pos (by omega)]
theorem rngs_err3 {l : List (Int × Int)} (h : ∀ p ∈ l, pairOk p) : varsErr (rngsR l) = 0 := by
  rw [← rngsR_take]
  have h' : ∀ p ∈ l.take 3, pairOk p := fun p hp => h p (List.mem_of_mem_take hp)
  have hl : (l.take 3).length ≤ 3 := List.length_take_le _ _
  generalize l.take 3 = l at *
  have hlen : (rngsR l).length ≤ 3 := by rw [rngsR_len]; omega
  unfold varsErr
  rw [if_neg (by omega)]
  have hok := rngsR_ok h'
  have n0 : isNameB (nameR 0) = true := by kernel_rfl
  have n1 : isNameB (nameR 1) = true := by kernel_rfl
  have n2 : isNameB (nameR 2) = true := by kernel_rfl
  have n01 : ((nameR 0).toList == (nameR 1).toList) = false := by kernel_rfl
  have n02 : ((nameR 0).toList == (nameR 2).toList) = false := by kernel_rfl
  have n12 : ((nameR 1).toList == (nameR 2).toList) = false := by kernel_rfl
  match l, hl with
  | [], _ => rfl
  | [a], _ =>
    have e : rngsR [a] = [rngV 0 a] := rfl
    rw [e] at hok ⊢
    simp only [checkVrs]
    rw [checkVr_ok n0 (by simp) (hok _ (by simp))]
  | [a, b], _ =>
    have e : rngsR [a, b] = [rngV 0 a, rngV 1 b] := rfl
    rw [e] at hok ⊢
    simp only [checkVrs]
    rw [checkVr_ok n0 (by simp) (hok _ (by simp))]
    simp only
    rw [checkVr_ok n1 ?_ (hok _ (by simp))]
    simp only [List.take_succ_cons, List.take_zero, List.any_cons, List.any_nil, Bool.or_false]
    exact n01
  | [a, b, c], _ =>
    have e : rngsR [a, b, c] = [rngV 0 a, rngV 1 b, rngV 2 c] := rfl
    rw [e] at hok ⊢
    simp only [checkVrs]
    rw [checkVr_ok n0 (by simp) (hok _ (by simp))]
    simp only
    rw [checkVr_ok n1 ?_ (hok _ (by simp))]
    · simp only
      rw [checkVr_ok n2 ?_ (hok _ (by simp))]
      simp only [List.take_succ_cons, List.take_zero, List.any_cons, List.any_nil, Bool.or_false, Bool.or_eq_false_iff]
      exact ⟨n02, n12⟩
    · simp only [List.take_succ_cons, List.take_zero, List.any_cons, List.any_nil, Bool.or_false]
      exact n01
theorem cntR_some : ∀ {l : List Vr} {c : Int}, (∀ v ∈ l, v.low ≤ v.high ∧ v.high ≤ v.low + 3) → 1 ≤ c → c * (4 ^ l.length : Nat) ≤ 4096 → ∃ d, cntR l c = some d ∧ 1 ≤ d ∧ d ≤ c * (4 ^ l.length : Nat)
  | [], c, _, h1, h => ⟨c, rfl, h1, by simp⟩
  | v :: r, c, hv, h1, h => by
    have hw := hv v (by simp)
    have hwb : 1 ≤ v.w ∧ v.w ≤ 4 := by unfold Vr.w; omega
    have hp : 1 ≤ ((4 ^ r.length : Nat) : Int) := by have := Nat.pow_pos (n := r.length) (show 0 < 4 by decide); omega
    have e : ((4 ^ (v :: r).length : Nat) : Int) = 4 * ((4 ^ r.length : Nat) : Int) := by rw [List.length_cons, Nat.pow_succ]; omega
    have h2 : c * v.w ≤ c * 4 := Int.mul_le_mul_of_nonneg_left hwb.2 (by omega)
    have h3 : 1 ≤ c * v.w := by have := Int.mul_le_mul_of_nonneg_left (c := c) hwb.1 (by omega); rw [Int.mul_one] at this; omega
    rw [e, ← Int.mul_assoc] at h
    have h4 : c * v.w * ((4 ^ r.length : Nat) : Int) ≤ c * 4 * ((4 ^ r.length : Nat) : Int) := Int.mul_le_mul_of_nonneg_right h2 (by omega)
    have h5 : c * v.w ≤ 4096 := by
      have := Int.mul_le_mul_of_nonneg_left (c := c * v.w) hp (by omega)
      rw [Int.mul_one] at this
      omega
    obtain ⟨d, d1, d2, d3⟩ := cntR_some (l := r) (c := c * v.w) (fun w hw => hv w (by simp [hw])) h3 (by omega)
    refine ⟨d, ?_, d2, ?_⟩
    · simp only [cntR]
      rw [if_neg (by omega)]
      exact d1
    · rw [e, ← Int.mul_assoc]; omega
theorem cntR_size : ∀ {l : List Vr} {c d : Int} {out : List (List Int)}, (∀ v ∈ l, v.low ≤ v.high) → cntR l c = some d → (out.length : Int) = c → ((l.foldl allStep out).length : Int) = d
  | [], c, d, out, _, h, ho => by
    simp only [cntR, Option.some.injEq] at h
    simp only [List.foldl_nil]
    omega
  | v :: r, c, d, out, hv, h, ho => by
    simp only [cntR] at h
    split at h
    · cases h
    · simp only [List.foldl_cons]
      refine cntR_size (fun w hw => hv w (by simp [hw])) h ?_
      rw [allStep_len' out v (hv v (by simp)), ho]
/-- The variables that the laws draw. -/
structure small (l : List Vr) : Prop where
  dom : domOk l
  all : allG l = (allV l, 0)
  len : l.length ≤ 3
  pos : 1 ≤ (allV l).length
  most : (allV l).length ≤ 64
  v : ∀ x ∈ l, vrOk x
theorem rngs_small {l : List (Int × Int)} (h : ∀ p ∈ l, pairOk p) : small (rngsR l) := by
  have he := rngs_err3 h
  have hv := rngsR_ok h
  have hlen : (rngsR l).length ≤ 3 := by rw [rngsR_len]; omega
  have hp : (4 ^ (rngsR l).length : Nat) ≤ 64 := Nat.pow_le_pow_right (n := 4) (by decide) hlen
  obtain ⟨d, d1, d2, d3⟩ := cntR_some (l := rngsR l) (c := 1) (fun v hm => (hv v hm).w) (by decide) (by omega)
  have hs := cntR_size (out := [[]]) (fun v hm => (hv v hm).w.1) d1 rfl
  have hs : ((allV (rngsR l)).length : Int) = d := hs
  have ha : allG (rngsR l) = (allV (rngsR l), 0) := by
    unfold allG
    rw [if_neg (by simpa using he), d1]
  obtain ⟨g1, g2⟩ := allG_ok (l := rngsR l) (by rw [ha])
  exact ⟨g1, ha, hlen, by omega, by omega, hv⟩
theorem small.max {l : List Vr} (h : small l) : l.length ≤ max63 ∧ ∀ v ∈ l, v.name.size ≤ max63 :=
  ⟨by have := h.len; simp only [max63]; omega, fun v hv => by rw [(h.v v hv).nm]; decide⟩
end Go.AI


/- The arguments of the statements about guards: data. -/
namespace Go.Proofs.YtonnakcgopcfnaaDoor
open Go.ChangeShapes Go.WideShapes Go.ChangeAt Go.RowKit Go.Deep Go.WideElems
set_option maxRecDepth 100000
section
variable {H : Type} {enc : TypeId × Value → H} {W : World}
theorem okWide_sl {P : Program} {W : World} {r : Reach} {b0 : Nat} {t e : TypeId} {v : Value} (ht : P.underlying t = some (.slice e)) (h : Value.okWide P W r b0 t v) : v.cells.toList = [v] := by
  simp only [Value.okWide, ht, Cell.okWide] at h
  cases v <;> simp_all [Cell.ok, Value.cells]
theorem open_pairs {r : Reach} {b0 : Nat} {v : Value} {d : DataW H} {p : List MemPlace} (hv : Value.okWide Tryd.prog W r b0 22 v) (h : DataW.Trod enc Tryd.prog W 0 (fun _ => true) true 22 v d p) :
    ∃ l : List (Int × Int), (l.length ≤ AI.max63 ∧ ∀ x ∈ l, AI.pairOk x) ∧ ∀ ρ sh, AI.RepD (KW W) ρ sh v (AI.r8s l) := by
  obtain ⟨n, hn⟩ := h
  obtain ⟨is, hr, l, rfl, h1, h2⟩ := opn_pairs n _ _ hn
  rw [okWide_sl Tryd.underlying22 hv] at hr
  cases hr with
  | cons a b => exact ⟨l, ⟨h2, h1⟩, fun ρ sh => .i a⟩
end
end Go.Proofs.YtonnakcgopcfnaaDoor


/- Boxes checked; the literals of a box. -/
namespace Go.AI
open Go.Proofs
set_option maxRecDepth 20000
def chkV : List Vr → List Int → List Int → Int
  | v :: r, lo :: ls, hi :: hs => if lo < v.low ∨ hi > v.high ∨ lo > hi then 2 else chkV r ls hs
  | _, _, _ => 0
def chkBx (l : List Vr) (b : Bx) : Int := if b.low.length ≠ l.length ∨ b.high.length ≠ l.length then 4 else chkV l b.low b.high
def chkBs (l : List Vr) : List Bx → Int
  | [] => 0
  | b :: r => if chkBx l b ≠ 0 then chkBx l b else chkBs l r
def checkBoxesR (l : List Vr) (boxes : List Bx) : Int := if (allG l).2 ≠ 0 then (allG l).2 else chkBs l boxes
set_option maxHeartbeats 4000000 in
theorem checkBoxes89 (O : List Heap) (l : List Vr) (boxes : List Bx) (hl : l.length ≤ max63) (hn : ∀ v ∈ l, v.name.size ≤ max63) (hbl : boxes.length ≤ max63) : ASpec Tryd.prog 89 [vrs l, bxs boxes] O (ii (checkBoxesR l boxes)) [] O := by
  have ha := fun O => allG30 O l hl hn
  have hgok := @allG_ok l
  generalize hR : checkBoxesR l boxes = R
  unfold checkBoxesR at hR
  generalize allG l = A at *
  obtain ⟨dom, e⟩ := A
  simp only at ha hR hgok
  refine aspec_intro Tk Tryd.func89 rfl Tryd.call89 Tryd.ntmps89 (Nat.le_of_ble_eq_true rfl) fun E => ?_
  refine g_run Tk Tryd.func89 ?_
  first | refine g_call Tk Tryd.func89 (ha _) rfl rfl rfl rfl rfl ?_ | refine s_callq Tk (fun _ => ha _) rfl rfl rfl ?_
  first | refine g_cnd Tk Tryd.func89 rfl (fun h1 => ?_) (fun h1 => ?_) | refine g_know Tk Tryd.func89 rfl (fun h1 => ?_) (fun h1 => ?_) | refine s_know Tk (fun h1 => ?_) (fun h1 => ?_)
  · have h1 := bneT h1
    rw [if_pos h1] at hR
    subst hR
    refine g_ret Tk (r := ii e) rfl rfl rfl trivial rfl rfl ?_
    rfl
  have h1 := bneF h1
  rw [if_neg (by simpa using h1)] at hR
  have hd := (hgok h1).1
  have hl16 := hd.len
  clear hgok h1 ha
  refine g_loop ?_
  refine rch_loop2 (fun i : Nat => [(0, vrs l), (19, bxs boxes), (20, ii boxes.length), (21, ii i)]) (fun _ => []) (fun _ => O) 79
    (fun i => i ≤ boxes.length ∧ chkBs l (boxes.drop i) = R) (fun i => boxes.length - i) 0 ⟨Nat.zero_le _, hR⟩ ⟨rfl, rfl, rfl, rfl, trivial⟩ rfl trivial rfl rfl ?_
  clear hR
  rintro i ⟨hi, hno⟩ ih
  refine g_run Tk Tryd.func89 ?_
  first | refine g_cnd Tk Tryd.func89 rfl (fun g1 => ?_) (fun g1 => ?_) | refine g_know Tk Tryd.func89 rfl (fun g1 => ?_) (fun g1 => ?_) | refine s_know Tk (fun g1 => ?_) (fun g1 => ?_)
  · have h1 : i < boxes.length := by simpa using g1
    clear g1
    have gb : (boxes.map bxI)[(i : Int).toNat]? = some (bxI boxes[i]) := get_mapZ h1
    have db : boxes.drop i = boxes[i] :: boxes.drop (i + 1) := List.drop_eq_getElem_cons h1
    rw [db] at hno
    simp only [chkBs] at hno
    clear db
    generalize boxes[i] = b at *
    obtain ⟨lo, hi2⟩ := b
    have e4 : (lo.length ≠ l.length ∨ hi2.length ≠ l.length) → chkBx l ⟨lo, hi2⟩ = 4 := fun h => if_pos h
    have e0 : ¬ (lo.length ≠ l.length ∨ hi2.length ≠ l.length) → chkBx l ⟨lo, hi2⟩ = chkV l lo hi2 := fun h => if_neg h
    generalize chkBx l ⟨lo, hi2⟩ = K at *
    first | refine g_need Tk Tryd.func89 (by exact ⟨by omega, by show (i : Int) < (boxes.length : Int); omega⟩) ?_ | refine s_need Tk (by exact ⟨by omega, by show (i : Int) < (boxes.length : Int); omega⟩) ?_
    first | refine g_elem Tk Tryd.func89 (gb) ?_ | refine s_elem Tk (gb) ?_
    first | refine g_cnd Tk Tryd.func89 rfl (fun h2 => ?_) (fun h2 => ?_) | refine g_know Tk Tryd.func89 rfl (fun h2 => ?_) (fun h2 => ?_) | refine s_know Tk (fun h2 => ?_) (fun h2 => ?_)
    · have h2 : (lo.length : Int) ≠ l.length := bneT h2
      have e := e4 (.inl (by omega))
      rw [e, if_pos (by decide)] at hno
      subst hno
      repeat (first | refine g_cnd Tk Tryd.func89 rfl (fun _ => ?_) (fun h => absurd h (by decide)) | refine g_know Tk Tryd.func89 rfl (fun _ => ?_) (fun h => absurd h (by decide)) | refine s_know Tk (fun _ => ?_) (fun h => absurd h (by decide)) | refine g_cnd Tk Tryd.func89 rfl (fun h => absurd h (by decide)) (fun _ => ?_) | refine g_know Tk Tryd.func89 rfl (fun h => absurd h (by decide)) (fun _ => ?_) | refine s_know Tk (fun h => absurd h (by decide)) (fun _ => ?_) | refine g_cnd Tk Tryd.func89 rfl (fun _ => ?_) (fun h => absurd (show true = false from h) (by decide)) | refine g_know Tk Tryd.func89 rfl (fun _ => ?_) (fun h => absurd (show true = false from h) (by decide)) | refine s_know Tk (fun _ => ?_) (fun h => absurd (show true = false from h) (by decide)) | refine g_cnd Tk Tryd.func89 rfl (fun h => absurd (show false = true from h) (by decide)) (fun _ => ?_) | refine g_know Tk Tryd.func89 rfl (fun h => absurd (show false = true from h) (by decide)) (fun _ => ?_) | refine s_know Tk (fun h => absurd (show false = true from h) (by decide)) (fun _ => ?_))
      refine g_ret Tk (r := ii 4) rfl rfl rfl trivial rfl rfl ?_
      rfl
    have h2 : (lo.length : Int) = l.length := bneF h2
    first | refine g_cnd Tk Tryd.func89 rfl (fun h3 => ?_) (fun h3 => ?_) | refine g_know Tk Tryd.func89 rfl (fun h3 => ?_) (fun h3 => ?_) | refine s_know Tk (fun h3 => ?_) (fun h3 => ?_)
    · have h3 : (hi2.length : Int) ≠ l.length := bneT h3
      have e := e4 (.inr (by omega))
      rw [e, if_pos (by decide)] at hno
      subst hno
      refine g_ret Tk (r := ii 4) rfl rfl rfl trivial rfl rfl ?_
      rfl
    have h3 : (hi2.length : Int) = l.length := bneF h3
    have e := e0 (by omega)
    rw [e] at hno
    clear e e0 e4
    have hc0 : chkV l lo hi2 = chkV (l.drop 0) (lo.drop 0) (hi2.drop 0) := rfl
    generalize chkV l lo hi2 = C at *
    refine g_loop ?_
    refine rch_loop2 (fun j : Nat => [(0, vrs l), (8, .own 0 8 0 0), (19, bxs boxes), (20, ii boxes.length), (21, ii i), (39, vrs l), (40, ii l.length), (41, ii j)]) (fun _ => [(8, .box [ints lo, ints hi2])]) (fun _ => O) 79
      (fun j => j ≤ l.length ∧ C = chkV (l.drop j) (lo.drop j) (hi2.drop j)) (fun j => l.length - j) 0 ⟨Nat.zero_le _, hc0⟩ ⟨rfl, rfl, rfl, rfl, rfl, rfl, rfl, rfl, trivial⟩ rfl ⟨rfl, trivial⟩ rfl rfl ?_
    clear hc0
    rintro j ⟨hj, hcj⟩ ih2
    refine g_run Tk Tryd.func89 ?_
    first | refine g_cnd Tk Tryd.func89 rfl (fun g2 => ?_) (fun g2 => ?_) | refine g_know Tk Tryd.func89 rfl (fun g2 => ?_) (fun g2 => ?_) | refine s_know Tk (fun g2 => ?_) (fun g2 => ?_)
    · have h4 : j < l.length := by simpa using g2
      clear g2
      have gv : (l.map vrI)[(j : Int).toNat]? = some (vrI l[j]) := get_mapZ h4
      have gl : (lo.map fun x => [vi x])[(j : Int).toNat]? = some [vi (lo[j]'(by omega))] := get_mapZ (f := fun x => [vi x]) (by omega)
      have gh : (hi2.map fun x => [vi x])[(j : Int).toNat]? = some [vi (hi2[j]'(by omega))] := get_mapZ (f := fun x => [vi x]) (by omega)
      have dv : l.drop j = l[j] :: l.drop (j + 1) := List.drop_eq_getElem_cons h4
      have dl : lo.drop j = (lo[j]'(by omega)) :: lo.drop (j + 1) := List.drop_eq_getElem_cons (by omega)
      have dh : hi2.drop j = (hi2[j]'(by omega)) :: hi2.drop (j + 1) := List.drop_eq_getElem_cons (by omega)
      rw [dv, dl, dh] at hcj
      simp only [chkV] at hcj
      clear dv dl dh
      generalize l[j] = v at *
      generalize lo[j]'(by omega) = a at *
      generalize hi2[j]'(by omega) = c at *
      have hbl : 0 ≤ (j : Int) ∧ (j : Int) < (lo.length : Int) := by omega
      have hbh : 0 ≤ (j : Int) ∧ (j : Int) < (hi2.length : Int) := by omega
      have bad : (a < v.low ∨ c > v.high ∨ a > c) → R = 2 := fun h => by rw [← hno, hcj, if_pos h, if_pos (by decide)]
      have good : ¬ (a < v.low ∨ c > v.high ∨ a > c) → C = chkV (l.drop (j + 1)) (lo.drop (j + 1)) (hi2.drop (j + 1)) := fun h => by rw [hcj, if_neg h]
      clear hcj
      first | refine g_need Tk Tryd.func89 (by exact ⟨by omega, by show (j : Int) < (l.length : Int); omega⟩) ?_ | refine s_need Tk (by exact ⟨by omega, by show (j : Int) < (l.length : Int); omega⟩) ?_
      first | refine g_elem Tk Tryd.func89 (gv) ?_ | refine s_elem Tk (gv) ?_
      refine g_drawn Tk Tryd.func89 mixedT rfl ?_
      first | refine g_need Tk Tryd.func89 (by exact hbl) ?_ | refine s_need Tk (by exact hbl) ?_
      first | refine g_elem Tk Tryd.func89 (gl) ?_ | refine s_elem Tk (gl) ?_
      first | refine g_cnd Tk Tryd.func89 rfl (fun h5 => ?_) (fun h5 => ?_) | refine g_know Tk Tryd.func89 rfl (fun h5 => ?_) (fun h5 => ?_) | refine s_know Tk (fun h5 => ?_) (fun h5 => ?_)
      · have h5 : a < v.low := of_decide_eq_true h5
        have := bad (.inl h5)
        subst this
        repeat (first | refine g_cnd Tk Tryd.func89 rfl (fun _ => ?_) (fun h => absurd h (by decide)) | refine g_know Tk Tryd.func89 rfl (fun _ => ?_) (fun h => absurd h (by decide)) | refine s_know Tk (fun _ => ?_) (fun h => absurd h (by decide)) | refine g_cnd Tk Tryd.func89 rfl (fun h => absurd h (by decide)) (fun _ => ?_) | refine g_know Tk Tryd.func89 rfl (fun h => absurd h (by decide)) (fun _ => ?_) | refine s_know Tk (fun h => absurd h (by decide)) (fun _ => ?_) | refine g_cnd Tk Tryd.func89 rfl (fun _ => ?_) (fun h => absurd (show true = false from h) (by decide)) | refine g_know Tk Tryd.func89 rfl (fun _ => ?_) (fun h => absurd (show true = false from h) (by decide)) | refine s_know Tk (fun _ => ?_) (fun h => absurd (show true = false from h) (by decide)) | refine g_cnd Tk Tryd.func89 rfl (fun h => absurd (show false = true from h) (by decide)) (fun _ => ?_) | refine g_know Tk Tryd.func89 rfl (fun h => absurd (show false = true from h) (by decide)) (fun _ => ?_) | refine s_know Tk (fun h => absurd (show false = true from h) (by decide)) (fun _ => ?_))
        refine e_done Tk Tryd.func89 (by kernel_rfl) ?_
        repeat (first | refine g_cnd Tk Tryd.func89 rfl (fun _ => ?_) (fun h => absurd h (by decide)) | refine g_know Tk Tryd.func89 rfl (fun _ => ?_) (fun h => absurd h (by decide)) | refine s_know Tk (fun _ => ?_) (fun h => absurd h (by decide)) | refine g_cnd Tk Tryd.func89 rfl (fun h => absurd h (by decide)) (fun _ => ?_) | refine g_know Tk Tryd.func89 rfl (fun h => absurd h (by decide)) (fun _ => ?_) | refine s_know Tk (fun h => absurd h (by decide)) (fun _ => ?_) | refine g_cnd Tk Tryd.func89 rfl (fun _ => ?_) (fun h => absurd (show true = false from h) (by decide)) | refine g_know Tk Tryd.func89 rfl (fun _ => ?_) (fun h => absurd (show true = false from h) (by decide)) | refine s_know Tk (fun _ => ?_) (fun h => absurd (show true = false from h) (by decide)) | refine g_cnd Tk Tryd.func89 rfl (fun h => absurd (show false = true from h) (by decide)) (fun _ => ?_) | refine g_know Tk Tryd.func89 rfl (fun h => absurd (show false = true from h) (by decide)) (fun _ => ?_) | refine s_know Tk (fun h => absurd (show false = true from h) (by decide)) (fun _ => ?_))
        refine g_ret Tk (r := ii 2) rfl rfl rfl trivial rfl rfl ?_
        rfl
      have h5 : ¬ a < v.low := of_decide_eq_false h5
      first | refine g_need Tk Tryd.func89 (by exact hbh) ?_ | refine s_need Tk (by exact hbh) ?_
      first | refine g_elem Tk Tryd.func89 (gh) ?_ | refine s_elem Tk (gh) ?_
      first | refine g_cnd Tk Tryd.func89 rfl (fun h6 => ?_) (fun h6 => ?_) | refine g_know Tk Tryd.func89 rfl (fun h6 => ?_) (fun h6 => ?_) | refine s_know Tk (fun h6 => ?_) (fun h6 => ?_)
      · have h6 : v.high < c := of_decide_eq_true h6
        have := bad (.inr (.inl h6))
        subst this
        repeat (first | refine g_cnd Tk Tryd.func89 rfl (fun _ => ?_) (fun h => absurd h (by decide)) | refine g_know Tk Tryd.func89 rfl (fun _ => ?_) (fun h => absurd h (by decide)) | refine s_know Tk (fun _ => ?_) (fun h => absurd h (by decide)) | refine g_cnd Tk Tryd.func89 rfl (fun h => absurd h (by decide)) (fun _ => ?_) | refine g_know Tk Tryd.func89 rfl (fun h => absurd h (by decide)) (fun _ => ?_) | refine s_know Tk (fun h => absurd h (by decide)) (fun _ => ?_) | refine g_cnd Tk Tryd.func89 rfl (fun _ => ?_) (fun h => absurd (show true = false from h) (by decide)) | refine g_know Tk Tryd.func89 rfl (fun _ => ?_) (fun h => absurd (show true = false from h) (by decide)) | refine s_know Tk (fun _ => ?_) (fun h => absurd (show true = false from h) (by decide)) | refine g_cnd Tk Tryd.func89 rfl (fun h => absurd (show false = true from h) (by decide)) (fun _ => ?_) | refine g_know Tk Tryd.func89 rfl (fun h => absurd (show false = true from h) (by decide)) (fun _ => ?_) | refine s_know Tk (fun h => absurd (show false = true from h) (by decide)) (fun _ => ?_))
        refine e_done Tk Tryd.func89 (by kernel_rfl) ?_
        repeat (first | refine g_cnd Tk Tryd.func89 rfl (fun _ => ?_) (fun h => absurd h (by decide)) | refine g_know Tk Tryd.func89 rfl (fun _ => ?_) (fun h => absurd h (by decide)) | refine s_know Tk (fun _ => ?_) (fun h => absurd h (by decide)) | refine g_cnd Tk Tryd.func89 rfl (fun h => absurd h (by decide)) (fun _ => ?_) | refine g_know Tk Tryd.func89 rfl (fun h => absurd h (by decide)) (fun _ => ?_) | refine s_know Tk (fun h => absurd h (by decide)) (fun _ => ?_) | refine g_cnd Tk Tryd.func89 rfl (fun _ => ?_) (fun h => absurd (show true = false from h) (by decide)) | refine g_know Tk Tryd.func89 rfl (fun _ => ?_) (fun h => absurd (show true = false from h) (by decide)) | refine s_know Tk (fun _ => ?_) (fun h => absurd (show true = false from h) (by decide)) | refine g_cnd Tk Tryd.func89 rfl (fun h => absurd (show false = true from h) (by decide)) (fun _ => ?_) | refine g_know Tk Tryd.func89 rfl (fun h => absurd (show false = true from h) (by decide)) (fun _ => ?_) | refine s_know Tk (fun h => absurd (show false = true from h) (by decide)) (fun _ => ?_))
        refine g_ret Tk (r := ii 2) rfl rfl rfl trivial rfl rfl ?_
        rfl
      have h6 : ¬ v.high < c := of_decide_eq_false h6
      first | refine g_need Tk Tryd.func89 (by exact hbl) ?_ | refine s_need Tk (by exact hbl) ?_
      first | refine g_elem Tk Tryd.func89 (gl) ?_ | refine s_elem Tk (gl) ?_
      first | refine g_need Tk Tryd.func89 (by exact hbh) ?_ | refine s_need Tk (by exact hbh) ?_
      first | refine g_elem Tk Tryd.func89 (gh) ?_ | refine s_elem Tk (gh) ?_
      refine e_done Tk Tryd.func89 (by kernel_rfl) ?_
      first | refine g_cnd Tk Tryd.func89 rfl (fun h7 => ?_) (fun h7 => ?_) | refine g_know Tk Tryd.func89 rfl (fun h7 => ?_) (fun h7 => ?_) | refine s_know Tk (fun h7 => ?_) (fun h7 => ?_)
      · have h7 : c < a := of_decide_eq_true h7
        have := bad (.inr (.inr h7))
        subst this
        refine g_ret Tk (r := ii 2) rfl rfl rfl trivial rfl rfl ?_
        rfl
      have h7 : ¬ c < a := of_decide_eq_false h7
      refine g_loop ?_
      exact ih2 (j + 1) _ _ ⟨h4, good (by omega)⟩ (by omega) ⟨rfl, rfl, rfl, rfl, rfl, rfl, rfl, congrArg ii (wsucc (n := 16) (by omega) (by decide)), trivial⟩ rfl ⟨rfl, trivial⟩ rfl rfl
    · have h4 : l.length ≤ j := by simpa using g2
      rw [List.drop_eq_nil_of_le h4] at hcj
      simp only [chkV] at hcj
      rw [hcj, if_neg (by decide)] at hno
      refine g_loop ?_
      exact ih (i + 1) _ _ ⟨h1, hno⟩ (by omega) ⟨rfl, rfl, rfl, congrArg ii (wsucc h1 hbl), trivial⟩ rfl trivial rfl rfl
  · have h1 : boxes.length ≤ i := by simpa using g1
    rw [List.drop_eq_nil_of_le h1] at hno
    simp only [chkBs] at hno
    subst hno
    refine g_ret Tk (r := ii 0) rfl rfl rfl trivial rfl rfl ?_
    rfl
abbrev litI (x : Lit) : List I := [vi (x.var : Int), vi x.lo, vi x.hi, .v (.bool x.fr), .v (.bool x.to)]
abbrev litD (x : Lit) : D := .agg [ii (x.var : Int), ii x.lo, ii x.hi, bb x.fr, bb x.to]
abbrev litsD (l : List Lit) : D := .i (.sl 5 l.length (l.map litI))
abbrev olits (l : List Lit) : Ob := .arr 176 5 l.length (l.map litI) true
theorem olits_app (l : List Lit) (x : Lit) : Ob.arr 176 5 (l.length + 1) (l.map litI ++ [litI x]) true = olits (l ++ [x]) := by simp
set_option maxHeartbeats 4000000 in
theorem literals91 (O : List Heap) (l : List Vr) (b : Bx) (h1 : b.low.length = l.length) (h2 : b.high.length = l.length) (hl16 : l.length ≤ 16) : ASpec Tryd.prog 91 [bxD b, vrs l] O (litsD (b.lits l)) [] O := by
  obtain ⟨lo, hi⟩ := b
  simp only at h1 h2
  unfold Bx.lits
  simp only
  generalize hR : litsR l 0 lo hi = R
  have hR0 : [] ++ litsR (l.drop 0) 0 (lo.drop 0) (hi.drop 0) = R := hR
  clear hR
  refine aspec_stop [7] Tk Tryd.func91 rfl Tryd.call91 Tryd.ntmps91 (Nat.le_of_ble_eq_true rfl) fun E => ?_
  refine g_run Tk Tryd.func91 ?_
  refine g_loop ?_
  refine rch_wk (wk_nil 5 106 176 5 rfl rfl rfl) ?_
  refine rch_loop2 (fun x : Nat × List Lit => [(2, .own 0 2 0 0), (5, .osl 0 106), (8, vrs l), (9, ii l.length), (10, ii x.1)]) (fun x => [(2, .box [ints lo, ints hi]), (106, olits x.2)]) (fun _ => O) 109
    (fun x => x.1 ≤ l.length ∧ x.2.length ≤ 2 * x.1 ∧ x.2 ++ litsR (l.drop x.1) x.1 (lo.drop x.1) (hi.drop x.1) = R) (fun x => l.length - x.1) (0, []) ⟨Nat.zero_le _, by simp, hR0⟩ ⟨rfl, rfl, rfl, rfl, rfl, trivial⟩ rfl ⟨rfl, rfl, trivial⟩ rfl rfl ?_
  clear hR0
  rintro ⟨i, acc⟩ ⟨hi', hal, hno⟩ ih
  simp only at hi' hal hno
  refine g_run Tk Tryd.func91 ?_
  first | refine g_cnd Tk Tryd.func91 rfl (fun g1 => ?_) (fun g1 => ?_) | refine g_know Tk Tryd.func91 rfl (fun g1 => ?_) (fun g1 => ?_) | refine s_know Tk (fun g1 => ?_) (fun g1 => ?_)
  · have h3 : i < l.length := by simpa using g1
    clear g1
    have gv : (l.map vrI)[(i : Int).toNat]? = some (vrI l[i]) := get_mapZ h3
    have gl : (lo.map fun x => [vi x])[(i : Int).toNat]? = some [vi (lo[i]'(by omega))] := get_mapZ (f := fun x => [vi x]) (by omega)
    have gh : (hi.map fun x => [vi x])[(i : Int).toNat]? = some [vi (hi[i]'(by omega))] := get_mapZ (f := fun x => [vi x]) (by omega)
    have dv : l.drop i = l[i] :: l.drop (i + 1) := List.drop_eq_getElem_cons h3
    have dl : lo.drop i = (lo[i]'(by omega)) :: lo.drop (i + 1) := List.drop_eq_getElem_cons (by omega)
    have dh : hi.drop i = (hi[i]'(by omega)) :: hi.drop (i + 1) := List.drop_eq_getElem_cons (by omega)
    rw [dv, dl, dh] at hno
    simp only [litsR, litsV] at hno
    clear dv dl dh
    generalize l[i] = v at *
    generalize lo[i]'(by omega) = a at *
    generalize hi[i]'(by omega) = c at *
    have hbl : 0 ≤ (i : Int) ∧ (i : Int) < (lo.length : Int) := by omega
    have hbh : 0 ≤ (i : Int) ∧ (i : Int) < (hi.length : Int) := by omega
    have hi1 : ii (IntKind.i64.wrap ((i : Int) + 1)) = ii ((i + 1 : Nat) : Int) := congrArg ii (wsucc (n := 16) (by omega) (by decide))
    have hsz : (acc.length + 1) * 32 ≤ 140737488355328 ∧ acc.length + 1 ≤ 9223372036854775807 := by omega
    have app1 : ∀ (x : Lit) (r : List Lit), acc ++ ([x] ++ r) = acc ++ [x] ++ r := fun x r => by simp
    generalize hrest : litsR (l.drop (i + 1)) (i + 1) (lo.drop (i + 1)) (hi.drop (i + 1)) = rest at hno
    first | refine g_need Tk Tryd.func91 (by exact ⟨by omega, by show (i : Int) < (l.length : Int); omega⟩) ?_ | refine s_need Tk (by exact ⟨by omega, by show (i : Int) < (l.length : Int); omega⟩) ?_
    first | refine g_elem Tk Tryd.func91 (gv) ?_ | refine s_elem Tk (gv) ?_
    refine g_drawn Tk Tryd.func91 mixedT rfl ?_
    first | refine g_need Tk Tryd.func91 (by exact hbl) ?_ | refine s_need Tk (by exact hbl) ?_
    first | refine g_elem Tk Tryd.func91 (gl) ?_ | refine s_elem Tk (gl) ?_
    have fin0 : ∀ (acc' : List Lit), acc' ++ rest = R → acc'.length ≤ 2 * (i + 1) → (i + 1 ≤ l.length ∧ acc'.length ≤ 2 * (i + 1) ∧ acc' ++ litsR (l.drop (i + 1)) (i + 1) (lo.drop (i + 1)) (hi.drop (i + 1)) = R) := fun acc' h1 h2 => ⟨h3, h2, by rw [hrest]; exact h1⟩
    obtain ⟨vn, vl, vh, vj⟩ := v
    simp only at hno
    apply join_q (P := fun A : List Lit => A = acc ++ (if a ≠ vl then [Lit.mk i a c true false] else []) ∧ ¬ (a = vl ∧ c = vh) ∧ a ≠ c) (s6 := fun A => { σ := [(2, .own 0 2 0 0), (5, .osl 0 106), (6, ii i), (7, .own 0 7 0 0), (8, vrs l), (9, ii l.length), (10, ii i)], S := [(2, .box [ints lo, ints hi]), (7, .box [.i (strI vn), ii vl, ii vh, ii vj]), (106, olits A)] :: O, n := 109 })
    · intro J
      first | refine g_cnd Tk Tryd.func91 rfl (fun c1 => ?_) (fun c1 => ?_) | refine g_know Tk Tryd.func91 rfl (fun c1 => ?_) (fun c1 => ?_) | refine s_know Tk (fun c1 => ?_) (fun c1 => ?_)
      · have c1 : a = vl := beqT c1
        first | refine g_need Tk Tryd.func91 (by exact hbh) ?_ | refine s_need Tk (by exact hbh) ?_
        first | refine g_elem Tk Tryd.func91 (gh) ?_ | refine s_elem Tk (gh) ?_
        refine e_done Tk Tryd.func91 (by kernel_rfl) ?_
        first | refine g_cnd Tk Tryd.func91 rfl (fun c2 => ?_) (fun c2 => ?_) | refine g_know Tk Tryd.func91 rfl (fun c2 => ?_) (fun c2 => ?_) | refine s_know Tk (fun c2 => ?_) (fun c2 => ?_)
        · have c2 : c = vh := beqT c2
          rw [if_pos ⟨c1, c2⟩] at hno
          refine g_loop ?_
          exact ih (i + 1, acc) _ _ (fin0 acc hno (by omega)) (by simp only; omega) ⟨rfl, rfl, rfl, rfl, hi1, trivial⟩ rfl ⟨rfl, rfl, trivial⟩ rfl rfl
        have c2 : c ≠ vh := beqF c2
        rw [if_neg (fun h => c2 h.2)] at hno
        refine g_drawn Tk Tryd.func91 mixedT rfl ?_
        first | refine g_need Tk Tryd.func91 (by exact hbl) ?_ | refine s_need Tk (by exact hbl) ?_
        first | refine g_elem Tk Tryd.func91 (gl) ?_ | refine s_elem Tk (gl) ?_
        first | refine g_need Tk Tryd.func91 (by exact hbh) ?_ | refine s_need Tk (by exact hbh) ?_
        first | refine g_elem Tk Tryd.func91 (gh) ?_ | refine s_elem Tk (gh) ?_
        refine e_done Tk Tryd.func91 (by kernel_rfl) ?_
        first | refine g_cnd Tk Tryd.func91 rfl (fun c3 => ?_) (fun c3 => ?_) | refine g_know Tk Tryd.func91 rfl (fun c3 => ?_) (fun c3 => ?_) | refine s_know Tk (fun c3 => ?_) (fun c3 => ?_)
        · have c3 : a = c := beqT c3
          rw [if_pos c3, app1] at hno
          refine g_drawn Tk Tryd.func91 mixedT rfl ?_
          first | refine g_need Tk Tryd.func91 (by exact hbl) ?_ | refine s_need Tk (by exact hbl) ?_
          first | refine g_elem Tk Tryd.func91 (gl) ?_ | refine s_elem Tk (gl) ?_
          first | refine g_need Tk Tryd.func91 (by exact hbh) ?_ | refine s_need Tk (by exact hbh) ?_
          first | refine g_elem Tk Tryd.func91 (gh) ?_ | refine s_elem Tk (gh) ?_
          refine e_tail Tk Tryd.func91 ([14, 15]) (by kernel_rfl) (by kernel_rfl) ?_
          first | refine g_need Tk Tryd.func91 (by exact hsz) ?_ | refine s_need Tk (by exact hsz) ?_
          refine g_loop ?_
          exact ih (i + 1, acc ++ [Lit.mk i a c true true]) _ _ (fin0 _ hno (by simp; omega)) (by simp only; omega) ⟨rfl, rfl, rfl, rfl, hi1, trivial⟩ rfl ⟨rfl, congrArg some (olits_app acc (Lit.mk i a c true true)), trivial⟩ rfl rfl
        have c3 : a ≠ c := beqF c3
        refine g_drawn Tk Tryd.func91 mixedT rfl ?_
        first | refine g_need Tk Tryd.func91 (by exact hbl) ?_ | refine s_need Tk (by exact hbl) ?_
        first | refine g_elem Tk Tryd.func91 (gl) ?_ | refine s_elem Tk (gl) ?_
        refine e_done Tk Tryd.func91 (by kernel_rfl) ?_
        first | refine g_cnd Tk Tryd.func91 rfl (fun c4 => ?_) (fun c4 => ?_) | refine g_know Tk Tryd.func91 rfl (fun c4 => ?_) (fun c4 => ?_) | refine s_know Tk (fun c4 => ?_) (fun c4 => ?_)
        · exact absurd c1 (bneT c4)
        refine g_stop ?_
        refine rch_meet (J acc ⟨by rw [if_neg (by simpa using c1)]; simp, fun h => c2 h.2, c3⟩) ⟨rfl, rfl, rfl, rfl, rfl, rfl, rfl, trivial⟩ rfl ⟨rfl, rfl, rfl, trivial⟩ rfl rfl
      have c1 : a ≠ vl := beqF c1
      rw [if_neg (fun h => c1 h.1)] at hno
      repeat (first | refine g_cnd Tk Tryd.func91 rfl (fun _ => ?_) (fun h => absurd h (by decide)) | refine g_know Tk Tryd.func91 rfl (fun _ => ?_) (fun h => absurd h (by decide)) | refine s_know Tk (fun _ => ?_) (fun h => absurd h (by decide)) | refine g_cnd Tk Tryd.func91 rfl (fun h => absurd h (by decide)) (fun _ => ?_) | refine g_know Tk Tryd.func91 rfl (fun h => absurd h (by decide)) (fun _ => ?_) | refine s_know Tk (fun h => absurd h (by decide)) (fun _ => ?_) | refine g_cnd Tk Tryd.func91 rfl (fun _ => ?_) (fun h => absurd (show true = false from h) (by decide)) | refine g_know Tk Tryd.func91 rfl (fun _ => ?_) (fun h => absurd (show true = false from h) (by decide)) | refine s_know Tk (fun _ => ?_) (fun h => absurd (show true = false from h) (by decide)) | refine g_cnd Tk Tryd.func91 rfl (fun h => absurd (show false = true from h) (by decide)) (fun _ => ?_) | refine g_know Tk Tryd.func91 rfl (fun h => absurd (show false = true from h) (by decide)) (fun _ => ?_) | refine s_know Tk (fun h => absurd (show false = true from h) (by decide)) (fun _ => ?_))
      refine e_done Tk Tryd.func91 (by kernel_rfl) ?_
      repeat (first | refine g_cnd Tk Tryd.func91 rfl (fun _ => ?_) (fun h => absurd h (by decide)) | refine g_know Tk Tryd.func91 rfl (fun _ => ?_) (fun h => absurd h (by decide)) | refine s_know Tk (fun _ => ?_) (fun h => absurd h (by decide)) | refine g_cnd Tk Tryd.func91 rfl (fun h => absurd h (by decide)) (fun _ => ?_) | refine g_know Tk Tryd.func91 rfl (fun h => absurd h (by decide)) (fun _ => ?_) | refine s_know Tk (fun h => absurd h (by decide)) (fun _ => ?_) | refine g_cnd Tk Tryd.func91 rfl (fun _ => ?_) (fun h => absurd (show true = false from h) (by decide)) | refine g_know Tk Tryd.func91 rfl (fun _ => ?_) (fun h => absurd (show true = false from h) (by decide)) | refine s_know Tk (fun _ => ?_) (fun h => absurd (show true = false from h) (by decide)) | refine g_cnd Tk Tryd.func91 rfl (fun h => absurd (show false = true from h) (by decide)) (fun _ => ?_) | refine g_know Tk Tryd.func91 rfl (fun h => absurd (show false = true from h) (by decide)) (fun _ => ?_) | refine s_know Tk (fun h => absurd (show false = true from h) (by decide)) (fun _ => ?_))
      refine g_drawn Tk Tryd.func91 mixedT rfl ?_
      first | refine g_need Tk Tryd.func91 (by exact hbl) ?_ | refine s_need Tk (by exact hbl) ?_
      first | refine g_elem Tk Tryd.func91 (gl) ?_ | refine s_elem Tk (gl) ?_
      first | refine g_need Tk Tryd.func91 (by exact hbh) ?_ | refine s_need Tk (by exact hbh) ?_
      first | refine g_elem Tk Tryd.func91 (gh) ?_ | refine s_elem Tk (gh) ?_
      refine e_done Tk Tryd.func91 (by kernel_rfl) ?_
      first | refine g_cnd Tk Tryd.func91 rfl (fun c3 => ?_) (fun c3 => ?_) | refine g_know Tk Tryd.func91 rfl (fun c3 => ?_) (fun c3 => ?_) | refine s_know Tk (fun c3 => ?_) (fun c3 => ?_)
      · have c3 : a = c := beqT c3
        rw [if_pos c3, app1] at hno
        refine g_drawn Tk Tryd.func91 mixedT rfl ?_
        first | refine g_need Tk Tryd.func91 (by exact hbl) ?_ | refine s_need Tk (by exact hbl) ?_
        first | refine g_elem Tk Tryd.func91 (gl) ?_ | refine s_elem Tk (gl) ?_
        first | refine g_need Tk Tryd.func91 (by exact hbh) ?_ | refine s_need Tk (by exact hbh) ?_
        first | refine g_elem Tk Tryd.func91 (gh) ?_ | refine s_elem Tk (gh) ?_
        refine e_tail Tk Tryd.func91 ([14, 15]) (by kernel_rfl) (by kernel_rfl) ?_
        first | refine g_need Tk Tryd.func91 (by exact hsz) ?_ | refine s_need Tk (by exact hsz) ?_
        refine g_loop ?_
        exact ih (i + 1, acc ++ [Lit.mk i a c true true]) _ _ (fin0 _ hno (by simp; omega)) (by simp only; omega) ⟨rfl, rfl, rfl, rfl, hi1, trivial⟩ rfl ⟨rfl, congrArg some (olits_app acc (Lit.mk i a c true true)), trivial⟩ rfl rfl
      have c3 : a ≠ c := beqF c3
      refine g_drawn Tk Tryd.func91 mixedT rfl ?_
      first | refine g_need Tk Tryd.func91 (by exact hbl) ?_ | refine s_need Tk (by exact hbl) ?_
      first | refine g_elem Tk Tryd.func91 (gl) ?_ | refine s_elem Tk (gl) ?_
      refine e_done Tk Tryd.func91 (by kernel_rfl) ?_
      first | refine g_cnd Tk Tryd.func91 rfl (fun c4 => ?_) (fun c4 => ?_) | refine g_know Tk Tryd.func91 rfl (fun c4 => ?_) (fun c4 => ?_) | refine s_know Tk (fun c4 => ?_) (fun c4 => ?_)
      rotate_left
      · exact absurd (bneF c4) c1
      refine g_drawn Tk Tryd.func91 mixedT rfl ?_
      first | refine g_need Tk Tryd.func91 (by exact hbl) ?_ | refine s_need Tk (by exact hbl) ?_
      first | refine g_elem Tk Tryd.func91 (gl) ?_ | refine s_elem Tk (gl) ?_
      first | refine g_need Tk Tryd.func91 (by exact hbh) ?_ | refine s_need Tk (by exact hbh) ?_
      first | refine g_elem Tk Tryd.func91 (gh) ?_ | refine s_elem Tk (gh) ?_
      refine e_tail Tk Tryd.func91 ([14, 15]) (by kernel_rfl) (by kernel_rfl) ?_
      first | refine g_need Tk Tryd.func91 (by exact hsz) ?_ | refine s_need Tk (by exact hsz) ?_
      refine g_stop ?_
      refine rch_wk (wk_ren 37 106 rfl rfl rfl) ?_
      refine rch_meet (J (acc ++ [Lit.mk i a c true false]) ⟨by rw [if_pos c1], fun h => c1 h.1, c3⟩) ⟨rfl, rfl, rfl, rfl, rfl, rfl, rfl, trivial⟩ rfl ⟨rfl, rfl, congrArg some (olits_app acc (Lit.mk i a c true false)), trivial⟩ rfl rfl
    · rintro A ⟨hA, d1, d2⟩
      rw [if_neg d1, if_neg d2, ← List.append_assoc, ← List.append_assoc, ← hA] at hno
      have hAl : A.length ≤ 2 * i + 1 := by
        rw [hA, List.length_append]
        split <;> simp <;> omega
      have hsz2 : (A.length + 1) * 32 ≤ 140737488355328 ∧ A.length + 1 ≤ 9223372036854775807 := by omega
      refine g_run Tk Tryd.func91 ?_
      refine g_go Tk Tryd.func91 ?_
      refine g_drawn Tk Tryd.func91 mixedT rfl ?_
      first | refine g_need Tk Tryd.func91 (by exact hbh) ?_ | refine s_need Tk (by exact hbh) ?_
      first | refine g_elem Tk Tryd.func91 (gh) ?_ | refine s_elem Tk (gh) ?_
      refine e_done Tk Tryd.func91 (by kernel_rfl) ?_
      first | refine g_cnd Tk Tryd.func91 rfl (fun c5 => ?_) (fun c5 => ?_) | refine g_know Tk Tryd.func91 rfl (fun c5 => ?_) (fun c5 => ?_) | refine s_know Tk (fun c5 => ?_) (fun c5 => ?_)
      · have c5 : c ≠ vh := bneT c5
        rw [if_pos c5] at hno
        refine g_drawn Tk Tryd.func91 mixedT rfl ?_
        first | refine g_need Tk Tryd.func91 (by exact hbl) ?_ | refine s_need Tk (by exact hbl) ?_
        first | refine g_elem Tk Tryd.func91 (gl) ?_ | refine s_elem Tk (gl) ?_
        first | refine g_need Tk Tryd.func91 (by exact hbh) ?_ | refine s_need Tk (by exact hbh) ?_
        first | refine g_elem Tk Tryd.func91 (gh) ?_ | refine s_elem Tk (gh) ?_
        refine e_tail Tk Tryd.func91 ([14, 15]) (by kernel_rfl) (by kernel_rfl) ?_
        first | refine g_need Tk Tryd.func91 (by exact hsz2) ?_ | refine s_need Tk (by exact hsz2) ?_
        refine g_loop ?_
        refine rch_wk (wk_ren 60 106 rfl rfl rfl) ?_
        exact ih (i + 1, A ++ [Lit.mk i a c false true]) _ _ (fin0 _ hno (by simp; omega)) (by simp only; omega) ⟨rfl, rfl, rfl, rfl, hi1, trivial⟩ rfl ⟨rfl, congrArg some (olits_app A (Lit.mk i a c false true)), trivial⟩ rfl rfl
      have c5 : c = vh := bneF c5
      rw [if_neg (by simpa using c5), List.append_nil] at hno
      refine g_loop ?_
      exact ih (i + 1, A) _ _ (fin0 A hno (by omega)) (by simp only; omega) ⟨rfl, rfl, rfl, rfl, hi1, trivial⟩ rfl ⟨rfl, rfl, trivial⟩ rfl rfl
  · have h3 : l.length ≤ i := by simpa using g1
    rw [List.drop_eq_nil_of_le h3] at hno
    simp only [litsR, List.append_nil] at hno
    subst hno
    refine g_rwk (wk_freeze 106 rfl rfl) ?_
    refine g_rwk (wk_imm rfl) ?_
    refine g_ret Tk (r := litsD acc) rfl rfl rfl trivial rfl rfl ?_
    rfl
end Go.AI
