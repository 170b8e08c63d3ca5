/- The layer of abstract runs, part 50. -/
import Derived.Test.YtmhllkmceipdcaaGreatDoorFirZW
set_option linter.unusedSimpArgs false
set_option linter.unusedVariables false
set_option linter.all false

/- Sets and graphs as arguments: data. -/
namespace Go.Proofs.YtmhllkmceipdcaaGreatDoor
open Go.ChangeShapes Go.WideShapes Go.ChangeAt Go.RowKit Go.Deep Go.WideElems
set_option maxRecDepth 100000
section
variable {H : Type} {enc : TypeId × Value → H} {P : Program} {W : World}
theorem okWide_array {r : Reach} {b0 n : Nat} {t e : TypeId} {v : Value} (ht : P.underlying t = some (.array n e)) (h : Value.okWide P W r b0 t v) : ∃ cs, v = .agg cs := by
  simp only [Value.okWide, ht] at h
  obtain ⟨cs, rfl, _⟩ := h
  exact ⟨cs, rfl⟩
theorem opn_arrayG {t e : TypeId} {m z : Nat} {R : List AI.I → Prop} (ht : P.underlying t = some (.array m e)) (hc : P.cellsOf e = z) (hct : P.cellsOf t = m * z) (he : Opn enc P W e R) :
    Opn enc P W t fun is => ∃ xs : List (List AI.I), xs.length = m ∧ is = xs.flatten ∧ ∀ x ∈ xs, R x := by
  intro n cs x h
  obtain ⟨xs, f, rfl, rfl, hl, hlen, hx⟩ := DataW.trod_array ht h
  rw [hct] at hl
  have build : ∀ k, k ≤ m → ∃ ys : List (List AI.I), ys.length = k ∧ AI.RepL (KW W) (cs.take (k * z)) ys.flatten ∧ ∀ y ∈ ys, R y := by
    intro k
    induction k with
    | zero => intro _; exact ⟨[], rfl, by rw [Nat.zero_mul, List.take_zero]; exact .nil, by simp⟩
    | succ k ih =>
      intro hk
      obtain ⟨ys, h1, h2, h3⟩ := ih (by omega)
      have h0 := hx k (by omega)
      rw [hc, List.getElem?_eq_getElem (by omega)] at h0
      obtain ⟨is, hr, hR⟩ := he _ _ _ h0
      refine ⟨ys ++ [is], by simp [h1], ?_, fun y hy => ?_⟩
      · rw [Nat.succ_mul, List.take_add, List.flatten_append]
        simpa using repL_app h2 hr
      · rcases List.mem_append.1 hy with hy | hy
        · exact h3 y hy
        · rw [List.mem_singleton] at hy
          subst hy
          exact hR
  obtain ⟨ys, h1, h2, h3⟩ := build m (Nat.le_refl _)
  rw [List.take_of_length_le (by omega)] at h2
  exact ⟨_, h2, ys, h1, rfl, h3⟩
theorem flat_u8 : ∀ {xs : List (List AI.I)}, (∀ x ∈ xs, ∃ zs : List Int, zs.length = 5 ∧ x = zs.map (fun z => AI.I.v (.int .u8 z)) ∧ ∀ z ∈ zs, (Lit.int .u8 z).wf = true) → ∃ L : List Int, L.length = 5 * xs.length ∧ xs.flatten = L.map (fun z => AI.I.v (.int .u8 z)) ∧ ∀ z ∈ L, 0 ≤ z ∧ z ≤ 255
  | [], _ => ⟨[], rfl, rfl, by simp⟩
  | x :: r, h => by
    obtain ⟨zs, h1, h2, h3⟩ := h x (by simp)
    obtain ⟨L, g1, g2, g3⟩ := flat_u8 (xs := r) fun y hy => h y (by simp [hy])
    refine ⟨zs ++ L, by rw [List.length_append, h1, g1, List.length_cons]; omega, by rw [List.flatten_cons, h2, g2, List.map_append], fun z hz => ?_⟩
    rcases List.mem_append.1 hz with hz | hz
    · exact wf_u8 (h3 z hz)
    · exact g3 z hz
end
section
variable {H : Type} {enc : TypeId × Value → H} {W : World}
theorem open_set3 {r : Reach} {b0 : Nat} {v : Value} {d : DataW H} {p : List MemPlace} (hv : Value.okWide Tryz.prog W r b0 23 v) (h : DataW.Trod enc Tryz.prog W 0 (fun _ => true) true 23 v d p) :
    ∃ b : Int × Int × Int, True ∧ ∀ ρ sh, AI.RepD (KW W) ρ sh v (.agg [AI.u8D b.1, AI.u8D b.2.1, AI.u8D b.2.2]) := by
  obtain ⟨cs, rfl⟩ := okWide_array Tryz.underlying23 hv
  obtain ⟨n, hn⟩ := h
  obtain ⟨is, hr, zs, hz, rfl, _⟩ := opn_array Tryz.underlying23 Tryz.underlying22 (by kernel_rfl) (by kernel_rfl) n _ _ hn
  match zs, hz with
  | [x, y, z], _ =>
    refine ⟨(x, y, z), trivial, fun ρ sh => ?_⟩
    have := AI.RepD.agg (AI.RepDL.ofL (ρ := ρ) (sh := sh) hr)
    simpa [Value.cells] using this
/-- A graph, by value. -/
theorem open_graph {r : Reach} {b0 : Nat} {v : Value} {d : DataW H} {p : List MemPlace} (hv : Value.okWide Tryz.prog W r b0 27 v) (h : DataW.Trod enc Tryz.prog W 0 (fun _ => true) true 27 v d p) :
    ∃ g : Int × Int × (Nat → Int), AI.grOkB g.1 g.2.2 ∧ ∀ ρ sh, AI.RepD (KW W) ρ sh v (.agg (AI.grC g.1 g.2.1 g.2.2)) := by
  obtain ⟨cs, rfl, _⟩ := okWide_struct Tryz.underlying27 hv
  obtain ⟨n, hn⟩ := h
  obtain ⟨is, hr, a, b, c, rfl, ⟨x, rfl, hx⟩, ⟨y, rfl, _⟩, ⟨xs, h5, rfl, hxs⟩⟩ := opn_struct3 Tryz.underlying27 (z0 := 1) (z1 := 1) (z2 := 25) (by kernel_rfl) (by kernel_rfl) (by kernel_rfl) (by kernel_rfl) rfl rfl rfl
    (opn_int Tryz.underlying5) (opn_int Tryz.underlying5) (opn_arrayG Tryz.underlying25 (z := 5) (by kernel_rfl) (by kernel_rfl) (opn_array Tryz.underlying24 Tryz.underlying5 (by kernel_rfl) (by kernel_rfl))) n _ _ hn
  obtain ⟨L, g1, g2, g3⟩ := flat_u8 hxs
  rw [h5] at g1
  rw [g2] at hr
  refine ⟨(x, y, fun j => L.getD j 0), ⟨(wf_u8 hx).1, fun j => ?_⟩, fun ρ sh => ?_⟩
  · show 0 ≤ L.getD j 0 ∧ L.getD j 0 ≤ 255
    rw [List.getD_eq_getElem?_getD]
    cases hj : L[j]? with
    | none => exact ⟨by decide, by decide⟩
    | some z => exact g3 z (List.mem_of_getElem? hj)
  · have := AI.RepD.agg (AI.RepDL.ofL (ρ := ρ) (sh := sh) hr)
    match L, g1 with
    | [a0, a1, a2, a3, a4, a5, a6, a7, a8, a9, a10, a11, a12, a13, a14, a15, a16, a17, a18, a19, a20, a21, a22, a23, a24], _ => exact (by simpa [Value.cells] using this : AI.RepD (KW W) ρ sh (.agg cs) (.agg [AI.u8D x, AI.u8D y, AI.u8D a0, AI.u8D a1, AI.u8D a2, AI.u8D a3, AI.u8D a4, AI.u8D a5, AI.u8D a6, AI.u8D a7, AI.u8D a8, AI.u8D a9, AI.u8D a10, AI.u8D a11, AI.u8D a12, AI.u8D a13, AI.u8D a14, AI.u8D a15, AI.u8D a16, AI.u8D a17, AI.u8D a18, AI.u8D a19, AI.u8D a20, AI.u8D a21, AI.u8D a22, AI.u8D a23, AI.u8D a24]))
end
end Go.Proofs.YtmhllkmceipdcaaGreatDoor


/- Plain: Consistent is what the law says. -/
namespace Go.AI
theorem enb_eq {a : Aut} {n : Nat} (h : gAut a n) (l : List Int) (ev : Int) : enabR a.edges l ev = enbR a.edges l ev := by
  unfold enabR enbR
  congr 1
  funext s
  cases hb : decide (stp3 a.edges s ev ≥ 0) with
  | true =>
    have h1 : stp3 a.edges s ev ≥ 0 := of_decide_eq_true hb
    by_cases c : ∃ e ∈ a.edges, e.1 = s ∧ e.2.1 = ev
    · obtain ⟨e, he, h2, h3⟩ := c
      exact List.any_eq_true.2 ⟨e, List.mem_filter.2 ⟨he, by simpa using h2⟩, by simpa using h3⟩
    · rw [stp3_no fun e he h => c ⟨e, he, h⟩] at h1
      exact absurd h1 (by decide)
  | false =>
    have h1 : ¬ stp3 a.edges s ev ≥ 0 := of_decide_eq_false hb
    cases hc : (a.edges.filter fun e => e.1 == s).any fun e => e.2.1 == ev with
    | false => rfl
    | true =>
      obtain ⟨e, he, h3⟩ := List.any_eq_true.1 hc
      obtain ⟨he, h2⟩ := List.mem_filter.1 he
      have h2 : e.1 = s := by simpa using h2
      have h3 : e.2.1 = ev := by simpa using h3
      have := stp3_of h.pw he
      rw [h2, h3] at this
      exact absurd (by rw [this]; exact (h.to e he).1) h1
theorem con_eq {a : Aut} {n : Nat} (h : gAut a n) (on un : List Int) (s ev : Int) : conR a on un n s ev = (decide (ev ∈ on) && (decide (ev ∈ un) && ctrR a on un n s ev)) := by
  unfold conR ctrR
  rw [enb_eq h, enb_eq h, low_un on un, Bool.and_assoc]
theorem csK_find (a : Aut) (on un : List Int) (n : Nat) (s : Int) : ∀ l, csK a on un n s l = l.find? fun ev => decide (ev ∈ un) && ctrR a on un n s ev
  | [] => rfl
  | ev :: r => by
    simp only [csK, List.find?_cons]
    by_cases c : ev ∈ un ∧ ctrR a on un n s ev = true
    · rw [if_pos c, show (decide (ev ∈ un) && ctrR a on un n s ev) = true by simp [c.1, c.2]]
    · rw [if_neg c, csK_find a on un n s r]
      cases hb : decide (ev ∈ un) && ctrR a on un n s ev with
      | false => rfl
      | true => exact absurd (by simpa using hb) c
theorem csK_eq {a : Aut} {n : Nat} (h : gAut a n) (on un : List Int) (s : Int) : csK a on un n s (keptR a on) = a.alpha.find? fun ev => conR a on un n s ev := by
  rw [csK_find]
  unfold keptR
  rw [List.find?_filter]
  refine find?_congr' fun ev _ => ?_
  rw [con_eq h]
  simp
def csV (a : Aut) (on un : List Int) (n : Nat) : Option (OS × List Int) → List Int × Int × Bool
  | none => ([], -1, true)
  | some z => (z.2, (csK a on un n z.1.1 (keptR a on)).getD 0, false)
theorem csL_find (a : Aut) (on un : List Int) (n : Nat) : ∀ l, csL a on un n l = csV a on un n (l.find? fun z => (csK a on un n z.1.1 (keptR a on)).isSome)
  | [] => rfl
  | z :: r => by
    simp only [csL, List.find?_cons]
    cases hm : csK a on un n z.1.1 (keptR a on) with
    | none =>
      simp only [Option.isSome_none]
      exact csL_find a on un n r
    | some t => simp only [Option.isSome_some, csV, hm, Option.getD_some]
theorem evC_in {a : Aut} {n : Nat} (h : gAut a n) : ∀ x ∈ intsV n, ∀ ev ∈ evC a.edges x, (fun _ : Int => true) (stp3 a.edges x ev) = true → stp3 a.edges x ev ∈ intsV n := fun x hx ev he _ => by
  unfold evC at he
  obtain ⟨e, hf, rfl⟩ := List.mem_map.1 he
  obtain ⟨hm, h2⟩ := List.mem_filter.1 hf
  have h2 : e.1 = x := by simpa using h2
  have := stp3_of h.pw hm
  rw [h2] at this
  rw [this]
  exact mem_intsV.2 (h.to e hm)
/-- The states, in the order in which the law finds them. -/
theorem sts_img {a : Aut} {n : Nat} (h : gAut a n) (hn : n ≤ 5) (hn0 : n ≠ 0) (on : List Int) : bfull (stp3 a.edges) (fun _ => true) (evC a.edges) 4096 0 [((0 : Int), [])] = img (fun x : OS => some x.1) (prsR a on n) := by
  have hVl := statesV_len hn
  have hB0 : bOk (statesV n) [(((0 : Int), clo a.edges (lowP on [] false) n [0]), ([] : List Int))] := bOk_one (mem_statesV.2 ⟨by simp only; omega, sorted_subs _ _⟩)
  rw [← prs_eq h hn hn0 on]
  have hi := bfull_img (V := statesV n) (nx := nxO a.edges on [] n) (ok := fun _ => true) (evs := evO a.edges) (nx' := stp3 a.edges) (ok' := fun _ => true) (evs' := evC a.edges) (h := fun x : OS => some x.1) (N := 4096)
    (evO_in h on) (fun x _ hx => by cases hx) (fun x _ y hy => by
      cases hy
      exact ⟨rfl, fun ev => rfl⟩) (by omega) 4096 0 4096 [((0, clo a.edges (lowP on [] false) n [0]), [])] rfl (by simp) (Nat.le_refl _) hB0 (by simp)
  rw [hi]
  have e : img (fun x : OS => some x.1) [(((0 : Int), clo a.edges (lowP on [] false) n [0]), ([] : List Int))] = [(0, [])] := rfl
  have e5 : (img (fun x : OS => some x.1) (List.take 0 [(((0 : Int), clo a.edges (lowP on [] false) n [0]), ([] : List Int))])).length = 0 := rfl
  rw [e, e5]
theorem any_find {α : Type} (p : α → Bool) : ∀ l : List α, l.any p = (l.find? p).isSome
  | [] => rfl
  | x :: r => by
    rw [List.any_cons, List.find?_cons, any_find p r]
    cases p x <;> rfl
/-- CONSISTENT IS WHAT THE LAW SAYS. -/
theorem cs_eq {a : Aut} {n : Nat} (h : gAut a n) (hn : n ≤ 5) (on un : List Int) : csO a on un n (csR a on un n) = csL a on un n (prsR a on n) := by
  by_cases hn0 : n = 0
  · unfold csR prsR
    rw [if_pos hn0, if_pos hn0]
    rfl
  have hB0 : bOk (intsV n) [((0 : Int), ([] : List Int))] := bOk_one (mem_intsV.2 (by omega))
  have hVl := intsV_len n
  have hbad : ∀ s, badC a on un n s = (csK a on un n s (keptR a on)).isSome := fun s => by
    rw [csK_eq h]
    unfold badC
    rw [any_find]
  rw [csL_find]
  unfold csR
  rw [if_neg hn0, bsr_find (V := intsV n) (N := 4096) (evC_in h) (by omega) 4096 0 _ rfl (by simp) hB0 (by simp), sts_img h hn hn0 on, img_find]
  have e : (prsR a on n).find? (fun z => optB (fun s => badC a on un n s) (some z.1.1)) = (prsR a on n).find? fun z => (csK a on un n z.1.1 (keptR a on)).isSome := find?_congr' fun z _ => hbad z.1.1
  rw [e]
  cases hf : (prsR a on n).find? fun z => (csK a on un n z.1.1 (keptR a on)).isSome with
  | none => rfl
  | some z =>
    show (z.2, (a.alpha.find? fun ev => conR a on un n z.1.1 ev).getD 0, false) = (z.2, (csK a on un n z.1.1 (keptR a on)).getD 0, false)
    rw [csK_eq h]
theorem runO_un (es : List Edg) (on un : List Int) (n : Nat) : ∀ (w : List Int) (x : OS), runO es on un n x w = runO es on [] n x w
  | [], _ => rfl
  | ev :: w, x => by
    have e : nxO es on un n x ev = nxO es on [] n x ev := by unfold nxO; rw [low_un on un]
    simp only [runO, e]
    rw [runO_un es on un n w]
theorem rchR_un (a : Aut) (on un : List Int) (n : Nat) (w : List Int) : rchR a on un n w = rchR a on [] n w := by
  unfold rchR
  rw [runO_un, low_un on un]
theorem cs_ctr {a : Aut} {n : Nat} (h : gAut a n) (hn : n ≤ 5) (on un : List Int) {w : List Int} {k : Int} (ho : csL a on un n (prsR a on n) = (w, k, false)) : cdsR a on un n w k = true ∧ w.length ≤ 1000000 := by
  have hVl := statesV_len hn
  rw [csL_find] at ho
  cases hf : (prsR a on n).find? fun z => (csK a on un n z.1.1 (keptR a on)).isSome with
  | none => rw [hf] at ho; simp only [csV, Prod.mk.injEq] at ho; exact absurd ho.2.2 (by decide)
  | some z =>
    have hm := List.mem_of_find?_eq_some hf
    have hs := List.find?_some hf
    rw [hf] at ho
    simp only [csV, Prod.mk.injEq] at ho
    obtain ⟨rfl, hk, _⟩ := ho
    have hwl := bOk_wl (prs_bOk h on) hm
    obtain ⟨hn0, hr⟩ := prs_run on hm
    refine ⟨?_, by omega⟩
    unfold cdsR
    rw [rchR_un]
    unfold rchR
    rw [if_neg hn0, hr]
    simp only
    cases hc : csK a on un n z.1.1 (keptR a on) with
    | none => rw [hc] at hs; cases hs
    | some ev =>
      rw [hc] at hk
      simp only [Option.getD_some] at hk
      subst hk
      rw [csK_eq h] at hc
      exact List.find?_some hc
end Go.AI


/- Law Consistent. -/
namespace Go.AI
open Go.Proofs
set_option maxRecDepth 20000
theorem csL_len {a : Aut} {n : Nat} (h : gAut a n) (hn : n ≤ 5) (on un : List Int) : (csL a on un n (prsR a on n)).1.length ≤ max63 := by
  cases ho : csL a on un n (prsR a on n) with
  | mk w r => cases r with
    | mk t b => cases b with
      | false =>
        obtain ⟨_, h1⟩ := cs_ctr h hn on un ho
        simp only [max63]
        omega
      | true =>
        rw [csL_find] at ho
        cases hf : (prsR a on n).find? fun z => (csK a on un n z.1.1 (keptR a on)).isSome with
        | none => rw [hf] at ho; simp only [csV, Prod.mk.injEq] at ho; obtain ⟨rfl, _⟩ := ho; simp
        | some z => rw [hf] at ho; simp only [csV, Prod.mk.injEq] at ho; exact absurd ho.2.2 (by decide)
set_option maxHeartbeats 8000000 in
theorem consistentL6 {g : Nat} (hg : IsTab g) {ty : TypeId} {fr : Nat × Nat} (O : List Heap) (b0 b1 b2 gs gm : Int) (gt : Nat → Int) (hgr : grOkB gs gt) : ASpecT g (ptab ty fr) Tryz.prog 6 [.agg [u8D b0, u8D b1, u8D b2], .agg (grC gs gm gt)] O (bb true) [] O := by
  have hkn := fun O => known11 hg (ty := ty) (fr := fr) O
  obtain ⟨e1, e2, e3⟩ := evs_ok b0
  obtain ⟨hraw, ⟨n, hn, hga⟩, hal⟩ := mkA_ok (gs := gs) (gm := gm) e1 e2 e3 hgr.2
  have hev := fun O b => events13 O b
  have hmk := fun O => make12 O (evsOf b0) gs gm gt e3 hgr.1 hraw.1 hraw.2
  have hol : (evsOf b1).length ≤ max63 := by have := (evs_ok b1).2.2; simp only [max63]; omega
  have hul : (evsOf b2).length ≤ max63 := by have := (evs_ok b2).2.2; simp only [max63]; omega
  have hop := opE_good hga.c (evs_chk b1) (evs_chk b2)
  have hob := fun O => consistent18 O (mkA (evsOf b0) gs gm gt) (evsOf b1) (evsOf b2) n hga.st (by omega) hga.sm hol hul hop
  have hla := fun O => consistent24 O (mkA (evsOf b0) gs gm gt) (evsOf b1) (evsOf b2) n hga hn hol hul
  have hrf := fun O w k hw => contradicts25 O (mkA (evsOf b0) gs gm gt) (evsOf b1) (evsOf b2) w k n hga.st (by omega) hga.sm hol hul hw hop
  rw [cs_eq hga hn] at hob
  have hre := fun w k => cs_ctr hga hn (evsOf b1) (evsOf b2) (w := w) (k := k)
  have hl1 := csL_len hga hn (evsOf b1) (evsOf b2)
  generalize csL (mkA (evsOf b0) gs gm gt) (evsOf b1) (evsOf b2) n (prsR (mkA (evsOf b0) gs gm gt) (evsOf b1) n) = R at *
  generalize mkA (evsOf b0) gs gm gt = a at *
  have hev0 := fun O => hev O b0
  have hev1 := fun O => hev O b1
  have hev2 := fun O => hev O b2
  generalize evsOf b0 = s0 at *
  generalize evsOf b1 = on at *
  generalize evsOf b2 = un at *
  obtain ⟨w, k, is⟩ := R
  simp only at hl1
  have hs1 := fun O => sameInts36 O w w hl1
  obtain ⟨al, st, mk, es⟩ := a
  refine aspecT_stop [] Tk Tryz.func6 rfl Tryz.call6 Tryz.ntmps6 (Nat.le_of_ble_eq_true rfl) fun E hE => ?_
  refine g_run Tk Tryz.func6 ?_
  refine g_callT Tk Tryz.func6 hE (hkn _) rfl rfl rfl rfl rfl rfl ?_
  repeat (first | refine g_cnd Tk Tryz.func6 rfl (fun _ => ?_) (fun h => absurd h (by decide)) | refine g_know Tk Tryz.func6 rfl (fun _ => ?_) (fun h => absurd h (by decide)) | refine s_know Tk (fun _ => ?_) (fun h => absurd h (by decide)) | refine g_cnd Tk Tryz.func6 rfl (fun h => absurd h (by decide)) (fun _ => ?_) | refine g_know Tk Tryz.func6 rfl (fun h => absurd h (by decide)) (fun _ => ?_) | refine s_know Tk (fun h => absurd h (by decide)) (fun _ => ?_) | refine g_cnd Tk Tryz.func6 rfl (fun _ => ?_) (fun h => absurd (show true = false from h) (by decide)) | refine g_know Tk Tryz.func6 rfl (fun _ => ?_) (fun h => absurd (show true = false from h) (by decide)) | refine s_know Tk (fun _ => ?_) (fun h => absurd (show true = false from h) (by decide)) | refine g_cnd Tk Tryz.func6 rfl (fun h => absurd (show false = true from h) (by decide)) (fun _ => ?_) | refine g_know Tk Tryz.func6 rfl (fun h => absurd (show false = true from h) (by decide)) (fun _ => ?_) | refine s_know Tk (fun h => absurd (show false = true from h) (by decide)) (fun _ => ?_))
  refine g_drawn Tk Tryz.func6 mixedT rfl ?_
  first | refine g_need Tk Tryz.func6 (by decide) ?_ | refine s_need Tk (by decide) ?_
  first | refine g_call Tk Tryz.func6 (hev0 _) rfl rfl rfl rfl rfl ?_ | refine s_callq Tk (fun _ => hev0 _) rfl rfl rfl ?_
  first | refine g_call Tk Tryz.func6 (hmk _) rfl rfl rfl rfl rfl ?_ | refine s_callq Tk (fun _ => hmk _) rfl rfl rfl ?_
  first | refine g_need Tk Tryz.func6 (by decide) ?_ | refine s_need Tk (by decide) ?_
  first | refine g_call Tk Tryz.func6 (hev1 _) rfl rfl rfl rfl rfl ?_ | refine s_callq Tk (fun _ => hev1 _) rfl rfl rfl ?_
  first | refine g_need Tk Tryz.func6 (by decide) ?_ | refine s_need Tk (by decide) ?_
  first | refine g_call Tk Tryz.func6 (hev2 _) rfl rfl rfl rfl rfl ?_ | refine s_callq Tk (fun _ => hev2 _) rfl rfl rfl ?_
  refine s_old Tk ?_
  refine d_mod Tk (p := ⟨[], [(5, .box [ints al, ii st, ints mk, edgs es])], none⟩) rfl rfl rfl ?_
  refine d_done Tk Tryz.func6 (by kernel_rfl) (GM.h ?_)
  first | refine g_call Tk Tryz.func6 (hob _) rfl rfl rfl rfl rfl ?_ | refine s_callq Tk (fun _ => hob _) rfl rfl rfl ?_
  first | refine g_call Tk Tryz.func6 (hla _) rfl rfl rfl rfl rfl ?_ | refine s_callq Tk (fun _ => hla _) rfl rfl rfl ?_
  repeat (first | refine g_cnd Tk Tryz.func6 rfl (fun _ => ?_) (fun h => absurd h (by decide)) | refine g_know Tk Tryz.func6 rfl (fun _ => ?_) (fun h => absurd h (by decide)) | refine s_know Tk (fun _ => ?_) (fun h => absurd h (by decide)) | refine g_cnd Tk Tryz.func6 rfl (fun h => absurd h (by decide)) (fun _ => ?_) | refine g_know Tk Tryz.func6 rfl (fun h => absurd h (by decide)) (fun _ => ?_) | refine s_know Tk (fun h => absurd h (by decide)) (fun _ => ?_) | refine g_cnd Tk Tryz.func6 rfl (fun _ => ?_) (fun h => absurd (show true = false from h) (by decide)) | refine g_know Tk Tryz.func6 rfl (fun _ => ?_) (fun h => absurd (show true = false from h) (by decide)) | refine s_know Tk (fun _ => ?_) (fun h => absurd (show true = false from h) (by decide)) | refine g_cnd Tk Tryz.func6 rfl (fun h => absurd (show false = true from h) (by decide)) (fun _ => ?_) | refine g_know Tk Tryz.func6 rfl (fun h => absurd (show false = true from h) (by decide)) (fun _ => ?_) | refine s_know Tk (fun h => absurd (show false = true from h) (by decide)) (fun _ => ?_))
  first | refine g_cnd Tk Tryz.func6 rfl (fun c1 => ?_) (fun c1 => ?_) | refine g_know Tk Tryz.func6 rfl (fun c1 => ?_) (fun c1 => ?_) | refine s_know Tk (fun c1 => ?_) (fun c1 => ?_)
  · exact absurd c1 (by simp)
  first | refine g_call Tk Tryz.func6 (hs1 _) rfl rfl rfl rfl rfl ?_ | refine s_callq Tk (fun _ => hs1 _) rfl rfl rfl ?_
  first | refine g_cnd Tk Tryz.func6 rfl (fun c2 => ?_) (fun c2 => ?_) | refine g_know Tk Tryz.func6 rfl (fun c2 => ?_) (fun c2 => ?_) | refine s_know Tk (fun c2 => ?_) (fun c2 => ?_)
  · exact absurd c2 (by simp)
  repeat (first | refine g_cnd Tk Tryz.func6 rfl (fun _ => ?_) (fun h => absurd h (by decide)) | refine g_know Tk Tryz.func6 rfl (fun _ => ?_) (fun h => absurd h (by decide)) | refine s_know Tk (fun _ => ?_) (fun h => absurd h (by decide)) | refine g_cnd Tk Tryz.func6 rfl (fun h => absurd h (by decide)) (fun _ => ?_) | refine g_know Tk Tryz.func6 rfl (fun h => absurd h (by decide)) (fun _ => ?_) | refine s_know Tk (fun h => absurd h (by decide)) (fun _ => ?_) | refine g_cnd Tk Tryz.func6 rfl (fun _ => ?_) (fun h => absurd (show true = false from h) (by decide)) | refine g_know Tk Tryz.func6 rfl (fun _ => ?_) (fun h => absurd (show true = false from h) (by decide)) | refine s_know Tk (fun _ => ?_) (fun h => absurd (show true = false from h) (by decide)) | refine g_cnd Tk Tryz.func6 rfl (fun h => absurd (show false = true from h) (by decide)) (fun _ => ?_) | refine g_know Tk Tryz.func6 rfl (fun h => absurd (show false = true from h) (by decide)) (fun _ => ?_) | refine s_know Tk (fun h => absurd (show false = true from h) (by decide)) (fun _ => ?_))
  first | refine g_cnd Tk Tryz.func6 rfl (fun c3 => ?_) (fun c3 => ?_) | refine g_know Tk Tryz.func6 rfl (fun c3 => ?_) (fun c3 => ?_) | refine s_know Tk (fun c3 => ?_) (fun c3 => ?_)
  · exact absurd c3 (by simp)
  first | refine g_cnd Tk Tryz.func6 rfl (fun c4 => ?_) (fun c4 => ?_) | refine g_know Tk Tryz.func6 rfl (fun c4 => ?_) (fun c4 => ?_) | refine s_know Tk (fun c4 => ?_) (fun c4 => ?_)
  · refine g_ret Tk (r := bb true) rfl rfl rfl trivial rfl rfl ?_
    rfl
  · have c4 : is = false := c4
    subst c4
    obtain ⟨r1, r2⟩ := hre w k rfl
    have hrf := fun O => hrf O w k r2
    rw [r1] at hrf
    first | refine g_call Tk Tryz.func6 (hrf _) rfl rfl rfl rfl rfl ?_ | refine s_callq Tk (fun _ => hrf _) rfl rfl rfl ?_
    repeat (first | refine g_cnd Tk Tryz.func6 rfl (fun _ => ?_) (fun h => absurd h (by decide)) | refine g_know Tk Tryz.func6 rfl (fun _ => ?_) (fun h => absurd h (by decide)) | refine s_know Tk (fun _ => ?_) (fun h => absurd h (by decide)) | refine g_cnd Tk Tryz.func6 rfl (fun h => absurd h (by decide)) (fun _ => ?_) | refine g_know Tk Tryz.func6 rfl (fun h => absurd h (by decide)) (fun _ => ?_) | refine s_know Tk (fun h => absurd h (by decide)) (fun _ => ?_) | refine g_cnd Tk Tryz.func6 rfl (fun _ => ?_) (fun h => absurd (show true = false from h) (by decide)) | refine g_know Tk Tryz.func6 rfl (fun _ => ?_) (fun h => absurd (show true = false from h) (by decide)) | refine s_know Tk (fun _ => ?_) (fun h => absurd (show true = false from h) (by decide)) | refine g_cnd Tk Tryz.func6 rfl (fun h => absurd (show false = true from h) (by decide)) (fun _ => ?_) | refine g_know Tk Tryz.func6 rfl (fun h => absurd (show false = true from h) (by decide)) (fun _ => ?_) | refine s_know Tk (fun h => absurd (show false = true from h) (by decide)) (fun _ => ?_))
    refine g_ret Tk (r := bb true) rfl rfl rfl trivial rfl rfl ?_
    rfl
end Go.AI
