/- The layer of abstract runs, part 12. -/
import Derived.Test.YtbknncolmohdlaaDoorLayerK
import Derived.WideKeyArgs
import Derived.Lib.SmallJoins
import Derived.Deep.Slices
import Derived.Shelf.Slices.Reverse
import Derived.Shelf.Slices.Cells
import Derived.Test.YtbknncolmohdlaaDoorProg
set_option linter.unusedSimpArgs false
set_option linter.unusedVariables false
set_option linter.all false
/- Arguments: slices and structs of them, opened to data, and read again behind the call. -/
namespace Go.Proofs.YtbknncolmohdlaaDoor
open Go.ChangeShapes Go.WideShapes Go.ChangeAt Go.RowKit Go.Deep Go.WideElems
set_option maxRecDepth 100000
/-- All that memory holds. -/
def KW (W : World) : AI.Kn := fun b o => W.cell? ⟨b, o, none⟩
theorem KW_ok (W : World) : ∀ bl o x, KW W bl o = some x → W.cell? ⟨bl, o, none⟩ = some x := fun _ _ _ h => h
section
variable {H : Type} {enc : TypeId × Value → H} {P : Program} {W : World}
/-- What is read of a type is data of a kind. -/
def Opn (enc : TypeId × Value → H) (P : Program) (W : World) (t : TypeId) (R : List AI.I → Prop) : Prop :=
  ∀ n cs x, DataW.trod enc P W 0 (fun _ => true) true n t cs = some x → ∃ is, AI.RepL (KW W) cs is ∧ R is
theorem repL_app {K : AI.Kn} {a b : List Value} {c d : List AI.I} (h : AI.RepL K a c) (h' : AI.RepL K b d) : AI.RepL K (a ++ b) (c ++ d) := h.append h'
theorem opn_int {t : TypeId} {k : IntKind} (ht : P.underlying t = some (.int k)) : Opn enc P W t fun is => ∃ z, is = [.v (.int k z)] ∧ (Lit.int k z).wf = true := by
  intro n cs x h
  obtain ⟨z, rfl, rfl, hw⟩ := DataW.trod_int ht h
  exact ⟨[.v (.int k z)], .cons (.v rfl) .nil, z, rfl, hw⟩
theorem ints_rep {K : AI.Kn} {k : IntKind} : ∀ {cs : List Value}, (∀ i, i < cs.length → ∃ z, cs[i]? = some (.int k z) ∧ (Lit.int k z).wf = true) → ∃ zs : List Int, zs.length = cs.length ∧ AI.RepL K cs (zs.map fun z => .v (.int k z)) ∧ ∀ z ∈ zs, (Lit.int k z).wf = true
  | [], _ => ⟨[], rfl, .nil, by simp⟩
  | c :: cs, h => by
    obtain ⟨z, hz, hw⟩ := h 0 (by simp)
    simp only [List.getElem?_cons_zero, Option.some.injEq] at hz
    subst hz
    obtain ⟨zs, h1, h2, h3⟩ := ints_rep (cs := cs) fun i hi => by
      have := h (i + 1) (by simp; omega)
      simpa using this
    exact ⟨z :: zs, by simp [h1], .cons (.v rfl) h2, fun y hy => by
      rcases List.mem_cons.1 hy with rfl | hy
      · exact hw
      · exact h3 y hy⟩
theorem opn_array {t e : TypeId} {k : IntKind} {m : Nat} (ht : P.underlying t = some (.array m e)) (he : P.underlying e = some (.int k)) (hc : P.cellsOf e = 1) (hct : P.cellsOf t = m) :
    Opn enc P W t fun is => ∃ zs : List Int, zs.length = m ∧ is = zs.map (fun z => .v (.int k z)) ∧ ∀ z ∈ zs, (Lit.int k z).wf = true := by
  intro n cs x h
  obtain ⟨xs, f, rfl, rfl, hl, hlen, hx⟩ := DataW.trod_array ht h
  rw [hct] at hl
  obtain ⟨zs, h1, h2, h3⟩ := ints_rep (K := KW W) (k := k) (cs := cs) fun i hi => by
    have h0 := hx i (by omega)
    rw [hc, Nat.mul_one, List.getElem?_eq_getElem (by omega)] at h0
    obtain ⟨z, hz, _, hw⟩ := DataW.trod_int he h0
    refine ⟨z, ?_, hw⟩
    have := congrArg (fun l => l[0]?) hz
    simpa [List.getElem?_take, List.getElem?_drop] using this
  exact ⟨_, h2, zs, by omega, rfl, h3⟩
/-- A slice. -/
theorem opn_slice {t e : TypeId} {z : Nat} {R : List AI.I → Prop} (ht : P.underlying t = some (.slice e)) (hc : P.cellsOf e = z) (hz : 0 < z) (he : Opn enc P W e R) :
    Opn enc P W t fun is => ∃ xs : List (List AI.I), is = [.sl z xs.length xs] ∧ (∀ d ∈ xs, R d) ∧ xs.length ≤ maxLen := by
  intro n cs x h
  rcases open_slice ht h with ⟨rfl, _⟩ | ⟨a, len, cap, m, f, D, Pl, rfl, _, hle, hm, hmm, _, hx⟩
  · exact ⟨[.sl z 0 []], .cons .nil .nil, [], rfl, by simp, Nat.zero_le _⟩
  · simp only [if_true] at hmm
    subst hmm
    rw [hc] at hx
    by_cases h0 : m = 0
    · subst h0
      obtain rfl : len = 0 := by omega
      exact ⟨[.sl z 0 []], .cons .nil .nil, [], rfl, by simp, Nat.zero_le _⟩
    · have hspot : a.spot = none := by
        obtain ⟨cs', h1, _⟩ := hx 0 (by omega)
        obtain ⟨_, hl, hcell⟩ := World.cells?_some h1
        have := hcell 0 hz
        rw [Nat.zero_mul] at this
        have ha : (a.add 0).add 0 = a := by simp [Addr.add]
        rw [ha, List.getElem?_eq_getElem (by omega)] at this
        unfold World.cell? at this
        cases hsp : a.spot with
        | none => rfl
        | some s =>
          rw [hsp] at this
          split at this <;> simp at this
      obtain ⟨bl, o, sp⟩ := a
      simp only at hspot
      subst hspot
      have build : ∀ k, k ≤ len → ∃ (xs : List (List AI.I)) (vs : List Value), xs.length = k ∧ vs.length = k * z ∧ AI.RepL (KW W) vs xs.flatten ∧ (∀ d ∈ xs, R d) ∧ (∀ d ∈ xs, d.length = z) ∧ ∀ j c, vs[j]? = some c → KW W bl (o + j) = some c := by
        intro k
        induction k with
        | zero => intro _; exact ⟨[], [], rfl, by simp, .nil, by simp, by simp, by simp⟩
        | succ k ih =>
          intro hk
          obtain ⟨xs, vs, h1, h2, h3, h4, h5, h6⟩ := ih (by omega)
          obtain ⟨cs', hc1, hc2⟩ := hx k (by omega)
          obtain ⟨_, hl, hcell⟩ := World.cells?_some hc1
          obtain ⟨is, hr, hR⟩ := he f cs' _ hc2
          refine ⟨xs ++ [is], vs ++ cs', by simp [h1], by simp [h2, hl, Nat.add_mul], ?_, ?_, ?_, ?_⟩
          · rw [List.flatten_append]
            simpa using repL_app h3 hr
          · intro d hd
            rcases List.mem_append.1 hd with h | h
            · exact h4 d h
            · simp only [List.mem_singleton] at h
              subst h
              exact hR
          · intro d hd
            rcases List.mem_append.1 hd with h | h
            · exact h5 d h
            · simp only [List.mem_singleton] at h
              subst h
              rw [← hr.length, hl]
          · intro j c hj
            rw [List.getElem?_append] at hj
            split at hj
            · exact h6 j c hj
            · rename_i hge
              have hlt : j - vs.length < cs'.length := (List.getElem?_eq_some_iff.1 hj).1
              have := hcell (j - vs.length) (by omega)
              rw [hj] at this
              unfold KW
              rw [← this]
              have e : ((⟨bl, o, none⟩ : Addr).add (k * z)).add (j - vs.length) = ⟨bl, o + j, none⟩ := by
                have e1 : (⟨bl, o, none⟩ : Addr).add (k * z) = ⟨bl, o + k * z, none⟩ := by unfold Addr.add; split <;> simp_all
                rw [e1]
                unfold Addr.add
                split
                · simp <;> omega
                · simp <;> omega
              rw [e]
      obtain ⟨xs, vs, h1, h2, h3, h4, h5, h6⟩ := build len (Nat.le_refl _)
      refine ⟨[.sl z xs.length xs], .cons ?_ .nil, xs, rfl, h4, by omega⟩
      rw [h1]
      exact .sl h3 h5 h6 hle h1
/-- Structs of three fields, and of two. -/
theorem opn_struct3 {t : TypeId} {f0 f1 f2 : Field} {R0 R1 R2 : List AI.I → Prop} {z0 z1 z2 : Nat} (ht : P.underlying t = some (.struct #[f0, f1, f2])) (hc : P.cellsOf t = z0 + z1 + z2)
    (c0 : P.cellsOf f0.type = z0) (c1 : P.cellsOf f1.type = z1) (c2 : P.cellsOf f2.type = z2) (o0 : f0.offset = 0) (o1 : f1.offset = z0) (o2 : f2.offset = z0 + z1)
    (h0 : Opn enc P W f0.type R0) (h1 : Opn enc P W f1.type R1) (h2 : Opn enc P W f2.type R2) : Opn enc P W t fun is => ∃ a b c, is = a ++ b ++ c ∧ R0 a ∧ R1 b ∧ R2 c := by
  intro n cs x h
  obtain ⟨y0, y1, y2, m, _, hl, g0, g1, g2⟩ := trod_struct3 ht h
  obtain ⟨a, ra, ha⟩ := h0 _ _ _ g0
  obtain ⟨b, rb, hb⟩ := h1 _ _ _ g1
  obtain ⟨c, rc, hcc⟩ := h2 _ _ _ g2
  refine ⟨a ++ b ++ c, ?_, a, b, c, rfl, ha, hb, hcc⟩
  have e : cs = (cs.drop f0.offset).take (P.cellsOf f0.type) ++ (cs.drop f1.offset).take (P.cellsOf f1.type) ++ (cs.drop f2.offset).take (P.cellsOf f2.type) := by
    rw [c0, c1, c2, o0, o1, o2, List.drop_zero]
    have e1 : (cs.drop (z0 + z1)).take z2 = cs.drop (z0 + z1) := List.take_of_length_le (by simp; omega)
    rw [e1]
    have e2 : cs.drop (z0 + z1) = (cs.drop z0).drop z1 := by rw [List.drop_drop]
    rw [e2, List.append_assoc, List.take_append_drop, List.take_append_drop]
  rw [e]
  exact repL_app (repL_app ra rb) rc
theorem opn_struct2 {t : TypeId} {f0 f1 : Field} {R0 R1 : List AI.I → Prop} {z0 z1 : Nat} (ht : P.underlying t = some (.struct #[f0, f1])) (hc : P.cellsOf t = z0 + z1)
    (c0 : P.cellsOf f0.type = z0) (c1 : P.cellsOf f1.type = z1) (o0 : f0.offset = 0) (o1 : f1.offset = z0)
    (h0 : Opn enc P W f0.type R0) (h1 : Opn enc P W f1.type R1) : Opn enc P W t fun is => ∃ a b, is = a ++ b ∧ R0 a ∧ R1 b := by
  intro n cs x h
  obtain ⟨y0, y1, m, _, hl, g0, g1⟩ := trod_struct2 ht h
  obtain ⟨a, ra, ha⟩ := h0 _ _ _ g0
  obtain ⟨b, rb, hb⟩ := h1 _ _ _ g1
  refine ⟨a ++ b, ?_, a, b, rfl, ha, hb⟩
  have e : cs = (cs.drop f0.offset).take (P.cellsOf f0.type) ++ (cs.drop f1.offset).take (P.cellsOf f1.type) := by
    rw [c0, c1, o0, o1, List.drop_zero]
    have e1 : (cs.drop z0).take z1 = cs.drop z0 := List.take_of_length_le (by simp; omega)
    rw [e1, List.take_append_drop]
  rw [e]
  exact repL_app ra rb
theorem opn_struct4 {t : TypeId} {f0 f1 f2 f3 : Field} {R0 R1 R2 R3 : List AI.I → Prop} {z0 z1 z2 z3 : Nat} (ht : P.underlying t = some (.struct #[f0, f1, f2, f3])) (hc : P.cellsOf t = z0 + z1 + z2 + z3)
    (c0 : P.cellsOf f0.type = z0) (c1 : P.cellsOf f1.type = z1) (c2 : P.cellsOf f2.type = z2) (c3 : P.cellsOf f3.type = z3) (o0 : f0.offset = 0) (o1 : f1.offset = z0) (o2 : f2.offset = z0 + z1) (o3 : f3.offset = z0 + z1 + z2)
    (h0 : Opn enc P W f0.type R0) (h1 : Opn enc P W f1.type R1) (h2 : Opn enc P W f2.type R2) (h3 : Opn enc P W f3.type R3) : Opn enc P W t fun is => ∃ a b c d, is = a ++ b ++ c ++ d ∧ R0 a ∧ R1 b ∧ R2 c ∧ R3 d := by
  intro n cs x h
  obtain ⟨y0, y1, y2, y3, m, _, hl, g0, g1, g2, g3⟩ := Go.Joins.trod_struct4 ht h
  obtain ⟨a, ra, ha⟩ := h0 _ _ _ g0
  obtain ⟨b, rb, hb⟩ := h1 _ _ _ g1
  obtain ⟨c, rc, hcc⟩ := h2 _ _ _ g2
  obtain ⟨d, rd, hd⟩ := h3 _ _ _ g3
  refine ⟨a ++ b ++ c ++ d, ?_, a, b, c, d, rfl, ha, hb, hcc, hd⟩
  have e : cs = (cs.drop f0.offset).take (P.cellsOf f0.type) ++ (cs.drop f1.offset).take (P.cellsOf f1.type) ++ (cs.drop f2.offset).take (P.cellsOf f2.type) ++ (cs.drop f3.offset).take (P.cellsOf f3.type) := by
    rw [c0, c1, c2, c3, o0, o1, o2, o3, List.drop_zero]
    have e1 : (cs.drop (z0 + z1 + z2)).take z3 = cs.drop (z0 + z1 + z2) := List.take_of_length_le (by simp; omega)
    rw [e1]
    have e2 : cs.drop (z0 + z1 + z2) = ((cs.drop z0).drop z1).drop z2 := by rw [List.drop_drop, List.drop_drop, Nat.add_assoc]
    have e3 : cs.drop (z0 + z1) = (cs.drop z0).drop z1 := by rw [List.drop_drop]
    rw [e2, e3, List.append_assoc, List.take_append_drop, List.append_assoc, List.take_append_drop, List.take_append_drop]
  rw [e]
  exact repL_app (repL_app (repL_app ra rb) rc) rd
/-- Read again behind the call. -/
theorem args_again {t : TypeId} (hl : laidOutB P = true) (hr : P.readableRec t = true) (hrow : decide (t < P.types.size) = true) {W' : World} {v : Value} {d : DataW H} {ps : List MemPlace}
    (h : DataW.Trod enc P W 0 (fun _ => true) true t v d ps) (hold : ∀ i, i < W.heap.size → W'.heap[i]? = W.heap[i]?) : DataW.Trod enc P W' 0 (fun b => decide (b < W.heap.size)) true t v d ps := by
  have hlt : ∀ p ∈ ps, p.block < W.heap.size := by
    obtain ⟨n, hn⟩ := h
    exact DataW.trod_lt n t _ _ hn
  refine Trod_stays hl hr (of_decide_eq_true hrow) h (fun p hp => ?_) (fun p hp => decide_eq_true (hlt p hp))
  have hb := hlt p hp
  cases p with
  | cell b off =>
    show W'.cell? ⟨b, off, none⟩ = W.cell? ⟨b, off, none⟩
    unfold World.cell?
    rw [hold b hb]
  | map b => exact hold b hb
end
end Go.Proofs.YtbknncolmohdlaaDoor

/- The arguments of the statements about sketched automata: data. -/
namespace Go.Proofs.YtbknncolmohdlaaDoor
open Go.ChangeShapes Go.WideShapes Go.ChangeAt Go.RowKit Go.Deep Go.WideElems
set_option maxRecDepth 100000
section
variable {H : Type} {enc : TypeId × Value → H} {W : World}
theorem list_of {α β : Type} {f : α → β} {Q : α → Prop} : ∀ {xs : List β}, (∀ d ∈ xs, ∃ a, d = f a ∧ Q a) → ∃ l : List α, xs = l.map f ∧ ∀ a ∈ l, Q a
  | [], _ => ⟨[], rfl, by simp⟩
  | d :: xs, h => by
    obtain ⟨a, ha, hq⟩ := h d (by simp)
    obtain ⟨l, hl, hql⟩ := list_of (xs := xs) fun e he => h e (by simp [he])
    refine ⟨a :: l, by rw [ha, hl]; rfl, fun b hb => ?_⟩
    rcases List.mem_cons.1 hb with rfl | hb
    · exact hq
    · exact hql b hb
theorem wf_u8 {z : Int} (h : (Lit.int .u8 z).wf = true) : 0 ≤ z ∧ z ≤ 255 := by
  simp only [Lit.wf, Bool.and_eq_true, decide_eq_true_eq] at h
  have e1 : IntKind.u8.min = 0 := rfl
  have e2 : IntKind.u8.max = 255 := rfl
  rw [e1, e2] at h
  exact h
theorem wf_i8 {z : Int} (h : (Lit.int .i8 z).wf = true) : -128 ≤ z ∧ z ≤ 127 := by
  simp only [Lit.wf, Bool.and_eq_true, decide_eq_true_eq] at h
  have e1 : IntKind.i8.min = -128 := rfl
  have e2 : IntKind.i8.max = 127 := rfl
  rw [e1, e2] at h
  exact h
theorem maxLen63 {n : Nat} (h : n ≤ maxLen) : n ≤ AI.max63 := by
  simp only [maxLen] at h
  simp only [AI.max63]
  omega
/-- Ints, and lists of them. -/
theorem opn_ints : Opn enc Tryd.prog W 24 fun is => ∃ l : List Int, is = [AI.intsI l] ∧ l.length ≤ AI.max63 := by
  intro n cs x h
  obtain ⟨is, hr, xs, rfl, hx, hl⟩ := opn_slice Tryd.underlying24 (z := 1) (by kernel_rfl) (by decide) (opn_int Tryd.underlying3) n cs x h
  obtain ⟨l, rfl, -⟩ := list_of (f := fun z : Int => [AI.vi z]) (Q := fun _ => True) (xs := xs) fun d hd => by
    obtain ⟨z, hz, _⟩ := hx d hd
    exact ⟨z, hz, trivial⟩
  refine ⟨_, hr, l, by simp, maxLen63 (by simpa using hl)⟩
theorem opn_byts : Opn enc Tryd.prog W 101 fun is => ∃ l : List Int, is = [.sl 1 l.length (l.map AI.u8I)] ∧ AI.byteOk l ∧ l.length ≤ AI.max63 := by
  intro n cs x h
  obtain ⟨is, hr, xs, rfl, hx, hl⟩ := opn_slice Tryd.underlying101 (z := 1) (by kernel_rfl) (by decide) (opn_int Tryd.underlying5) n cs x h
  obtain ⟨l, rfl, hq⟩ := list_of (f := AI.u8I) (Q := fun z => 0 ≤ z ∧ z ≤ 255) (xs := xs) fun d hd => by
    obtain ⟨z, hz, hw⟩ := hx d hd
    exact ⟨z, hz, wf_u8 hw⟩
  refine ⟨_, hr, l, by simp, hq, maxLen63 (by simpa using hl)⟩
theorem opn_lin : Opn enc Tryd.prog W 103 fun is => ∃ x : AI.Lin, is = AI.linI x ∧ AI.linOk x := by
  intro n cs x h
  obtain ⟨is, hr, a, b, c, rfl, ⟨zs, hz, rfl, hw⟩, ⟨g, rfl, hg, hgl⟩, ⟨u, rfl, hu, hul⟩⟩ := opn_struct3 Tryd.underlying103 (z0 := 3) (z1 := 1) (z2 := 1) (by kernel_rfl) (by kernel_rfl) (by kernel_rfl) (by kernel_rfl) rfl rfl rfl
    (opn_array Tryd.underlying100 Tryd.underlying5 (by kernel_rfl) (by kernel_rfl)) opn_byts opn_byts n cs x h
  match zs, hz with
  | [p, q, r], _ =>
    exact ⟨_, hr, ⟨p, q, r, g, u⟩, rfl, wf_u8 (hw p (by simp)), wf_u8 (hw q (by simp)), wf_u8 (hw r (by simp)), hg, hgl, hu, hul⟩
theorem opn_lins : Opn enc Tryd.prog W 47 fun is => ∃ l : List AI.Lin, is = [.sl 5 l.length (l.map AI.linI)] ∧ (∀ x ∈ l, AI.linOk x) ∧ l.length ≤ AI.max63 := by
  intro n cs x h
  obtain ⟨is, hr, xs, rfl, hx, hl⟩ := opn_slice Tryd.underlying47 (z := 5) (by kernel_rfl) (by decide) opn_lin n cs x h
  obtain ⟨l, rfl, hq⟩ := list_of (f := AI.linI) (Q := AI.linOk) (xs := xs) hx
  refine ⟨_, hr, l, by simp, hq, maxLen63 (by simpa using hl)⟩
theorem opn_pairs : Opn enc Tryd.prog W 46 fun is => ∃ l : List (Int × Int), is = [.sl 2 l.length (l.map AI.r8I)] ∧ (∀ x ∈ l, AI.pairOk x) ∧ l.length ≤ AI.max63 := by
  intro n cs x h
  obtain ⟨is, hr, xs, rfl, hx, hl⟩ := opn_slice Tryd.underlying46 (z := 2) (by kernel_rfl) (by decide) (opn_array Tryd.underlying120 Tryd.underlying119 (by kernel_rfl) (by kernel_rfl)) n cs x h
  obtain ⟨l, rfl, hq⟩ := list_of (f := AI.r8I) (Q := AI.pairOk) (xs := xs) fun d hd => by
    obtain ⟨zs, hz, he, hw⟩ := hx d hd
    match zs, hz with
    | [p, q], _ => exact ⟨(p, q), he, (wf_i8 (hw p (by simp))).1, (wf_i8 (hw p (by simp))).2, (wf_i8 (hw q (by simp))).1, (wf_i8 (hw q (by simp))).2⟩
  refine ⟨_, hr, l, by simp, hq, maxLen63 (by simpa using hl)⟩
abbrev skI (k : AI.Sk) : List AI.I := [.v (.int .u8 k.locs), .v (.int .u8 k.marks), .sl 2 k.rngs.length (k.rngs.map AI.r8I), .sl 5 k.lines.length (k.lines.map AI.linI)]
theorem opn_sk : Opn enc Tryd.prog W 49 fun is => ∃ k : AI.Sk, is = skI k ∧ AI.skOk k := by
  intro n cs x h
  obtain ⟨is, hr, a, b, c, d, rfl, ⟨p, rfl, hp⟩, ⟨q, rfl, hq⟩, ⟨r, rfl, h1, h2⟩, ⟨l, rfl, h3, h4⟩⟩ := opn_struct4 Tryd.underlying49 (z0 := 1) (z1 := 1) (z2 := 1) (z3 := 1) (by kernel_rfl) (by kernel_rfl) (by kernel_rfl) (by kernel_rfl) (by kernel_rfl) rfl rfl rfl rfl
    (opn_int Tryd.underlying5) (opn_int Tryd.underlying5) opn_pairs opn_lins n cs x h
  exact ⟨_, hr, ⟨p, q, r, l⟩, rfl, wf_u8 hp, wf_u8 hq, h2, h1, h4, h3⟩
/-- A sketch, by value. -/
theorem open_sk {r : Reach} {b0 : Nat} {v : Value} {d : DataW H} {p : List MemPlace} (hv : Value.okWide Tryd.prog W r b0 49 v) (h : DataW.Trod enc Tryd.prog W 0 (fun _ => true) true 49 v d p) :
    ∃ k : AI.Sk, AI.skOk k ∧ ∀ ρ sh, AI.RepD (KW W) ρ sh v (AI.skD k) := by
  obtain ⟨cs, rfl, _⟩ := okWide_struct Tryd.underlying49 hv
  obtain ⟨n, hn⟩ := h
  obtain ⟨is, hr, k, rfl, hk⟩ := opn_sk n _ _ hn
  refine ⟨k, hk, fun ρ sh => ?_⟩
  have := AI.RepD.agg (AI.RepDL.ofL (ρ := ρ) (sh := sh) hr)
  simpa [Value.cells] using this
theorem open_ints1 {v : Value} {d : DataW H} {p : List MemPlace} (hv : v.cells.toList = [v]) (h : DataW.Trod enc Tryd.prog W 0 (fun _ => true) true 24 v d p) :
    ∃ l : List Int, l.length ≤ AI.max63 ∧ ∀ ρ sh, AI.RepD (KW W) ρ sh v (AI.ints l) := by
  obtain ⟨n, hn⟩ := h
  obtain ⟨is, hr, l, rfl, hl⟩ := opn_ints n _ _ hn
  rw [hv] at hr
  cases hr with
  | cons h1 h2 => exact ⟨l, hl, fun ρ sh => .i h1⟩
end
end Go.Proofs.YtbknncolmohdlaaDoor

/- More arguments: a state, an int. -/
namespace Go.Proofs.YtbknncolmohdlaaDoor
open Go.ChangeShapes Go.WideShapes Go.ChangeAt Go.RowKit Go.Deep Go.WideElems
set_option maxRecDepth 100000
section
variable {H : Type} {enc : TypeId × Value → H} {W : World}
theorem okWide_slice {P : Program} {W : World} {r : Reach} {b0 : Nat} {t e : TypeId} {v : Value} (ht : P.underlying t = some (.slice e)) (h : Value.okWide P W r b0 t v) : v.cells.toList = [v] := by
  simp only [Value.okWide, ht, Cell.okWide] at h
  cases v <;> simp_all [Cell.ok, Value.cells]
theorem open_st {r : Reach} {b0 : Nat} {v : Value} {d : DataW H} {p : List MemPlace} (hv : Value.okWide Tryd.prog W r b0 55 v) (h : DataW.Trod enc Tryd.prog W 0 (fun _ => true) true 55 v d p) :
    ∃ s : AI.Sta, s.vals.length ≤ AI.max63 ∧ ∀ ρ sh, AI.RepD (KW W) ρ sh v (AI.staD s) := by
  obtain ⟨cs, rfl, _⟩ := okWide_struct Tryd.underlying55 hv
  obtain ⟨n, hn⟩ := h
  obtain ⟨is, hr, a, b, rfl, ⟨z, rfl, _⟩, l, rfl, hl⟩ := opn_struct2 Tryd.underlying55 (z0 := 1) (z1 := 1) (by kernel_rfl) (by kernel_rfl) (by kernel_rfl) rfl rfl (opn_int Tryd.underlying3) opn_ints n _ _ hn
  refine ⟨⟨z, l⟩, hl, fun ρ sh => ?_⟩
  have := AI.RepD.agg (AI.RepDL.ofL (ρ := ρ) (sh := sh) hr)
  simpa [Value.cells] using this
theorem open_i64 {r : Reach} {b0 : Nat} {v : Value} {d : DataW H} {p : List MemPlace} (hv : Value.okWide Tryd.prog W r b0 3 v) (h : DataW.Trod enc Tryd.prog W 0 (fun _ => true) true 3 v d p) :
    ∃ n : Int, ∀ ρ sh, AI.RepD (KW W) ρ sh v (AI.ii n) := by
  obtain ⟨x, rfl, _, _, _⟩ := open_int Tryd.underlying3 hv h
  exact ⟨x, fun ρ sh => .i (.v rfl)⟩
end
end Go.Proofs.YtbknncolmohdlaaDoor

/- An extended automaton as an argument: structs of any number of fields, expressions by induction on the fuel. -/
namespace Go.Proofs.YtbknncolmohdlaaDoor
open Go.ChangeShapes Go.WideShapes Go.ChangeAt Go.RowKit Go.Deep Go.WideElems
set_option maxRecDepth 100000
section
variable {H : Type} {enc : TypeId × Value → H} {P : Program} {W : World}
/-- .. at less fuel than a bound. -/
def OpnB (enc : TypeId × Value → H) (P : Program) (W : World) (N : Nat) (t : TypeId) (R : List AI.I → Prop) : Prop :=
  ∀ n, n < N → ∀ cs x, DataW.trod enc P W 0 (fun _ => true) true n t cs = some x → ∃ is, AI.RepL (KW W) cs is ∧ R is
theorem Opn.b {t : TypeId} {R : List AI.I → Prop} (h : Opn enc P W t R) (N : Nat) : OpnB enc P W N t R := fun n _ cs x hx => h n cs x hx
theorem Opn.ofB {t : TypeId} {R : List AI.I → Prop} (h : ∀ N, OpnB enc P W N t R) : Opn enc P W t R := fun n cs x hx => h (n + 1) n (Nat.lt_succ_self n) cs x hx
theorem OpnB.less {t : TypeId} {R : List AI.I → Prop} {N : Nat} (h : OpnB enc P W (N + 1) t R) : OpnB enc P W N t R := fun n hn cs x hx => h n (by omega) cs x hx
theorem OpnB.turn {t : TypeId} {R R' : List AI.I → Prop} {N : Nat} (h : OpnB enc P W N t R) (hR : ∀ is, R is → R' is) : OpnB enc P W N t R' := fun n hn cs x hx => by
  obtain ⟨is, hr, h1⟩ := h n hn cs x hx
  exact ⟨is, hr, hR _ h1⟩
def AllP : List (List AI.I → Prop) → List (List AI.I) → Prop
  | [], [] => True
  | R :: Rs, a :: l => R a ∧ AllP Rs l
  | _, _ => False
def FldB (enc : TypeId × Value → H) (P : Program) (W : World) (N : Nat) : List Field → List (List AI.I → Prop) → Prop
  | [], [] => True
  | f :: fs, R :: Rs => OpnB enc P W N f.type R ∧ FldB enc P W N fs Rs
  | _, _ => False
def SeqB (P : Program) : Nat → List Field → Nat → Bool
  | o, [], n => o == n
  | o, f :: fs, n => f.offset == o && SeqB P (o + P.cellsOf f.type) fs n
theorem fields_rep {N n : Nat} (hn : n < N) {cs : List Value} : ∀ {fs : List Field} {Rs : List (List AI.I → Prop)} {o : Nat}, FldB enc P W N fs Rs → SeqB P o fs cs.length = true →
    (∀ f ∈ fs, ∃ y, DataW.trod enc P W 0 (fun _ => true) true n f.type ((cs.drop f.offset).take (P.cellsOf f.type)) = some y) → ∃ parts, AI.RepL (KW W) (cs.drop o) parts.flatten ∧ AllP Rs parts
  | [], [], o, _, hs, _ => by
    have : o = cs.length := by simpa [SeqB] using hs
    subst this
    exact ⟨[], by simpa using AI.RepL.nil, trivial⟩
  | f :: fs, R :: Rs, o, ⟨hf, hF⟩, hs, hx => by
    simp only [SeqB, Bool.and_eq_true, beq_iff_eq] at hs
    obtain ⟨rfl, hs⟩ := hs
    obtain ⟨y, hy⟩ := hx f (by simp)
    obtain ⟨a, ra, ha⟩ := hf n hn _ _ hy
    obtain ⟨parts, rp, hp⟩ := fields_rep hn hF hs fun g hg => hx g (by simp [hg])
    refine ⟨a :: parts, ?_, ha, hp⟩
    have e : cs.drop f.offset = (cs.drop f.offset).take (P.cellsOf f.type) ++ cs.drop (f.offset + P.cellsOf f.type) := by
      rw [← List.drop_drop, List.take_append_drop]
    rw [e, List.flatten_cons]
    exact repL_app ra rp
  | [], _ :: _, _, h, _, _ => h.elim
  | _ :: _, [], _, h, _, _ => h.elim
theorem opnB_struct {t : TypeId} {fs : Array Field} {Rs : List (List AI.I → Prop)} {N : Nat} (ht : P.underlying t = some (.struct fs)) (hs : SeqB P 0 fs.toList (P.cellsOf t) = true) (hf : FldB enc P W N fs.toList Rs) :
    OpnB enc P W (N + 1) t fun is => ∃ parts, is = parts.flatten ∧ AllP Rs parts := by
  intro n hn cs x h
  obtain ⟨xs, m, rfl, rfl, hl, hlen, hx⟩ := DataW.trod_struct ht h
  rw [← hl] at hs
  obtain ⟨parts, hr, hp⟩ := fields_rep (n := m) (by omega) hf hs fun f hfm => by
    obtain ⟨i, hi, e⟩ := List.mem_iff_getElem.1 hfm
    have h1 := hx i f (by rw [← e]; simp)
    rw [h1]
    have : i < xs.length := by rw [hlen]; simpa using hi
    exact ⟨xs[i], by simp [this]⟩
  exact ⟨_, by simpa using hr, parts, rfl, hp⟩
theorem opnB_slice {t e : TypeId} {z N : Nat} {R : List AI.I → Prop} (ht : P.underlying t = some (.slice e)) (hc : P.cellsOf e = z) (hz : 0 < z) (he : OpnB enc P W N e R) :
    OpnB enc P W (N + 1) t fun is => ∃ xs : List (List AI.I), is = [.sl z xs.length xs] ∧ (∀ d ∈ xs, R d) ∧ xs.length ≤ maxLen := by
  intro n hn cs x h
  rcases DataW.trod_slice ht h with ⟨rfl, _⟩ | ⟨a, len, cap, elems, rest, f, rfl, rfl, _, _, hle, hm, hlen, hel, hsp, _⟩
  · exact ⟨[.sl z 0 []], .cons .nil .nil, [], rfl, by simp, Nat.zero_le _⟩
  · rw [hc] at hel hsp
    have hx : ∀ i, i < len → ∃ cs' y, W.cells? 0 (a.add (i * z)) z = some cs' ∧ DataW.trod enc P W 0 (fun _ => true) true f e cs' = some y := fun i hi => by
      have h1 := hel i hi
      rw [List.getElem?_eq_getElem (by omega)] at h1
      obtain ⟨cs', h2, h3⟩ := Option.bind_eq_some_iff.1 h1
      exact ⟨cs', _, h2, h3⟩
    by_cases h0 : cap = 0
    · subst h0
      obtain rfl : len = 0 := by omega
      exact ⟨[.sl z 0 []], .cons .nil .nil, [], rfl, by simp, Nat.zero_le _⟩
    · have hx0 : ∃ cs', W.cells? 0 (a.add (0 * z)) z = some cs' := by
        by_cases hl : len = 0
        · obtain ⟨h1, h2⟩ := hsp rfl
          have h3 := h2 0 (by omega)
          rw [hl, List.getElem?_eq_getElem (by omega)] at h3
          obtain ⟨cs', h4, _⟩ := Option.bind_eq_some_iff.1 h3
          exact ⟨cs', h4⟩
        · obtain ⟨cs', _, h1, _⟩ := hx 0 (by omega)
          exact ⟨cs', h1⟩
      have hspot : a.spot = none := by
        obtain ⟨cs', h1⟩ := hx0
        obtain ⟨_, hl, hcell⟩ := World.cells?_some h1
        have := hcell 0 hz
        rw [Nat.zero_mul] at this
        have ha : (a.add 0).add 0 = a := by simp [Addr.add]
        rw [ha, List.getElem?_eq_getElem (by omega)] at this
        unfold World.cell? at this
        cases hsp : a.spot with
        | none => rfl
        | some s =>
          rw [hsp] at this
          split at this <;> simp at this
      obtain ⟨bl, o, sp⟩ := a
      simp only at hspot
      subst hspot
      have build : ∀ k, k ≤ len → ∃ (xs : List (List AI.I)) (vs : List Value), xs.length = k ∧ vs.length = k * z ∧ AI.RepL (KW W) vs xs.flatten ∧ (∀ d ∈ xs, R d) ∧ (∀ d ∈ xs, d.length = z) ∧ ∀ j c, vs[j]? = some c → KW W bl (o + j) = some c := by
        intro k
        induction k with
        | zero => intro _; exact ⟨[], [], rfl, by simp, .nil, by simp, by simp, by simp⟩
        | succ k ih =>
          intro hk
          obtain ⟨xs, vs, h1, h2, h3, h4, h5, h6⟩ := ih (by omega)
          obtain ⟨cs', _, hc1, hc2⟩ := hx k (by omega)
          obtain ⟨_, hl, hcell⟩ := World.cells?_some hc1
          obtain ⟨is, hr, hR⟩ := he f (by omega) cs' _ hc2
          refine ⟨xs ++ [is], vs ++ cs', by simp [h1], by simp [h2, hl, Nat.add_mul], ?_, ?_, ?_, ?_⟩
          · rw [List.flatten_append]
            simpa using repL_app h3 hr
          · intro d hd
            rcases List.mem_append.1 hd with h | h
            · exact h4 d h
            · simp only [List.mem_singleton] at h
              subst h
              exact hR
          · intro d hd
            rcases List.mem_append.1 hd with h | h
            · exact h5 d h
            · simp only [List.mem_singleton] at h
              subst h
              rw [← hr.length, hl]
          · intro j c hj
            rw [List.getElem?_append] at hj
            split at hj
            · exact h6 j c hj
            · rename_i hge
              have hlt : j - vs.length < cs'.length := (List.getElem?_eq_some_iff.1 hj).1
              have := hcell (j - vs.length) (by omega)
              rw [hj] at this
              unfold KW
              rw [← this]
              have e : ((⟨bl, o, none⟩ : Addr).add (k * z)).add (j - vs.length) = ⟨bl, o + j, none⟩ := by
                have e1 : (⟨bl, o, none⟩ : Addr).add (k * z) = ⟨bl, o + k * z, none⟩ := by unfold Addr.add; split <;> simp_all
                rw [e1]
                unfold Addr.add
                split
                · simp <;> omega
                · simp <;> omega
              rw [e]
      obtain ⟨xs, vs, h1, h2, h3, h4, h5, h6⟩ := build len (Nat.le_refl _)
      refine ⟨[.sl z xs.length xs], .cons ?_ .nil, xs, rfl, h4, by omega⟩
      rw [h1]
      exact .sl h3 h5 h6 hle h1
end
section
variable {H : Type} {enc : TypeId × Value → H} {W : World}
theorem opn_string : Opn enc Tryd.prog W 9 fun is => ∃ s : ByteArray, is = [AI.strI s] ∧ s.size ≤ AI.max63 := by
  intro n cs x h
  obtain ⟨s, rfl, rfl, hs⟩ := DataW.trod_string Tryd.underlying9 h
  exact ⟨[AI.strI s], .cons (.v rfl) .nil, s, rfl, maxLen63 hs⟩
theorem opn_i64 : Opn enc Tryd.prog W 3 fun is => ∃ z, is = [AI.vi z] := by
  intro n cs x h
  obtain ⟨is, hr, z, rfl, _⟩ := opn_int Tryd.underlying3 n cs x h
  exact ⟨_, hr, z, rfl⟩
theorem exOks_of : ∀ {l : List AI.Ex}, (∀ e ∈ l, AI.exOk e) → AI.exOks l
  | [], _ => trivial
  | e :: r, h => ⟨h e (by simp), exOks_of fun x hx => h x (by simp [hx])⟩
theorem opn_exprs {N : Nat} (h : OpnB enc Tryd.prog W N 34 fun is => ∃ e : AI.Ex, is = AI.exI e ∧ AI.exOk e) :
    OpnB enc Tryd.prog W (N + 1) 32 fun is => ∃ l : List AI.Ex, is = [.sl 4 l.length (AI.exIs l)] ∧ l.length ≤ AI.max63 ∧ AI.exOks l := by
  refine (opnB_slice Tryd.underlying32 (z := 4) (by kernel_rfl) (by decide) h).turn ?_
  rintro is ⟨xs, rfl, hx, hl⟩
  obtain ⟨l, rfl, hq⟩ := list_of (f := AI.exI) (Q := AI.exOk) (xs := xs) hx
  exact ⟨l, by rw [AI.exIs_map]; simp, maxLen63 (by simpa using hl), exOks_of hq⟩
theorem opnB_expr : ∀ N, OpnB enc Tryd.prog W N 34 fun is => ∃ e : AI.Ex, is = AI.exI e ∧ AI.exOk e
  | 0 => fun n hn => by omega
  | N + 1 => by
    refine (opnB_struct (Rs := [_, _, _, _]) Tryd.underlying34 (by kernel_rfl) ⟨opn_i64.b N, opn_i64.b N, opn_i64.b N, (opn_exprs (opnB_expr N)).less, trivial⟩).turn ?_
    rintro is ⟨parts, rfl, hp⟩
    match parts, hp with
    | [_, _, _, _], ⟨⟨a, rfl⟩, ⟨b, rfl⟩, ⟨c, rfl⟩, ⟨l, rfl, h1, h2⟩, _⟩ =>
      exact ⟨.mk a b c l, by simp [AI.exI], by simp only [AI.exOk]; exact ⟨h1, h2⟩⟩
theorem opn_expr : Opn enc Tryd.prog W 34 fun is => ∃ e : AI.Ex, is = AI.exI e ∧ AI.exOk e := .ofB opnB_expr
theorem opn_upd : Opn enc Tryd.prog W 92 fun is => ∃ u : AI.Upd, is = AI.updI u ∧ AI.exOk u.x := by
  refine .ofB fun N => OpnB.less ?_
  refine (opnB_struct (Rs := [_, _]) Tryd.underlying92 (by kernel_rfl) ⟨opn_i64.b N, opn_expr.b N, trivial⟩).turn ?_
  rintro is ⟨parts, rfl, hp⟩
  match parts, hp with
  | [_, _], ⟨⟨a, rfl⟩, ⟨e, rfl, h⟩, _⟩ => exact ⟨⟨a, e⟩, by simp [AI.updI, AI.exI_eq], h⟩
theorem opn_upds : Opn enc Tryd.prog W 36 fun is => ∃ l : List AI.Upd, is = [.sl 5 l.length (l.map AI.updI)] ∧ l.length ≤ AI.max63 ∧ ∀ u ∈ l, AI.exOk u.x := by
  intro n cs x h
  obtain ⟨is, hr, xs, rfl, hx, hl⟩ := opn_slice Tryd.underlying36 (z := 5) (by kernel_rfl) (by decide) opn_upd n cs x h
  obtain ⟨l, rfl, hq⟩ := list_of (f := fun u => AI.updI u) (Q := fun u => AI.exOk u.x) (xs := xs) hx
  exact ⟨_, hr, l, by simp, maxLen63 (by simpa using hl), hq⟩
theorem opn_mv : Opn enc Tryd.prog W 38 fun is => ∃ x : AI.Mv, is = AI.mvI x ∧ AI.mvOk x := by
  refine .ofB fun N => OpnB.less ?_
  refine (opnB_struct (Rs := [_, _, _, _, _]) Tryd.underlying38 (by kernel_rfl) ⟨opn_i64.b N, opn_i64.b N, opn_i64.b N, opn_expr.b N, opn_upds.b N, trivial⟩).turn ?_
  rintro is ⟨parts, rfl, hp⟩
  match parts, hp with
  | [_, _, _, _, _], ⟨⟨a, rfl⟩, ⟨b, rfl⟩, ⟨c, rfl⟩, ⟨e, rfl, h⟩, ⟨l, rfl, h1, h2⟩, _⟩ => exact ⟨⟨a, b, c, e, l⟩, by simp [AI.mvI, AI.exI_eq], h, h1, h2⟩
theorem opn_mvs : Opn enc Tryd.prog W 26 fun is => ∃ l : List AI.Mv, is = [.sl 8 l.length (l.map AI.mvI)] ∧ l.length ≤ AI.max63 ∧ ∀ x ∈ l, AI.mvOk x := by
  intro n cs x h
  obtain ⟨is, hr, xs, rfl, hx, hl⟩ := opn_slice Tryd.underlying26 (z := 8) (by kernel_rfl) (by decide) opn_mv n cs x h
  obtain ⟨l, rfl, hq⟩ := list_of (f := fun u => AI.mvI u) (Q := AI.mvOk) (xs := xs) hx
  exact ⟨_, hr, l, by simp, maxLen63 (by simpa using hl), hq⟩
theorem opn_vr : Opn enc Tryd.prog W 31 fun is => ∃ v : AI.Vr, is = AI.vrI v ∧ v.name.size ≤ AI.max63 := by
  refine .ofB fun N => OpnB.less ?_
  refine (opnB_struct (Rs := [_, _, _, _]) Tryd.underlying31 (by kernel_rfl) ⟨opn_string.b N, opn_i64.b N, opn_i64.b N, opn_i64.b N, trivial⟩).turn ?_
  rintro is ⟨parts, rfl, hp⟩
  match parts, hp with
  | [_, _, _, _], ⟨⟨s, rfl, h⟩, ⟨a, rfl⟩, ⟨b, rfl⟩, ⟨c, rfl⟩, _⟩ => exact ⟨⟨s, a, b, c⟩, by simp, h⟩
theorem opn_vrs : Opn enc Tryd.prog W 25 fun is => ∃ l : List AI.Vr, is = [.sl 4 l.length (l.map AI.vrI)] ∧ l.length ≤ AI.max63 ∧ ∀ v ∈ l, v.name.size ≤ AI.max63 := by
  intro n cs x h
  obtain ⟨is, hr, xs, rfl, hx, hl⟩ := opn_slice Tryd.underlying25 (z := 4) (by kernel_rfl) (by decide) opn_vr n cs x h
  obtain ⟨l, rfl, hq⟩ := list_of (f := fun u => AI.vrI u) (Q := fun v => v.name.size ≤ AI.max63) (xs := xs) hx
  exact ⟨_, hr, l, by simp, maxLen63 (by simpa using hl), hq⟩
theorem opn_ext : Opn enc Tryd.prog W 28 fun is => ∃ m : AI.Ext, is = [AI.intsI m.alpha, AI.vi m.locs, AI.vi m.init, AI.intsI m.marked, AI.vrsI m.vars, .sl 8 m.moves.length (m.moves.map AI.mvI)] ∧ AI.extOk m := by
  refine .ofB fun N => OpnB.less ?_
  refine (opnB_struct (Rs := [_, _, _, _, _, _]) Tryd.underlying28 (by kernel_rfl) ⟨opn_ints.b N, opn_i64.b N, opn_i64.b N, opn_ints.b N, opn_vrs.b N, opn_mvs.b N, trivial⟩).turn ?_
  rintro is ⟨parts, rfl, hp⟩
  match parts, hp with
  | [_, _, _, _, _, _], ⟨⟨a, rfl, h1⟩, ⟨b, rfl⟩, ⟨c, rfl⟩, ⟨d, rfl, h2⟩, ⟨v, rfl, h3, h4⟩, ⟨l, rfl, h5, h6⟩, _⟩ => exact ⟨⟨a, b, c, d, v, l⟩, by simp, h1, h2, h3, h4, h5, h6⟩
/-- An extended automaton, by value. -/
theorem open_ext {r : Reach} {b0 : Nat} {v : Value} {d : DataW H} {p : List MemPlace} (hv : Value.okWide Tryd.prog W r b0 28 v) (h : DataW.Trod enc Tryd.prog W 0 (fun _ => true) true 28 v d p) :
    ∃ m : AI.Ext, AI.extOk m ∧ ∀ ρ sh, AI.RepD (KW W) ρ sh v (AI.extD m) := by
  obtain ⟨cs, rfl, _⟩ := okWide_struct Tryd.underlying28 hv
  obtain ⟨n, hn⟩ := h
  obtain ⟨is, hr, m, rfl, hm⟩ := opn_ext n _ _ hn
  refine ⟨m, hm, fun ρ sh => ?_⟩
  have := AI.RepD.agg (AI.RepDL.ofL (ρ := ρ) (sh := sh) hr)
  simpa [Value.cells] using this
end
end Go.Proofs.YtbknncolmohdlaaDoor

namespace Go.AI
open Go.Proofs
set_option maxRecDepth 20000
theorem decDigits_len : ∀ (k u : Nat), u < 10 ^ (k + 1) → (Lib.decDigits u).length ≤ k + 1
  | 0, u, h => by
    unfold Lib.decDigits
    rw [dif_pos (by omega)]
    simp
  | k + 1, u, h => by
    unfold Lib.decDigits
    split
    · simp
    · rw [List.length_append]
      have := decDigits_len k (u / 10) (by rw [Nat.pow_succ] at h; omega)
      simp only [List.length_cons, List.length_nil]
      omega
theorem itoaB_size {n : Int} (h0 : -9223372036854775808 ≤ n) (h1 : n ≤ 9223372036854775807) : (itoaB n).size ≤ 21 := by
  show (Lib.itoa n).toArray.size ≤ 21
  simp only [List.size_toArray]
  unfold Lib.itoa
  split
  · have := decDigits_len 19 n.natAbs (by omega)
    simp only [List.length_cons]
    omega
  · have := decDigits_len 19 n.toNat (by omega)
    omega
def spaceB : ByteArray := ⟨#[32]⟩
/-- The text of a state. -/
def keyS (loc : Int) (vals : List Int) : ByteArray := vals.foldl (fun b n => b ++ (spaceB ++ itoaB n)) (itoaB loc)
abbrev i64B (n : Int) : Prop := -9223372036854775808 ≤ n ∧ n ≤ 9223372036854775807
theorem key63 {g : Nat} (hg : IsTab g) {ty : TypeId} {fr : Nat × Nat} (O : List Heap) (s : Sta) (hl : i64B s.loc) (hv : ∀ v ∈ s.vals, i64B v) (hn : s.vals.length ≤ 16) : ASpecT g (ptab ty fr) Tryd.prog 63 [staD s] O (.i (.v (.string (keyS s.loc s.vals)))) [] O := by
  obtain ⟨loc, vals⟩ := s
  simp only at hl hv hn
  refine aspecT_stop [] TrydT_ok Tryd.func63 rfl Tryd.call63 Tryd.ntmps63 (Nat.le_of_ble_eq_true rfl) fun E hE => ?_
  refine g_run TrydT_ok Tryd.func63 ?_
  refine g_callT TrydT_ok Tryd.func63 hE (itoa79 hg _ loc hl.1 hl.2) rfl rfl rfl rfl rfl rfl ?_
  refine g_loop ?_
  have hsz := itoaB_size hl.1 hl.2
  refine rch_loop2 (fun x : Nat × ByteArray => [(3, .i (.v (.string x.2))), (10, ints vals), (11, ii vals.length), (12, ii x.1)]) (fun _ => []) (fun _ => O) 23
    (fun x => x.1 ≤ vals.length ∧ x.2.size ≤ 22 * (x.1 + 1) ∧ keyS loc vals = (vals.drop x.1).foldl (fun b n => b ++ (spaceB ++ itoaB n)) x.2) (fun x => vals.length - x.1) (0, itoaB loc) ⟨Nat.zero_le _, by simp only; omega, rfl⟩ ⟨rfl, rfl, rfl, rfl, trivial⟩ rfl trivial rfl rfl ?_
  rintro ⟨i, b⟩ ⟨hi, hb, hno⟩ ih
  simp only at hi hb hno
  refine g_run TrydT_ok Tryd.func63 ?_
  first | refine g_cnd TrydT_ok Tryd.func63 rfl (fun h1 => ?_) (fun h1 => ?_) | refine g_know TrydT_ok Tryd.func63 rfl (fun h1 => ?_) (fun h1 => ?_) | refine s_know TrydT_ok (fun h1 => ?_) (fun h1 => ?_)
  · have h1 : i < vals.length := by simpa using h1
    have hd : vals.drop i = vals[i] :: vals.drop (i + 1) := List.drop_eq_getElem_cons h1
    have hm := hv _ (List.getElem_mem h1)
    have hgi : (vals.map fun x => [vi x])[(i : Int).toNat]? = some [vi vals[i]] := get_mapZ (f := fun x => [vi x]) h1
    generalize vals[i] = n at hd hm hgi
    have hs2 := itoaB_size hm.1 hm.2
    have hs3 : (spaceB ++ itoaB n).size = 1 + (itoaB n).size := ByteArray.size_append
    first | refine g_need TrydT_ok Tryd.func63 (by omega) ?_ | refine s_need TrydT_ok (by omega) ?_
    first | refine g_elem TrydT_ok Tryd.func63 (hgi) ?_ | refine s_elem TrydT_ok (hgi) ?_
    refine g_callT TrydT_ok Tryd.func63 hE (itoa79 hg _ n hm.1 hm.2) rfl rfl rfl rfl rfl rfl ?_
    first | refine g_need TrydT_ok Tryd.func63 (by show 1 + (itoaB n).size ≤ _; omega) ?_ | refine s_need TrydT_ok (by show 1 + (itoaB n).size ≤ _; omega) ?_
    first | refine g_need TrydT_ok Tryd.func63 (by show b.size + (spaceB ++ itoaB n).size ≤ _; omega) ?_ | refine s_need TrydT_ok (by show b.size + (spaceB ++ itoaB n).size ≤ _; omega) ?_
    refine g_loop ?_
    refine ih (i + 1, b ++ (spaceB ++ itoaB n)) _ _ ⟨h1, ?_, ?_⟩ (by simp only; omega) ⟨rfl, rfl, rfl, congrArg ii (wsucc (n := 16) (by omega) (by decide)), trivial⟩ rfl trivial rfl rfl
    · show (b ++ (spaceB ++ itoaB n)).size ≤ 22 * (i + 1 + 1)
      rw [ByteArray.size_append]
      omega
    · rw [hno, hd]
      rfl
  · have h1 : vals.length ≤ i := by simpa using h1
    rw [List.drop_eq_nil_of_le h1] at hno
    simp only [List.foldl_nil] at hno
    rw [hno]
    refine g_ret TrydT_ok (r := .i (.v (.string b))) rfl rfl rfl trivial rfl rfl ?_
    rfl
end Go.AI

/- Another name for one object among others. -/
namespace Go.AI
def renH (a b : Nat) : Heap → Heap
  | [] => []
  | (k, o) :: r => (renN a b k, o) :: renH a b r
theorem renN_self (a b : Nat) : renN a b a = b := by simp [renN]
theorem renN_ne {a b n : Nat} (h : n ≠ a) : renN a b n = n := by
  unfold renN
  cases hb : Nat.beq n a with
  | false => rfl
  | true => exact absurd (Nat.eq_of_beq_eq_true hb) h
theorem look_renH {a b n : Nat} {o : Ob} : ∀ {H : Heap}, look H b = none → look (renH a b H) n = some o → ∃ n0, n = renN a b n0 ∧ look H n0 = some o
  | [], _, h => by simp [renH, look] at h
  | (k, x) :: r, hb, h => by
    rw [look_cons] at hb
    split at hb
    · cases hb
    · rename_i hkb
      simp only [renH] at h
      rw [look_cons] at h
      split at h
      · rename_i e
        simp only [Option.some.injEq] at h
        subst h
        exact ⟨k, e.symm, by rw [look_cons, if_pos rfl]⟩
      · rename_i e
        obtain ⟨n0, h1, h2⟩ := look_renH hb h
        refine ⟨n0, h1, ?_⟩
        rw [look_cons, if_neg]
        · exact h2
        · intro e2
          subst e2
          exact e h1.symm
theorem look_renH' {a b n0 : Nat} {o : Ob} : ∀ {H : Heap}, look H b = none → look H n0 = some o → look (renH a b H) (renN a b n0) = some o
  | [], _, h => by simp [look] at h
  | (k, x) :: r, hb, h => by
    rw [look_cons] at hb
    split at hb
    · cases hb
    · rename_i hkb
      rw [look_cons] at h
      simp only [renH]
      rw [look_cons]
      split at h
      · rename_i e
        subst e
        rw [if_pos rfl]; exact h
      · rename_i e
        rw [if_neg]
        · exact look_renH' hb h
        · intro e2
          by_cases h1 : k = a
          · subst h1
            rw [renN_self, renN_ne (Ne.symm e)] at e2
            subst e2
            rw [hb] at h; cases h
          · rw [renN_ne h1] at e2
            by_cases h2 : n0 = a
            · subst h2; rw [renN_self] at e2; exact hkb e2
            · rw [renN_ne h2] at e2; exact e e2
section
variable {c : Cx} {s : St} {H : Heap} {O : List Heap}
theorem wk_ren (a b : Nat) (hS : s.S = H :: O) (hb : look H b = none) (hfl : allH (fun _ o => o.flat) H = true) : Wk c s { σ := renσ a b s.σ, S := renH a b H :: O, n := s.n } := by
  intro K ρ act w hi
  have hh := hi.h
  rw [hS] at hh
  let ρ' : Nat → Nat → Loc := upd ρ b (ρ 0 a)
  have hρ : ∀ n0 o, look H n0 = some o → ρ' 0 (renN a b n0) = ρ 0 n0 := by
    intro n0 o h
    by_cases h1 : n0 = a
    · subst h1; rw [renN_self]; exact upd_same _ _ _
    · rw [renN_ne h1]
      exact upd_other _ _ _ (.inr fun e => by subst e; rw [hb] at h; cases h)
  have r1 : ∀ d n, ρ' (d + 1) n = ρ (d + 1) n := fun d n => upd_other _ _ _ (.inl (by omega))
  have hren : Ren a b ρ ρ' (shape (H :: O)) (shape (renH a b H :: O)) := by
    refine ⟨fun n x e => ?_, fun d n x e => ⟨by simpa [shape, objAt] using e, r1 d n⟩⟩
    simp only [shape, objAt, List.getElem?_cons_zero] at e ⊢
    cases hl : look H n with
    | none => simp [hl] at e
    | some o =>
      rw [look_renH' hb hl]
      exact ⟨by simpa [hl] using e, hρ _ _ hl⟩
  have hmv : Moves (fun _ => false) K K ρ ρ' (shape (H :: O)) (shape (renH a b H :: O)) := ⟨K.le_refl, fun _ _ h => (by cases h), hren.s⟩
  have hcase : ∀ d n o, objAt (renH a b H :: O) d n = some o → ∃ n0, objAt (H :: O) d n0 = some o ∧ ρ' d n = ρ d n0 ∧ (d = 0 → n = renN a b n0) ∧ (d ≠ 0 → n = n0) := by
    intro d n o e
    cases d with
    | zero =>
      obtain ⟨n0, rfl, h2⟩ := look_renH hb (by simpa [objAt] using e)
      exact ⟨n0, by simpa [objAt] using h2, hρ _ _ h2, fun _ => rfl, fun h => absurd rfl h⟩
    | succ d => exact ⟨n, by simpa [objAt] using e, r1 _ _, fun h => absurd h (Nat.succ_ne_zero d), fun _ => rfl⟩
  have e0 : ∀ f : Nat → Nat → Loc, (fun d n => f (0 + d) n) = f := by intro f; funext d n; rw [Nat.zero_add]
  refine ⟨K, ρ', ⟨hh.holds, ?_, ?_, hh.size, ?_, ?_, ?_, hh.Kle, hh.Knew, hh.rest⟩, hi.defers, hi.size, fun t d e => ?_⟩
  · intro d n o e
    obtain ⟨n0, h1, h2, h3, h4⟩ := hcase d n o e
    have h0 := hh.own _ _ _ h1
    rw [h2]
    cases d with
    | zero =>
      rw [e0] at h0 ⊢
      have hf : o.flat = true := allH_look hfl (by simpa [objAt] using h1)
      refine h0.move hmv ?_ (fun _ => rfl) (fun _ _ => rfl)
      cases o with
      | box cs => exact hf
      | arr => rfl
      | mp => rfl
    | succ d =>
      have e1 : (fun d' n => ρ' (d + 1 + d') n) = fun d' n => ρ (d + 1 + d') n := by
        funext d' n
        rw [show d + 1 + d' = (d + d') + 1 by omega, r1]
      rw [e1]
      simpa using h0
  · intro d n o d2 n2 o2 e e2 b1 b2 hbe
    obtain ⟨m1, a1, a2, a3, a4⟩ := hcase d n o e
    obtain ⟨m2, c1, c2, c3, c4⟩ := hcase d2 n2 o2 e2
    rw [a2] at b1 hbe
    rw [c2] at b2 hbe
    obtain ⟨rfl, rfl⟩ := hh.inj _ _ _ _ _ _ a1 c1 b1 b2 hbe
    refine ⟨rfl, ?_⟩
    by_cases h : d = 0
    · rw [a3 h, c3 h]
    · rw [a4 h, c4 h]
  · intro b' hb' hno
    refine hh.old b' hb' fun d n o e hbk => ?_
    have := hno d n o (by simpa [objAt] using e) (by rw [r1]; exact hbk)
    rwa [r1] at this
  · intro n o e hbk
    obtain ⟨n0, h1, h2, _⟩ := hcase 0 n o e
    rw [h2] at hbk ⊢
    exact hh.loc _ _ h1 hbk
  · intro d
    funext n
    rw [r1, hh.outer]
  · simp only [look_renσ] at e
    cases hl : look s.σ t with
    | none => simp [hl] at e
    | some d0 =>
      simp only [hl, Option.map_some, Option.some.injEq] at e
      subst e
      have := hi.slots _ _ hl
      rw [hS] at this
      exact this.ren hren
end
end Go.AI

namespace Go.AI
open Go.Proofs
set_option maxRecDepth 20000
theorem within_iff : ∀ {l : List Vr} {xs : List Int}, within l xs = true ↔ xs.length = l.length ∧ ∀ i (h : i < l.length) (h' : i < xs.length), l[i].low ≤ xs[i] ∧ xs[i] ≤ l[i].high
  | [], [] => by simp [within]
  | [], _ :: _ => by simp [within]
  | _ :: _, [] => by simp [within]
  | v :: r, x :: ys => by
    simp only [within, Bool.and_eq_true, decide_eq_true_eq, within_iff (l := r) (xs := ys), List.length_cons, Nat.add_right_cancel_iff]
    constructor
    · rintro ⟨⟨h1, h2⟩, h3, h4⟩
      refine ⟨h3, fun i h h' => ?_⟩
      cases i with
      | zero => exact ⟨h1, h2⟩
      | succ i => exact h4 i (by simpa using h) (by simpa using h')
    · rintro ⟨h3, h4⟩
      exact ⟨h4 0 (by simp) (by simp), h3, fun i h h' => h4 (i + 1) (by simpa using h) (by simpa using h')⟩
theorem within_set {l : List Vr} {xs : List Int} {k : Nat} {n : Int} (h : within l xs = true) (hk : k < l.length) (hn : l[k].low ≤ n ∧ n ≤ l[k].high) : within l (xs.set k n) = true := by
  rw [within_iff] at h ⊢
  refine ⟨by simpa using h.1, fun i hi hi' => ?_⟩
  rw [List.getElem_set]
  split
  · rename_i e; subst e; exact hn
  · exact h.2 i hi (by simpa using hi')
theorem checkVrs_zero {all : List Vr} : ∀ {l : List Vr} {i : Nat}, checkVrs all l i = 0 → ∀ v ∈ l, (-65536 ≤ v.low ∧ v.high ≤ 65536) ∧ v.low ≤ v.init ∧ v.init ≤ v.high
  | [], _, _, v, hv => by simp at hv
  | x :: r, i, h, v, hv => by
    simp only [checkVrs] at h
    split at h
    · rename_i e he
      subst h
      unfold checkVr at he
      split at he; · cases he
      split at he; · cases he
      split at he; · cases he
      split at he; · cases he
      split at he <;> cases he
    · rename_i he
      rcases List.mem_cons.1 hv with rfl | hv
      · unfold checkVr at he
        split at he; · cases he
        split at he; · cases he
        split at he; · cases he
        rename_i h3
        split at he; · cases he
        split at he; · cases he
        rename_i h4 h5
        simp only [checkVr.large, Bool.or_eq_true, decide_eq_true_eq, not_or] at h3
        omega
      · exact checkVrs_zero h v hv
theorem vars_ok {l : List Vr} (h : varsErr l = 0) : ∀ v ∈ l, (-65536 ≤ v.low ∧ v.high ≤ 65536) ∧ v.low ≤ v.init ∧ v.init ≤ v.high := by
  unfold varsErr at h
  split at h
  · cases h
  · exact checkVrs_zero h
/-- A right state. -/
def okS (m : Ext) (s : Sta) : Prop := (0 ≤ s.loc ∧ s.loc < m.locs) ∧ within m.vars s.vals = true
theorem okS_bounds {m : Ext} {s : Sta} (hr : extRight m) (h : okS m s) : i64B s.loc ∧ (∀ v ∈ s.vals, i64B v) ∧ s.vals.length ≤ 16 ∧ s.vals.length = m.vars.length ∧ ∀ v ∈ s.vals, -65536 ≤ v ∧ v ≤ 65536 := by
  obtain ⟨h1, h2⟩ := h
  rw [within_iff] at h2
  have hl := hr.locs
  have hv := vars_len hr.vars
  have hb : ∀ v ∈ s.vals, -65536 ≤ v ∧ v ≤ 65536 := by
    intro v hm
    obtain ⟨i, hi, rfl⟩ := List.getElem_of_mem hm
    have a := h2.2 i (by omega) hi
    have b := vars_ok hr.vars _ (List.getElem_mem (by omega : i < m.vars.length))
    omega
  exact ⟨⟨by omega, by omega⟩, fun v hm => by have := hb v hm; exact ⟨by omega, by omega⟩, by omega, h2.1, hb⟩
theorem start_ok {m : Ext} (hr : extRight m) : okS m (startR m) := by
  refine ⟨hr.init, within_iff.2 ⟨by simp [startR], fun i h h' => ?_⟩⟩
  simp only [startR, List.getElem_map]
  exact (vars_ok hr.vars _ (List.getElem_mem h)).2
theorem updR_ok {m : Ext} {vals : List Int} : ∀ {l : List Upd} {acc out : List Int}, updR m vals l acc = some out → within m.vars acc = true → within m.vars out = true
  | [], acc, out, h, hw => by simp only [updR, Option.some.injEq] at h; subst h; exact hw
  | u :: r, acc, out, h, hw => by
    simp only [updR] at h
    cases hu : m.vars[u.v.toNat]? with
    | none => rw [hu] at h; cases h
    | some v =>
      rw [hu] at h
      simp only at h
      split at h
      · cases h
      · rename_i hc
        have hk : u.v.toNat < m.vars.length := (List.getElem?_eq_some_iff.1 hu).1
        have hkv : m.vars[u.v.toNat] = v := (List.getElem?_eq_some_iff.1 hu).2
        refine updR_ok h (within_set hw hk ?_)
        rw [hkv]
        omega
theorem step_ok {m : Ext} {s : Sta} {ev : Int} (hr : extRight m) (h : okS m s) (hp : (stepR m s ev).2.1 = true) : okS m (stepR m s ev).1 := by
  unfold stepR at hp ⊢
  cases hc : (chs s ev m.moves 0 none false).1 with
  | none => rw [hc] at hp; cases hp
  | some k =>
    rw [hc] at hp
    simp only at hp ⊢
    split at hp
    · cases hp
    · rename_i he
      rw [if_neg he]
      cases hk : m.moves[k]? with
      | none => rw [hk] at hp; cases hp
      | some x =>
        rw [hk] at hp
        simp only at hp ⊢
        cases hu : updR m s.vals x.us s.vals with
        | none => rw [hu] at hp; cases hp
        | some acc =>
          exact ⟨(hr.mv x (List.mem_of_getElem? hk)).to, updR_ok hu h.2⟩
/-- What search has found. -/
structure Srch where
  sts : List Sta
  frm : List (Int × Int)
  flt : Int × Int
  kind : Int
def keyOf (s : Sta) : ByteArray := keyS s.loc s.vals
/-- One event in state i; none where there are too many states. -/
def visit (m : Ext) (i : Nat) (s : Sta) (ev : Int) (S : Srch) : Option Srch :=
  let n := stepR m s ev
  let S1 : Srch := if n.2.2 ≠ 0 ∧ S.kind = 0 then { S with kind := n.2.2, flt := (i, ev) } else S
  if n.2.1 = false ∨ (S.sts.any fun t => keyOf n.1 == keyOf t) = true then some S1 else
  if S.sts.length = 4096 then none else some { S1 with sts := S1.sts ++ [n.1], frm := S1.frm ++ [((i : Int), ev)] }
def visits (m : Ext) (i : Nat) (s : Sta) : List Int → Srch → Option Srch
  | [], S => some S
  | ev :: r, S => match visit m i s ev S with
    | none => none
    | some S' => visits m i s r S'
def searchL (m : Ext) : Nat → Nat → Srch → Option Srch
  | 0, _, S => some S
  | fuel + 1, i, S => match S.sts[i]? with
    | none => some S
    | some s => match visits m i s m.alpha S with
      | none => none
      | some S' => searchL m fuel (i + 1) S'
def search0 (m : Ext) : Srch := ⟨[startR m], [(-1, -1)], (-1, -1), 0⟩
def searchR (m : Ext) : Option Srch := searchL m 4097 0 (search0 m)
abbrev ostas (l : List Sta) : Ob := .arr 55 2 l.length (l.map staI) true
abbrev pairI (p : Int × Int) : List I := [vi p.1, vi p.2]
abbrev opairs (l : List (Int × Int)) : Ob := .arr 95 2 l.length (l.map pairI) true
abbrev keysM (l : List Sta) : MC := .b (l.map fun s => (.string (keyOf s), true))
theorem keys_get {l : List Sta} {b : ByteArray} : mgetB (l.map fun s => (.string (keyOf s), true)) (.string b) = l.any fun s => b == keyOf s := by
  unfold mgetB
  induction l with
  | nil => rfl
  | cons s r ih =>
    simp only [List.map_cons, mlook, keyB, List.any_cons]
    cases h : b == keyOf s with
    | true => rfl
    | false => simpa using ih
theorem keys_set {l : List Sta} {s : Sta} (h : (l.any fun t => keyOf s == keyOf t) = false) : mset (l.map fun s => (Value.string (keyOf s), true)) (.string (keyOf s)) true = (l ++ [s]).map fun s => (Value.string (keyOf s), true) := by
  induction l with
  | nil => rfl
  | cons t r ih =>
    simp only [List.any_cons, Bool.or_eq_false_iff] at h
    simp only [List.map_cons, mset, keyB, h.1, cond_false, List.cons_append]
    rw [ih h.2]
end Go.AI

namespace Go.AI
open Go.Proofs
set_option maxRecDepth 20000
theorem visit_len {m : Ext} {i : Nat} {s : Sta} {ev : Int} {S S' : Srch} (h : visit m i s ev S = some S') (hl : S.sts.length ≤ 4096) : S'.sts.length ≤ 4096 ∧ S.sts.length ≤ S'.sts.length ∧ ∀ k (hk : k < S.sts.length), S'.sts[k]? = S.sts[k]? := by
  unfold visit at h
  simp only at h
  split at h
  · simp only [Option.some.injEq] at h
    subst h
    split <;> exact ⟨hl, Nat.le_refl _, fun _ _ => rfl⟩
  · split at h
    · cases h
    · simp only [Option.some.injEq] at h
      subst h
      have : (if (stepR m s ev).2.2 ≠ 0 ∧ S.kind = 0 then { S with kind := (stepR m s ev).2.2, flt := ((i : Int), ev) } else S).sts = S.sts := by split <;> rfl
      simp only [this, List.length_append, List.length_cons, List.length_nil]
      refine ⟨by omega, by omega, fun k hk => ?_⟩
      rw [List.getElem?_append_left hk]
/-- What the loops know of what was found. -/
structure Good (m : Ext) (S : Srch) : Prop where
  len : S.sts.length ≤ 4096
  ok : ∀ s ∈ S.sts, okS m s
  fl : S.frm.length = S.sts.length
theorem visit_good {m : Ext} (hr : extRight m) {i : Nat} {s : Sta} {ev : Int} {S S' : Srch} (h : visit m i s ev S = some S') (hg : Good m S) (hs : okS m s) : Good m S' := by
  have hl := visit_len h hg.len
  unfold visit at h
  simp only at h
  split at h
  · simp only [Option.some.injEq] at h
    subst h
    split <;> exact ⟨hg.len, hg.ok, hg.fl⟩
  · rename_i hc
    split at h
    · cases h
    · simp only [Option.some.injEq] at h
      subst h
      have e1 : (if (stepR m s ev).2.2 ≠ 0 ∧ S.kind = 0 then { S with kind := (stepR m s ev).2.2, flt := ((i : Int), ev) } else S).sts = S.sts := by split <;> rfl
      have e2 : (if (stepR m s ev).2.2 ≠ 0 ∧ S.kind = 0 then { S with kind := (stepR m s ev).2.2, flt := ((i : Int), ev) } else S).frm = S.frm := by split <;> rfl
      simp only [not_or] at hc
      refine ⟨hl.1, fun t ht => ?_, by simp [e1, e2, hg.fl]⟩
      simp only [e1, List.mem_append, List.mem_singleton] at ht
      rcases ht with ht | rfl
      · exact hg.ok t ht
      · exact step_ok hr hs (by simpa using hc.1)
theorem searchL_done {m : Ext} {S : Srch} {i : Nat} (h : S.sts.length ≤ i) : ∀ k, searchL m k i S = some S
  | 0 => rfl
  | k + 1 => by simp only [searchL, List.getElem?_eq_none h]
theorem ostas_app (l : List Sta) (s : Sta) : Ob.arr 55 2 (l.length + 1) (l.map staI ++ [staI s]) true = ostas (l ++ [s]) := by simp
theorem opairs_app (l : List (Int × Int)) (p : Int × Int) : Ob.arr 95 2 (l.length + 1) (l.map pairI ++ [pairI p]) true = opairs (l ++ [p]) := by simp
theorem search43 {g : Nat} (hg : IsTab g) {ty : TypeId} {fr : Nat × Nat} (O : List Heap) (m : Ext) (hok : extOk m) (hr : extRight m) {R : D} (hR : R = match searchR m with
      | none => .tup [.i (.sl 2 0 []), .i (.sl 2 0 []), .agg [ii 0, ii 0], ii 0, ii 3]
      | some S => .tup [.i (.sl 2 S.sts.length (S.sts.map staI)), .i (.sl 2 S.frm.length (S.frm.map pairI)), .agg [ii S.flt.1, ii S.flt.2], ii S.kind, ii 0]) :
    ASpecT g (ptab ty fr) Tryd.prog 43 [extD m] O R [] O := by
  have hst := start_ok hr
  have hv16 := vars_len hr.vars
  have hal := hok.al
  have hsb := okS_bounds hr hst
  refine aspecT_stop [12] TrydT_ok Tryd.func43 rfl Tryd.call43 Tryd.ntmps43 (Nat.le_of_ble_eq_true rfl) fun E hE => ?_
  refine g_run TrydT_ok Tryd.func43 ?_
  first | refine g_call TrydT_ok Tryd.func43 (start48 _ m hv16) rfl rfl rfl rfl rfl ?_ | refine s_callq TrydT_ok (fun _ => start48 _ m hv16) rfl rfl rfl ?_
  first | refine g_need TrydT_ok Tryd.func43 (by simp) ?_ | refine s_need TrydT_ok (by simp) ?_
  first | refine g_elem TrydT_ok Tryd.func43 (rfl) ?_ | refine s_elem TrydT_ok (rfl) ?_
  refine g_callT TrydT_ok Tryd.func43 hE (key63 hg _ (startR m) hsb.1 hsb.2.1 hsb.2.2.1) rfl rfl rfl rfl rfl rfl ?_
  refine g_loop ?_
  refine rch_wk (wk_ren 16 78 rfl rfl rfl) ?_
  refine rch_wk (wk_ren 18 84 rfl rfl rfl) ?_
  refine rch_loop2 (fun x : Nat × Srch => [(1, .own 0 1 0 0), (2, .osl 0 78), (3, .osl 0 84), (4, .own 0 4 0 0), (5, ii x.2.kind), (6, ii 0), (7, .osl 0 20), (8, ii x.1)])
    (fun x => [(78, ostas x.2.sts), (84, opairs x.2.frm), (20, .mp .str (keysM x.2.sts)), (4, .box [ii x.2.flt.1, ii x.2.flt.2]), (1, .box (extC m))]) (fun _ => O) 90
    (fun x => x.1 ≤ x.2.sts.length ∧ Good m x.2 ∧ searchR m = searchL m (4097 - x.1) x.1 x.2) (fun x => 4097 - x.1) (0, search0 m)
    ⟨Nat.zero_le _, ⟨by simp [search0], fun s hs => by simp only [search0, List.mem_singleton] at hs; subst hs; exact hst, rfl⟩, rfl⟩ ⟨rfl, rfl, rfl, rfl, rfl, rfl, rfl, rfl, trivial⟩ rfl ⟨rfl, rfl, rfl, rfl, rfl, trivial⟩ rfl rfl ?_
  rintro ⟨i, S⟩ ⟨hi, hgd, hno⟩ ih
  simp only at hi hgd hno
  refine g_run TrydT_ok Tryd.func43 ?_
  first | refine g_cnd TrydT_ok Tryd.func43 rfl (fun h1 => ?_) (fun h1 => ?_) | refine g_know TrydT_ok Tryd.func43 rfl (fun h1 => ?_) (fun h1 => ?_) | refine s_know TrydT_ok (fun h1 => ?_) (fun h1 => ?_)
  · have h1 : i < S.sts.length := by simpa using h1
    have hsi : S.sts[i]? = some S.sts[i] := List.getElem?_eq_getElem h1
    have hoks := hgd.ok _ (List.getElem_mem h1)
    have hle := hgd.len
    generalize S.sts[i] = si at hsi hoks
    have hno : searchR m = match visits m i si m.alpha S with
        | none => none
        | some S' => searchL m (4097 - (i + 1)) (i + 1) S' := by
      rw [hno, show 4097 - i = (4097 - (i + 1)) + 1 by omega]
      simp only [searchL, hsi]
      all_goals (cases visits m i si m.alpha S <;> rfl)
    refine g_loop ?_
    refine rch_loop2 (fun x : Nat × Srch => [(1, .own 0 1 0 0), (2, .osl 0 78), (3, .osl 0 84), (4, .own 0 4 0 0), (5, ii x.2.kind), (6, ii 0), (7, .osl 0 20), (8, ii i), (33, ints m.alpha), (34, ii m.alpha.length), (35, ii x.1)])
      (fun x => [(78, ostas x.2.sts), (84, opairs x.2.frm), (20, .mp .str (keysM x.2.sts)), (4, .box [ii x.2.flt.1, ii x.2.flt.2]), (1, .box (extC m))]) (fun _ => O) 90
      (fun x => x.1 ≤ m.alpha.length ∧ Good m x.2 ∧ S.sts.length ≤ x.2.sts.length ∧ x.2.sts[i]? = some si ∧ visits m i si m.alpha S = visits m i si (m.alpha.drop x.1) x.2) (fun x => m.alpha.length - x.1) (0, S)
      ⟨Nat.zero_le _, hgd, Nat.le_refl _, hsi, rfl⟩ ⟨rfl, rfl, rfl, rfl, rfl, rfl, rfl, rfl, rfl, rfl, rfl, trivial⟩ rfl ⟨rfl, rfl, rfl, rfl, rfl, trivial⟩ rfl rfl ?_
    rintro ⟨j, S'⟩ ⟨hj, hgd', hmon, hsi', hvis⟩ ih2
    clear hgd
    simp only at hj hgd' hmon hsi' hvis
    refine g_run TrydT_ok Tryd.func43 ?_
    first | refine g_cnd TrydT_ok Tryd.func43 rfl (fun h2 => ?_) (fun h2 => ?_) | refine g_know TrydT_ok Tryd.func43 rfl (fun h2 => ?_) (fun h2 => ?_) | refine s_know TrydT_ok (fun h2 => ?_) (fun h2 => ?_)
    · have h2 : j < m.alpha.length := by simpa using h2
      have hd : m.alpha.drop j = m.alpha[j] :: m.alpha.drop (j + 1) := List.drop_eq_getElem_cons h2
      have hgj : (m.alpha.map fun x => [vi x])[(j : Int).toNat]? = some [vi m.alpha[j]] := get_mapZ (f := fun x => [vi x]) h2
      generalize m.alpha[j] = ev at hd hgj
      have hil : i < S'.sts.length := by omega
      have hgi : (S'.sts.map staI)[(i : Int).toNat]? = some (staI si) := by simp [hsi']
      rw [hd] at hvis
      simp only [visits] at hvis
      have hstep := fun O => step50 O m si ev hok hr (okS_bounds hr hoks).2.2.2.1
      have hsok := fun h => okS_bounds hr (step_ok hr hoks (ev := ev) h)
      have hlen := fun S2 h => visit_len (m := m) (i := i) (s := si) (ev := ev) (S := S') (S' := S2) h hgd'.len
      have hgood := fun S2 h => visit_good hr (i := i) (ev := ev) (S := S') (S' := S2) h hgd' hoks
      unfold visit at hvis hlen hgood
      simp only at hvis hlen hgood
      generalize stepR m si ev = n at *
      obtain ⟨⟨nl, nv⟩, np, ne⟩ := n
      simp only at hvis hlen hgood hstep hsok
      first | refine g_need TrydT_ok Tryd.func43 (by omega) ?_ | refine s_need TrydT_ok (by omega) ?_
      first | refine g_elem TrydT_ok Tryd.func43 (hgj) ?_ | refine s_elem TrydT_ok (hgj) ?_
      refine g_drawn TrydT_ok Tryd.func43 mixedT rfl ?_
      first | refine g_need TrydT_ok Tryd.func43 (by exact ⟨by omega, by show (i : Int) < (S'.sts.length : Int); omega⟩) ?_ | refine s_need TrydT_ok (by exact ⟨by omega, by show (i : Int) < (S'.sts.length : Int); omega⟩) ?_
      first | refine g_elem TrydT_ok Tryd.func43 (hgi) ?_ | refine s_elem TrydT_ok (hgi) ?_
      first | refine g_call TrydT_ok Tryd.func43 (hstep _) rfl rfl rfl rfl rfl ?_ | refine s_callq TrydT_ok (fun _ => hstep _) rfl rfl rfl ?_
      refine s_old TrydT_ok ?_
      refine d_mod TrydT_ok (p := ⟨[], [(11, .box [ii nl, ints nv])], none⟩) rfl rfl rfl ?_
      refine d_done TrydT_ok Tryd.func43 (by kernel_rfl) (GM.h ?_)
      generalize hS1 : (if ne ≠ 0 ∧ S'.kind = 0 then { S' with kind := ne, flt := ((i : Int), ev) } else S') = S1 at hvis hlen hgood
      apply join_q (P := fun p : Int × Int × Int => S1 = ⟨S'.sts, S'.frm, p.2, p.1⟩) (s6 := fun p => { σ := [(1, .own 0 1 0 0), (2, .osl 0 78), (3, .osl 0 84), (4, .own 0 4 0 0), (5, ii p.1), (6, ii 0), (7, .osl 0 20), (8, ii i), (10, ii ev), (11, .own 0 11 0 0), (12, bb np), (33, ints m.alpha), (34, ii m.alpha.length), (35, ii j)], S := [(11, .box [ii nl, ints nv]), (78, ostas S'.sts), (84, opairs S'.frm), (20, .mp .str (keysM S'.sts)), (4, .box [ii p.2.1, ii p.2.2]), (1, .box (extC m))] :: O, n := 90 })
      · intro J
        first | refine g_cnd TrydT_ok Tryd.func43 rfl (fun h3 => ?_) (fun h3 => ?_) | refine g_know TrydT_ok Tryd.func43 rfl (fun h3 => ?_) (fun h3 => ?_) | refine s_know TrydT_ok (fun h3 => ?_) (fun h3 => ?_)
        · have h3 := bneT h3
          first | refine g_cnd TrydT_ok Tryd.func43 rfl (fun h4 => ?_) (fun h4 => ?_) | refine g_know TrydT_ok Tryd.func43 rfl (fun h4 => ?_) (fun h4 => ?_) | refine s_know TrydT_ok (fun h4 => ?_) (fun h4 => ?_)
          · have h4 : S'.kind = 0 := beqT h4
            rw [if_pos ⟨h3, h4⟩] at hS1
            refine g_stop ?_
            refine rch_meet (J (ne, i, ev) hS1.symm) ⟨rfl, rfl, rfl, rfl, rfl, rfl, rfl, rfl, rfl, rfl, rfl, rfl, rfl, rfl, trivial⟩ rfl ⟨rfl, rfl, rfl, rfl, rfl, rfl, trivial⟩ rfl rfl
          · have h4 : S'.kind ≠ 0 := beqF h4
            rw [if_neg (by simp [h4])] at hS1
            refine g_stop ?_
            refine rch_meet (J (S'.kind, S'.flt) hS1.symm) ⟨rfl, rfl, rfl, rfl, rfl, rfl, rfl, rfl, rfl, rfl, rfl, rfl, rfl, rfl, trivial⟩ rfl ⟨rfl, rfl, rfl, rfl, rfl, rfl, trivial⟩ rfl rfl
        · have h3 := bneF h3
          repeat (first | refine g_cnd TrydT_ok Tryd.func43 rfl (fun _ => ?_) (fun h => absurd h (by decide)) | refine g_cnd TrydT_ok Tryd.func43 rfl (fun h => absurd h (by decide)) (fun _ => ?_) | refine g_know TrydT_ok Tryd.func43 rfl (fun _ => ?_) (fun h => absurd h (by decide)) | refine g_know TrydT_ok Tryd.func43 rfl (fun h => absurd h (by decide)) (fun _ => ?_) | refine s_know TrydT_ok (fun _ => ?_) (fun h => absurd h (by decide)) | refine s_know TrydT_ok (fun h => absurd h (by decide)) (fun _ => ?_))
          rw [if_neg (by simp [h3])] at hS1
          refine g_stop ?_
          refine rch_meet (J (S'.kind, S'.flt) hS1.symm) ⟨rfl, rfl, rfl, rfl, rfl, rfl, rfl, rfl, rfl, rfl, rfl, rfl, rfl, rfl, trivial⟩ rfl ⟨rfl, rfl, rfl, rfl, rfl, rfl, trivial⟩ rfl rfl
      · rintro ⟨k1, f1⟩ hS1'
        simp only at hS1'
        subst hS1'
        clear hS1 hstep
        simp only at hvis hlen hgood
        refine g_run TrydT_ok Tryd.func43 ?_
        refine g_go TrydT_ok Tryd.func43 ?_
        first | refine g_cnd TrydT_ok Tryd.func43 rfl (fun h3 => ?_) (fun h3 => ?_) | refine g_know TrydT_ok Tryd.func43 rfl (fun h3 => ?_) (fun h3 => ?_) | refine s_know TrydT_ok (fun h3 => ?_) (fun h3 => ?_)
        · have h3 := notT h3
          subst h3
          rw [if_pos (.inl rfl)] at hvis hlen hgood
          simp only at hvis
          have hgd2 := hgood _ rfl
          repeat (first | refine g_cnd TrydT_ok Tryd.func43 rfl (fun _ => ?_) (fun h => absurd h (by decide)) | refine g_cnd TrydT_ok Tryd.func43 rfl (fun h => absurd h (by decide)) (fun _ => ?_) | refine g_know TrydT_ok Tryd.func43 rfl (fun _ => ?_) (fun h => absurd h (by decide)) | refine g_know TrydT_ok Tryd.func43 rfl (fun h => absurd h (by decide)) (fun _ => ?_) | refine s_know TrydT_ok (fun _ => ?_) (fun h => absurd h (by decide)) | refine s_know TrydT_ok (fun h => absurd h (by decide)) (fun _ => ?_))
          refine g_loop ?_
          refine ih2 (j + 1, ⟨S'.sts, S'.frm, f1, k1⟩) _ _ ⟨h2, hgd2, hmon, hsi', hvis⟩ (by simp only; omega) ⟨rfl, rfl, rfl, rfl, rfl, rfl, rfl, rfl, rfl, rfl, congrArg ii (wsucc h2 hal), trivial⟩ rfl ⟨rfl, rfl, rfl, rfl, rfl, trivial⟩ rfl rfl
        · have h3 := notF h3
          subst h3
          have hkb := hsok rfl
          refine g_callT TrydT_ok Tryd.func43 hE (key63 hg _ ⟨nl, nv⟩ hkb.1 hkb.2.1 hkb.2.2.1) rfl rfl rfl rfl rfl rfl ?_
          first | refine g_cnd TrydT_ok Tryd.func43 rfl (fun h4 => ?_) (fun h4 => ?_) | refine g_know TrydT_ok Tryd.func43 rfl (fun h4 => ?_) (fun h4 => ?_) | refine s_know TrydT_ok (fun h4 => ?_) (fun h4 => ?_)
          · have h4 : (S'.sts.any fun t => keyOf ⟨nl, nv⟩ == keyOf t) = true := keys_get.symm.trans h4
            rw [if_pos (.inr h4)] at hvis hlen hgood
            simp only at hvis
            have hgd2 := hgood _ rfl
            refine g_loop ?_
            refine ih2 (j + 1, ⟨S'.sts, S'.frm, f1, k1⟩) _ _ ⟨h2, hgd2, hmon, hsi', hvis⟩ (by simp only; omega) ⟨rfl, rfl, rfl, rfl, rfl, rfl, rfl, rfl, rfl, rfl, congrArg ii (wsucc h2 hal), trivial⟩ rfl ⟨rfl, rfl, rfl, rfl, rfl, trivial⟩ rfl rfl
          · have h4 : (S'.sts.any fun t => keyOf ⟨nl, nv⟩ == keyOf t) = false := keys_get.symm.trans h4
            rw [if_neg (by simp [h4])] at hvis hlen hgood
            first | refine g_cnd TrydT_ok Tryd.func43 rfl (fun h5 => ?_) (fun h5 => ?_) | refine g_know TrydT_ok Tryd.func43 rfl (fun h5 => ?_) (fun h5 => ?_) | refine s_know TrydT_ok (fun h5 => ?_) (fun h5 => ?_)
            · have h5 : S'.sts.length = 4096 := by have := beqT h5; omega
              rw [if_pos h5] at hvis
              simp only at hvis
              rw [hvis] at hno
              simp only at hno
              rw [hno] at hR
              simp only at hR
              subst hR
              refine g_ret_co TrydT_ok (r := .tup [.i (.v (.slice none 0 0)), .i (.v (.slice none 0 0)), .agg [ii 0, ii 0], ii 0, ii 3]) rfl rfl rfl trivial rfl rfl ?_
              exact coD_tup (.cons (coD_i coI_nil) (.cons (coD_i coI_nil) (CoDL.refl _)))
            · have h5 : ¬ S'.sts.length = 4096 := by have := beqF h5; omega
              rw [if_neg h5] at hvis hlen hgood
              simp only at hvis
              have hgd2 := hgood _ rfl
              have hln2 := hlen _ rfl
              refine g_callT TrydT_ok Tryd.func43 hE (key63 hg _ ⟨nl, nv⟩ hkb.1 hkb.2.1 hkb.2.2.1) rfl rfl rfl rfl rfl rfl ?_
              have hl1 := hgd'.len
              have hl2 := hgd'.fl
              first | refine g_need TrydT_ok Tryd.func43 (by exact ⟨by show (S'.sts.length + 1) * 32 ≤ 140737488355328; omega, by show S'.sts.length + 1 ≤ 9223372036854775807; omega⟩) ?_ | refine s_need TrydT_ok (by exact ⟨by show (S'.sts.length + 1) * 32 ≤ 140737488355328; omega, by show S'.sts.length + 1 ≤ 9223372036854775807; omega⟩) ?_
              first | refine g_need TrydT_ok Tryd.func43 (by exact ⟨by show (S'.frm.length + 1) * 16 ≤ 140737488355328; omega, by show S'.frm.length + 1 ≤ 9223372036854775807; omega⟩) ?_ | refine s_need TrydT_ok (by exact ⟨by show (S'.frm.length + 1) * 16 ≤ 140737488355328; omega, by show S'.frm.length + 1 ≤ 9223372036854775807; omega⟩) ?_
              refine g_loop ?_
              refine ih2 (j + 1, ⟨S'.sts ++ [(⟨nl, nv⟩ : Sta)], S'.frm ++ [((i : Int), ev)], f1, k1⟩) _ _ ⟨h2, hgd2, by have := hln2.2.1; simp only at this ⊢; omega, ?_, hvis⟩ (by simp only; omega) ⟨rfl, rfl, rfl, rfl, rfl, rfl, rfl, rfl, rfl, rfl, congrArg ii (wsucc h2 hal), trivial⟩ rfl ⟨congrArg some (ostas_app S'.sts (⟨nl, nv⟩ : Sta)), congrArg some (opairs_app S'.frm ((i : Int), ev)), congrArg (fun l => some (Ob.mp .str (.b l))) (keys_set (l := S'.sts) (s := (⟨nl, nv⟩ : Sta)) h4), rfl, rfl, trivial⟩ rfl rfl
              have := hln2.2.2 i (by omega)
              exact this.trans hsi'
    · have h2 : m.alpha.length ≤ j := by simpa using h2
      rw [List.drop_eq_nil_of_le h2] at hvis
      simp only [visits] at hvis
      rw [hvis] at hno
      simp only at hno
      refine g_loop ?_
      refine ih (i + 1, S') _ _ ⟨by simp only; omega, hgd', hno⟩ (by simp only; omega) ⟨rfl, rfl, rfl, rfl, rfl, rfl, rfl, congrArg ii (wsucc h1 (by simp only [max63]; omega)), trivial⟩ rfl ⟨rfl, rfl, rfl, rfl, rfl, trivial⟩ rfl rfl
  · have h1 : S.sts.length ≤ i := by simpa using h1
    rw [searchL_done h1] at hno
    rw [hno] at hR
    simp only at hR
    subst hR
    refine g_drawn TrydT_ok Tryd.func43 mixedT rfl ?_
    refine s_old TrydT_ok ?_
    refine d_mod TrydT_ok (p := ⟨[], [(4, .box [ii S.flt.1, ii S.flt.2])], none⟩) rfl rfl rfl ?_
    refine d_done TrydT_ok Tryd.func43 (by kernel_rfl) (GM.h ?_)
    refine g_rwk (wk_freeze 78 rfl rfl) ?_
    refine g_rwk (wk_freeze 84 rfl rfl) ?_
    refine g_ret TrydT_ok (r := .tup [.i (.sl 2 S.sts.length (S.sts.map staI)), .i (.sl 2 S.frm.length (S.frm.map pairI)), .agg [ii S.flt.1, ii S.flt.2], ii S.kind, ii 0]) rfl rfl rfl trivial rfl rfl ?_
    rfl
end Go.AI

namespace Go.AI
open Go.Proofs
set_option maxRecDepth 20000
abbrev stasD (l : List Sta) : D := .i (.sl 2 l.length (l.map staI))
/-- Reach. -/
def reachR (m : Ext) : List Sta × Int := if chk m ≠ 0 then ([], chk m) else match searchR m with
  | none => ([], 3)
  | some S => (S.sts, 0)
theorem reach14 {g : Nat} (hg : IsTab g) {ty : TypeId} {fr : Nat × Nat} (O : List Heap) (m : Ext) (hok : extOk m) : ASpecT g (ptab ty fr) Tryd.prog 14 [extD m] O (.tup [stasD (reachR m).1, ii (reachR m).2]) [] O := by
  generalize hR : reachR m = R
  unfold reachR at hR
  refine aspecT_stop [] TrydT_ok Tryd.func14 rfl Tryd.call14 Tryd.ntmps14 (Nat.le_of_ble_eq_true rfl) fun E hE => ?_
  refine g_run TrydT_ok Tryd.func14 ?_
  first | refine g_call TrydT_ok Tryd.func14 (check40 _ m hok) rfl rfl rfl rfl rfl ?_ | refine s_callq TrydT_ok (fun _ => check40 _ m hok) rfl rfl rfl ?_
  first | refine g_cnd TrydT_ok Tryd.func14 rfl (fun h1 => ?_) (fun h1 => ?_) | refine g_know TrydT_ok Tryd.func14 rfl (fun h1 => ?_) (fun h1 => ?_) | refine s_know TrydT_ok (fun h1 => ?_) (fun h1 => ?_)
  · have h1 := bneT h1
    rw [if_pos h1] at hR
    subst hR
    refine g_ret_co TrydT_ok (r := .tup [.i (.v (.slice none 0 0)), ii _]) rfl rfl rfl trivial rfl rfl ?_
    exact coD_tup (.cons (coD_i coI_nil) (CoDL.refl _))
  have h1 := bneF h1
  rw [if_neg (by simpa using h1)] at hR
  cases hs : searchR m with
  | none =>
    rw [hs] at hR
    subst hR
    have hsp := fun O => search43 hg (ty := ty) (fr := fr) O m hok (chk_right h1) (R := .tup [.i (.sl 2 0 []), .i (.sl 2 0 []), .agg [ii 0, ii 0], ii 0, ii 3]) (by rw [hs])
    refine g_callT TrydT_ok Tryd.func14 hE (hsp _) rfl rfl rfl rfl rfl rfl ?_
    refine g_ret TrydT_ok (r := .tup [.i (.sl 2 0 []), ii 3]) rfl rfl rfl trivial rfl rfl ?_
    rfl
  | some S =>
    rw [hs] at hR
    subst hR
    have hsp := fun O => search43 hg (ty := ty) (fr := fr) O m hok (chk_right h1) (R := .tup [.i (.sl 2 S.sts.length (S.sts.map staI)), .i (.sl 2 S.frm.length (S.frm.map pairI)), .agg [ii S.flt.1, ii S.flt.2], ii S.kind, ii 0]) (by rw [hs])
    refine g_callT TrydT_ok Tryd.func14 hE (hsp _) rfl rfl rfl rfl rfl rfl ?_
    refine g_ret TrydT_ok (r := .tup [.i (.sl 2 S.sts.length (S.sts.map staI)), ii 0]) rfl rfl rfl trivial rfl rfl ?_
    rfl
theorem expr13 (O : List Heap) (op : Int) (l : List Ex) : ASpec Tryd.prog 13 [ii op, exs l] O (.agg [ii op, ii 0, ii 0, exs l]) [] O := by
  refine aspec_intro TrydT_ok Tryd.func13 rfl Tryd.call13 Tryd.ntmps13 (Nat.le_of_ble_eq_true rfl) fun E => ?_
  refine g_run TrydT_ok Tryd.func13 ?_
  refine g_ret TrydT_ok (r := .agg [ii op, ii 0, ii 0, exs l]) rfl rfl rfl trivial rfl rfl ?_
  rfl
theorem expr13n (O : List Heap) (op : Int) (n : Nat) (l : List (List I)) : ASpec Tryd.prog 13 [ii op, .i (.sl 4 n l)] O (.agg [ii op, ii 0, ii 0, .i (.sl 4 n l)]) [] O := by
  refine aspec_intro TrydT_ok Tryd.func13 rfl Tryd.call13 Tryd.ntmps13 (Nat.le_of_ble_eq_true rfl) fun E => ?_
  refine g_run TrydT_ok Tryd.func13 ?_
  refine g_ret TrydT_ok (r := .agg [ii op, ii 0, ii 0, .i (.sl 4 n l)]) rfl rfl rfl trivial rfl rfl ?_
  rfl
/-- The counter of the chapter. -/
def nE : Ex := .mk 1 0 0 []
def kE (n : Int) : Ex := .mk 0 n 0 []
def upMv (guard : Bool) : Mv := ⟨0, 0, 0, if guard then .mk 8 0 0 [nE, kE 2] else trueE, [⟨0, .mk 2 0 0 [nE, kE 1]⟩]⟩
def backMv : Mv := ⟨0, 1, 0, .mk 6 0 0 [nE, kE 2], [⟨0, zeroE⟩]⟩
def nVr (high : Int) : Vr := ⟨⟨#[110]⟩, 0, high, 0⟩
def counterE (guard : Bool) : Ext := ⟨[0, 1], 1, 0, [0], [nVr 2], [upMv guard, backMv]⟩
theorem counter12t (O : List Heap) : ASpec Tryd.prog 12 [bb true] O (extD (counterE true)) [] O := by
  have ht := fun O => true42 O
  refine aspec_intro TrydT_ok Tryd.func12 rfl Tryd.call12 Tryd.ntmps12 (Nat.le_of_ble_eq_true rfl) fun E => ?_
  refine g_run TrydT_ok Tryd.func12 ?_
  refine g_drawn TrydT_ok Tryd.func12 mixedT rfl ?_
  first | refine g_call TrydT_ok Tryd.func12 (ht _) rfl rfl rfl rfl rfl ?_ | refine s_callq TrydT_ok (fun _ => ht _) rfl rfl rfl ?_
  first | refine g_call TrydT_ok Tryd.func12 (expr13n _ 2 2 _) rfl rfl rfl rfl rfl ?_ | refine s_callq TrydT_ok (fun _ => expr13n _ 2 2 _) rfl rfl rfl ?_
  refine s_put TrydT_ok rfl rfl rfl ?_
  refine e_done TrydT_ok Tryd.func12 (by kernel_rfl) ?_
  repeat (first | refine g_cnd TrydT_ok Tryd.func12 rfl (fun _ => ?_) (fun h => absurd h (by decide)) | refine g_cnd TrydT_ok Tryd.func12 rfl (fun h => absurd h (by decide)) (fun _ => ?_) | refine g_know TrydT_ok Tryd.func12 rfl (fun _ => ?_) (fun h => absurd h (by decide)) | refine g_know TrydT_ok Tryd.func12 rfl (fun h => absurd h (by decide)) (fun _ => ?_) | refine s_know TrydT_ok (fun _ => ?_) (fun h => absurd h (by decide)) | refine s_know TrydT_ok (fun h => absurd h (by decide)) (fun _ => ?_))
  first | refine g_call TrydT_ok Tryd.func12 (expr13n _ 8 2 _) rfl rfl rfl rfl rfl ?_ | refine s_callq TrydT_ok (fun _ => expr13n _ 8 2 _) rfl rfl rfl ?_
  first | refine g_call TrydT_ok Tryd.func12 (expr13n _ 6 2 _) rfl rfl rfl rfl rfl ?_ | refine s_callq TrydT_ok (fun _ => expr13n _ 6 2 _) rfl rfl rfl ?_
  refine g_ret_co TrydT_ok (r := _) rfl rfl rfl trivial rfl rfl ?_
  repeat' (first | refine coD_tup ?_ | refine coD_agg ?_ | refine coD_i ?_ | refine CoDL.cons ?_ ?_ | exact CoDL.nil | exact coI_nil | refine coI_sl ?_ | refine CoLL.cons ?_ ?_ | exact CoLL.nil | refine CoL.cons ?_ ?_ | exact CoL.nil | exact CoI.refl _ | exact CoL.refl _ | exact CoLL.refl _ | exact CoDL.refl _ | exact CoD.refl _)
theorem counter12f (O : List Heap) : ASpec Tryd.prog 12 [bb false] O (extD (counterE false)) [] O := by
  have ht := fun O => true42 O
  refine aspec_intro TrydT_ok Tryd.func12 rfl Tryd.call12 Tryd.ntmps12 (Nat.le_of_ble_eq_true rfl) fun E => ?_
  refine g_run TrydT_ok Tryd.func12 ?_
  refine g_drawn TrydT_ok Tryd.func12 mixedT rfl ?_
  first | refine g_call TrydT_ok Tryd.func12 (ht _) rfl rfl rfl rfl rfl ?_ | refine s_callq TrydT_ok (fun _ => ht _) rfl rfl rfl ?_
  first | refine g_call TrydT_ok Tryd.func12 (expr13n _ 2 2 _) rfl rfl rfl rfl rfl ?_ | refine s_callq TrydT_ok (fun _ => expr13n _ 2 2 _) rfl rfl rfl ?_
  refine s_put TrydT_ok rfl rfl rfl ?_
  refine e_done TrydT_ok Tryd.func12 (by kernel_rfl) ?_
  repeat (first | refine g_cnd TrydT_ok Tryd.func12 rfl (fun _ => ?_) (fun h => absurd h (by decide)) | refine g_cnd TrydT_ok Tryd.func12 rfl (fun h => absurd h (by decide)) (fun _ => ?_) | refine g_know TrydT_ok Tryd.func12 rfl (fun _ => ?_) (fun h => absurd h (by decide)) | refine g_know TrydT_ok Tryd.func12 rfl (fun h => absurd h (by decide)) (fun _ => ?_) | refine s_know TrydT_ok (fun _ => ?_) (fun h => absurd h (by decide)) | refine s_know TrydT_ok (fun h => absurd h (by decide)) (fun _ => ?_))
  first | refine g_call TrydT_ok Tryd.func12 (expr13n _ 6 2 _) rfl rfl rfl rfl rfl ?_ | refine s_callq TrydT_ok (fun _ => expr13n _ 6 2 _) rfl rfl rfl ?_
  refine g_ret_co TrydT_ok (r := _) rfl rfl rfl trivial rfl rfl ?_
  repeat' (first | refine coD_tup ?_ | refine coD_agg ?_ | refine coD_i ?_ | refine CoDL.cons ?_ ?_ | exact CoDL.nil | exact coI_nil | refine coI_sl ?_ | refine CoLL.cons ?_ ?_ | exact CoLL.nil | refine CoL.cons ?_ ?_ | exact CoL.nil | exact CoI.refl _ | exact CoL.refl _ | exact CoLL.refl _ | exact CoDL.refl _ | exact CoD.refl _)
end Go.AI

/- The contract of slices.Reverse, laid at this program by a tool of the kit (in plain words). -/
namespace Go.Proofs
open Go.Shelf
def Tryd.lays112_ren : Go.Shelf.Ren := ⟨fun | 112 => 44 | n => n, fun | 28 => 24 | 3 => 3 | 4 => 4 | 0 => 0 | n => n, fun | n => n⟩
theorem Tryd.lays112 : Go.Proofs.Lays.n112 Tryd.prog Tryd.lays112_ren := {
  mixed := by kernel_rfl
  f112 := Tryd.func44.trans (congrArg some (by kernel_rfl))
  t0 := Tryd.underlying0
  a0 := Tryd.isAgg0
  z0 := Tryd.sizeOf0
  v0 := Tryd.zeroValue0
  t3 := Tryd.underlying3
  a3 := Tryd.isAgg3
  z3 := Tryd.sizeOf3
  v3 := Tryd.zeroValue3
  t4 := Tryd.underlying4
  a4 := Tryd.isAgg4
  z4 := Tryd.sizeOf4
  v4 := Tryd.zeroValue4
  t28 := Tryd.underlying24
  a28 := Tryd.isAgg24
  z28 := Tryd.sizeOf24
  v28 := Tryd.zeroValue24 }
open Go.RowKit Go.Lib Go.Sort in
/-- slices.Reverse at []int, of an argument: the n cells hold the elements in reverse. (LAID: no walk: one application.) -/
theorem Tryd.slices_Reverse_int_cells (b off n c : Nat) (zs : List Int) (w : World) (hz : n ≤ zs.length) (hbig : n ≤ 9223372036854775807) (hc : ∀ j, j < zs.length → w.cell? ⟨b, off + j, none⟩ = some (.int .i64 (zs.getD j 0))) (hf : ∀ j, j < n → w.frozen? ⟨b, off + j, none⟩ = false) :
    Calls Tryd.prog 44 #[.slice (some ⟨b, off, none⟩) n c] w fun e w' => e = .returned (.tuple #[]) ∧ ∃ q, w' = (w.drewN q).setCells b off ((zs.take n).reverse.map (Value.int .i64)) := Any.slices_Reverse_int_cells Tryd.lays112 b off n c zs w hz hbig hc hf
end Go.Proofs

/- slices.Reverse: a callee of the library that writes into its caller's object. -/
namespace Go.AI
open Go.Proofs
/-- Cells, written from a place on. -/
def over (c : Array Value) : Nat → List Value → Array Value
  | _, [] => c
  | o, v :: r => over (c.setIfInBounds o v) (o + 1) r
theorem over_size : ∀ (vs : List Value) (c : Array Value) (o : Nat), (over c o vs).size = c.size
  | [], c, o => rfl
  | v :: r, c, o => by simp only [over, over_size r, Array.size_setIfInBounds]
theorem over_get : ∀ (vs : List Value) (c : Array Value) (o j : Nat), o + vs.length ≤ c.size → (over c o vs)[j]? = if o ≤ j ∧ j < o + vs.length then vs[j - o]? else c[j]?
  | [], c, o, j, _ => by
    simp only [over, List.length_nil, Nat.add_zero]
    rw [if_neg (by omega)]
  | v :: r, c, o, j, h => by
    simp only [List.length_cons] at h
    simp only [over]
    rw [over_get r _ _ _ (by simp only [Array.size_setIfInBounds]; omega)]
    simp only [List.length_cons]
    by_cases h1 : o + 1 ≤ j ∧ j < o + 1 + r.length
    · rw [if_pos h1, if_pos (by omega), show j - o = (j - (o + 1)) + 1 by omega]
      simp
    · rw [if_neg h1]
      by_cases h2 : j = o
      · subst h2
        rw [if_pos (by omega)]
        simp only [Nat.sub_self, List.getElem?_cons_zero, Array.getElem?_setIfInBounds]
        rw [if_pos trivial, if_pos (by omega)]
      · rw [if_neg (by omega), Array.getElem?_setIfInBounds, if_neg (by omega)]
theorem setCells_heap {b : Nat} : ∀ (vs : List Value) (o : Nat) (w : World) (c : Array Value) (ty : TypeId) (fr : Nat × Nat), w.heap[b]? = some (.cells c ty fr) →
    (w.setCells b o vs).heap[b]? = some (.cells (over c o vs) ty fr) ∧ (∀ b', b' ≠ b → (w.setCells b o vs).heap[b']? = w.heap[b']?) ∧ (w.setCells b o vs).heap.size = w.heap.size ∧
      (w.setCells b o vs).tape = w.tape ∧ (w.setCells b o vs).os = w.os ∧ (w.setCells b o vs).output = w.output
  | [], o, w, c, ty, fr, h => ⟨h, fun _ _ => rfl, rfl, rfl, rfl, rfl⟩
  | v :: r, o, w, c, ty, fr, h => by
    have h1 : (w.setCell ⟨b, o, none⟩ v).heap[b]? = some (.cells (c.setIfInBounds o v) ty fr) := by
      simp [World.setCell, Array.getElem?_modify, h]
    have h2 : ∀ b', b' ≠ b → (w.setCell ⟨b, o, none⟩ v).heap[b']? = w.heap[b']? := fun b' hb => by
      simp only [World.setCell, Array.getElem?_modify]
      rw [if_neg (fun e => hb e.symm)]
    obtain ⟨a1, a2, a3, a4, a5, a6⟩ := setCells_heap r (o + 1) (w.setCell ⟨b, o, none⟩ v) _ ty fr h1
    refine ⟨a1, fun b' hb => (a2 b' hb).trans (h2 b' hb), a3.trans (by simp [World.setCell]), a4, a5, a6⟩
theorem repL_ints {K : Kn} : ∀ {vs : List Value} {l : List Int}, RepL K vs (l.map fun x => [vi x]).flatten → vs = l.map (Value.int .i64)
  | _, [], .nil => rfl
  | _, x :: r, h => by
    simp only [List.map_cons, List.flatten_cons, List.cons_append, List.nil_append] at h
    cases h with
    | cons a b =>
      cases a with
      | v e => rw [repL_ints b]; rfl
theorem ints_repL {K : Kn} : ∀ (l : List Int), RepL K (l.map (Value.int .i64)) (l.map fun x => [vi x]).flatten
  | [] => .nil
  | x :: r => by
    simp only [List.map_cons, List.flatten_cons, List.cons_append, List.nil_append]
    exact .cons (.v rfl) (ints_repL r)
theorem reverse44 (O : List Heap) (d nm : Nat) (l : List Int) (hl : l.length ≤ max63) (ho : objAt O d nm = some (oints l)) : ASpec Tryd.prog 44 [.osl d nm] O (.tup []) [] (setAt O d nm (oints l.reverse)) := by
  intro E K ρ w vs hw hrep
  obtain rfl : vs = [.slice (ρ d nm).base l.length (ρ d nm).cap] := by
    cases hrep with
    | cons r rs =>
      cases rs
      rw [inv_osl (es := 1) (len := l.length) r (by simp [shape, ho, Ob.sh])]
  have hown := hw.own _ _ _ ho
  obtain ⟨ρ1, hρ1, hI⟩ := hinv_enter hw
  have ho1 : objAt (([] : Heap) :: O) (d + 1) nm = some (oints l) := up_obj ho
  have hown1 := own_at (s := { σ := [], S := [] :: O, n := 0 }) hI ho1
  have hfin : ∀ w', HInv (.of K ρ w) K ρ1 (setAt ([] :: O) (d + 1) nm (oints l.reverse)) w' → ∃ K' ρ', HInv (.of K ρ w) K' ρ' ([] :: setAt O d nm (oints l.reverse)) w' ∧ RepD K' ρ' (shape ([] :: setAt O d nm (oints l.reverse))) (.tuple #[]) (.tup []) :=
    fun w' h => ⟨K, ρ1, h, .tup .nil⟩
  refine .inl ⟨Tryd.call44 _ _, ?_⟩
  obtain ⟨h1, h2, h3, h4, h5⟩ := hown1
  have hloc : ρ1 (d + 1) nm = ρ d nm := by rw [hρ1]
  rw [hloc] at h3 h4 h5
  rcases h5 with ⟨h5, h6⟩ | ⟨h5, c, h6, h7, h8, h9, h10, h11⟩
  · have hl0 : l = [] := by
      apply List.eq_nil_of_length_eq_zero
      omega
    subst hl0
    rw [h6, h5]
    refine (Any.slices_Reverse_int_empty Tryd.lays112 none 0 w).mono ?_
    rintro e w' ⟨rfl, rfl⟩
    refine ⟨_, rfl, hfin _ (hI.sameS ?_)⟩
    exact objAt_set_id ho1
  · have hcl : c.toList.take l.length = l.map (Value.int .i64) := by
      rw [Nat.mul_one] at h8
      exact repL_ints h8
    have hsz : l.length ≤ c.size := by rw [h7, Nat.mul_one]; exact h3
    rw [h5]
    refine (Tryd.slices_Reverse_int_cells (ρ d nm).block 0 l.length (ρ d nm).cap l w (Nat.le_refl _) hl (fun j hj => ?_) (fun j hj => ?_)).mono ?_
    · rw [Nat.zero_add, cell_of_heap h6]
      have : (c.toList.take l.length)[j]? = some (.int .i64 (l.getD j 0)) := by
        rw [hcl, List.getElem?_map, List.getElem?_eq_getElem hj, List.getD_eq_getElem?_getD, List.getElem?_eq_getElem hj]
        rfl
      rw [List.getElem?_take] at this
      rw [if_pos hj] at this
      simpa using this
    · simp [World.frozen?, h6]
    · rintro e w' ⟨rfl, q, rfl⟩
      rw [List.take_length]
      have hh : (w.drewN q).heap[(ρ d nm).block]? = some (.cells c 3 (0, 0)) := h6
      obtain ⟨a1, a2, a3, a4, a5, a6⟩ := setCells_heap (l.reverse.map (Value.int .i64)) 0 (w.drewN q) c 3 (0, 0) hh
      refine ⟨_, rfl, hfin _ ?_⟩
      have hbk : backed (ρ1 (d + 1) nm) (oints l) := by rw [hloc]; show _ ≠ none; rw [h5]; simp
      refine hI.put ho1 (by simp [Ob.sh]) hbk (by rw [hloc]; show _ ≠ none; rw [h5]; simp) a3 (fun b hb => a2 b (by rw [← hloc]; exact hb)) ⟨a4, a5, a6⟩ (fun o x hx => ?_) ?_
      · rw [hloc] at hx ⊢
        rw [h9 rfl] at hx; cases hx
      · rw [hloc]
        refine ⟨by simp, by simp, by simpa using h3, h4, .inr ⟨h5, _, a1, by rw [over_size, h7], ?_, fun _ => h9 rfl, fun o ho => by rw [h9 rfl o], fun h => by cases h⟩⟩
        have e : (over c 0 (l.reverse.map (Value.int .i64))).toList.take (l.reverse.length * 1) = l.reverse.map (Value.int .i64) := by
          apply List.ext_getElem?
          intro j
          rw [List.getElem?_take, Nat.mul_one]
          by_cases hj : j < l.reverse.length
          · rw [if_pos hj]
            have := over_get (l.reverse.map (Value.int .i64)) c 0 j (by simpa using hsz)
            rw [if_pos (by simpa using hj)] at this
            simpa using this
          · rw [if_neg hj]
            simp at hj
            simp [hj]
        rw [e]
        exact ints_repL _
end Go.AI
