/- The layer of abstract runs, part 29. -/
import Derived.Test.YtlcekmemdnjjbaaGreatDoorFirZB
import Derived.WideKeyArgs
import Derived.Lib.SmallJoins
import Derived.Deep.Slices
set_option linter.unusedSimpArgs false
set_option linter.unusedVariables false
set_option linter.all false

namespace Go.Proofs.YtlcekmemdnjjbaaGreatDoor
open Go.ChangeShapes Go.WideShapes Go.ChangeAt Go.RowKit Go.Deep Go.WideElems
set_option maxRecDepth 100000
def KW (W : World) : AI.Kn := fun b o => W.cell? ⟨b, o, none⟩
theorem zur (W : World) : ∀ bl o x, KW W bl o = some x → W.cell? ⟨bl, o, none⟩ = some x := fun _ _ _ h => h
section
variable {H : Type} {enc : TypeId × Value → H} {P : Program} {W : World}
def Opn (enc : TypeId × Value → H) (P : Program) (W : World) (t : TypeId) (R : List AI.I → Prop) : Prop :=
 ∀ n cs x, DataW.trod enc P W 0 (fun _ => true) true n t cs = some x → ∃ is, AI.RepL (KW W) cs is ∧ R is
theorem zee {K : AI.Kn} {a b : List Value} {c d : List AI.I} (h : AI.RepL K a c) (h' : AI.RepL K b d) : AI.RepL K (a ++ b) (c ++ d) := h.append h'
theorem zeH {t : TypeId} {k : IntKind} (ht : P.underlying t = some (.int k)) : Opn enc P W t fun is => ∃ z, is = [.v (.int k z)] ∧ (Lit.int k z).wf = true := by
 intro n cs x h
 obtain ⟨z, rfl, rfl, hw⟩ := DataW.trod_int ht h
 exact ⟨[.v (.int k z)], .cons (.v rfl) .nil, z, rfl, hw⟩
theorem zlm {K : AI.Kn} {k : IntKind} : ∀ {cs : List Value}, (∀ i, i < cs.length → ∃ z, cs[i]? = some (.int k z) ∧ (Lit.int k z).wf = true) → ∃ zs : List Int, zs.length = cs.length ∧ AI.RepL K cs (zs.map fun z => .v (.int k z)) ∧ ∀ z ∈ zs, (Lit.int k z).wf = true
 | [], _ => ⟨[], rfl, .nil, by simp⟩
 | c :: cs, h => by
  obtain ⟨z, hz, hw⟩ := h 0 (by simp)
  simp only [List.getElem?_cons_zero, Option.some.injEq] at hz
  subst hz
  obtain ⟨zs, h1, h2, h3⟩ := zlm (cs := cs) fun i hi => by
   have := h (i + 1) (by simp; omega)
   simpa using this
  exact ⟨z :: zs, by simp [h1], .cons (.v rfl) h2, fun y hy => by
   rcases List.mem_cons.1 hy with rfl | hy
   ·exact hw
   ·exact h3 y hy⟩
theorem zok {t e : TypeId} {k : IntKind} {m : Nat} (ht : P.underlying t = some (.array m e)) (he : P.underlying e = some (.int k)) (hc : P.cellsOf e = 1) (hct : P.cellsOf t = m) :
  Opn enc P W t fun is => ∃ zs : List Int, zs.length = m ∧ is = zs.map (fun z => .v (.int k z)) ∧ ∀ z ∈ zs, (Lit.int k z).wf = true := by
 intro n cs x h
 obtain ⟨xs, f, rfl, rfl, hl, hlen, hx⟩ := DataW.trod_array ht h
 rw [hct] at hl
 obtain ⟨zs, h1, h2, h3⟩ := zlm (K := KW W) (k := k) (cs := cs) fun i hi => by
  have h0 := hx i (by omega)
  rw [hc, Nat.mul_one, List.getElem?_eq_getElem (by omega)] at h0
  obtain ⟨z, hz, _, hw⟩ := DataW.trod_int he h0
  refine ⟨z, ?_, hw⟩
  have := congrArg (fun l => l[0]?) hz
  simpa [List.getElem?_take, List.getElem?_drop] using this
 exact ⟨_, h2, zs, by omega, rfl, h3⟩
theorem zoj {t e : TypeId} {z : Nat} {R : List AI.I → Prop} (ht : P.underlying t = some (.slice e)) (hc : P.cellsOf e = z) (hz : 0 < z) (he : Opn enc P W e R) :
  Opn enc P W t fun is => ∃ xs : List (List AI.I), is = [.sl z xs.length xs] ∧ (∀ d ∈ xs, R d) ∧ xs.length ≤ maxLen := by
 intro n cs x h
 rcases open_slice ht h with ⟨rfl, _⟩ | ⟨a, len, cap, m, f, D, Pl, rfl, _, hle, hm, hmm, _, hx⟩
 ·exact ⟨[.sl z 0 []], .cons .nil .nil, [], rfl, by simp, Nat.zero_le _⟩
 ·simp only [if_true] at hmm
  subst hmm
  rw [hc] at hx
  by_cases h0 : m = 0
  ·subst h0
   obtain rfl : len = 0 := by omega
   exact ⟨[.sl z 0 []], .cons .nil .nil, [], rfl, by simp, Nat.zero_le _⟩
  ·have hspot : a.spot = none := by
    obtain ⟨cs', h1, _⟩ := hx 0 (by omega)
    obtain ⟨_, hl, hcell⟩ := World.cells?_some h1
    have := hcell 0 hz
    rw [Nat.zero_mul] at this
    have ha : (a.add 0).add 0 = a := by simp [Addr.add]
    rw [ha, List.getElem?_eq_getElem (by omega)] at this
    unfold World.cell? at this
    cases hsp : a.spot with
    | none => rfl
    | some s =>
     rw [hsp] at this
     split at this <;> simp at this
   obtain ⟨bl, o, sp⟩ := a
   simp only at hspot
   subst hspot
   have build : ∀ k, k ≤ len → ∃ (xs : List (List AI.I)) (vs : List Value), xs.length = k ∧ vs.length = k * z ∧ AI.RepL (KW W) vs xs.flatten ∧ (∀ d ∈ xs, R d) ∧ (∀ d ∈ xs, d.length = z) ∧ ∀ j c, vs[j]? = some c → KW W bl (o + j) = some c := by
    intro k
    induction k with
    | zero => intro _; exact ⟨[], [], rfl, by simp, .nil, by simp, by simp, by simp⟩
    | succ k ih =>
     intro hk
     obtain ⟨xs, vs, h1, h2, h3, h4, h5, h6⟩ := ih (by omega)
     obtain ⟨cs', hc1, hc2⟩ := hx k (by omega)
     obtain ⟨_, hl, hcell⟩ := World.cells?_some hc1
     obtain ⟨is, hr, hR⟩ := he f cs' _ hc2
     refine ⟨xs ++ [is], vs ++ cs', by simp [h1], by simp [h2, hl, Nat.add_mul], ?_, ?_, ?_, ?_⟩
     ·rw [List.flatten_append]
      simpa using zee h3 hr
     ·intro d hd
      rcases List.mem_append.1 hd with h | h
      ·exact h4 d h
      ·simp only [List.mem_singleton] at h
       subst h
       exact hR
     ·intro d hd
      rcases List.mem_append.1 hd with h | h
      ·exact h5 d h
      ·simp only [List.mem_singleton] at h
       subst h
       rw [← hr.length, hl]
     ·intro j c hj
      rw [List.getElem?_append] at hj
      split at hj
      ·exact h6 j c hj
      ·rename_i hge
       have hlt : j - vs.length < cs'.length := (List.getElem?_eq_some_iff.1 hj).1
       have := hcell (j - vs.length) (by omega)
       rw [hj] at this
       unfold KW
       rw [← this]
       have e : ((⟨bl, o, none⟩ : Addr).add (k * z)).add (j - vs.length) = ⟨bl, o + j, none⟩ := by
        have e1 : (⟨bl, o, none⟩ : Addr).add (k * z) = ⟨bl, o + k * z, none⟩ := by unfold Addr.add; split <;> simp_all
        rw [e1]
        unfold Addr.add
        split
        ·simp <;> omega
        ·simp <;> omega
       rw [e]
   obtain ⟨xs, vs, h1, h2, h3, h4, h5, h6⟩ := build len (Nat.le_refl _)
   refine ⟨[.sl z xs.length xs], .cons ?_ .nil, xs, rfl, h4, by omega⟩
   rw [h1]
   exact .sl h3 h5 h6 hle h1
theorem zjw {t : TypeId} {f0 f1 f2 : Field} {R0 R1 R2 : List AI.I → Prop} {z0 z1 z2 : Nat} (ht : P.underlying t = some (.struct #[f0, f1, f2])) (hc : P.cellsOf t = z0 + z1 + z2)
  (c0 : P.cellsOf f0.type = z0) (c1 : P.cellsOf f1.type = z1) (c2 : P.cellsOf f2.type = z2) (o0 : f0.offset = 0) (o1 : f1.offset = z0) (o2 : f2.offset = z0 + z1)
  (h0 : Opn enc P W f0.type R0) (h1 : Opn enc P W f1.type R1) (h2 : Opn enc P W f2.type R2) : Opn enc P W t fun is => ∃ a b c, is = a ++ b ++ c ∧ R0 a ∧ R1 b ∧ R2 c := by
 intro n cs x h
 obtain ⟨y0, y1, y2, m, _, hl, g0, g1, g2⟩ := trod_struct3 ht h
 obtain ⟨a, ra, ha⟩ := h0 _ _ _ g0
 obtain ⟨b, rb, hb⟩ := h1 _ _ _ g1
 obtain ⟨c, rc, hcc⟩ := h2 _ _ _ g2
 refine ⟨a ++ b ++ c, ?_, a, b, c, rfl, ha, hb, hcc⟩
 have e : cs = (cs.drop f0.offset).take (P.cellsOf f0.type) ++ (cs.drop f1.offset).take (P.cellsOf f1.type) ++ (cs.drop f2.offset).take (P.cellsOf f2.type) := by
  rw [c0, c1, c2, o0, o1, o2, List.drop_zero]
  have e1 : (cs.drop (z0 + z1)).take z2 = cs.drop (z0 + z1) := List.take_of_length_le (by simp; omega)
  rw [e1]
  have e2 : cs.drop (z0 + z1) = (cs.drop z0).drop z1 := by rw [List.drop_drop]
  rw [e2, List.append_assoc, List.take_append_drop, List.take_append_drop]
 rw [e]
 exact zee (zee ra rb) rc
theorem zha {t : TypeId} (hl : laidOutB P = true) (hr : P.readableRec t = true) (hrow : decide (t < P.types.size) = true) {W' : World} {v : Value} {d : DataW H} {ps : List MemPlace}
  (h : DataW.Trod enc P W 0 (fun _ => true) true t v d ps) (hold : ∀ i, i < W.heap.size → W'.heap[i]? = W.heap[i]?) : DataW.Trod enc P W' 0 (fun b => decide (b < W.heap.size)) true t v d ps := by
 have hlt : ∀ p ∈ ps, p.block < W.heap.size := by
  obtain ⟨n, hn⟩ := h
  exact DataW.trod_lt n t _ _ hn
 refine Trod_stays hl hr (of_decide_eq_true hrow) h (fun p hp => ?_) (fun p hp => decide_eq_true (hlt p hp))
 have hb := hlt p hp
 cases p with
 | cell b off =>
  show W'.cell? ⟨b, off, none⟩ = W.cell? ⟨b, off, none⟩
  unfold World.cell?
  rw [hold b hb]
 | map b => exact hold b hb
end
end Go.Proofs.YtlcekmemdnjjbaaGreatDoor


namespace Go.Proofs.YtlcekmemdnjjbaaGreatDoor
open Go.ChangeShapes Go.WideShapes Go.ChangeAt Go.RowKit Go.Deep Go.WideElems
set_option maxRecDepth 100000
section
variable {H : Type} {enc : TypeId × Value → H} {W : World}
theorem zoA {α β : Type} {f : α → β} {Q : α → Prop} : ∀ {xs : List β}, (∀ d ∈ xs, ∃ a, d = f a ∧ Q a) → ∃ l : List α, xs = l.map f ∧ ∀ a ∈ l, Q a
 | [], _ => ⟨[], rfl, by simp⟩
 | d :: xs, h => by
  obtain ⟨a, ha, hq⟩ := h d (by simp)
  obtain ⟨l, hl, hql⟩ := zoA (xs := xs) fun e he => h e (by simp [he])
  refine ⟨a :: l, by rw [ha, hl]; rfl, fun b hb => ?_⟩
  rcases List.mem_cons.1 hb with rfl | hb
  ·exact hq
  ·exact hql b hb
theorem wf_u8 {z : Int} (h : (Lit.int .u8 z).wf = true) : 0 ≤ z ∧ z ≤ 255 := by
 simp only [Lit.wf, Bool.and_eq_true, decide_eq_true_eq] at h
 have e1 : IntKind.u8.min = 0 := rfl
 have e2 : IntKind.u8.max = 255 := rfl
 rw [e1, e2] at h
 exact h
theorem zqN {n : Nat} (h : n ≤ maxLen) : n ≤ AI.zao := by
 simp only [maxLen] at h
 simp only [AI.zao]
 omega
theorem okWide_slice {P : Program} {W : World} {r : Reach} {b0 : Nat} {t e : TypeId} {v : Value} (ht : P.underlying t = some (.slice e)) (h : Value.okWide P W r b0 t v) : v.cells.toList = [v] := by
 simp only [Value.okWide, ht, Cell.okWide] at h
 cases v <;> simp_all [Cell.ok, Value.cells]
structure autLen (x : AI.Aut) : Prop where
 e : x.edges.length ≤ AI.zao
 a : x.alpha.length ≤ AI.zao
 m : x.marked.length ≤ AI.zao
end
end Go.Proofs.YtlcekmemdnjjbaaGreatDoor


namespace Go.Proofs.YtlcekmemdnjjbaaGreatDoor
open Go.ChangeShapes Go.WideShapes Go.ChangeAt Go.RowKit Go.Deep Go.WideElems
set_option maxRecDepth 100000
section
variable {H : Type} {enc : TypeId × Value → H} {W : World}
end
end Go.Proofs.YtlcekmemdnjjbaaGreatDoor


namespace Go.AI
open Go.Proofs
set_option maxRecDepth 20000
set_option maxHeartbeats 4000000 in
theorem zhX (O : List Heap) (R : Heap) (l : List Int) (nm f cb : Nat) (B : Ob) (p : Int → Bool) (hl : l.length ≤ 1000000) (hB : zaa O 0 cb = some B) (hR : zaN nm R = R)
  (hp : ∀ x ∈ l, ∀ d O, zaa O d cb = some B → zap Tryz.prog f [ii x, .own d cb 0 0] O (bb (p x)) [] O) :
  zme Tryz.prog 54 [.osl 0 nm, .fn (.func f) [] [.own 1 cb 0 0]] (((nm, zau l) :: R) :: O) nm (.osl 1 nm) [] (((nm, zau (l.filter fun x => !p x)) :: R) :: O) := by
 have hcb : ∀ m : List Int, zaa (((nm, zau m) :: R) :: O) 1 cb = some B := fun m => zb3 hB
 have hnm : ∀ m : List Int, zaa (((nm, zau m) :: R) :: O) 0 nm = some (zau m) := fun m => by simp [zaa, zab]
 have hix := fun H => ztC (H :: ((nm, zau l) :: R) :: O) l 1 nm (zb3 (hnm l)) f 2 cb p (by simp only [zao]; omega) (fun x hx => hp x hx _ _ (zb3 (zb3 (hcb l))))
 have hpx : ∀ x ∈ l, ∀ m : List Int, ∀ H, zap Tryz.prog f [ii x, .own 2 cb 0 0] (H :: ((nm, zau m) :: R) :: O) (bb (p x)) [] (H :: ((nm, zau m) :: R) :: O) := fun x hx m H => hp x hx _ _ (zb3 (hcb m))
 have hsp := zgg p l 0
 generalize zaZ p l 0 = ix at *
 refine zgs nm [200038, 200041] Tk Tryz.func54 rfl Tryz.call54 Tryz.ntmps54 (Nat.le_of_ble_eq_true rfl) fun E => ?_
 refine zae Tk Tryz.func54 ?_
 refine zaf Tk Tryz.func54 (hix _) rfl rfl rfl rfl rfl ?_
 refine zai Tk Tryz.func54 rfl (fun c1 => ?_) (fun c1 => ?_)
 ·have c1 : ix = -1 := beqT c1
  rcases hsp with ⟨_, h2⟩ | ⟨k, hk, h1, _⟩
  ·have e : l.filter (fun x => !p x) = l := List.filter_eq_self.2 fun x hx => by rw [h2 x hx]; rfl
   rw [e]
   refine zoP Tk (nm := nm) (r := .osl 1 nm) (Moved.refl _ _) rfl rfl rfl trivial rfl rfl rfl
  ·omega
 have c1 : ix ≠ -1 := beqF c1
 rcases hsp with ⟨h1, _⟩ | ⟨k, hk, h1, h2, h3⟩
 ·exact absurd h1 c1
 rw [Nat.zero_add] at h1
 subst h1
 clear c1 hix
 have hob : ∀ m : List Int, ∀ H, zaa (H :: ((nm, zau m) :: R) :: O) 1 nm = some (zau m) := fun m H => zb3 (hnm m)
 have hw1 : ii (IntKind.i64.wrap ((k : Int) + 1)) = ii ((k + 1 : Nat) : Int) := congrArg ii (zaC (n := 1000001) (by omega) (by decide))
 have hst0 : l.take k = (l.take (k + 1)).filter fun x => !p x := by
  rw [List.take_add_one, List.getElem?_eq_getElem hk, List.filter_append]
  rw [List.filter_eq_self.2 fun x hx => by rw [h3 x hx]; rfl]
  simp [h2]
 refine zac ?_
 refine zag (fun x : Nat × Nat × List Int => [(0, .osl 1 nm), (1, .fn (.func f) [] [.own 2 cb 0 0]), (5, ii x.1), (6, ii x.2.1)]) (fun _ => []) (fun x => ((nm, zau x.2.2) :: R) :: O) 42
  (fun x => x.1 < x.2.1 ∧ x.2.1 ≤ l.length ∧ x.2.2.length = l.length ∧ x.2.2.take x.1 = ((l.take x.2.1).filter fun x => !p x) ∧ x.2.2.drop x.2.1 = l.drop x.2.1) (fun x => l.length - x.2.1) (k, k + 1, l)
  ⟨Nat.lt_succ_self _, hk, rfl, hst0, rfl⟩ ⟨rfl, rfl, rfl, hw1, trivial⟩ rfl trivial rfl rfl ?_
 clear hst0 hw1 h2 h3 hk
 rintro ⟨i, j, m⟩ ⟨hij, hjl, hml, htk, hdr⟩ ih
 simp only at hij hjl hml htk hdr
 refine zae Tk Tryz.func54 ?_
 refine zbV Tk Tryz.func54 (hob m _) ?_
 refine zai Tk Tryz.func54 rfl (fun g1 => ?_) (fun g1 => ?_)
 ·have h1 : j < l.length := by rw [← hml]; simpa using g1
  clear g1
  have hmj : m[j]? = some l[j] := by
   have e1 : (m.drop j)[0]? = (l.drop j)[0]? := by rw [hdr]
   rw [List.getElem?_drop, List.getElem?_drop, Nat.add_zero] at e1
   rw [e1, List.getElem?_eq_getElem h1]
  have gm : (m.map fun x => [vi x])[(j : Int).toNat]? = some [vi l[j]] := by rw [Int.toNat_natCast, List.getElem?_map, hmj]; rfl
  have hpj := hpx _ (List.getElem_mem h1)
  have htk2 : l.take (j + 1) = l.take j ++ [l[j]] := by rw [List.take_add_one, List.getElem?_eq_getElem h1]; rfl
  have hdr2 : ∀ m' : List Int, m'.drop (j + 1) = (m'.drop j).drop 1 := fun m' => by rw [List.drop_drop]
  generalize l[j] = x at *
  have hj1 : ii (IntKind.i64.wrap ((j : Int) + 1)) = ii ((j + 1 : Nat) : Int) := congrArg ii (zaC (n := 1000001) (by omega) (by decide))
  have hi1 : ii (IntKind.i64.wrap ((i : Int) + 1)) = ii ((i + 1 : Nat) : Int) := congrArg ii (zaC (n := 1000001) (by omega) (by decide))
  refine zbV Tk Tryz.func54 (hob m _) ?_
  refine zah Tk Tryz.func54 (by exact ⟨by omega, by show (j : Int) < (m.length : Int); omega⟩) ?_
  refine zbV Tk Tryz.func54 (hob m _) ?_
  refine zar Tk Tryz.func54 (gm) ?_
  refine zaf Tk Tryz.func54 (hpj m _) rfl rfl rfl rfl rfl ?_
  refine zai Tk Tryz.func54 rfl (fun g2 => ?_) (fun g2 => ?_)
  ·have g2 : p x = false := notT g2
   refine zbV Tk Tryz.func54 (hob m _) ?_
   refine zah Tk Tryz.func54 (by exact ⟨by omega, by show (i : Int) < (m.length : Int); omega⟩) ?_
   refine zbV Tk Tryz.func54 (hob m _) ?_
   refine zac ?_
   refine zat (wk_S (S' := [] :: ((nm, zau (m.set i x)) :: R) :: O) fun d n => ?_) ?_
   ·have e : Ob.arr 3 1 m.length ((m.map fun x => [vi x]).set (i : Int).toNat [vi x]) true = zau (m.set i x) := by
     rw [Int.toNat_natCast]
     simp [List.map_set]
    rw [← e]
    exact zoo d n
   refine ih (i + 1, j + 1, m.set i x) _ _ ⟨by simp only; omega, h1, by simp only [List.length_set]; exact hml, ?_, ?_⟩ (by simp only; omega) ⟨rfl, rfl, hi1, hj1, trivial⟩ rfl trivial rfl rfl
   ·simp only
    rw [htk2, List.filter_append, ← htk, List.take_add_one, List.getElem?_set_self (by omega), List.take_set_of_le (Nat.le_refl i)]
    simp [g2]
   ·simp only
    rw [List.drop_set_of_lt (by omega), hdr2, hdr2, hdr]
  ·have g2 : p x = true := notF g2
   refine zac ?_
   refine ih (i, j + 1, m) _ _ ⟨by simp only; omega, h1, hml, ?_, ?_⟩ (by simp only; omega) ⟨rfl, rfl, rfl, hj1, trivial⟩ rfl trivial rfl rfl
   ·simp only
    rw [htk2, List.filter_append, ← htk]
    simp [g2]
   ·simp only
    rw [hdr2, hdr2, hdr]
 ·have h1 : l.length ≤ j := by rw [← hml]; simpa using g1
  rw [List.take_of_length_le h1] at htk
  clear ih hdr g1
  have hin : i < m.length := by omega
  have hil : (l.filter fun x => !p x).length = i := by rw [← htk, List.length_take]; omega
  refine zmM Tk Tryz.func54 (nm := nm) (n := m.length) (i0 := i) (ti1 := zd9) (ti2 := zhc) (xs := m.map fun x => [vi x]) (z := .int .i64 0) hin rfl rfl rfl rfl rfl rfl rfl rfl rfl Tryz.zeroValue3 rfl rfl rfl rfl rfl rfl rfl rfl rfl rfl rfl rfl (by simp [zab]) rfl ?_
  refine zjQ Tk Tryz.func54 (nm := nm) (n := m.length) (m := i) (ti1 := zd9) (ti2 := zhc) (es := 1) (xs := (m.map fun x => [vi x]).take i ++ List.replicate (m.length - i) [I.v (.int .i64 0)]) (Nat.le_of_lt hin) (by omega) rfl rfl rfl rfl rfl rfl rfl rfl rfl rfl rfl (by simp [zab]) rfl ?_
  intro E' hM
  have hkk : zaN nm ((nm, Ob.arr 3 1 m.length ((m.map fun x => [vi x]).take i ++ List.replicate (m.length - i) [I.v (.int .i64 0)]) true) :: (nm, zau m) :: R) = R := by
   simp [zaN, hR]
  have hfin : Ob.arr 3 1 i (((m.map fun x => [vi x]).take i ++ List.replicate (m.length - i) [I.v (.int .i64 0)]).take i) true = zau (l.filter fun x => !p x) := by
   rw [List.take_append_of_le_length (by rw [List.length_take, List.length_map]; omega), List.take_take, Nat.min_self, ← List.map_take, htk]
   simp [zau, hil]
  refine zoP Tk (nm := nm) (r := .osl 1 nm) hM rfl rfl rfl trivial rfl ?_ rfl
  show ((nm, Ob.arr 3 1 i (((m.map fun x => [vi x]).take i ++ List.replicate (m.length - i) [I.v (.int .i64 0)]).take i) true) :: zaN nm ((nm, Ob.arr 3 1 m.length ((m.map fun x => [vi x]).take i ++ List.replicate (m.length - i) [I.v (.int .i64 0)]) true) :: (nm, zau m) :: R)) :: O = ((nm, zau (l.filter fun x => !p x)) :: R) :: O
  rw [hkk, hfin]
theorem zmV {c : Cx} (hP : c.P = Tryz.prog) {s : St} {o : Oper} {t nm f cb : Nat} {l : List Int} {R : Heap} {O : List Heap} {B : Ob} (p : Int → Bool) (hl : l.length ≤ 1000000) (hB : zaa O 0 cb = some B) (hR : zaN nm R = R)
  (hp : ∀ x ∈ l, ∀ d O, zaa O d cb = some B → zap Tryz.prog f [ii x, .own d cb 0 0] O (bb (p x)) [] O) (ht : o.dst = some t) (hn : t < s.n) (hS : s.S = ((nm, zau l) :: R) :: O) :
  Wp c o s 54 [.osl 0 nm, .fn (.func f) [] [.own 1 cb 0 0]] { σ := (t, .osl 0 nm) :: zdZ nm s.σ, S := ((nm, zau (l.filter fun x => !p x)) :: R) :: O, n := s.n } := by
 have h := zhX O R l nm f cb B p hl hB hR hp
 refine zeT (c := c) (s := s) (o := o) (nm := nm) (res := .osl 1 nm) ?_ ht hn hS (xs := l.map fun x => [vi x]) (wr := true) (by rw [zab, if_pos rfl]) ⟨_, _, _, _, _, by rw [zab, if_pos rfl]⟩ ?_
 ·rw [hP, hS]
  have e : D.imms (zd1 (((nm, zau l) :: R) :: O)) [.osl 0 nm, .fn (.func f) [] [.own 1 cb 0 0]] = [.osl 0 nm, .fn (.func f) [] [.own 1 cb 0 0]] := by
   simp [D.imms, D.imm, zd1, zab]
  rw [e]
  exact h
 ·intro d m hd
  match d with
  | 0 =>
   have hm : ¬ nm = m := fun e => by rcases hd with h | h; exact h rfl; exact h e.symm
   simp only [shape, zaa, List.getElem?_cons_zero, zab, if_neg hm]
  | d + 1 => simp [shape, zaa]
end Go.AI


namespace Go.AI
open Go.Proofs
set_option maxRecDepth 20000
theorem zpa (O : List Heap) (b : Int) : zap Tryz.prog 30 [u8D b] O (.osl 0 17) [(17, zau (zba b))] O := by
 refine zas [7] Tk Tryz.func30 rfl Tryz.call30 Tryz.ntmps30 (Nat.le_of_ble_eq_true rfl) fun E => ?_
 refine zae Tk Tryz.func30 ?_
 refine zac ?_
 refine zat (zcx 3 17 3 1 rfl rfl rfl) ?_
 refine zag (fun i : Nat => [(0, u8D b), (3, .osl 0 17), (4, ii i)]) (fun i => [(17, zau (rawM b i))]) (fun _ => O) 19
  (fun i => i ≤ 5) (fun i => 5 - i) 0 (Nat.zero_le _) ⟨rfl, rfl, rfl, trivial⟩ rfl ⟨rfl, trivial⟩ rfl rfl ?_
 intro i hi ih
 have hj1 : ii (IntKind.i64.wrap ((i : Int) + 1)) = ii ((i + 1 : Nat) : Int) := congrArg ii (zaC (n := 1000001) (by omega) (by decide))
 have hs := zfB b i
 have hl := zef b i
 refine zae Tk Tryz.func30 ?_
 refine zai Tk Tryz.func30 rfl (fun g1 => ?_) (fun g1 => ?_)
 ·have g1 : (i : Int) < 5 := of_decide_eq_true g1
  refine zah Tk Tryz.func30 (by exact ⟨by omega, by show (i : Int) ≤ (8 : Nat); omega⟩) ?_
  refine zai Tk Tryz.func30 rfl (fun g2 => ?_) (fun g2 => ?_)
  ·have g2 : bitP b i = true := g2
   rw [if_pos g2] at hs
   refine zah Tk Tryz.func30 (by exact ⟨by show ((rawM b i).length + 1) * 8 ≤ 140737488355328; omega, by show (rawM b i).length + 1 ≤ 9223372036854775807; omega⟩) ?_
   refine zac ?_
   refine ih (i + 1) _ _ (by omega) (by omega) ⟨rfl, rfl, hj1, trivial⟩ rfl ⟨?_, trivial⟩ rfl rfl
   rw [hs]
   exact congrArg some (zaK (rawM b i) (i : Int))
  ·have g2 : ¬ bitP b i = true := by intro h; exact absurd (g2.symm.trans h) (by decide)
   rw [if_neg g2, List.append_nil] at hs
   refine zac ?_
   exact ih (i + 1) _ _ (by omega) (by omega) ⟨rfl, rfl, hj1, trivial⟩ rfl ⟨by rw [hs]; rfl, trivial⟩ rfl rfl
 ·have g1 : ¬ (i : Int) < 5 := of_decide_eq_false g1
  obtain rfl : i = 5 := by omega
  refine zax ?_
  refine zae Tk Tryz.func30 ?_
  refine g_go Tk Tryz.func30 ?_
  exact ⟨zbr (hT := Tk) (r := .osl 0 17) rfl rfl rfl ⟨⟨_, rfl, rfl⟩, trivial⟩ (zjp _ _ _) rfl rfl⟩
theorem zua (O : List Heap) (x : Int) (l : List Int) (hl : l.length ≤ 1000000) (d nm : Nat) (ho : zaa O d nm = some (.box [ints l])) : zap Tryz.prog 55 [ii x, .own d nm 0 0] O (bb (!decide (x ∈ l))) [] O := by
 have h := fun O => zbc O l x (by simp only [zao]; omega)
 refine zad Tk Tryz.func55 rfl Tryz.call55 Tryz.ntmps55 (Nat.le_of_ble_eq_true rfl) fun E => ?_
 refine zae Tk Tryz.func55 ?_
 refine zbV Tk Tryz.func55 (zb3 ho) ?_
 refine zaf Tk Tryz.func55 (h _) rfl rfl rfl rfl rfl ?_
 refine zal Tk (r := bb (!decide (x ∈ l))) rfl rfl rfl trivial rfl rfl ?_
 rfl
def hasR (l s : List Int) : List Int := s.filter fun x => decide (x ∈ l)
theorem ztD (O : List Heap) (b : Int) (l : List Int) (hl : l.length ≤ 1000000) (nm : Nat) (ho : zaa O 0 nm = some (.box [ints l])) : zap Tryz.prog 53 [u8D b, .own 0 nm 0 0] O (ints (hasR l (zba b))) [] O := by
 have e : hasR l (zba b) = (zba b).filter fun x => !(!decide (x ∈ l)) := by simp [hasR]
 have h5 := (ziW b).2.2
 have hev := fun O => zpa O b
 rw [e]
 refine zas [200007] Tk Tryz.func53 rfl Tryz.call53 Tryz.ntmps53 (Nat.le_of_ble_eq_true rfl) fun E => ?_
 refine zae Tk Tryz.func53 ?_
 refine zaf Tk Tryz.func53 (hev _) rfl rfl rfl rfl rfl ?_
 refine zdg Tk Tryz.func53 rfl rfl rfl rfl (zmV (l := zba b) (R := []) (B := .box [ints l]) rfl (fun x => !decide (x ∈ l)) (by omega) ho rfl (fun x _ d O ho => zua O x l hl d nm ho) rfl (show 7 < 8 by decide) rfl) ?_
 refine zeP (zaq 17 rfl rfl) ?_
 refine zal Tk (r := ints ((zba b).filter fun x => !(!decide (x ∈ l)))) rfl rfl rfl trivial rfl rfl ?_
 rfl
end Go.AI


namespace Go.AI
abbrev ztF (gs : Int) (gt : Nat → Int) : Prop := 0 ≤ gs ∧ ∀ j, 0 ≤ gt j ∧ gt j ≤ 255
open Go.Proofs
set_option maxRecDepth 20000
structure Sk where
 st : Int
 ps : Int
 pm : Int
 pt : Nat → Int
 ss : Int
 sm : Int
 t2 : Nat → Int
 ob : Int
 ct : Int
abbrev skC (x : Sk) : List D := [u8D x.st, u8D x.ps, u8D x.pm, u8D (x.pt 0), u8D (x.pt 1), u8D (x.pt 2), u8D (x.pt 3), u8D (x.pt 4), u8D (x.pt 5), u8D (x.pt 6), u8D (x.pt 7), u8D (x.pt 8), u8D (x.pt 9), u8D (x.pt 10), u8D (x.pt 11), u8D (x.pt 12), u8D (x.pt 13), u8D (x.pt 14), u8D (x.pt 15), u8D (x.pt 16), u8D (x.pt 17), u8D (x.pt 18), u8D (x.pt 19), u8D (x.pt 20), u8D (x.pt 21), u8D (x.pt 22), u8D (x.pt 23), u8D (x.pt 24), u8D x.ss, u8D x.sm, u8D (x.t2 0), u8D (x.t2 1), u8D (x.t2 2), u8D (x.t2 3), u8D (x.t2 4), u8D (x.t2 5), u8D (x.t2 6), u8D (x.t2 7), u8D (x.t2 8), u8D (x.t2 9), u8D (x.t2 10), u8D (x.t2 11), u8D (x.t2 12), u8D (x.t2 13), u8D (x.t2 14), u8D (x.t2 15), u8D (x.t2 16), u8D (x.t2 17), u8D (x.t2 18), u8D (x.t2 19), u8D (x.t2 20), u8D (x.t2 21), u8D (x.t2 22), u8D (x.t2 23), u8D (x.t2 24), u8D x.ob, u8D x.ct]
structure skOkB (x : Sk) : Prop where
 p : ztF x.ps x.pt
 s : ztF x.ss x.t2
def mkS (x : Sk) : Sys := ⟨mkA (zba x.st) x.ps x.pm x.pt, mkA (zba x.st) x.ss x.sm x.t2, hasR (zba x.st) (zba x.ob), hasR (zba x.st) (zba x.ct)⟩
theorem zrA (O : List Heap) (x : Sk) (h : skOkB x) : zap Tryz.prog 15 [.agg (skC x)] O (sysD (mkS x)) [] O := by
 obtain ⟨e1, e2, e3⟩ := ziW x.st
 have p := zov (gs := x.ps) (gm := x.pm) e1 e2 e3 h.p.2
 have s := zov (gs := x.ss) (gm := x.sm) e1 e2 e3 h.s.2
 have c1 := fun O => zrB O (zba x.st) x.ps x.pm x.pt e3 h.p.1 p.1.1 p.1.2
 have c2 := fun O => zrB O (zba x.st) x.ss x.sm x.t2 e3 h.s.1 s.1.1 s.1.2
 have c0 := fun O => zrb O x.st
 have c3 := fun O nm ho => ztD O x.ob (zba x.st) (by omega) nm ho
 have c4 := fun O nm ho => ztD O x.ct (zba x.st) (by omega) nm ho
 unfold mkS
 clear p s e1 e2 e3 h
 generalize mkA (zba x.st) x.ps x.pm x.pt = A at *
 generalize mkA (zba x.st) x.ss x.sm x.t2 = B at *
 generalize hasR (zba x.st) (zba x.ob) = M at *
 generalize hasR (zba x.st) (zba x.ct) = N at *
 generalize zba x.st = l at *
 obtain ⟨al, st, mk, es⟩ := A
 obtain ⟨al', st', mk', es'⟩ := B
 obtain ⟨xst, xps, xpm, xpt, xss, xsm, xt2, xob, xct⟩ := x
 simp only at c0 c1 c2
 refine zad Tk Tryz.func15 rfl Tryz.call15 Tryz.ntmps15 (Nat.le_of_ble_eq_true rfl) fun E => ?_
 refine zae Tk Tryz.func15 ?_
 refine zaf Tk Tryz.func15 (c0 _) rfl rfl rfl rfl rfl ?_
 refine zaA Tk Tryz.func15 zaL rfl ?_
 refine za8 Tk (fun _ => c1 _) rfl rfl rfl ?_
 refine za8 Tk (fun _ => c2 _) rfl rfl rfl ?_
 refine znX Tk (c3 _ 3 rfl) rfl rfl rfl ?_
 refine znX Tk (c4 _ 3 rfl) rfl rfl rfl ?_
 refine znV Tk rfl rfl rfl ?_
 refine zaO Tk Tryz.func15 (by kernel_rfl) ?_
 refine zal Tk (r := sysD ⟨⟨al, st, mk, es⟩, ⟨al', st', mk', es'⟩, M, N⟩) rfl rfl rfl trivial rfl rfl ?_
 rfl
end Go.AI


namespace Go.AI
open Go.Proofs
set_option maxRecDepth 20000
theorem zkY (O : List Heap) (a : Aut) (s ev : Int) (hl : a.edges.length ≤ 1000000) : zap Tryz.prog 18 [autD a, ii s, ii ev] O (ii (stp3 a.edges s ev)) [] O := by
 obtain ⟨al, st, mk, es⟩ := a
 simp only at hl ⊢
 generalize hR : stp3 es s ev = R
 refine zad Tk Tryz.func18 rfl Tryz.call18 Tryz.ntmps18 (Nat.le_of_ble_eq_true rfl) fun E => ?_
 refine zae Tk Tryz.func18 ?_
 refine zac ?_
 refine zag (fun i : Nat => [(1, ii s), (2, ii ev), (10, edgs es), (11, ii es.length), (12, ii i)]) (fun _ => []) (fun _ => O) 29
  (fun i => i ≤ es.length ∧ stp3 (es.drop i) s ev = R) (fun i => es.length - i) 0 ⟨Nat.zero_le _, hR⟩ ⟨rfl, rfl, rfl, rfl, rfl, trivial⟩ rfl trivial rfl rfl ?_
 rintro i ⟨hi, hno⟩ ih
 clear hR
 refine zae Tk Tryz.func18 ?_
 refine zai Tk Tryz.func18 rfl (fun g1 => ?_) (fun g1 => ?_)
 ·have h1 : i < es.length := by simpa using g1
  have ge : (es.map edgI)[(i : Int).toNat]? = some (edgI es[i]) := zaj h1
  have dl : es.drop i = es[i] :: es.drop (i + 1) := List.drop_eq_getElem_cons h1
  rw [dl] at hno
  simp only [stp3] at hno
  clear dl
  generalize es[i] = y at *
  obtain ⟨yf, ye, yt⟩ := y
  simp only at hno
  have n1 : 0 ≤ (i : Int) ∧ (i : Int) < (es.length : Int) := by omega
  refine zah Tk Tryz.func18 (by exact n1) ?_
  refine zar Tk Tryz.func18 (ge) ?_
  refine zaS Tk Tryz.func18 rfl (fun g2 => ?_) (fun g2 => ?_)
  ·have g2 : yf = s := beqT g2
   refine zai Tk Tryz.func18 rfl (fun g3 => ?_) (fun g3 => ?_)
   ·have g3 : ye = ev := beqT g3
    rw [if_pos ⟨g2, g3⟩] at hno
    subst hno
    refine zal Tk (r := ii yt) rfl rfl rfl trivial rfl rfl ?_
    rfl
   ·have g3 : ye ≠ ev := beqF g3
    rw [if_neg (fun h => g3 h.2)] at hno
    refine zac ?_
    exact ih (i + 1) _ _ ⟨h1, hno⟩ (by omega) ⟨rfl, rfl, rfl, rfl, congrArg ii (zaC (n := 1000001) (by omega) (by decide)), trivial⟩ rfl trivial rfl rfl
  ·have g2 : yf ≠ s := beqF g2
   rw [if_neg (fun h => g2 h.1)] at hno
   refine gcF Tk Tryz.func18 rfl ?_
   refine zac ?_
   exact ih (i + 1) _ _ ⟨h1, hno⟩ (by omega) ⟨rfl, rfl, rfl, rfl, congrArg ii (zaC (n := 1000001) (by omega) (by decide)), trivial⟩ rfl trivial rfl rfl
 ·have h1 : es.length ≤ i := by simpa using g1
  rw [List.drop_eq_nil_of_le h1] at hno
  simp only [stp3] at hno
  subst hno
  refine zal Tk (r := ii (-1)) rfl rfl rfl trivial rfl rfl ?_
  rfl
abbrev prD (z : Int × Int) : D := .agg [ii z.1, ii z.2]
def idxP (z : Int × Int) : List (Int × Int) → Nat → Int
 | [], _ => -1
 | x :: r, i => if x = z then (i : Int) else idxP z r (i + 1)
theorem zoH (z : Int × Int) : ∀ (l : List (Int × Int)) (i : Nat), idxP z l i = if z ∈ l then ((i + l.findIdx (eqB z) : Nat) : Int) else -1
 | [], i => rfl
 | x :: r, i => by
  simp only [idxP]
  by_cases h : x = z
  ·subst h
   rw [if_pos rfl, if_pos (by simp)]
   simp [List.findIdx_cons, eqB]
  ·rw [if_neg h, zoH z r (i + 1)]
   by_cases hm : z ∈ r
   ·rw [if_pos hm, if_pos (by simp [hm])]
    have hz : ¬ z = x := fun e => h e.symm
    rw [List.findIdx_cons, show eqB z x = false by simp [eqB, hz]]
    simp only [cond_false]
    congr 1; omega
   ·rw [if_neg hm, if_neg (by simp [hm]; exact fun e => h e.symm)]
theorem zsK (O : List Heap) (l : List (Int × Int)) (z : Int × Int) (e w : Nat) (ho : zaa O e w = some (ziB l)) (hl : l.length ≤ 1000000) : zap Tryz.prog 94 [.osl e w, prD z] O (ii (idxP z l 0)) [] O := by
 have hO : ∀ H, zaa (H :: O) (e + 1) w = some (ziB l) := fun H => zb3 ho
 generalize hR : idxP z l 0 = R
 obtain ⟨z1, z2⟩ := z
 refine zad Tk Tryz.func94 rfl Tryz.call94 Tryz.ntmps94 (Nat.le_of_ble_eq_true rfl) fun E => ?_
 refine zae Tk Tryz.func94 ?_
 refine zbV Tk Tryz.func94 (hO _) ?_
 refine zac ?_
 refine zag (fun i : Nat => [(0, .osl (e + 1) w), (3, .own 0 3 0 0), (7, ii l.length), (8, ii i)]) (fun _ => [(3, .box [ii z1, ii z2])]) (fun _ => O) 19
  (fun i => i ≤ l.length ∧ idxP (z1, z2) (l.drop i) i = R) (fun i => l.length - i) 0 ⟨Nat.zero_le _, hR⟩ ⟨rfl, rfl, rfl, rfl, trivial⟩ rfl ⟨rfl, trivial⟩ rfl rfl ?_
 rintro i ⟨hi, hno⟩ ih
 clear hR
 refine zae Tk Tryz.func94 ?_
 refine zai Tk Tryz.func94 rfl (fun g1 => ?_) (fun g1 => ?_)
 ·have h1 : i < l.length := by simpa using g1
  have ge : (l.map prI)[(i : Int).toNat]? = some (prI l[i]) := zaj h1
  have dl : l.drop i = l[i] :: l.drop (i + 1) := List.drop_eq_getElem_cons h1
  rw [dl] at hno
  simp only [idxP] at hno
  clear dl
  generalize l[i] = y at *
  obtain ⟨y1, y2⟩ := y
  have n1 : 0 ≤ (i : Int) ∧ (i : Int) < (l.length : Int) := by omega
  refine zaA Tk Tryz.func94 zaL rfl ?_
  refine zti Tk (ho) ?_
  refine zaz Tk (by exact n1) ?_
  refine zti Tk (ho) ?_
  refine zaJ Tk (ge) ?_
  refine zaO Tk Tryz.func94 (by kernel_rfl) ?_
  refine zai Tk Tryz.func94 rfl (fun g2 => ?_) (fun g2 => ?_)
  ·have g2 : (z1 == y1) = true ∧ (z2 == y2) = true := by simpa using g2
   have e1 : z1 = y1 := by simpa using g2.1
   have e2 : z2 = y2 := by simpa using g2.2
   rw [if_pos (by rw [e1, e2])] at hno
   subst hno
   refine zal Tk (r := ii (i : Int)) rfl rfl rfl trivial rfl rfl ?_
   rfl
  ·have g2 : ¬ (y1, y2) = (z1, z2) := fun e => by
    injection e with e1 e2
    subst e1 e2
    simp at g2
   rw [if_neg g2] at hno
   refine zac ?_
   exact ih (i + 1) _ _ ⟨h1, hno⟩ (by omega) ⟨rfl, rfl, rfl, congrArg ii (zaC (n := 1000001) (by omega) (by decide)), trivial⟩ rfl ⟨rfl, trivial⟩ rfl rfl
 ·have h1 : l.length ≤ i := by simpa using g1
  rw [List.drop_eq_nil_of_le h1] at hno
  simp only [idxP] at hno
  subst hno
  refine zal Tk (r := ii (-1)) rfl rfl rfl trivial rfl rfl ?_
  rfl
end Go.AI


namespace Go.AI
open Go.Proofs
set_option maxRecDepth 20000
theorem ztu {x : Sys} {U : Unf (Int × Int)} (h : UOk (lpIn x) U) : U.sts.length ≤ (lpV x).length := zbk h.nd fun s hs => zfR (h.ok s hs)
set_option maxHeartbeats 16000000 in
theorem ztv (O : List Heap) (x : Sys) (h : smallS x) (hx : gSys x) (hV0 : (lpV x).length ≤ 4095) : zap Tryz.prog 42 [sysD x] O (.tup [autD (lpR x).1, .i (prsI (lpR x).2)]) [] O := by
 have hal := zaU (by decide) (zay hx.p).1
 by_cases h0 : 0 < x.p.states ∧ 0 < x.s.states
 ·obtain ⟨V, hV1, hU⟩ := zfV hx h0 (by omega)
  have hF := zlj hx false (show (lpV x).length < 4096 by omega)
  have hlp : lpR x = (unfA x.p.alpha V, V.sts) := by unfold lpR; rw [if_pos h0, hV1]
  have hno : (Except.ok V : Except Int (Unf (Int × Int))) = zbu eqB false (zcT x) (lpMk x) x.p.alpha (4097 - 0) 0 (unf0 ((0 : Int), (0 : Int))) := hV1.symm
  have hU0 : UOk (lpIn x) (unf0 ((0 : Int), (0 : Int))) := ⟨fun s hs => by
   rw [show s = (0, 0) by simpa [unf0] using hs]
   exact ⟨⟨Int.le_refl _, h0.1⟩, Int.le_refl _, h0.2⟩, by simp [unf0], rfl⟩
  have hfew : ∀ U : Unf (Int × Int), UOk (lpIn x) U → U.sts.length ≤ 4095 := fun U hU => Nat.le_trans (ztu hU) hV0
  have hvok := fun i s ev U V' hU hs hi hq => @zfi (Int × Int) _ eqB false (zcT x) (lpIn x) hF i s ev U V' hU hs hi hq
  have s1 := fun O s e => zkY O x.p s e h.p.ed
  have s2 := fun O s e => zkY O x.s s e h.s.ed
  have m1 := fun O e => zbc O x.p.marked e (by have := h.p.mkd; simp only [zao]; omega)
  have m2 := fun O e => zbc O x.s.marked e (by have := h.s.mkd; simp only [zao]; omega)
  have hts : ∀ z ev, zcT x z ev = ((stp3 x.p.edges z.1 ev, stp3 x.s.edges z.2 ev), decide (0 ≤ stp3 x.p.edges z.1 ev) && decide (0 ≤ stp3 x.s.edges z.2 ev), 0) := fun z ev => rfl
  have hmr : ∀ z, lpMk x z = (decide (z.1 ∈ x.p.marked) && decide (z.2 ∈ x.s.marked)) := fun z => rfl
  rw [hlp]
  unfold unfA
  generalize hR : (Except.ok V : Except Int (Unf (Int × Int))) = R at *
  clear hlp hV1 hU hF hV0 hx h
  generalize zcT x = ts at *
  generalize lpMk x = mr at *
  generalize lpIn x = P at *
  obtain ⟨⟨al, st, mk, es⟩, ⟨al', st', mk', es'⟩, ob, ct⟩ := x
  simp only at h0 hal hts hmr s1 s2 m1 m2 hno ⊢
  refine zas [10, 19, 21] Tk Tryz.func42 rfl Tryz.call42 Tryz.ntmps42 (Nat.le_of_ble_eq_true rfl) fun E => ?_
  refine zae Tk Tryz.func42 ?_
  refine zaS Tk Tryz.func42 rfl (fun _ => ?_) (fun h => absurd h (by simp; omega))
  refine zai Tk Tryz.func42 rfl (fun _ => ?_) (fun h => absurd h (by simp; omega))
  refine zah Tk Tryz.func42 (by exact ⟨by decide, by decide⟩) ?_
  refine zac ?_
  refine zat (zgF 28 105 rfl rfl rfl) ?_
  refine zat (zaP 4 59 3 1 (pre := [ints al, ii 0]) (post := [.i (.v (.slice none 0 0))]) rfl rfl rfl) ?_
  refine zat (zaP 4 113 117 3 (pre := [ints al, ii 0, .osl 0 59]) (post := []) rfl rfl rfl) ?_
  refine zag (fun x : Nat × Unf (Int × Int) => [(1, .own 0 1 0 0), (2, .own 0 2 0 0), (4, .own 0 4 0 0), (5, .osl 0 105), (6, ii x.1)])
   (fun x => [(1, .box (sysC ⟨⟨al, st, mk, es⟩, ⟨al', st', mk', es'⟩, ob, ct⟩)), (2, .box [.i (.v (.slice none 0 0)), ii 0, .i (.v (.slice none 0 0)), .i (.v (.slice none 0 0))]), (4, .box [ints al, ii 0, .osl 0 59, .osl 0 113]), (105, ziB x.2.sts), (59, zau x.2.mkl), (113, zbU x.2.eds)]) (fun _ => O) 121
   (fun x => x.1 ≤ x.2.sts.length ∧ UOk P x.2 ∧ x.2.mkl.length ≤ x.1 ∧ x.2.eds.length ≤ 32 * x.1 ∧ R = zbu eqB false ts mr al (4097 - x.1) x.1 x.2) (fun x => 4097 - x.1) (0, unf0 ((0 : Int), (0 : Int)))
   ⟨Nat.zero_le _, hU0, Nat.le_refl _, Nat.le_refl _, hno⟩ ⟨rfl, rfl, rfl, rfl, rfl, trivial⟩ rfl ⟨rfl, rfl, rfl, rfl, rfl, rfl, trivial⟩ rfl rfl ?_
  clear hno hU0 h0
  rintro ⟨i, U⟩ ⟨hi, hgd, hml, hel, hno⟩ ih
  simp only at hi hgd hml hel hno
  refine zae Tk Tryz.func42 ?_
  refine zai Tk Tryz.func42 rfl (fun g1 => ?_) (fun g1 => ?_)
  ·have h1 : i < U.sts.length := by simpa using g1
   clear g1
   have hle := hfew U hgd
   have hsi : U.sts[i]? = some U.sts[i] := List.getElem?_eq_getElem h1
   have gs : (U.sts.map prI)[(i : Int).toNat]? = some (prI U.sts[i]) := zaj h1
   have hoks := hgd.ok _ (List.getElem_mem h1)
   generalize U.sts[i] = s at *
   have hno : R = match zav eqB false ts i s al (zbq mr i s U) with
     | .error e => .error e
     | .ok U' => zbu eqB false ts mr al (4097 - (i + 1)) (i + 1) U' := by
    rw [hno, show 4097 - i = (4097 - (i + 1)) + 1 by omega]
    simp only [zbu, hsi]
    cases zav eqB false ts i s al (zbq mr i s U) <;> rfl
   obtain ⟨m1', m2'⟩ := zcc mr i s U
   have hM : UOk P (zbq mr i s U) := ⟨by rw [m1']; exact hgd.ok, by rw [m1']; exact hgd.nd, by rw [m1', m2']; exact hgd.fr⟩
   have hm3 : (zbq mr i s U).mkl = if mr s = true then U.mkl ++ [(i : Int)] else U.mkl := by
    unfold zbq
    by_cases h : mr s = true <;> simp [h]
   generalize zbq mr i s U = U1 at *
   rw [hmr] at hm3
   obtain ⟨z1, z2⟩ := s
   simp only at hm3
   have d1 := fun O => m1 O z1
   have d2 := fun O => m2 O z2
   generalize decide (z1 ∈ mk) = B1 at *
   generalize decide (z2 ∈ mk') = B2 at *
   obtain ⟨sts, mkl, eds⟩ := U
   obtain ⟨sts1, mkl1, eds1⟩ := U1
   simp only at m1' m2' hm3 hsi gs hno h1 hle hel hml hi hgd
   subst m1' m2'
   have n1 : 0 ≤ (i : Int) ∧ (i : Int) < (sts1.length : Int) := by omega
   have hml1 : mkl1.length ≤ i + 1 := by rw [hm3]; split; (rw [List.length_append, List.length_singleton]; omega); omega
   apply zco (P := True) (s6 := { σ := [(1, .own 0 1 0 0), (2, .own 0 2 0 0), (4, .own 0 4 0 0), (5, .osl 0 105), (6, ii i)], S := [(1, .box (sysC ⟨⟨al, st, mk, es⟩, ⟨al', st', mk', es'⟩, ob, ct⟩)), (2, .box [.i (.v (.slice none 0 0)), ii 0, .i (.v (.slice none 0 0)), .i (.v (.slice none 0 0))]), (4, .box [ints al, ii 0, .osl 0 59, .osl 0 113]), (105, ziB sts1), (59, zau mkl1), (113, zbU eds1)] :: O, n := 121 })
   ·intro J
    refine zaA Tk Tryz.func42 zaL rfl ?_
    refine zaz Tk (by exact n1) ?_
    refine zaz Tk (by exact ⟨by decide, by decide⟩) ?_
    refine zaJ Tk (gs) ?_
    refine za8 Tk (fun _ => d1 _) rfl rfl rfl ?_
    refine zdI Tk (fun c1 => ?_) (fun c1 => ?_)
    ·have c1 : B1 = true := c1
     refine zaz Tk (by exact n1) ?_
     refine zaz Tk (by exact ⟨by decide, by decide⟩) ?_
     refine zaJ Tk (gs) ?_
     refine za8 Tk (fun _ => d2 _) rfl rfl rfl ?_
     refine zaO Tk Tryz.func42 (by kernel_rfl) ?_
     rw [c1, Bool.true_and] at hm3
     refine zai Tk Tryz.func42 rfl (fun c2 => ?_) (fun c2 => ?_)
     ·have c2 : B2 = true := c2
      rw [if_pos c2] at hm3
      refine zah Tk Tryz.func42 (by exact ⟨by show (mkl.length + 1) * 8 ≤ 140737488355328; omega, by show mkl.length + 1 ≤ 9223372036854775807; omega⟩) ?_
      refine zax ?_
      refine zaH (J trivial) ⟨rfl, rfl, rfl, rfl, rfl, trivial⟩ rfl ⟨rfl, rfl, rfl, rfl, by rw [hm3]; exact congrArg some (zaK mkl (i : Int)), rfl, trivial⟩ rfl rfl
     ·have c2 : ¬ B2 = true := by rw [show B2 = false from c2]; decide
      rw [if_neg c2] at hm3
      refine zax ?_
      refine zaH (J trivial) ⟨rfl, rfl, rfl, rfl, rfl, trivial⟩ rfl ⟨rfl, rfl, rfl, rfl, by rw [hm3]; rfl, rfl, trivial⟩ rfl rfl
    ·have c1 : B1 = false := c1
     refine zaO Tk Tryz.func42 (by kernel_rfl) ?_
     rw [c1, Bool.false_and, if_neg (by decide)] at hm3
     refine gcF Tk Tryz.func42 rfl ?_
     refine zax ?_
     refine zaH (J trivial) ⟨rfl, rfl, rfl, rfl, rfl, trivial⟩ rfl ⟨rfl, rfl, rfl, rfl, by rw [hm3]; rfl, rfl, trivial⟩ rfl rfl
   intro _
   clear hm3 hml d1 d2 gs hgd m1 m2 hmr
   have hV0 : zav eqB false ts i (z1, z2) al ⟨sts1, mkl1, eds1⟩ = zav eqB false ts i (z1, z2) (al.drop 0) ⟨sts1, mkl1, eds1⟩ := rfl
   generalize zav eqB false ts i (z1, z2) al ⟨sts1, mkl1, eds1⟩ = VV at *
   refine zae Tk Tryz.func42 ?_
   refine g_go Tk Tryz.func42 ?_
   refine zac ?_
   refine zag (fun x : Nat × Unf (Int × Int) => [(1, .own 0 1 0 0), (2, .own 0 2 0 0), (4, .own 0 4 0 0), (5, .osl 0 105), (6, ii i), (62, ints al), (63, ii al.length), (64, ii x.1)])
    (fun x => [(1, .box (sysC ⟨⟨al, st, mk, es⟩, ⟨al', st', mk', es'⟩, ob, ct⟩)), (2, .box [.i (.v (.slice none 0 0)), ii 0, .i (.v (.slice none 0 0)), .i (.v (.slice none 0 0))]), (4, .box [ints al, ii 0, .osl 0 59, .osl 0 113]), (105, ziB x.2.sts), (59, zau x.2.mkl), (113, zbU x.2.eds)]) (fun _ => O) 121
    (fun x => x.1 ≤ al.length ∧ UOk P x.2 ∧ i < x.2.sts.length ∧ x.2.mkl = mkl1 ∧ x.2.eds.length ≤ 32 * i + x.1 ∧ x.2.sts[i]? = some (z1, z2) ∧ VV = zav eqB false ts i (z1, z2) (al.drop x.1) x.2) (fun x => al.length - x.1) (0, ⟨sts1, mkl1, eds1⟩)
    ⟨Nat.zero_le _, hM, h1, rfl, hel, hsi, hV0⟩ ⟨rfl, rfl, rfl, rfl, rfl, rfl, rfl, rfl, trivial⟩ rfl ⟨rfl, rfl, rfl, rfl, rfl, rfl, trivial⟩ rfl rfl ?_
   clear hV0 hsi hel hle hM n1 h1
   rintro ⟨j, ⟨sts, mk0, eds⟩⟩ ⟨hj, hgd, hil, hmke, hel, hsi, hV⟩ ih2
   simp only at hj hgd hil hmke hel hsi hV
   subst hmke
   have hle := hfew _ hgd
   simp only at hle
   have hj1 : ii (IntKind.i64.wrap ((j : Int) + 1)) = ii ((j + 1 : Nat) : Int) := congrArg ii (zaC (n := 4096) (by omega) (by decide))
   refine zae Tk Tryz.func42 ?_
   refine zai Tk Tryz.func42 rfl (fun g2 => ?_) (fun g2 => ?_)
   ·have h3 : j < al.length := by simpa using g2
    clear g2
    have ga : (al.map fun x => [vi x])[(j : Int).toNat]? = some [vi al[j]] := zaj (f := fun x => [vi x]) h3
    have da : al.drop j = al[j] :: al.drop (j + 1) := List.drop_eq_getElem_cons h3
    rw [da] at hV
    simp only [zav] at hV
    clear da
    generalize al[j] = e at *
    have gs : (sts.map prI)[(i : Int).toNat]? = some [vi z1, vi z2] := by simp [hsi]
    have hvok := fun V' h => hvok i (z1, z2) e ⟨sts, mk0, eds⟩ V' hgd hoks hil h
    unfold zbC at hV hvok
    rw [hts] at hV hvok
    simp only at hV hvok
    have d1 := fun O => s1 O z1 e
    have d2 := fun O => s2 O z2 e
    generalize stp3 es z1 e = t1 at *
    generalize stp3 es' z2 e = t2 at *
    have n3 : 0 ≤ (i : Int) ∧ (i : Int) < (sts.length : Int) := by omega
    refine zah Tk Tryz.func42 (by exact ⟨by omega, by show (j : Int) < (al.length : Int); omega⟩) ?_
    refine zar Tk Tryz.func42 (ga) ?_
    refine zaA Tk Tryz.func42 zaL rfl ?_
    refine zaz Tk (by exact n3) ?_
    refine zaz Tk (by exact ⟨by decide, by decide⟩) ?_
    refine zaJ Tk (gs) ?_
    refine za8 Tk (fun _ => d1 _) rfl rfl rfl ?_
    refine zaz Tk (by exact n3) ?_
    refine zaz Tk (by exact ⟨by decide, by decide⟩) ?_
    refine zaJ Tk (gs) ?_
    refine za8 Tk (fun _ => d2 _) rfl rfl rfl ?_
    refine znV Tk rfl rfl rfl ?_
    refine zaO Tk Tryz.func42 (by kernel_rfl) ?_
    have hix := zoH (t1, t2) sts 0
    clear d1 d2 gs
    refine zah Tk Tryz.func42 (by exact ⟨by decide, by decide⟩) ?_
    refine zaS Tk Tryz.func42 rfl (fun c1 => ?_) (fun c1 => ?_)
    ·have c1 : t1 < 0 := of_decide_eq_true c1
     rw [decide_eq_false (show ¬ 0 ≤ t1 by omega), Bool.false_and] at hV
     simp only [ne_eq, not_true, if_false, if_true] at hV
     clear hvok
     refine gcT Tk Tryz.func42 rfl ?_
     refine zac ?_
     exact ih2 (j + 1, ⟨sts, mk0, eds⟩) _ _ ⟨h3, hgd, hil, rfl, by simp only; omega, hsi, hV⟩ (by simp only; omega) ⟨rfl, rfl, rfl, rfl, rfl, rfl, rfl, hj1, trivial⟩ rfl ⟨rfl, rfl, rfl, rfl, rfl, rfl, trivial⟩ rfl rfl
    have c1 : ¬ t1 < 0 := of_decide_eq_false c1
    rw [decide_eq_true (show 0 ≤ t1 by omega), Bool.true_and] at hV hvok
    refine zah Tk Tryz.func42 (by exact ⟨by decide, by decide⟩) ?_
    refine zai Tk Tryz.func42 rfl (fun c2 => ?_) (fun c2 => ?_)
    ·have c2 : t2 < 0 := of_decide_eq_true c2
     rw [decide_eq_false (show ¬ 0 ≤ t2 by omega)] at hV
     simp only [ne_eq, not_true, if_false, if_true] at hV
     clear hvok
     refine zac ?_
     exact ih2 (j + 1, ⟨sts, mk0, eds⟩) _ _ ⟨h3, hgd, hil, rfl, by simp only; omega, hsi, hV⟩ (by simp only; omega) ⟨rfl, rfl, rfl, rfl, rfl, rfl, rfl, hj1, trivial⟩ rfl ⟨rfl, rfl, rfl, rfl, rfl, rfl, trivial⟩ rfl rfl
    have c2 : ¬ t2 < 0 := of_decide_eq_false c2
    rw [decide_eq_true (show 0 ≤ t2 by omega)] at hV hvok
    simp only [ne_eq, not_true, if_false, Bool.true_eq_false, Bool.false_eq_true, false_and] at hV hvok
    clear c1 c2
    obtain ⟨t, ht⟩ : ∃ t, t = sts.findIdx (eqB (t1, t2)) := ⟨_, rfl⟩
    rw [← ht] at hV hvok hix
    rw [Nat.zero_add] at hix
    obtain ⟨sts2, hst3⟩ : ∃ sts2, sts2 = if (t1, t2) ∈ sts then sts else sts ++ [(t1, t2)] := ⟨_, rfl⟩
    have hU2 : VV = zav eqB false ts i (z1, z2) (al.drop (j + 1)) ⟨sts2, mk0, eds ++ [((i : Int), e, (t : Int))]⟩ ∧ UOk P ⟨sts2, mk0, eds ++ [((i : Int), e, (t : Int))]⟩ ∧ i < sts2.length ∧ sts2[i]? = some (z1, z2) := by
     by_cases hm : (t1, t2) ∈ sts
     ·have hlt : t < sts.length := by rw [ht]; exact zcD ⟨(t1, t2), hm, by simp [eqB]⟩
      rw [if_pos hm] at hst3
      rw [if_pos hlt] at hV hvok
      subst hst3
      have h := hvok _ rfl
      exact ⟨hV, h.1, h.2.1, h.2.2.trans hsi⟩
     ·have hlt : t = sts.length := by
       rw [ht]
       exact za5 fun x hx => by simp only [eqB, decide_eq_false_iff_not]; rintro rfl; exact hm hx
      rw [if_neg hm] at hst3
      rw [if_neg (by omega)] at hV hvok
      subst hst3
      have h := hvok _ rfl
      exact ⟨hV, h.1, h.2.1, h.2.2.trans hsi⟩
    have htm : (t1, t2) ∉ sts → t = sts.length := fun hm => by
     rw [ht]
     exact za5 fun x hx => by simp only [eqB, decide_eq_false_iff_not]; rintro rfl; exact hm hx
    have hic := fun O ho => zsK O sts (t1, t2) 0 105 ho (by omega)
    clear hV hvok ht
    generalize idxP (t1, t2) sts 0 = ix at *
    have hq1 : ix < 0 → t = sts.length ∧ sts2 = sts ++ [(t1, t2)] := fun h => by
     have c2 : (t1, t2) ∉ sts := fun hm => by
      rw [if_pos hm] at hix; omega
     exact ⟨htm c2, by rw [hst3, if_neg c2]⟩
    have hq2 : ¬ ix < 0 → ix = t ∧ sts2 = sts := fun h => by
     have c2 : (t1, t2) ∈ sts := Classical.byContradiction fun hm => by
      rw [if_neg hm] at hix; omega
     exact ⟨by rw [hix, if_pos c2], by rw [hst3, if_pos c2]⟩
    clear hix htm hst3
    apply zco (P := True) (s6 := { σ := [(1, .own 0 1 0 0), (2, .own 0 2 0 0), (4, .own 0 4 0 0), (5, .osl 0 105), (6, ii i), (62, ints al), (63, ii al.length), (64, ii j), (8, ii e), (10, ii t)], S := [(1, .box (sysC ⟨⟨al, st, mk, es⟩, ⟨al', st', mk', es'⟩, ob, ct⟩)), (2, .box [.i (.v (.slice none 0 0)), ii 0, .i (.v (.slice none 0 0)), .i (.v (.slice none 0 0))]), (4, .box [ints al, ii 0, .osl 0 59, .osl 0 113]), (105, ziB sts2), (59, zau mk0), (113, zbU eds)] :: O, n := 121 })
    ·intro J
     refine zaf Tk Tryz.func42 (hic _ rfl) rfl rfl rfl rfl rfl ?_
     refine zai Tk Tryz.func42 rfl (fun c1 => ?_) (fun c1 => ?_)
     ·have c1 := hq1 (of_decide_eq_true c1)
      refine zah Tk Tryz.func42 (by exact ⟨by show (sts.length + 1) * 16 ≤ 140737488355328; omega, by show sts.length + 1 ≤ 9223372036854775807; omega⟩) ?_
      refine zax ?_
      refine zaH (J trivial) ⟨rfl, rfl, rfl, rfl, rfl, rfl, rfl, rfl, rfl, by rw [c1.1]; rfl, trivial⟩ rfl ⟨rfl, rfl, rfl, by rw [c1.2]; exact congrArg some (ziA sts (t1, t2)), rfl, rfl, trivial⟩ rfl rfl
     ·have c1 := hq2 (of_decide_eq_false c1)
      refine zax ?_
      refine zaH (J trivial) ⟨rfl, rfl, rfl, rfl, rfl, rfl, rfl, rfl, rfl, congrArg ii c1.1, trivial⟩ rfl ⟨rfl, rfl, rfl, by rw [c1.2]; rfl, rfl, rfl, trivial⟩ rfl rfl
    intro _
    obtain ⟨hV, hg2, hi2, hs2⟩ := hU2
    clear hgd hil hsi hic hq1 hq2
    refine zae Tk Tryz.func42 ?_
    refine g_go Tk Tryz.func42 ?_
    refine zah Tk Tryz.func42 (by exact ⟨by show (eds.length + 1) * 24 ≤ 140737488355328; omega, by show eds.length + 1 ≤ 9223372036854775807; omega⟩) ?_
    refine zac ?_
    exact ih2 (j + 1, ⟨sts2, mk0, eds ++ [((i : Int), e, (t : Int))]⟩) _ _ ⟨h3, hg2, hi2, rfl, by simp only [List.length_append, List.length_singleton]; omega, hs2, hV⟩ (by simp only; omega) ⟨rfl, rfl, rfl, rfl, rfl, rfl, rfl, hj1, trivial⟩ rfl ⟨rfl, rfl, rfl, rfl, rfl, congrArg some (zc8 eds ((i : Int), e, (t : Int))), trivial⟩ rfl rfl
   ·have h3 : al.length ≤ j := by simpa using g2
    rw [List.drop_eq_nil_of_le h3] at hV
    simp only [zav] at hV
    subst hV
    simp only at hno
    refine zac ?_
    exact ih (i + 1, ⟨sts, mk0, eds⟩) _ _ ⟨by simp only; omega, hgd, hml1, by simp only; omega, hno⟩ (by simp only; omega) ⟨rfl, rfl, rfl, rfl, congrArg ii (zaC (n := 4096) (by omega) (by decide)), trivial⟩ rfl ⟨rfl, rfl, rfl, rfl, rfl, rfl, trivial⟩ rfl rfl
  ·have h1 : U.sts.length ≤ i := by simpa using g1
   rw [zey h1] at hno
   rw [← hR] at hno
   simp only [Except.ok.injEq] at hno
   subst hno
   obtain ⟨sts, mk0, eds⟩ := V
   refine zax ?_
   refine zat (zaq 105 rfl rfl) ?_
   refine zat (zaq 59 rfl rfl) ?_
   refine zat (zaq 113 rfl rfl) ?_
   refine zae Tk Tryz.func42 ?_
   refine g_go Tk Tryz.func42 ?_
   refine zal Tk (r := .tup [autD ⟨al, sts.length, mk0, eds⟩, .i (prsI sts)]) rfl rfl rfl trivial rfl rfl ?_
   rfl
 ·have hlp : lpR x = (⟨x.p.alpha, 0, [], []⟩, []) := by unfold lpR; rw [if_neg h0]
  rw [hlp]
  clear hlp
  obtain ⟨⟨al, st, mk, es⟩, ⟨al', st', mk', es'⟩, ob, ct⟩ := x
  simp only at h0 ⊢
  refine zas [] Tk Tryz.func42 rfl Tryz.call42 Tryz.ntmps42 (Nat.le_of_ble_eq_true rfl) fun E => ?_
  refine zae Tk Tryz.func42 ?_
  refine zaS Tk Tryz.func42 rfl (fun c1 => ?_) (fun c1 => ?_)
  ·have c1 : st > 0 := of_decide_eq_true c1
   refine zai Tk Tryz.func42 rfl (fun h => absurd h (by simp; omega)) (fun _ => ?_)
   refine zac ?_
   refine zae Tk Tryz.func42 ?_
   refine gcF Tk Tryz.func42 rfl ?_
   refine zcq Tk (r := .tup [.agg [ints al, ii 0, .i (.v (.slice none 0 0)), .i (.v (.slice none 0 0))], .i (.v (.slice none 0 0))]) rfl rfl rfl trivial rfl rfl ?_
   repeat' (first | refine zdk ?_ | refine zdl ?_ | refine zh1 ?_ | refine CoDL.cons ?_ ?_ | exact CoDL.nil | exact zcO | refine ze4 ?_ | refine CoLL.cons ?_ ?_ | exact CoLL.nil | refine CoL.cons ?_ ?_ | exact CoL.nil | exact CoI.refl _ | exact CoL.refl _ | exact CoLL.refl _ | exact CoDL.refl _ | exact CoD.refl _)
  ·refine gcF Tk Tryz.func42 rfl ?_
   refine zac ?_
   refine zae Tk Tryz.func42 ?_
   refine gcF Tk Tryz.func42 rfl ?_
   refine zcq Tk (r := .tup [.agg [ints al, ii 0, .i (.v (.slice none 0 0)), .i (.v (.slice none 0 0))], .i (.v (.slice none 0 0))]) rfl rfl rfl trivial rfl rfl ?_
   repeat' (first | refine zdk ?_ | refine zdl ?_ | refine zh1 ?_ | refine CoDL.cons ?_ ?_ | exact CoDL.nil | exact zcO | refine ze4 ?_ | refine CoLL.cons ?_ ?_ | exact CoLL.nil | refine CoL.cons ?_ ?_ | exact CoL.nil | exact CoI.refl _ | exact CoL.refl _ | exact CoLL.refl _ | exact CoDL.refl _ | exact CoD.refl _)
end Go.AI


namespace Go.AI
open Go.Proofs
set_option maxRecDepth 20000
theorem ziI {s : List Int} {gs gm : Int} {gt : Nat → Int} (hs : s.Pairwise (· < ·)) (hr : ∀ x ∈ s, 0 ≤ x ∧ x < 32) (hsl : s.length ≤ 5) (hg : ∀ j, 0 ≤ gt j ∧ gt j ≤ 255) :
  chkA (mkA s gs gm gt) = 0 ∧ smallA (mkA s gs gm gt) ∧ (mkA s gs gm gt).states ≤ 5 ∧ (mkA s gs gm gt).alpha = s := by
 obtain ⟨_, ⟨n, hn, h⟩, h3⟩ := zov (gs := gs) (gm := gm) hs hr hsl hg
 exact ⟨h.c, h.sm, by rw [h.st]; omega, h3⟩
theorem zoK {l s : List Int} (hs : s.Pairwise (· < ·)) (hr : ∀ x ∈ s, 0 ≤ x ∧ x < 32) : zak 32 (hasR l s) none = 0 := zbd (hs.filter _) (fun x hx => hr x (List.mem_filter.1 hx).1) (fun y e => by cases e)
theorem zlf {x : Sk} (h : skOkB x) : gSys (mkS x) ∧ smallS (mkS x) ∧ ((mkS x).p.states ≤ 5 ∧ (mkS x).s.states ≤ 5) := by
 obtain ⟨e1, e2, e3⟩ := ziW x.st
 obtain ⟨p1, p2, p3, p4⟩ := ziI (gs := x.ps) (gm := x.pm) e1 e2 e3 h.p.2
 obtain ⟨s1, s2, s3, s4⟩ := ziI (gs := x.ss) (gm := x.sm) e1 e2 e3 h.s.2
 obtain ⟨o1, o2, o3⟩ := ziW x.ob
 obtain ⟨c1, c2, c3⟩ := ziW x.ct
 have hin : ∀ s : List Int, ∀ e ∈ hasR (zba x.st) s, e ∈ zba x.st := fun s e he => of_decide_eq_true (List.mem_filter.1 he).2
 refine ⟨⟨p1, s1, s4.trans p4.symm, zoK o1 o2, zoK c1 c2, ?_, ?_⟩, ⟨p2, s2, ?_, ?_⟩, p3, s3⟩
 ·intro e he
  rw [show (mkS x).p.alpha = zba x.st from p4]
  exact hin _ e he
 ·intro e he
  rw [show (mkS x).p.alpha = zba x.st from p4]
  exact hin _ e he
 ·have : (hasR (zba x.st) (zba x.ob)).length ≤ (zba x.ob).length := List.length_filter_le _ _
  show (hasR (zba x.st) (zba x.ob)).length ≤ 1000000
  omega
 ·have : (hasR (zba x.st) (zba x.ct)).length ≤ (zba x.ct).length := List.length_filter_le _ _
  show (hasR (zba x.st) (zba x.ct)).length ≤ 1000000
  omega
theorem zsq {x : Sk} (h : skOkB x) : (lpV (mkS x)).length ≤ 25 := by
 obtain ⟨_, _, h1, h2⟩ := zlf h
 rw [zfW]
 exact Nat.le_trans (Nat.mul_le_mul (show (mkS x).p.states.toNat ≤ 5 by omega) (show (mkS x).s.states.toNat ≤ 5 by omega)) (by decide)
theorem ztJ (O : List Heap) (x : Sk) (h : skOkB x) : zap Tryz.prog 13 [.agg (skC x)] O (bb (decide ((lpR (mkS x)).1.states ≤ 10))) [] O := by
 have h1 := fun O => zrA O x h
 obtain ⟨m1, m2, _⟩ := zlf h
 have h2 := fun O => ztv O (mkS x) m2 m1 (by have := zsq h; omega)
 clear m1 m2 h
 generalize lpR (mkS x) = L at *
 generalize mkS x = X at *
 obtain ⟨⟨lal, lst, lmk, les⟩, prs⟩ := L
 obtain ⟨⟨al, st, mk, es⟩, ⟨al', st', mk', es'⟩, ob, ct⟩ := X
 obtain ⟨xst, xps, xpm, xpt, xss, xsm, xt2, xob, xct⟩ := x
 simp only at h1 h2 ⊢
 refine zad Tk Tryz.func13 rfl Tryz.call13 Tryz.ntmps13 (Nat.le_of_ble_eq_true rfl) fun E => ?_
 refine zae Tk Tryz.func13 ?_
 refine zaf Tk Tryz.func13 (h1 _) rfl rfl rfl rfl rfl ?_
 refine zaf Tk Tryz.func13 (h2 _) rfl rfl rfl rfl rfl ?_
 refine zal Tk (r := bb (decide (lst ≤ 10))) rfl rfl rfl trivial rfl rfl ?_
 rfl
def runI (es : List Edg) : Int → List Int → Int
 | s, [] => s
 | s, e :: r => if stp3 es s e < 0 then -1 else runI es (stp3 es s e) r
theorem zlt {es : List Edg} (hp : es.Pairwise ltE) : ∀ (w : List Int) (s : Int) (k : Nat), 0 ≤ s → (0 ≤ runI es s w → folL es w s k = (runI es s w, ((k + w.length : Nat) : Int))) ∧ (runI es s w < 0 → (folL es w s k).2 < ((k + w.length : Nat) : Int))
 | [], s, k, hs => ⟨fun _ => rfl, fun h => absurd hs (by simp only [runI] at h; omega)⟩
 | e :: r, s, k, hs => by
  simp only [folL, runI, ziG hp]
  by_cases c : stp3 es s e < 0
  ·rw [if_pos c, if_pos c]
   exact ⟨fun h => absurd h (by decide), fun _ => by simp only [List.length_cons]; omega⟩
  ·rw [if_neg c, if_neg c]
   have := zlt hp r (stp3 es s e) (k + 1) (by omega)
   rw [show k + 1 + r.length = k + (e :: r).length by simp only [List.length_cons]; omega] at this
   exact this
def genR (a : Aut) (w : List Int) : Bool := decide (a.states ≠ 0) && decide (0 ≤ runI a.edges 0 w)
theorem zn6 (O : List Heap) (a : Aut) (n : Nat) (w : List Int) (h : gAut a n) (hw : w.length ≤ zao) : ∃ v, zap Tryz.prog 62 [autD a, ints w] O (.tup [ii v, bb (genR a w)]) [] O := by
 have hst := h.st
 by_cases h0 : a.states = 0
 ·refine ⟨0, ?_⟩
  have e : genR a w = false := by simp [genR, h0]
  rw [e]
  obtain ⟨al, st, mk, es⟩ := a
  simp only at h0
  subst h0
  refine zad Tk Tryz.func62 rfl Tryz.call62 Tryz.ntmps62 (Nat.le_of_ble_eq_true rfl) fun E => ?_
  refine zae Tk Tryz.func62 ?_
  refine gcT Tk Tryz.func62 rfl ?_
  refine zal Tk (r := .tup [ii 0, bb false]) rfl rfl rfl trivial rfl rfl ?_
  rfl
 ·have hf := fun O => zoX O a 0 w h.ok ⟨Int.le_refl _, by omega⟩ hw
  refine ⟨(folL a.edges w 0 0).1, ?_⟩
  have hs := (zaX (zay h.c).2.2.2).1
  have hr := zlt hs w 0 0 (Int.le_refl _)
  have e : genR a w = decide ((folL a.edges w 0 0).2 = (w.length : Int)) := by
   unfold genR
   rw [decide_eq_true h0, Bool.true_and]
   by_cases c : 0 ≤ runI a.edges 0 w
   ·rw [decide_eq_true c, hr.1 c]; simp
   ·have := hr.2 (by omega)
    rw [Nat.zero_add] at this
    rw [decide_eq_false c, decide_eq_false (by omega)]
  rw [e]
  generalize folL a.edges w 0 0 = F at *
  clear hr hs e h hst
  obtain ⟨al, st, mk, es⟩ := a
  simp only at h0
  refine zad Tk Tryz.func62 rfl Tryz.call62 Tryz.ntmps62 (Nat.le_of_ble_eq_true rfl) fun E => ?_
  refine zae Tk Tryz.func62 ?_
  refine zai Tk Tryz.func62 rfl (fun h => absurd h (by simpa using h0)) (fun _ => ?_)
  refine zaf Tk Tryz.func62 (hf _) rfl rfl rfl rfl rfl ?_
  refine zal Tk (r := .tup [ii F.1, bb (decide (F.2 = (w.length : Int)))]) rfl rfl rfl trivial rfl rfl ?_
  rfl
theorem zf7 (O : List Heap) (a : Aut) (n : Nat) (w : List Int) (h : gAut a n) (hw : w.length ≤ zao) : zap Tryz.prog 21 [autD a, ints w] O (.tup [bb (genR a w), ii 0]) [] O := by
 have h1 := fun O => zet O a (by have := h.sm.ed; simp only [zao]; omega) (by have := h.sm.al; simp only [zao]; omega) (by have := h.sm.mkd; simp only [zao]; omega)
 rw [h.c] at h1
 have h2 := fun O => zn6 O a n w h hw
 generalize genR a w = b at *
 clear h
 obtain ⟨al, st, mk, es⟩ := a
 refine zad Tk Tryz.func21 rfl Tryz.call21 Tryz.ntmps21 (Nat.le_of_ble_eq_true rfl) fun E => ?_
 refine zae Tk Tryz.func21 ?_
 refine zaf Tk Tryz.func21 (h1 _) rfl rfl rfl rfl rfl ?_
 refine gcF Tk Tryz.func21 rfl ?_
 obtain ⟨v, h3⟩ := h2 _
 refine zaf Tk Tryz.func21 (h3) rfl rfl rfl rfl rfl ?_
 refine zal Tk (r := .tup [bb b, ii 0]) rfl rfl rfl trivial rfl rfl ?_
 rfl
end Go.AI


namespace Go.AI
open Go.Proofs
set_option maxRecDepth 20000
end Go.AI


namespace Go.AI
section
variable {c : Cx} {s : St} {H : Heap} {O : List Heap}
end
end Go.AI


namespace Go.AI
open Go.Proofs
set_option maxRecDepth 20000
end Go.AI


namespace Go.AI
open Go.Proofs
set_option maxRecDepth 20000
theorem zrq {x : Sk} (h : skOkB x) (hf : (lpR (mkS x)).1.states ≤ 10) : (lpR (mkS x)).2.length ≤ 10 := by
 obtain ⟨m1, m2, _⟩ := zlf h
 have := (lp_g m1 (by have := zsq h; omega)).1.st
 omega
end Go.AI


namespace Go.Proofs.YtlcekmemdnjjbaaGreatDoor
open Go.ChangeShapes Go.WideShapes Go.ChangeAt Go.RowKit Go.Deep Go.WideElems
set_option maxRecDepth 100000
section
variable {H : Type} {enc : TypeId × Value → H} {P : Program} {W : World}
theorem zmB {t e : TypeId} {m z : Nat} {R : List AI.I → Prop} (ht : P.underlying t = some (.array m e)) (hc : P.cellsOf e = z) (hct : P.cellsOf t = m * z) (he : Opn enc P W e R) :
  Opn enc P W t fun is => ∃ xs : List (List AI.I), xs.length = m ∧ is = xs.flatten ∧ ∀ x ∈ xs, R x := by
 intro n cs x h
 obtain ⟨xs, f, rfl, rfl, hl, hlen, hx⟩ := DataW.trod_array ht h
 rw [hct] at hl
 have build : ∀ k, k ≤ m → ∃ ys : List (List AI.I), ys.length = k ∧ AI.RepL (KW W) (cs.take (k * z)) ys.flatten ∧ ∀ y ∈ ys, R y := by
  intro k
  induction k with
  | zero => intro _; exact ⟨[], rfl, by rw [Nat.zero_mul, List.take_zero]; exact .nil, by simp⟩
  | succ k ih =>
   intro hk
   obtain ⟨ys, h1, h2, h3⟩ := ih (by omega)
   have h0 := hx k (by omega)
   rw [hc, List.getElem?_eq_getElem (by omega)] at h0
   obtain ⟨is, hr, hR⟩ := he _ _ _ h0
   refine ⟨ys ++ [is], by simp [h1], ?_, fun y hy => ?_⟩
   ·rw [Nat.succ_mul, List.take_add, List.flatten_append]
    simpa using zee h2 hr
   ·rcases List.mem_append.1 hy with hy | hy
    ·exact h3 y hy
    ·rw [List.mem_singleton] at hy
     subst hy
     exact hR
 obtain ⟨ys, h1, h2, h3⟩ := build m (Nat.le_refl _)
 rw [List.take_of_length_le (by omega)] at h2
 exact ⟨_, h2, ys, h1, rfl, h3⟩
theorem zo0 : ∀ {xs : List (List AI.I)}, (∀ x ∈ xs, ∃ zs : List Int, zs.length = 5 ∧ x = zs.map (fun z => AI.I.v (.int .u8 z)) ∧ ∀ z ∈ zs, (Lit.int .u8 z).wf = true) → ∃ L : List Int, L.length = 5 * xs.length ∧ xs.flatten = L.map (fun z => AI.I.v (.int .u8 z)) ∧ ∀ z ∈ L, 0 ≤ z ∧ z ≤ 255
 | [], _ => ⟨[], rfl, rfl, by simp⟩
 | x :: r, h => by
  obtain ⟨zs, h1, h2, h3⟩ := h x (by simp)
  obtain ⟨L, g1, g2, g3⟩ := zo0 (xs := r) fun y hy => h y (by simp [hy])
  refine ⟨zs ++ L, by rw [List.length_append, h1, g1, List.length_cons]; omega, by rw [List.flatten_cons, h2, g2, List.map_append], fun z hz => ?_⟩
  rcases List.mem_append.1 hz with hz | hz
  ·exact wf_u8 (h3 z hz)
  ·exact g3 z hz
def OpnB (enc : TypeId × Value → H) (P : Program) (W : World) (N : Nat) (t : TypeId) (R : List AI.I → Prop) : Prop :=
 ∀ n, n < N → ∀ cs x, DataW.trod enc P W 0 (fun _ => true) true n t cs = some x → ∃ is, AI.RepL (KW W) cs is ∧ R is
theorem Opn.b {t : TypeId} {R : List AI.I → Prop} (h : Opn enc P W t R) (N : Nat) : OpnB enc P W N t R := fun n _ cs x hx => h n cs x hx
theorem Opn.ofB {t : TypeId} {R : List AI.I → Prop} (h : ∀ N, OpnB enc P W N t R) : Opn enc P W t R := fun n cs x hx => h (n + 1) n (Nat.lt_succ_self n) cs x hx
theorem OpnB.less {t : TypeId} {R : List AI.I → Prop} {N : Nat} (h : OpnB enc P W (N + 1) t R) : OpnB enc P W N t R := fun n hn cs x hx => h n (by omega) cs x hx
def AllP : List (List AI.I → Prop) → List (List AI.I) → Prop
 | [], [] => True
 | R :: Rs, a :: l => R a ∧ AllP Rs l
 | _, _ => False
def FldB (enc : TypeId × Value → H) (P : Program) (W : World) (N : Nat) : List Field → List (List AI.I → Prop) → Prop
 | [], [] => True
 | f :: fs, R :: Rs => OpnB enc P W N f.type R ∧ FldB enc P W N fs Rs
 | _, _ => False
def SeqB (P : Program) : Nat → List Field → Nat → Bool
 | o, [], n => o == n
 | o, f :: fs, n => f.offset == o && SeqB P (o + P.cellsOf f.type) fs n
theorem zg5 {N n : Nat} (hn : n < N) {cs : List Value} : ∀ {fs : List Field} {Rs : List (List AI.I → Prop)} {o : Nat}, FldB enc P W N fs Rs → SeqB P o fs cs.length = true →
  (∀ f ∈ fs, ∃ y, DataW.trod enc P W 0 (fun _ => true) true n f.type ((cs.drop f.offset).take (P.cellsOf f.type)) = some y) → ∃ parts, AI.RepL (KW W) (cs.drop o) parts.flatten ∧ AllP Rs parts
 | [], [], o, _, hs, _ => by
  have : o = cs.length := by simpa [SeqB] using hs
  subst this
  exact ⟨[], by simpa using AI.RepL.nil, trivial⟩
 | f :: fs, R :: Rs, o, ⟨hf, hF⟩, hs, hx => by
  simp only [SeqB, Bool.and_eq_true, beq_iff_eq] at hs
  obtain ⟨rfl, hs⟩ := hs
  obtain ⟨y, hy⟩ := hx f (by simp)
  obtain ⟨a, ra, ha⟩ := hf n hn _ _ hy
  obtain ⟨parts, rp, hp⟩ := zg5 hn hF hs fun g hg => hx g (by simp [hg])
  refine ⟨a :: parts, ?_, ha, hp⟩
  have e : cs.drop f.offset = (cs.drop f.offset).take (P.cellsOf f.type) ++ cs.drop (f.offset + P.cellsOf f.type) := by
   rw [← List.drop_drop, List.take_append_drop]
  rw [e, List.flatten_cons]
  exact zee ra rp
 | [], _ :: _, _, h, _, _ => h.elim
 | _ :: _, [], _, h, _, _ => h.elim
theorem zjx {t : TypeId} {fs : Array Field} {Rs : List (List AI.I → Prop)} {N : Nat} (ht : P.underlying t = some (.struct fs)) (hs : SeqB P 0 fs.toList (P.cellsOf t) = true) (hf : FldB enc P W N fs.toList Rs) :
  OpnB enc P W (N + 1) t fun is => ∃ parts, is = parts.flatten ∧ AllP Rs parts := by
 intro n hn cs x h
 obtain ⟨xs, m, rfl, rfl, hl, hlen, hx⟩ := DataW.trod_struct ht h
 rw [← hl] at hs
 obtain ⟨parts, hr, hp⟩ := zg5 (n := m) (by omega) hf hs fun f hfm => by
  obtain ⟨i, hi, e⟩ := List.mem_iff_getElem.1 hfm
  have h1 := hx i f (by rw [← e]; simp)
  rw [h1]
  have : i < xs.length := by rw [hlen]; simpa using hi
  exact ⟨xs[i], by simp [this]⟩
 exact ⟨_, by simpa using hr, parts, rfl, hp⟩
end
section
variable {H : Type} {enc : TypeId × Value → H} {W : World}
abbrev u8V (z : Int) : AI.I := AI.I.v (.int .u8 z)
theorem opn_graph : Opn enc Tryz.prog W 26 fun is => ∃ (x y : Int) (L : List Int), is = [u8V x, u8V y] ++ L.map u8V ∧ 0 ≤ x ∧ L.length = 25 ∧ ∀ z ∈ L, 0 ≤ z ∧ z ≤ 255 := by
 intro n cs y hn
 obtain ⟨is, hr, a, b, c, rfl, ⟨x, rfl, hx⟩, ⟨y, rfl, _⟩, ⟨xs, h5, rfl, hxs⟩⟩ := zjw Tryz.underlying26 (z0 := 1) (z1 := 1) (z2 := 25) (by kernel_rfl) (by kernel_rfl) (by kernel_rfl) (by kernel_rfl) rfl rfl rfl
  (zeH Tryz.underlying5) (zeH Tryz.underlying5) (zmB Tryz.underlying24 (z := 5) (by kernel_rfl) (by kernel_rfl) (zok Tryz.underlying23 Tryz.underlying5 (by kernel_rfl) (by kernel_rfl))) n _ _ hn
 obtain ⟨L, g1, g2, g3⟩ := zo0 hxs
 rw [h5] at g1
 rw [g2] at hr
 exact ⟨_, hr, x, y, L, rfl, (wf_u8 hx).1, g1, g3⟩
theorem zoN {L : List Int} (h : ∀ z ∈ L, 0 ≤ z ∧ z ≤ 255) (j : Nat) : 0 ≤ L.getD j 0 ∧ L.getD j 0 ≤ 255 := by
 rw [List.getD_eq_getElem?_getD]
 cases hj : L[j]? with
 | none => exact ⟨by decide, by decide⟩
 | some z => exact h z (List.mem_of_getElem? hj)
end
end Go.Proofs.YtlcekmemdnjjbaaGreatDoor


namespace Go.Proofs.YtlcekmemdnjjbaaGreatDoor
open Go.ChangeShapes Go.WideShapes Go.ChangeAt Go.RowKit Go.Deep Go.WideElems
set_option maxRecDepth 100000
section
variable {H : Type} {enc : TypeId × Value → H} {W : World}
theorem ziC {r : Reach} {b0 : Nat} {v : Value} {d : DataW H} {p : List MemPlace} (hv : Value.okWide Tryz.prog W r b0 28 v) (h : DataW.Trod enc Tryz.prog W 0 (fun _ => true) true 28 v d p) :
  ∃ x : AI.Sk, (AI.skOkB x ∧ (0 ≤ x.ob ∧ x.ob ≤ 255) ∧ 0 ≤ x.ct ∧ x.ct ≤ 255) ∧ ∀ ρ sh, AI.RepD (KW W) ρ sh v (.agg (AI.skC x)) := by
 obtain ⟨cs, rfl, _⟩ := okWide_struct Tryz.underlying28 hv
 obtain ⟨n, hn⟩ := h
 have hop : Opn enc Tryz.prog W 28 fun is => ∃ parts, is = parts.flatten ∧ AllP [_, _, _, _, _] parts := Opn.ofB fun N => (zjx (Rs := [_, _, _, _, _]) Tryz.underlying28 (by kernel_rfl) ⟨(zeH Tryz.underlying22).b N, opn_graph.b N, opn_graph.b N, (zeH Tryz.underlying22).b N, (zeH Tryz.underlying22).b N, trivial⟩).less
 obtain ⟨is, hr, parts, rfl, hp⟩ := hop n _ _ hn
 match parts, hp with
 | [_, _, _, _, _], ⟨⟨st, e1, _⟩, ⟨ps, pm, L, e2, hps, hL, hLb⟩, ⟨ss, sm, M, e3, hss, hM, hMb⟩, ⟨ob, e4, hob⟩, ⟨ct, e5, hct⟩, _⟩ =>
  subst e1 e2 e3 e4 e5
  refine ⟨⟨st, ps, pm, fun j => L.getD j 0, ss, sm, fun j => M.getD j 0, ob, ct⟩, ⟨⟨⟨hps, zoN hLb⟩, ⟨hss, zoN hMb⟩⟩, wf_u8 hob, wf_u8 hct⟩, fun ρ sh => ?_⟩
  have := AI.RepD.agg (AI.RepDL.ofL (ρ := ρ) (sh := sh) hr)
  match L, hL, M, hM with
  | [a0, a1, a2, a3, a4, a5, a6, a7, a8, a9, a10, a11, a12, a13, a14, a15, a16, a17, a18, a19, a20, a21, a22, a23, a24], _, [b0, b1, b2, b3, b4, b5, b6, b7, b8, b9, b10, b11, b12, b13, b14, b15, b16, b17, b18, b19, b20, b21, b22, b23, b24], _ => exact this
theorem zol {r : Reach} {b0 : Nat} {v : Value} {d : DataW H} {p : List MemPlace} (hv : Value.okWide Tryz.prog W r b0 44 v) (h : DataW.Trod enc Tryz.prog W 0 (fun _ => true) true 44 v d p) :
  ∃ l : List Int, (l.length ≤ AI.zao ∧ ∀ z ∈ l, 0 ≤ z ∧ z ≤ 255) ∧ ∀ ρ sh, AI.RepD (KW W) ρ sh v (.i (.sl 1 l.length (l.map fun z => [u8V z]))) := by
 obtain ⟨n, hn⟩ := h
 obtain ⟨is, hr, xs, rfl, hx, hl⟩ := zoj Tryz.underlying44 (z := 1) (by kernel_rfl) (by decide) (zeH Tryz.underlying5) n _ _ hn
 obtain ⟨l, rfl, hb⟩ := zoA (f := fun z : Int => [u8V z]) (Q := fun z => 0 ≤ z ∧ z ≤ 255) (xs := xs) fun d hd => by
  obtain ⟨z, hz, hw⟩ := hx d hd
  exact ⟨z, hz, wf_u8 hw⟩
 rw [okWide_slice Tryz.underlying44 hv] at hr
 refine ⟨l, ⟨zqN (by simpa using hl), hb⟩, fun ρ sh => ?_⟩
 rw [List.length_map] at hr
 cases hr with
 | cons h1 h2 => exact .i h1
end
end Go.Proofs.YtlcekmemdnjjbaaGreatDoor


namespace Go.AI
open Go.Proofs
set_option maxRecDepth 20000
def zkT (x : Sys) (a : Aut) (ps : List (Int × Int)) (E : List Int) (e : Int) : Prop := (∃ s ∈ E, zeG a s e = true) ∧ ∃ s ∈ E, refF x a ps s e = true
theorem zdA {f : Int → Bool} {l : List Int} : 0 < (l.filter f).length ↔ ∃ s ∈ l, f s = true := by
 rw [List.length_pos_iff_exists_mem]
 exact ⟨fun ⟨s, h⟩ => ⟨s, (List.mem_filter.1 h).1, (List.mem_filter.1 h).2⟩, fun ⟨s, h1, h2⟩ => ⟨s, List.mem_filter.2 ⟨h1, h2⟩⟩⟩
theorem zfk {x : Sys} {a : Aut} {ps : List (Int × Int)} {o : Aut} {i : Int} {E : List Int} : ∀ {l : List Int}, (zdG x a ps o i E l).isSome = true ↔ ∃ e ∈ l, zkT x a ps E e
 | [] => by simp [zdG]
 | e :: r => by
  simp only [zdG]
  by_cases c : 0 < (divP a E e).length ∧ 0 < (divR x a ps E e).length
  ·rw [if_pos c]
   exact ⟨fun _ => ⟨e, by simp, zdA.1 c.1, zdA.1 c.2⟩, fun _ => rfl⟩
  ·rw [if_neg c, zfk (l := r)]
   refine ⟨fun ⟨e', h1, h2⟩ => ⟨e', by simp [h1], h2⟩, fun ⟨e', h1, h2⟩ => ?_⟩
   rcases List.mem_cons.1 h1 with rfl | h1
   ·exact absurd ⟨zdA.2 h2.1, zdA.2 h2.2⟩ c
   ·exact ⟨e', h1, h2⟩
theorem zeZ {x : Sys} {a : Aut} {ps : List (Int × Int)} {o : Aut} : ∀ {es : List (List Int)} {i : Nat}, (za6 x a ps o es i).isSome = true ↔ ∃ E ∈ es, ∃ e ∈ x.ct, zkT x a ps E e
 | [], i => by simp [za6]
 | E :: r, i => by
  simp only [za6]
  have h := zfk (x := x) (a := a) (ps := ps) (o := o) (i := i) (E := E) (l := x.ct)
  cases hI : zdG x a ps o i E x.ct with
  | some w =>
   rw [hI] at h
   obtain ⟨e, h1, h2⟩ := h.1 rfl
   exact ⟨fun _ => ⟨E, by simp, e, h1, h2⟩, fun _ => rfl⟩
  | none =>
   rw [hI] at h
   simp only
   rw [zeZ (es := r)]
   refine ⟨fun ⟨E', h1, h2⟩ => ⟨E', by simp [h1], h2⟩, fun ⟨E', h1, h2⟩ => ?_⟩
   rcases List.mem_cons.1 h1 with rfl | h1
   ·have := h.2 h2; cases this
   ·exact ⟨E', h1, h2⟩
end Go.AI


namespace Go.AI
set_option maxRecDepth 20000
theorem zmY {es : List Edg} {p : Int → Bool} {n : Nat} (hes : ∀ x ∈ es, 0 ≤ x.2.2 ∧ x.2.2 < (n : Int)) {l : List Int} {e : Edg} (he : e ∈ es) (hp : p e.2.1 = true) (h : e.1 ∈ clo es p n l) : e.2.2 ∈ clo es p n l :=
 (zdd hes).2 ⟨hes e he, .step ((zdd hes).1 h).2 he hp⟩
theorem zle {es : List Edg} {p : Int → Bool} {n : Nat} : ∀ (w l : List Int), ∃ m, nxtL es p n (clo es p n l) w = clo es p n m
 | [], l => ⟨l, rfl⟩
 | e :: w, l => zle w (tgtE es (clo es p n l) e)
section
variable {a : Aut} {n : Nat} {on on1 : List Int} {V V1 : Unf (List Int)}
theorem prjU.closed (h : prjU a n on V) {E : List Int} (hE : E ∈ V.sts) {e : Edg} (he : e ∈ a.edges) (hp : e.2.1 ∉ on) (hs : e.1 ∈ E) : e.2.2 ∈ E := by
 obtain ⟨i, hi⟩ := List.getElem?_of_mem hE
 obtain ⟨z, _, _, _, hz⟩ := zfM h hi
 obtain ⟨m, hm⟩ := zle (es := a.edges) (p := lowP on [] false) (n := n) z.2 [0]
 rw [hm] at hz
 rw [← hz] at hs ⊢
 exact zmY h.g.to he (by simp [lowP, hp]) hs
end
theorem ztP {x : Sys} (hx : gSys x) (hV : (lpV x).length ≤ 4095) (hn : (lpR x).2.length ≤ 11) (h0 : (lpR x).2.length ≠ 0) : ∃ V, prjU (lpR x).1 (lpR x).2.length x.ob V ∧ (esR x).2 = V.sts := by
 obtain ⟨V, hU⟩ := ztl (lp_g hx hV).1 (by omega) hn x.ob
 exact ⟨V, hU, by unfold esR; rw [if_neg h0, hU.hV]⟩
end Go.AI


namespace Go.AI
set_option maxRecDepth 20000
theorem zts {x : Sys} (hx : gSys x) (hV : (lpV x).length ≤ 4095) {i : Nat} {z : Int × Int} (hz : (lpR x).2[i]? = some z) {e : Int} (he : e ∈ x.p.alpha) :
  (stp3 (lpR x).1.edges i e = -1 ∧ ¬ (0 ≤ stp3 x.p.edges z.1 e ∧ 0 ≤ stp3 x.s.edges z.2 e)) ∨ ((0 ≤ stp3 x.p.edges z.1 e ∧ 0 ≤ stp3 x.s.edges z.2 e) ∧ ∃ j : Nat, stp3 (lpR x).1.edges i e = (j : Int) ∧ (lpR x).2[j]? = some (stp3 x.p.edges z.1 e, stp3 x.s.edges z.2 e)) := by
 by_cases h0 : 0 < x.p.states ∧ 0 < x.s.states
 ·obtain ⟨V, hV1, hU⟩ := zfV hx h0 (by omega)
  have hlp : lpR x = (unfA x.p.alpha V, V.sts) := by unfold lpR; rw [if_pos h0, hV1]
  rw [hlp] at hz ⊢
  have hal := (zan (zay hx.p).1).1
  have hs : (zcT x z e).2.1 = (decide (0 ≤ stp3 x.p.edges z.1 e) && decide (0 ≤ stp3 x.s.edges z.2 e)) := rfl
  rcases znw hU hal hz he with ⟨h1, h2⟩ | ⟨h1, h2⟩
  ·rw [hs] at h1
   refine .inl ⟨h2, fun hc => ?_⟩
   rw [decide_eq_true hc.1, decide_eq_true hc.2] at h1
   cases h1
  ·rw [hs] at h1
   simp only [Bool.and_eq_true, decide_eq_true_eq] at h1
   exact .inr ⟨h1, h2⟩
 ·have hlp : lpR x = (⟨x.p.alpha, 0, [], []⟩, []) := by unfold lpR; rw [if_neg h0]
  rw [hlp] at hz
  simp at hz
theorem zsu {x : Sys} (h : (lpR x).2.length ≠ 0) : (lpR x).2[0]? = some (0, 0) := by
 by_cases h0 : 0 < x.p.states ∧ 0 < x.s.states
 ·unfold lpR at h ⊢
  rw [if_pos h0] at h ⊢
  cases hV : lpU x with
  | error e => rw [hV] at h; exact absurd rfl h
  | ok V =>
   simp only
   obtain ⟨r, hr⟩ := zfj (show zbu eqB false (zcT x) (lpMk x) x.p.alpha 4097 0 (unf0 ((0 : Int), (0 : Int))) = .ok V from hV)
   rw [← hr]
   rfl
 ·unfold lpR at h
  rw [if_neg h0] at h
  exact absurd rfl h
def zb0 (ct ob : List Int) (o : Aut) (rows : List (List Int)) : List Int → Int → Bool → Bool
 | [], _, _ => true
 | e :: r, at_, kn => if (decide (e ∈ ct) && (!kn || !decide (e ∈ rows.getD at_.toNat []))) = true then false
  else if (kn && decide (e ∈ ob)) = true then zb0 ct ob o rows r (if 0 ≤ stp3 o.edges at_ e then stp3 o.edges at_ e else 0) (decide (0 ≤ stp3 o.edges at_ e)) else zb0 ct ob o rows r at_ kn
section
variable {x : Sys} {V : Unf (List Int)}
theorem zia (hx : gSys x) (hV : (lpV x).length ≤ 4095) (hU : prjU (lpR x).1 (lpR x).2.length x.ob V)
  (hT : ∀ E ∈ V.sts, ∀ e ∈ x.ct, ¬ zkT x (lpR x).1 (lpR x).2 E e)
  (hun : ∀ (i : Nat) z, (lpR x).2[i]? = some z → ∀ e ∈ x.p.alpha, e ∉ x.ct → 0 ≤ stp3 x.p.edges z.1 e → 0 ≤ stp3 (lpR x).1.edges i e) :
  ∀ (w : List Int) (i : Nat) (z : Int × Int) (k : Nat) (E : List Int), (∀ e ∈ w, e ∈ x.p.alpha) → (lpR x).2[i]? = some z → V.sts[k]? = some E → (i : Int) ∈ E →
   (decide (0 ≤ runI x.p.edges z.1 w) && zb0 x.ct x.ob (unfA (zbe (lpR x).1 x.ob) V) (ctlR x (lpR x).1 V.sts) w k true) = decide (0 ≤ runI (lpR x).1.edges i w)
 | [], i, z, k, E, _, hz, _, _ => by
  have := (zsw hx hV z (List.mem_of_getElem? hz)).1
  simp [runI, zb0, this.1]
 | e :: w, i, z, k, E, hw, hz, hE, hi => by
  have he := hw e (by simp)
  have hrow : (ctlR x (lpR x).1 V.sts).getD (k : Int).toNat [] = x.ct.filter fun e => decide (0 < (divP (lpR x).1 E e).length) := by
   rw [Int.toNat_natCast, List.getD_eq_getElem?_getD]
   unfold ctlR
   rw [List.getElem?_map, hE]; rfl
  have hEm := List.mem_of_getElem? hE
  have hkob : e ∈ x.ob → e ∈ zbe (lpR x).1 x.ob := fun h => by rw [zoB hx hV]; exact h
  have ih := fun i z k E h1 h2 h3 => zia hx hV hU hT hun w i z k E (fun e' h' => hw e' (by simp [h'])) h1 h2 h3
  rcases zts hx hV hz he with ⟨h1, h2⟩ | ⟨⟨h1, h2⟩, j, h3, h4⟩
  ·have hr2 : runI (lpR x).1.edges i (e :: w) = -1 := by simp only [runI]; rw [h1, if_pos (by decide)]
   rw [hr2, decide_eq_false (by decide : ¬ (0 : Int) ≤ -1)]
   by_cases hp : stp3 x.p.edges z.1 e < 0
   ·have hr1 : runI x.p.edges z.1 (e :: w) = -1 := by simp only [runI]; rw [if_pos hp]
    rw [hr1, decide_eq_false (by decide : ¬ (0 : Int) ≤ -1)]; rfl
   ·have hct : e ∈ x.ct := Classical.byContradiction fun hc => by have := hun i z hz e he hc (by omega); omega
    have hno : e ∉ (ctlR x (lpR x).1 V.sts).getD (k : Int).toNat [] := by
     rw [hrow]
     intro hm
     obtain ⟨s, hs1, hs2⟩ := zdA.1 (of_decide_eq_true (List.mem_filter.1 hm).2)
     refine hT E hEm e hct ⟨⟨s, hs1, hs2⟩, i, hi, ?_⟩
     unfold refF canF zeG
     rw [h1, List.getD_eq_getElem?_getD, Int.toNat_natCast, hz]
     simp only [Option.getD_some]
     rw [decide_eq_true (by omega : 0 ≤ stp3 x.p.edges z.1 e)]
     rfl
    have hp : zb0 x.ct x.ob (unfA (zbe (lpR x).1 x.ob) V) (ctlR x (lpR x).1 V.sts) (e :: w) k true = false := by
     simp only [zb0]
     rw [decide_eq_true hct, decide_eq_false hno]
     rfl
    rw [hp, Bool.and_false]
  ·have hpm : zeG (lpR x).1 i e = true := by unfold zeG; rw [h3]; exact decide_eq_true (Int.natCast_nonneg j)
   have hedge : ((i : Int), e, (j : Int)) ∈ (lpR x).1.edges := by
    have := zbP (es := (lpR x).1.edges) (s := (i : Int)) (ev := e) (by rw [h3]; exact Int.natCast_nonneg j)
    rw [h3] at this; exact this
   have hc1 : (decide (e ∈ x.ct) && (!true || !decide (e ∈ (ctlR x (lpR x).1 V.sts).getD (k : Int).toNat []))) = false := by
    by_cases hct : e ∈ x.ct
    ·have hin : e ∈ (ctlR x (lpR x).1 V.sts).getD (k : Int).toNat [] := by
      rw [hrow]
      exact List.mem_filter.2 ⟨hct, decide_eq_true (zdA.2 ⟨i, hi, hpm⟩)⟩
     rw [decide_eq_true hin]; simp
    ·rw [decide_eq_false hct]; rfl
   have hr1 : runI x.p.edges z.1 (e :: w) = runI x.p.edges (stp3 x.p.edges z.1 e) w := by simp only [runI]; rw [if_neg (by omega)]
   have hr2 : runI (lpR x).1.edges i (e :: w) = runI (lpR x).1.edges j w := by simp only [runI]; rw [h3, if_neg (by omega)]
   rw [hr1, hr2]
   by_cases hob : e ∈ x.ob
   ·rcases hU.stp hE (hkob hob) with ⟨g1, _⟩ | ⟨_, k', g2, g3⟩
    ·exfalso
     have : (j : Int) ∈ nxt (lpR x).1.edges (lowP x.ob [] false) (lpR x).2.length E e := (zdd hU.g.to).2 ⟨hU.g.to _ hedge, .base (zfa.2 ⟨_, hedge, hi, rfl, rfl⟩)⟩
     rw [g1] at this; cases this
    ·have hpw : zb0 x.ct x.ob (unfA (zbe (lpR x).1 x.ob) V) (ctlR x (lpR x).1 V.sts) (e :: w) k true = zb0 x.ct x.ob (unfA (zbe (lpR x).1 x.ob) V) (ctlR x (lpR x).1 V.sts) w k' true := by
      simp only [zb0]
      rw [hc1, if_neg (by decide), decide_eq_true hob, if_pos (by decide)]
      have hst : stp3 (unfA (zbe (lpR x).1 x.ob) V).edges (k : Int) e = (k' : Int) := g2
      rw [hst, if_pos (Int.natCast_nonneg k'), decide_eq_true (Int.natCast_nonneg k')]
     rw [hpw]
     exact ih j _ k' _ h4 g3 ((zdd hU.g.to).2 ⟨hU.g.to _ hedge, .base (zfa.2 ⟨_, hedge, hi, rfl, rfl⟩)⟩)
   ·have hpw : zb0 x.ct x.ob (unfA (zbe (lpR x).1 x.ob) V) (ctlR x (lpR x).1 V.sts) (e :: w) k true = zb0 x.ct x.ob (unfA (zbe (lpR x).1 x.ob) V) (ctlR x (lpR x).1 V.sts) w k true := by
     simp only [zb0]
     rw [hc1, if_neg (by decide), decide_eq_false hob, if_neg (by decide)]
    rw [hpw]
    exact ih j _ k _ h4 hE (hU.closed hEm hedge hob hi)
end
theorem znn {x : Sys} (hx : gSys x) (hV : (lpV x).length ≤ 4095) (hn : (lpR x).2.length ≤ 11) (h0 : (lpR x).2.length ≠ 0) (ht : (zez x).isSome = false)
  (hun : ∀ (i : Nat) z, (lpR x).2[i]? = some z → ∀ e ∈ x.p.alpha, e ∉ x.ct → 0 ≤ stp3 x.p.edges z.1 e → 0 ≤ stp3 (lpR x).1.edges i e) (w : List Int) (hw : ∀ e ∈ w, e ∈ x.p.alpha) :
  (genR x.p w && zb0 x.ct x.ob (esR x).1 (ctlR x (lpR x).1 (esR x).2) w 0 (decide (0 < (esR x).1.states))) = genR (lpR x).1 w := by
 obtain ⟨V, hU, hes⟩ := ztP hx hV hn h0
 have he1 : (esR x).1 = unfA (zbe (lpR x).1 x.ob) V := by unfold esR; rw [if_neg h0, hU.hV]
 have hz := zsu h0
 have hin := zsw hx hV _ (List.mem_of_getElem? hz)
 have hfst := hU.fst
 have hpos : 0 < V.sts.length := (List.getElem?_eq_some_iff.1 hfst).1
 have hT : ∀ E ∈ V.sts, ∀ e ∈ x.ct, ¬ zkT x (lpR x).1 (lpR x).2 E e := fun E hE e he hc => by
  have : (zez x).isSome = true := zeZ.2 ⟨E, by rw [hes]; exact hE, e, he, hc⟩
  rw [ht] at this; cases this
 have h := zia hx hV hU hT hun w 0 _ 0 _ hw hz hfst ((zdd hU.g.to).2 ⟨⟨Int.le_refl _, by show (0 : Int) < ((lpR x).2.length : Int); omega⟩, .base (by simp)⟩)
 rw [he1, hes]
 unfold genR
 have hst : (unfA (zbe (lpR x).1 x.ob) V).states = (V.sts.length : Int) := rfl
 rw [hst, decide_eq_true (by omega : (0 : Int) < (V.sts.length : Int)), decide_eq_true (by have := hin.1; omega : x.p.states ≠ 0), decide_eq_true (by rw [hU.g.st]; omega : (lpR x).1.states ≠ 0), Bool.true_and, Bool.true_and]
 exact h
end Go.AI


namespace Go.AI
open Go.Proofs
set_option maxRecDepth 20000
theorem zsm (O : List Heap) (x : Sys) (e : Int) (hl : x.p.alpha.length ≤ 1000000) (hs : x.p.alpha.Pairwise (· < ·)) (d nm : Nat) (ho : zaa O d nm = some (.box (sysC x))) : zap Tryz.prog 58 [ii e, .own d nm 0 0] O (bb (!decide (e ∈ x.p.alpha))) [] O := by
 have h := fun O => zby O x.p.alpha e (by simp only [zao]; omega) hs
 obtain ⟨⟨al, st, mk, es⟩, ⟨al', st', mk', es'⟩, ob, ct⟩ := x
 simp only at h ⊢
 refine zad Tk Tryz.func58 rfl Tryz.call58 Tryz.ntmps58 (Nat.le_of_ble_eq_true rfl) fun E => ?_
 refine zae Tk Tryz.func58 ?_
 refine zbV Tk Tryz.func58 (zb3 ho) ?_
 refine zaf Tk Tryz.func58 (h _) rfl rfl rfl rfl rfl ?_
 refine zal Tk (r := bb (!decide (e ∈ al))) rfl rfl rfl trivial rfl rfl ?_
 rfl
def ziy (x : Sys) (o : Aut) (rows : List (List Int)) (w : List Int) : Bool × Int :=
 if (w.length : Int) > 4096 then (false, 15) else if (w.any fun e => !decide (e ∈ x.p.alpha)) = true then (false, 9) else if genR x.p w = false then (false, 0) else (zb0 x.ct x.ob o rows w 0 (decide (o.states > 0)), 0)
set_option maxHeartbeats 8000000 in
theorem zof (O : List Heap) (x : Sys) (o : Aut) (rows : List (List Int)) (w : List Int) (h : smallS x) (hx : gSys x) (ho : gAut o rows.length) (hrl : rows.length ≤ 4096) (hrw : ∀ r ∈ rows, r.Pairwise (· < ·) ∧ r.length ≤ 1000000) (hw : w.length ≤ zao) : zap Tryz.prog 20 [sysD x, ctlD o rows, ints w] O (.tup [bb (ziy x o rows w).1, ii (ziy x o rows w).2]) [] O := by
 have h1 := fun O => zpp O x h
 rw [zi3 hx] at h1
 have hal := (zan (zay hx.p).1).1
 have h2 := fun O hO => zdL O w 58 0 3 (fun e => !decide (e ∈ x.p.alpha)) hw (fun e _ => zsm _ x e h.p.al hal 2 3 hO)
 have hgp : gAut x.p x.p.states.toNat := ⟨by have := (zay hx.p).2.1; omega, h.p, hx.p⟩
 have h3 := fun O => zf7 O x.p _ w hgp hw
 have hct := fun O e => zby O x.ct e (by have := h.ct; simp only [zao]; omega) (zan hx.ct).1
 have hcb := fun O e => zby O x.ob e (by have := h.ob; simp only [zao]; omega) (zan hx.ob).1
 have hst := fun O s e hs => zkX O o rows.length s e ho hs
 have hto := ho.to
 have hev := ho.ev
 have host := ho.st
 obtain ⟨R, hR⟩ : ∃ R, R = ziy x o rows w := ⟨_, rfl⟩
 rw [← hR]
 unfold ziy at hR
 generalize (w.any fun e => !decide (e ∈ x.p.alpha)) = b2 at *
 generalize genR x.p w = b3 at *
 clear hgp hal h hx ho
 obtain ⟨⟨al, st, mk, eds⟩, ⟨al', st', mk', eds'⟩, ob, ct⟩ := x
 obtain ⟨oal, ost, omk, oes⟩ := o
 simp only at h1 h2 h3 hct hcb hst hto hev host hR
 refine zas [17] Tk Tryz.func20 rfl Tryz.call20 Tryz.ntmps20 (Nat.le_of_ble_eq_true rfl) fun E => ?_
 refine zae Tk Tryz.func20 ?_
 refine zaf Tk Tryz.func20 (h1 _) rfl rfl rfl rfl rfl ?_
 refine gcF Tk Tryz.func20 rfl ?_
 refine zai Tk Tryz.func20 rfl (fun c1 => ?_) (fun c1 => ?_)
 ·have c1 : (w.length : Int) > 4096 := of_decide_eq_true c1
  rw [if_pos c1] at hR
  subst hR
  refine zal Tk (r := .tup [bb false, ii 15]) rfl rfl rfl trivial rfl rfl ?_
  rfl
 have c1 : ¬ (w.length : Int) > 4096 := of_decide_eq_false c1
 rw [if_neg c1] at hR
 refine zaf Tk Tryz.func20 (h2 _ rfl) rfl rfl rfl rfl rfl ?_
 refine zai Tk Tryz.func20 rfl (fun c2 => ?_) (fun c2 => ?_)
 ·have c2 : b2 = true := c2
  rw [if_pos c2] at hR
  subst hR
  refine zal Tk (r := .tup [bb false, ii 9]) rfl rfl rfl trivial rfl rfl ?_
  rfl
 have c2 : b2 = false := c2
 rw [if_neg (by rw [c2]; decide)] at hR
 refine zaf Tk Tryz.func20 (h3 _) rfl rfl rfl rfl rfl ?_
 refine zai Tk Tryz.func20 rfl (fun c3 => ?_) (fun c3 => ?_)
 ·have c3 : b3 = false := notT c3
  rw [if_pos c3] at hR
  subst hR
  refine zal Tk (r := .tup [bb false, ii 0]) rfl rfl rfl trivial rfl rfl ?_
  rfl
 have c3 : b3 = true := notF c3
 rw [if_neg (by rw [c3]; decide)] at hR
 refine zaA Tk Tryz.func20 zaL rfl ?_
 refine zaO Tk Tryz.func20 (by kernel_rfl) ?_
 have hkn : decide (ost > 0) = true → (0 : Int) ≤ 0 ∧ (0 : Int) < (rows.length : Int) := fun h => by have := of_decide_eq_true h; omega
 have hR2 : R = (zb0 ct ob ⟨oal, ost, omk, oes⟩ rows (w.drop 0) 0 (decide (ost > 0)), 0) := hR
 clear hR h1 h2 h3
 generalize decide (ost > 0) = kn0 at *
 refine zac ?_
 refine zag (fun y : Nat × Int × Bool => [(3, .own 0 3 0 0), (4, .own 0 4 0 0), (11, ii y.2.1), (12, bb y.2.2), (43, ints w), (44, ii w.length), (45, ii y.1)])
  (fun _ => [(3, .box (sysC ⟨⟨al, st, mk, eds⟩, ⟨al', st', mk', eds'⟩, ob, ct⟩)), (4, .box [ints oal, ii ost, ints omk, edgs oes, .i (zdD rows)])]) (fun _ => O) 90
  (fun y => y.1 ≤ w.length ∧ (y.2.2 = true → 0 ≤ y.2.1 ∧ y.2.1 < (rows.length : Int)) ∧ R = (zb0 ct ob ⟨oal, ost, omk, oes⟩ rows (w.drop y.1) y.2.1 y.2.2, 0)) (fun y => w.length - y.1) (0, 0, kn0)
  ⟨Nat.zero_le _, hkn, hR2⟩ ⟨rfl, rfl, rfl, rfl, rfl, rfl, rfl, trivial⟩ rfl ⟨rfl, rfl, trivial⟩ rfl rfl ?_
 clear hkn hR2 c1 c2 c3
 rintro ⟨j, q, kn⟩ ⟨hj, hq, hno⟩ ih
 simp only at hj hq hno
 refine zae Tk Tryz.func20 ?_
 refine zai Tk Tryz.func20 rfl (fun g1 => ?_) (fun g1 => ?_)
 ·have h3 : j < w.length := by simpa using g1
  clear g1
  have hj1 : ii (IntKind.i64.wrap ((j : Int) + 1)) = ii ((j + 1 : Nat) : Int) := congrArg ii (zaC h3 hw)
  have ga : (w.map fun x => [vi x])[(j : Int).toNat]? = some [vi w[j]] := zaj (f := fun x => [vi x]) h3
  have da : w.drop j = w[j] :: w.drop (j + 1) := List.drop_eq_getElem_cons h3
  rw [da] at hno
  simp only [zb0] at hno
  clear da
  generalize w[j] = e at *
  have d1 := fun O => hct O e
  have d2 := fun O => hcb O e
  generalize decide (e ∈ ct) = B1 at *
  generalize decide (e ∈ ob) = B2 at *
  refine zah Tk Tryz.func20 (by exact ⟨by omega, by show (j : Int) < (w.length : Int); omega⟩) ?_
  refine zar Tk Tryz.func20 (ga) ?_
  apply zco (P := R = (if (kn && B2) = true then zb0 ct ob ⟨oal, ost, omk, oes⟩ rows (w.drop (j + 1)) (if 0 ≤ stp3 oes q e then stp3 oes q e else 0) (decide (0 ≤ stp3 oes q e)) else zb0 ct ob ⟨oal, ost, omk, oes⟩ rows (w.drop (j + 1)) q kn, 0)) (s6 := { σ := [(3, .own 0 3 0 0), (4, .own 0 4 0 0), (11, ii q), (12, bb kn), (43, ints w), (44, ii w.length), (45, ii j), (14, ii e)], S := [(3, .box (sysC ⟨⟨al, st, mk, eds⟩, ⟨al', st', mk', eds'⟩, ob, ct⟩)), (4, .box [ints oal, ii ost, ints omk, edgs oes, .i (zdD rows)])] :: O, n := 90 })
  ·intro J
   refine zaf Tk Tryz.func20 (d1 _) rfl rfl rfl rfl rfl ?_
   refine zaS Tk Tryz.func20 rfl (fun c1 => ?_) (fun c1 => ?_)
   rotate_left
   ·have hP : R = (if (kn && B2) = true then zb0 ct ob ⟨oal, ost, omk, oes⟩ rows (w.drop (j + 1)) (if 0 ≤ stp3 oes q e then stp3 oes q e else 0) (decide (0 ≤ stp3 oes q e)) else zb0 ct ob ⟨oal, ost, omk, oes⟩ rows (w.drop (j + 1)) q kn, 0) := by
     rw [hno, show B1 = false from c1, Bool.false_and, if_neg (by decide)]
    refine gcF Tk Tryz.func20 rfl ?_
    refine zax ?_
    refine zaH (J hP) ⟨rfl, rfl, rfl, rfl, rfl, rfl, rfl, rfl, trivial⟩ rfl ⟨rfl, rfl, trivial⟩ rfl rfl
   have c1 : B1 = true := c1
   refine zaS Tk Tryz.func20 rfl (fun c2 => ?_) (fun c2 => ?_)
   ·have c2 : kn = false := by simpa using c2
    have hP : R = (false, 0) := by rw [hno, c1, c2]; rfl
    rw [hP]
    refine gcT Tk Tryz.func20 rfl ?_
    refine zal Tk (r := .tup [bb false, ii 0]) rfl rfl rfl trivial rfl rfl ?_
    rfl
   have c2 : kn = true := by simpa using c2
   have hq2 := hq c2
   obtain ⟨k, hk⟩ : ∃ k : Nat, q = k := ⟨q.toNat, by omega⟩
   have hkl : k < rows.length := by omega
   have gr : (rows.map fun r => [zbB r])[(q : Int).toNat]? = some [zbB rows[k]] := by rw [hk]; exact zaj (f := fun r => [zbB r]) hkl
   have hgd : rows.getD q.toNat [] = rows[k] := by rw [hk, Int.toNat_natCast, List.getD_eq_getElem?_getD, List.getElem?_eq_getElem hkl]; rfl
   have hro := hrw _ (List.getElem_mem hkl)
   have d3 := fun O => zby O rows[k] e (by have := hro.2; simp only [zao]; omega) hro.1
   rw [hgd] at hno
   generalize rows[k] = row at *
   generalize decide (e ∈ row) = B3 at *
   refine zah Tk Tryz.func20 (by exact hq2) ?_
   refine zar Tk Tryz.func20 (gr) ?_
   refine zaf Tk Tryz.func20 (d3 _) rfl rfl rfl rfl rfl ?_
   refine zai Tk Tryz.func20 rfl (fun c3 => ?_) (fun c3 => ?_)
   ·have c3 : B3 = false := by simpa using c3
    have hP : R = (false, 0) := by rw [hno, c1, c3, Bool.true_and, Bool.not_false, Bool.or_true, if_pos rfl]
    rw [hP]
    refine zal Tk (r := .tup [bb false, ii 0]) rfl rfl rfl trivial rfl rfl ?_
    rfl
   ·have c3 : B3 = true := by simpa using c3
    have hP : R = (if (kn && B2) = true then zb0 ct ob ⟨oal, ost, omk, oes⟩ rows (w.drop (j + 1)) (if 0 ≤ stp3 oes q e then stp3 oes q e else 0) (decide (0 ≤ stp3 oes q e)) else zb0 ct ob ⟨oal, ost, omk, oes⟩ rows (w.drop (j + 1)) q kn, 0) := by
     rw [hno, c1, c2, c3, if_neg (by decide)]
    refine zax ?_
    refine zaH (J hP) ⟨rfl, rfl, rfl, rfl, rfl, rfl, rfl, rfl, trivial⟩ rfl ⟨rfl, rfl, trivial⟩ rfl rfl
  intro hP
  clear hno d1
  refine zae Tk Tryz.func20 ?_
  refine g_go Tk Tryz.func20 ?_
  refine zaS Tk Tryz.func20 rfl (fun c1 => ?_) (fun c1 => ?_)
  ·have c1 : kn = true := by simpa using c1
   have hq2 := hq c1
   rw [c1, Bool.true_and] at hP
   refine zaf Tk Tryz.func20 (d2 _) rfl rfl rfl rfl rfl ?_
   refine zai Tk Tryz.func20 rfl (fun c2 => ?_) (fun c2 => ?_)
   ·have c2 : B2 = true := c2
    rw [if_pos c2] at hP
    have h5 := fun O => hst O q e hq2
    unfold stpT at h5
    simp only at h5
    have hin : 0 ≤ stp3 oes q e → stp3 oes q e < (rows.length : Int) ∧ e ∈ oal := fun h => ⟨(hto _ (zbP h)).2, hev _ (zbP h)⟩
    generalize stp3 oes q e = t at *
    by_cases ht : 0 ≤ t
    ·rw [if_pos ht, decide_eq_true ht] at hP
     have hin := hin ht
     simp only [ht, if_true, decide_true, hin.2] at h5
     refine zaf Tk Tryz.func20 (h5 _) rfl rfl rfl rfl rfl ?_
     refine gkT Tk Tryz.func20 rfl ?_
     refine zac ?_
     refine ih (j + 1, t, true) _ _ ⟨h3, fun _ => ⟨ht, hin.1⟩, hP⟩ (by simp only; omega) ⟨rfl, rfl, rfl, rfl, rfl, rfl, hj1, trivial⟩ rfl ⟨rfl, rfl, trivial⟩ rfl rfl
    ·rw [if_neg ht, decide_eq_false ht] at hP
     simp only [ht, if_false, decide_false] at h5
     refine zaf Tk Tryz.func20 (h5 _) rfl rfl rfl rfl rfl ?_
     refine gkF Tk Tryz.func20 rfl ?_
     refine zac ?_
     refine ih (j + 1, 0, false) _ _ ⟨h3, fun h => absurd (show false = true from h) (by decide), hP⟩ (by simp only; omega) ⟨rfl, rfl, rfl, rfl, rfl, rfl, hj1, trivial⟩ rfl ⟨rfl, rfl, trivial⟩ rfl rfl
   ·have c2 : B2 = false := c2
    rw [c2, if_neg (by decide)] at hP
    rw [c1] at ih
    refine zac ?_
    refine ih (j + 1, q, true) _ _ ⟨h3, fun _ => hq2, hP⟩ (by simp only; omega) ⟨rfl, rfl, rfl, by rw [c1]; rfl, rfl, rfl, hj1, trivial⟩ rfl ⟨rfl, rfl, trivial⟩ rfl rfl
  ·have c1 : kn = false := by simpa using c1
   rw [c1, Bool.false_and, if_neg (by decide)] at hP
   refine gcF Tk Tryz.func20 rfl ?_
   refine zac ?_
   refine ih (j + 1, q, false) _ _ ⟨h3, fun h => absurd (show false = true from h) (by decide), hP⟩ (by simp only; omega) ⟨rfl, rfl, rfl, by rw [c1]; rfl, rfl, rfl, hj1, trivial⟩ rfl ⟨rfl, rfl, trivial⟩ rfl rfl
 ·have h3 : w.length ≤ j := by simpa using g1
  rw [List.drop_eq_nil_of_le h3] at hno
  simp only [zb0] at hno
  subst hno
  refine zal Tk (r := .tup [bb true, ii 0]) rfl rfl rfl trivial rfl rfl ?_
  rfl
end Go.AI


namespace Go.AI
open Go.Proofs
set_option maxRecDepth 20000
theorem zt4 {x : Sk} (h : skOkB x) (hf : (lpR (mkS x)).1.states ≤ 10) : obOk (mkS x) := by
 obtain ⟨m1, m2, m3, m4⟩ := zlf h
 exact zqI m1 m2 ⟨by omega, by omega⟩ (by have := zsq h; omega) (by have := zrq h hf; omega)
end Go.AI
