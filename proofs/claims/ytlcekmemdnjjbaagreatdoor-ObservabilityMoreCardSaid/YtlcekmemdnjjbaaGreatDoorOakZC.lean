/- The layer of abstract runs, part 29. -/
import Derived.Test.YtlcekmemdnjjbaaGreatDoorOakZB
import Derived.WideKeyArgs
import Derived.Lib.SmallJoins
import Derived.Deep.Slices
import Derived.Test.YtlcekmemdnjjbaaGreatDoorRows
import Derived.KernelRfl
import Derived.JoinedOf
import Derived.SevenTiedAt
set_option linter.unusedSimpArgs false
set_option linter.unusedVariables false
set_option linter.all false

namespace Go.Proofs.YtlcekmemdnjjbaaGreatDoor
open Go.ChangeShapes Go.WideShapes Go.ChangeAt Go.RowKit Go.Deep Go.WideElems
set_option maxRecDepth 100000
def KW (W : World) : AI.Kn := fun b o => W.cell? ⟨b, o, none⟩
theorem zuy (W : World) : ∀ bl o x, KW W bl o = some x → W.cell? ⟨bl, o, none⟩ = some x := fun _ _ _ h => h
section
variable {H : Type} {enc : TypeId × Value → H} {P : Program} {W : World}
def Opn (enc : TypeId × Value → H) (P : Program) (W : World) (t : TypeId) (R : List AI.I → Prop) : Prop :=
 ∀ n cs x, DataW.trod enc P W 0 (fun _ => true) true n t cs = some x → ∃ is, AI.RepL (KW W) cs is ∧ R is
theorem ze8 {K : AI.Kn} {a b : List Value} {c d : List AI.I} (h : AI.RepL K a c) (h' : AI.RepL K b d) : AI.RepL K (a ++ b) (c ++ d) := h.append h'
theorem zfK {t : TypeId} {k : IntKind} (ht : P.underlying t = some (.int k)) : Opn enc P W t fun is => ∃ z, is = [.v (.int k z)] ∧ (Lit.int k z).wf = true := by
 intro n cs x h
 obtain ⟨z, rfl, rfl, hw⟩ := DataW.trod_int ht h
 exact ⟨[.v (.int k z)], .cons (.v rfl) .nil, z, rfl, hw⟩
theorem zlp {K : AI.Kn} {k : IntKind} : ∀ {cs : List Value}, (∀ i, i < cs.length → ∃ z, cs[i]? = some (.int k z) ∧ (Lit.int k z).wf = true) → ∃ zs : List Int, zs.length = cs.length ∧ AI.RepL K cs (zs.map fun z => .v (.int k z)) ∧ ∀ z ∈ zs, (Lit.int k z).wf = true
 | [], _ => ⟨[], rfl, .nil, by simp⟩
 | c :: cs, h => by
  obtain ⟨z, hz, hw⟩ := h 0 (by simp)
  simp only [List.getElem?_cons_zero, Option.some.injEq] at hz
  subst hz
  obtain ⟨zs, h1, h2, h3⟩ := zlp (cs := cs) fun i hi => by
   have := h (i + 1) (by simp; omega)
   simpa using this
  exact ⟨z :: zs, by simp [h1], .cons (.v rfl) h2, fun y hy => by
   rcases List.mem_cons.1 hy with rfl | hy
   ·exact hw
   ·exact h3 y hy⟩
theorem zoj {t e : TypeId} {k : IntKind} {m : Nat} (ht : P.underlying t = some (.array m e)) (he : P.underlying e = some (.int k)) (hc : P.cellsOf e = 1) (hct : P.cellsOf t = m) :
  Opn enc P W t fun is => ∃ zs : List Int, zs.length = m ∧ is = zs.map (fun z => .v (.int k z)) ∧ ∀ z ∈ zs, (Lit.int k z).wf = true := by
 intro n cs x h
 obtain ⟨xs, f, rfl, rfl, hl, hlen, hx⟩ := DataW.trod_array ht h
 rw [hct] at hl
 obtain ⟨zs, h1, h2, h3⟩ := zlp (K := KW W) (k := k) (cs := cs) fun i hi => by
  have h0 := hx i (by omega)
  rw [hc, Nat.mul_one, List.getElem?_eq_getElem (by omega)] at h0
  obtain ⟨z, hz, _, hw⟩ := DataW.trod_int he h0
  refine ⟨z, ?_, hw⟩
  have := congrArg (fun l => l[0]?) hz
  simpa [List.getElem?_take, List.getElem?_drop] using this
 exact ⟨_, h2, zs, by omega, rfl, h3⟩
theorem zjw {t : TypeId} {f0 f1 f2 : Field} {R0 R1 R2 : List AI.I → Prop} {z0 z1 z2 : Nat} (ht : P.underlying t = some (.struct #[f0, f1, f2])) (hc : P.cellsOf t = z0 + z1 + z2)
  (c0 : P.cellsOf f0.type = z0) (c1 : P.cellsOf f1.type = z1) (c2 : P.cellsOf f2.type = z2) (o0 : f0.offset = 0) (o1 : f1.offset = z0) (o2 : f2.offset = z0 + z1)
  (h0 : Opn enc P W f0.type R0) (h1 : Opn enc P W f1.type R1) (h2 : Opn enc P W f2.type R2) : Opn enc P W t fun is => ∃ a b c, is = a ++ b ++ c ∧ R0 a ∧ R1 b ∧ R2 c := by
 intro n cs x h
 obtain ⟨y0, y1, y2, m, _, hl, g0, g1, g2⟩ := trod_struct3 ht h
 obtain ⟨a, ra, ha⟩ := h0 _ _ _ g0
 obtain ⟨b, rb, hb⟩ := h1 _ _ _ g1
 obtain ⟨c, rc, hcc⟩ := h2 _ _ _ g2
 refine ⟨a ++ b ++ c, ?_, a, b, c, rfl, ha, hb, hcc⟩
 have e : cs = (cs.drop f0.offset).take (P.cellsOf f0.type) ++ (cs.drop f1.offset).take (P.cellsOf f1.type) ++ (cs.drop f2.offset).take (P.cellsOf f2.type) := by
  rw [c0, c1, c2, o0, o1, o2, List.drop_zero]
  have e1 : (cs.drop (z0 + z1)).take z2 = cs.drop (z0 + z1) := List.take_of_length_le (by simp; omega)
  rw [e1]
  have e2 : cs.drop (z0 + z1) = (cs.drop z0).drop z1 := by rw [List.drop_drop]
  rw [e2, List.append_assoc, List.take_append_drop, List.take_append_drop]
 rw [e]
 exact ze8 (ze8 ra rb) rc
theorem zeY {t : TypeId} (hl : laidOutB P = true) (hr : P.readableRec t = true) (hrow : decide (t < P.types.size) = true) {W' : World} {v : Value} {d : DataW H} {ps : List MemPlace}
  (h : DataW.Trod enc P W 0 (fun _ => true) true t v d ps) (hold : ∀ i, i < W.heap.size → W'.heap[i]? = W.heap[i]?) : DataW.Trod enc P W' 0 (fun b => decide (b < W.heap.size)) true t v d ps := by
 have hlt : ∀ p ∈ ps, p.block < W.heap.size := by
  obtain ⟨n, hn⟩ := h
  exact DataW.trod_lt n t _ _ hn
 refine Trod_stays hl hr (of_decide_eq_true hrow) h (fun p hp => ?_) (fun p hp => decide_eq_true (hlt p hp))
 have hb := hlt p hp
 cases p with
 | cell b off =>
  show W'.cell? ⟨b, off, none⟩ = W.cell? ⟨b, off, none⟩
  unfold World.cell?
  rw [hold b hb]
 | map b => exact hold b hb
end
end Go.Proofs.YtlcekmemdnjjbaaGreatDoor


namespace Go.Proofs.YtlcekmemdnjjbaaGreatDoor
open Go.ChangeShapes Go.WideShapes Go.ChangeAt Go.RowKit Go.Deep Go.WideElems
set_option maxRecDepth 100000
section
variable {H : Type} {enc : TypeId × Value → H} {W : World}
theorem wf_u8 {z : Int} (h : (Lit.int .u8 z).wf = true) : 0 ≤ z ∧ z ≤ 255 := by
 simp only [Lit.wf, Bool.and_eq_true, decide_eq_true_eq] at h
 have e1 : IntKind.u8.min = 0 := rfl
 have e2 : IntKind.u8.max = 255 := rfl
 rw [e1, e2] at h
 exact h
structure autLen (x : AI.Aut) : Prop where
 e : x.edges.length ≤ AI.zap
 a : x.alpha.length ≤ AI.zap
 m : x.marked.length ≤ AI.zap
end
end Go.Proofs.YtlcekmemdnjjbaaGreatDoor


namespace Go.Proofs.YtlcekmemdnjjbaaGreatDoor
open Go.ChangeShapes Go.WideShapes Go.ChangeAt Go.RowKit Go.Deep Go.WideElems
set_option maxRecDepth 100000
section
variable {H : Type} {enc : TypeId × Value → H} {W : World}
end
end Go.Proofs.YtlcekmemdnjjbaaGreatDoor


namespace Go.AI
open Go.Proofs
set_option maxRecDepth 20000
set_option maxHeartbeats 4000000 in
theorem zh1 (O : List Heap) (R : Heap) (l : List Int) (nm f cb : Nat) (B : Ob) (p : Int → Bool) (hl : l.length ≤ 1000000) (hB : zaa O 0 cb = some B) (hR : zaN nm R = R)
  (hp : ∀ x ∈ l, ∀ d O, zaa O d cb = some B → zao Tryz.prog f [ii x, .own d cb 0 0] O (bb (p x)) [] O) :
  zmg Tryz.prog 54 [.osl 0 nm, .fn (.func f) [] [.own 1 cb 0 0]] (((nm, zav l) :: R) :: O) nm (.osl 1 nm) [] (((nm, zav (l.filter fun x => !p x)) :: R) :: O) := by
 have hcb : ∀ m : List Int, zaa (((nm, zav m) :: R) :: O) 1 cb = some B := fun m => zca hB
 have hnm : ∀ m : List Int, zaa (((nm, zav m) :: R) :: O) 0 nm = some (zav m) := fun m => by simp [zaa, zab]
 have hix := fun H => ztH (H :: ((nm, zav l) :: R) :: O) l 1 nm (zca (hnm l)) f 2 cb p (by simp only [zap]; omega) (fun x hx => hp x hx _ _ (zca (zca (hcb l))))
 have hpx : ∀ x ∈ l, ∀ m : List Int, ∀ H, zao Tryz.prog f [ii x, .own 2 cb 0 0] (H :: ((nm, zav m) :: R) :: O) (bb (p x)) [] (H :: ((nm, zav m) :: R) :: O) := fun x hx m H => hp x hx _ _ (zca (hcb m))
 have hsp := zgf p l 0
 generalize zaW p l 0 = ix at *
 refine zgr nm [200038, 200041] Tk Tryz.func54 rfl Tryz.call54 Tryz.ntmps54 (Nat.le_of_ble_eq_true rfl) fun E => ?_
 refine zae Tk Tryz.func54 ?_
 refine zah Tk Tryz.func54 (hix _) rfl rfl rfl rfl rfl ?_
 refine zaj Tk Tryz.func54 rfl (fun c1 => ?_) (fun c1 => ?_)
 ·have c1 : ix = -1 := beqT c1
  rcases hsp with ⟨_, h2⟩ | ⟨k, hk, h1, _⟩
  ·have e : l.filter (fun x => !p x) = l := List.filter_eq_self.2 fun x hx => by rw [h2 x hx]; rfl
   rw [e]
   refine zoK Tk (nm := nm) (r := .osl 1 nm) (Moved.refl _ _) rfl rfl rfl trivial rfl rfl rfl
  ·omega
 have c1 : ix ≠ -1 := beqF c1
 rcases hsp with ⟨h1, _⟩ | ⟨k, hk, h1, h2, h3⟩
 ·exact absurd h1 c1
 rw [Nat.zero_add] at h1
 subst h1
 clear c1 hix
 have hob : ∀ m : List Int, ∀ H, zaa (H :: ((nm, zav m) :: R) :: O) 1 nm = some (zav m) := fun m H => zca (hnm m)
 have hw1 : ii (IntKind.i64.wrap ((k : Int) + 1)) = ii ((k + 1 : Nat) : Int) := congrArg ii (zaH (n := 1000001) (by omega) (by decide))
 have hst0 : l.take k = (l.take (k + 1)).filter fun x => !p x := by
  rw [List.take_add_one, List.getElem?_eq_getElem hk, List.filter_append]
  rw [List.filter_eq_self.2 fun x hx => by rw [h3 x hx]; rfl]
  simp [h2]
 refine zac ?_
 refine zaf (fun x : Nat × Nat × List Int => [(0, .osl 1 nm), (1, .fn (.func f) [] [.own 2 cb 0 0]), (5, ii x.1), (6, ii x.2.1)]) (fun _ => []) (fun x => ((nm, zav x.2.2) :: R) :: O) 42
  (fun x => x.1 < x.2.1 ∧ x.2.1 ≤ l.length ∧ x.2.2.length = l.length ∧ x.2.2.take x.1 = ((l.take x.2.1).filter fun x => !p x) ∧ x.2.2.drop x.2.1 = l.drop x.2.1) (fun x => l.length - x.2.1) (k, k + 1, l)
  ⟨Nat.lt_succ_self _, hk, rfl, hst0, rfl⟩ ⟨rfl, rfl, rfl, hw1, trivial⟩ rfl trivial rfl rfl ?_
 clear hst0 hw1 h2 h3 hk
 rintro ⟨i, j, m⟩ ⟨hij, hjl, hml, htk, hdr⟩ ih
 simp only at hij hjl hml htk hdr
 refine zae Tk Tryz.func54 ?_
 refine zb0 Tk Tryz.func54 (hob m _) ?_
 refine zaj Tk Tryz.func54 rfl (fun g1 => ?_) (fun g1 => ?_)
 ·have h1 : j < l.length := by rw [← hml]; simpa using g1
  clear g1
  have hmj : m[j]? = some l[j] := by
   have e1 : (m.drop j)[0]? = (l.drop j)[0]? := by rw [hdr]
   rw [List.getElem?_drop, List.getElem?_drop, Nat.add_zero] at e1
   rw [e1, List.getElem?_eq_getElem h1]
  have gm : (m.map fun x => [vi x])[(j : Int).toNat]? = some [vi l[j]] := by rw [Int.toNat_natCast, List.getElem?_map, hmj]; rfl
  have hpj := hpx _ (List.getElem_mem h1)
  have htk2 : l.take (j + 1) = l.take j ++ [l[j]] := by rw [List.take_add_one, List.getElem?_eq_getElem h1]; rfl
  have hdr2 : ∀ m' : List Int, m'.drop (j + 1) = (m'.drop j).drop 1 := fun m' => by rw [List.drop_drop]
  generalize l[j] = x at *
  have hj1 : ii (IntKind.i64.wrap ((j : Int) + 1)) = ii ((j + 1 : Nat) : Int) := congrArg ii (zaH (n := 1000001) (by omega) (by decide))
  have hi1 : ii (IntKind.i64.wrap ((i : Int) + 1)) = ii ((i + 1 : Nat) : Int) := congrArg ii (zaH (n := 1000001) (by omega) (by decide))
  refine zb0 Tk Tryz.func54 (hob m _) ?_
  refine zag Tk Tryz.func54 (by exact ⟨by omega, by show (j : Int) < (m.length : Int); omega⟩) ?_
  refine zb0 Tk Tryz.func54 (hob m _) ?_
  refine zat Tk Tryz.func54 (gm) ?_
  refine zah Tk Tryz.func54 (hpj m _) rfl rfl rfl rfl rfl ?_
  refine zaj Tk Tryz.func54 rfl (fun g2 => ?_) (fun g2 => ?_)
  ·have g2 : p x = false := notT g2
   refine zb0 Tk Tryz.func54 (hob m _) ?_
   refine zag Tk Tryz.func54 (by exact ⟨by omega, by show (i : Int) < (m.length : Int); omega⟩) ?_
   refine zb0 Tk Tryz.func54 (hob m _) ?_
   refine zac ?_
   refine zaq (wk_S (S' := [] :: ((nm, zav (m.set i x)) :: R) :: O) fun d n => ?_) ?_
   ·have e : Ob.arr 3 1 m.length ((m.map fun x => [vi x]).set (i : Int).toNat [vi x]) true = zav (m.set i x) := by
     rw [Int.toNat_natCast]
     simp [List.map_set]
    rw [← e]
    exact zol d n
   refine ih (i + 1, j + 1, m.set i x) _ _ ⟨by simp only; omega, h1, by simp only [List.length_set]; exact hml, ?_, ?_⟩ (by simp only; omega) ⟨rfl, rfl, hi1, hj1, trivial⟩ rfl trivial rfl rfl
   ·simp only
    rw [htk2, List.filter_append, ← htk, List.take_add_one, List.getElem?_set_self (by omega), List.take_set_of_le (Nat.le_refl i)]
    simp [g2]
   ·simp only
    rw [List.drop_set_of_lt (by omega), hdr2, hdr2, hdr]
  ·have g2 : p x = true := notF g2
   refine zac ?_
   refine ih (i, j + 1, m) _ _ ⟨by simp only; omega, h1, hml, ?_, ?_⟩ (by simp only; omega) ⟨rfl, rfl, rfl, hj1, trivial⟩ rfl trivial rfl rfl
   ·simp only
    rw [htk2, List.filter_append, ← htk]
    simp [g2]
   ·simp only
    rw [hdr2, hdr2, hdr]
 ·have h1 : l.length ≤ j := by rw [← hml]; simpa using g1
  rw [List.take_of_length_le h1] at htk
  clear ih hdr g1
  have hin : i < m.length := by omega
  have hil : (l.filter fun x => !p x).length = i := by rw [← htk, List.length_take]; omega
  refine zmO Tk Tryz.func54 (nm := nm) (n := m.length) (i0 := i) (ti1 := zec) (ti2 := zhf) (xs := m.map fun x => [vi x]) (z := .int .i64 0) hin rfl rfl rfl rfl rfl rfl rfl rfl rfl Tryz.zeroValue3 rfl rfl rfl rfl rfl rfl rfl rfl rfl rfl rfl rfl (by simp [zab]) rfl ?_
  refine zjR Tk Tryz.func54 (nm := nm) (n := m.length) (m := i) (ti1 := zec) (ti2 := zhf) (es := 1) (xs := (m.map fun x => [vi x]).take i ++ List.replicate (m.length - i) [I.v (.int .i64 0)]) (Nat.le_of_lt hin) (by omega) rfl rfl rfl rfl rfl rfl rfl rfl rfl rfl rfl (by simp [zab]) rfl ?_
  intro E' hM
  have hkk : zaN nm ((nm, Ob.arr 3 1 m.length ((m.map fun x => [vi x]).take i ++ List.replicate (m.length - i) [I.v (.int .i64 0)]) true) :: (nm, zav m) :: R) = R := by
   simp [zaN, hR]
  have hfin : Ob.arr 3 1 i (((m.map fun x => [vi x]).take i ++ List.replicate (m.length - i) [I.v (.int .i64 0)]).take i) true = zav (l.filter fun x => !p x) := by
   rw [List.take_append_of_le_length (by rw [List.length_take, List.length_map]; omega), List.take_take, Nat.min_self, ← List.map_take, htk]
   simp [zav, hil]
  refine zoK Tk (nm := nm) (r := .osl 1 nm) hM rfl rfl rfl trivial rfl ?_ rfl
  show ((nm, Ob.arr 3 1 i (((m.map fun x => [vi x]).take i ++ List.replicate (m.length - i) [I.v (.int .i64 0)]).take i) true) :: zaN nm ((nm, Ob.arr 3 1 m.length ((m.map fun x => [vi x]).take i ++ List.replicate (m.length - i) [I.v (.int .i64 0)]) true) :: (nm, zav m) :: R)) :: O = ((nm, zav (l.filter fun x => !p x)) :: R) :: O
  rw [hkk, hfin]
theorem zmX {c : Cx} (hP : c.P = Tryz.prog) {s : St} {o : Oper} {t nm f cb : Nat} {l : List Int} {R : Heap} {O : List Heap} {B : Ob} (p : Int → Bool) (hl : l.length ≤ 1000000) (hB : zaa O 0 cb = some B) (hR : zaN nm R = R)
  (hp : ∀ x ∈ l, ∀ d O, zaa O d cb = some B → zao Tryz.prog f [ii x, .own d cb 0 0] O (bb (p x)) [] O) (ht : o.dst = some t) (hn : t < s.n) (hS : s.S = ((nm, zav l) :: R) :: O) :
  Wp c o s 54 [.osl 0 nm, .fn (.func f) [] [.own 1 cb 0 0]] { σ := (t, .osl 0 nm) :: zd2 nm s.σ, S := ((nm, zav (l.filter fun x => !p x)) :: R) :: O, n := s.n } := by
 have h := zh1 O R l nm f cb B p hl hB hR hp
 refine zeS (c := c) (s := s) (o := o) (nm := nm) (res := .osl 1 nm) ?_ ht hn hS (xs := l.map fun x => [vi x]) (wr := true) (by rw [zab, if_pos rfl]) ⟨_, _, _, _, _, by rw [zab, if_pos rfl]⟩ ?_
 ·rw [hP, hS]
  have e : D.imms (zd4 (((nm, zav l) :: R) :: O)) [.osl 0 nm, .fn (.func f) [] [.own 1 cb 0 0]] = [.osl 0 nm, .fn (.func f) [] [.own 1 cb 0 0]] := by
   simp [D.imms, D.imm, zd4, zab]
  rw [e]
  exact h
 ·intro d m hd
  match d with
  | 0 =>
   have hm : ¬ nm = m := fun e => by rcases hd with h | h; exact h rfl; exact h e.symm
   simp only [shape, zaa, List.getElem?_cons_zero, zab, if_neg hm]
  | d + 1 => simp [shape, zaa]
end Go.AI


namespace Go.AI
open Go.Proofs
set_option maxRecDepth 20000
theorem zo4 (O : List Heap) (b : Int) : zao Tryz.prog 30 [u8D b] O (.osl 0 17) [(17, zav (zaS b))] O := by
 refine zar [7] Tk Tryz.func30 rfl Tryz.call30 Tryz.ntmps30 (Nat.le_of_ble_eq_true rfl) fun E => ?_
 refine zae Tk Tryz.func30 ?_
 refine zac ?_
 refine zaq (zcU 3 17 3 1 rfl rfl rfl) ?_
 refine zaf (fun i : Nat => [(0, u8D b), (3, .osl 0 17), (4, ii i)]) (fun i => [(17, zav (rawM b i))]) (fun _ => O) 19
  (fun i => i ≤ 5) (fun i => 5 - i) 0 (Nat.zero_le _) ⟨rfl, rfl, rfl, trivial⟩ rfl ⟨rfl, trivial⟩ rfl rfl ?_
 intro i hi ih
 have hj1 : ii (IntKind.i64.wrap ((i : Int) + 1)) = ii ((i + 1 : Nat) : Int) := congrArg ii (zaH (n := 1000001) (by omega) (by decide))
 have hs := zfB b i
 have hl := zeh b i
 refine zae Tk Tryz.func30 ?_
 refine zaj Tk Tryz.func30 rfl (fun g1 => ?_) (fun g1 => ?_)
 ·have g1 : (i : Int) < 5 := of_decide_eq_true g1
  refine zag Tk Tryz.func30 (by exact ⟨by omega, by show (i : Int) ≤ (8 : Nat); omega⟩) ?_
  refine zaj Tk Tryz.func30 rfl (fun g2 => ?_) (fun g2 => ?_)
  ·have g2 : bitP b i = true := g2
   rw [if_pos g2] at hs
   refine zag Tk Tryz.func30 (by exact ⟨by show ((rawM b i).length + 1) * 8 ≤ 140737488355328; omega, by show (rawM b i).length + 1 ≤ 9223372036854775807; omega⟩) ?_
   refine zac ?_
   refine ih (i + 1) _ _ (by omega) (by omega) ⟨rfl, rfl, hj1, trivial⟩ rfl ⟨?_, trivial⟩ rfl rfl
   rw [hs]
   exact congrArg some (zaK (rawM b i) (i : Int))
  ·have g2 : ¬ bitP b i = true := by intro h; exact absurd (g2.symm.trans h) (by decide)
   rw [if_neg g2, List.append_nil] at hs
   refine zac ?_
   exact ih (i + 1) _ _ (by omega) (by omega) ⟨rfl, rfl, hj1, trivial⟩ rfl ⟨by rw [hs]; rfl, trivial⟩ rfl rfl
 ·have g1 : ¬ (i : Int) < 5 := of_decide_eq_false g1
  obtain rfl : i = 5 := by omega
  refine zax ?_
  refine zae Tk Tryz.func30 ?_
  refine g_go Tk Tryz.func30 ?_
  exact ⟨zbq (hT := Tk) (r := .osl 0 17) rfl rfl rfl ⟨⟨_, rfl, rfl⟩, trivial⟩ (zjp _ _ _) rfl rfl⟩
theorem zuh (O : List Heap) (x : Int) (l : List Int) (hl : l.length ≤ 1000000) (d nm : Nat) (ho : zaa O d nm = some (.box [ints l])) : zao Tryz.prog 55 [ii x, .own d nm 0 0] O (bb (!decide (x ∈ l))) [] O := by
 have h := fun O => zbl O l x (by simp only [zap]; omega)
 refine zad Tk Tryz.func55 rfl Tryz.call55 Tryz.ntmps55 (Nat.le_of_ble_eq_true rfl) fun E => ?_
 refine zae Tk Tryz.func55 ?_
 refine zb0 Tk Tryz.func55 (zca ho) ?_
 refine zah Tk Tryz.func55 (h _) rfl rfl rfl rfl rfl ?_
 refine zam Tk (r := bb (!decide (x ∈ l))) rfl rfl rfl trivial rfl rfl ?_
 rfl
def hasR (l s : List Int) : List Int := s.filter fun x => decide (x ∈ l)
theorem ztI (O : List Heap) (b : Int) (l : List Int) (hl : l.length ≤ 1000000) (nm : Nat) (ho : zaa O 0 nm = some (.box [ints l])) : zao Tryz.prog 53 [u8D b, .own 0 nm 0 0] O (ints (hasR l (zaS b))) [] O := by
 have e : hasR l (zaS b) = (zaS b).filter fun x => !(!decide (x ∈ l)) := by simp [hasR]
 have h5 := (zg9 b).2.2
 have hev := fun O => zo4 O b
 rw [e]
 refine zar [200007] Tk Tryz.func53 rfl Tryz.call53 Tryz.ntmps53 (Nat.le_of_ble_eq_true rfl) fun E => ?_
 refine zae Tk Tryz.func53 ?_
 refine zah Tk Tryz.func53 (hev _) rfl rfl rfl rfl rfl ?_
 refine zdh Tk Tryz.func53 rfl rfl rfl rfl (zmX (l := zaS b) (R := []) (B := .box [ints l]) rfl (fun x => !decide (x ∈ l)) (by omega) ho rfl (fun x _ d O ho => zuh O x l hl d nm ho) rfl (show 7 < 8 by decide) rfl) ?_
 refine zeO (zan 17 rfl rfl) ?_
 refine zam Tk (r := ints ((zaS b).filter fun x => !(!decide (x ∈ l)))) rfl rfl rfl trivial rfl rfl ?_
 rfl
end Go.AI


namespace Go.AI
abbrev ztK (gs : Int) (gt : Nat → Int) : Prop := 0 ≤ gs ∧ ∀ j, 0 ≤ gt j ∧ gt j ≤ 255
open Go.Proofs
set_option maxRecDepth 20000
structure Sk where
 st : Int
 ps : Int
 pm : Int
 pt : Nat → Int
 ss : Int
 sm : Int
 t2 : Nat → Int
 ob : Int
 ct : Int
abbrev skC (x : Sk) : List D := [u8D x.st, u8D x.ps, u8D x.pm, u8D (x.pt 0), u8D (x.pt 1), u8D (x.pt 2), u8D (x.pt 3), u8D (x.pt 4), u8D (x.pt 5), u8D (x.pt 6), u8D (x.pt 7), u8D (x.pt 8), u8D (x.pt 9), u8D (x.pt 10), u8D (x.pt 11), u8D (x.pt 12), u8D (x.pt 13), u8D (x.pt 14), u8D (x.pt 15), u8D (x.pt 16), u8D (x.pt 17), u8D (x.pt 18), u8D (x.pt 19), u8D (x.pt 20), u8D (x.pt 21), u8D (x.pt 22), u8D (x.pt 23), u8D (x.pt 24), u8D x.ss, u8D x.sm, u8D (x.t2 0), u8D (x.t2 1), u8D (x.t2 2), u8D (x.t2 3), u8D (x.t2 4), u8D (x.t2 5), u8D (x.t2 6), u8D (x.t2 7), u8D (x.t2 8), u8D (x.t2 9), u8D (x.t2 10), u8D (x.t2 11), u8D (x.t2 12), u8D (x.t2 13), u8D (x.t2 14), u8D (x.t2 15), u8D (x.t2 16), u8D (x.t2 17), u8D (x.t2 18), u8D (x.t2 19), u8D (x.t2 20), u8D (x.t2 21), u8D (x.t2 22), u8D (x.t2 23), u8D (x.t2 24), u8D x.ob, u8D x.ct]
structure skOkB (x : Sk) : Prop where
 p : ztK x.ps x.pt
 s : ztK x.ss x.t2
def mkS (x : Sk) : Sys := ⟨mkA (zaS x.st) x.ps x.pm x.pt, mkA (zaS x.st) x.ss x.sm x.t2, hasR (zaS x.st) (zaS x.ob), hasR (zaS x.st) (zaS x.ct)⟩
theorem zll (O : List Heap) (x : Sk) (h : skOkB x) : zao Tryz.prog 15 [.agg (skC x)] O (sysD (mkS x)) [] O := by
 obtain ⟨e1, e2, e3⟩ := zg9 x.st
 have p := zos (gs := x.ps) (gm := x.pm) e1 e2 e3 h.p.2
 have s := zos (gs := x.ss) (gm := x.sm) e1 e2 e3 h.s.2
 have c1 := fun O => zrz O (zaS x.st) x.ps x.pm x.pt e3 h.p.1 p.1.1 p.1.2
 have c2 := fun O => zrz O (zaS x.st) x.ss x.sm x.t2 e3 h.s.1 s.1.1 s.1.2
 have c0 := fun O => zq7 O x.st
 have c3 := fun O nm ho => ztI O x.ob (zaS x.st) (by omega) nm ho
 have c4 := fun O nm ho => ztI O x.ct (zaS x.st) (by omega) nm ho
 unfold mkS
 clear p s e1 e2 e3 h
 generalize mkA (zaS x.st) x.ps x.pm x.pt = A at *
 generalize mkA (zaS x.st) x.ss x.sm x.t2 = B at *
 generalize hasR (zaS x.st) (zaS x.ob) = M at *
 generalize hasR (zaS x.st) (zaS x.ct) = N at *
 generalize zaS x.st = l at *
 obtain ⟨al, st, mk, es⟩ := A
 obtain ⟨al', st', mk', es'⟩ := B
 obtain ⟨xst, xps, xpm, xpt, xss, xsm, xt2, xob, xct⟩ := x
 simp only at c0 c1 c2
 refine zad Tk Tryz.func15 rfl Tryz.call15 Tryz.ntmps15 (Nat.le_of_ble_eq_true rfl) fun E => ?_
 refine zae Tk Tryz.func15 ?_
 refine zah Tk Tryz.func15 (c0 _) rfl rfl rfl rfl rfl ?_
 refine zaz Tk Tryz.func15 zaL rfl ?_
 refine za6 Tk (fun _ => c1 _) rfl rfl rfl ?_
 refine za6 Tk (fun _ => c2 _) rfl rfl rfl ?_
 refine znZ Tk (c3 _ 3 rfl) rfl rfl rfl ?_
 refine znZ Tk (c4 _ 3 rfl) rfl rfl rfl ?_
 refine znX Tk rfl rfl rfl ?_
 refine zaQ Tk Tryz.func15 (by kernel_rfl) ?_
 refine zam Tk (r := sysD ⟨⟨al, st, mk, es⟩, ⟨al', st', mk', es'⟩, M, N⟩) rfl rfl rfl trivial rfl rfl ?_
 rfl
end Go.AI


namespace Go.AI
open Go.Proofs
set_option maxRecDepth 20000
theorem zro (O : List Heap) (a : Aut) (s ev : Int) (hl : a.edges.length ≤ 1000000) : zao Tryz.prog 18 [autD a, ii s, ii ev] O (ii (stp3 a.edges s ev)) [] O := by
 obtain ⟨al, st, mk, es⟩ := a
 simp only at hl ⊢
 generalize hR : stp3 es s ev = R
 refine zad Tk Tryz.func18 rfl Tryz.call18 Tryz.ntmps18 (Nat.le_of_ble_eq_true rfl) fun E => ?_
 refine zae Tk Tryz.func18 ?_
 refine zac ?_
 refine zaf (fun i : Nat => [(1, ii s), (2, ii ev), (10, edgs es), (11, ii es.length), (12, ii i)]) (fun _ => []) (fun _ => O) 29
  (fun i => i ≤ es.length ∧ stp3 (es.drop i) s ev = R) (fun i => es.length - i) 0 ⟨Nat.zero_le _, hR⟩ ⟨rfl, rfl, rfl, rfl, rfl, trivial⟩ rfl trivial rfl rfl ?_
 rintro i ⟨hi, hno⟩ ih
 clear hR
 refine zae Tk Tryz.func18 ?_
 refine zaj Tk Tryz.func18 rfl (fun g1 => ?_) (fun g1 => ?_)
 ·have h1 : i < es.length := by simpa using g1
  have ge : (es.map edgI)[(i : Int).toNat]? = some (edgI es[i]) := zak h1
  have dl : es.drop i = es[i] :: es.drop (i + 1) := List.drop_eq_getElem_cons h1
  rw [dl] at hno
  simp only [stp3] at hno
  clear dl
  generalize es[i] = y at *
  obtain ⟨yf, ye, yt⟩ := y
  simp only at hno
  have n1 : 0 ≤ (i : Int) ∧ (i : Int) < (es.length : Int) := by omega
  refine zag Tk Tryz.func18 (by exact n1) ?_
  refine zat Tk Tryz.func18 (ge) ?_
  refine za1 Tk Tryz.func18 rfl (fun g2 => ?_) (fun g2 => ?_)
  ·have g2 : yf = s := beqT g2
   refine zaj Tk Tryz.func18 rfl (fun g3 => ?_) (fun g3 => ?_)
   ·have g3 : ye = ev := beqT g3
    rw [if_pos ⟨g2, g3⟩] at hno
    subst hno
    refine zam Tk (r := ii yt) rfl rfl rfl trivial rfl rfl ?_
    rfl
   ·have g3 : ye ≠ ev := beqF g3
    rw [if_neg (fun h => g3 h.2)] at hno
    refine zac ?_
    exact ih (i + 1) _ _ ⟨h1, hno⟩ (by omega) ⟨rfl, rfl, rfl, rfl, congrArg ii (zaH (n := 1000001) (by omega) (by decide)), trivial⟩ rfl trivial rfl rfl
  ·have g2 : yf ≠ s := beqF g2
   rw [if_neg (fun h => g2 h.1)] at hno
   refine gcF Tk Tryz.func18 rfl ?_
   refine zac ?_
   exact ih (i + 1) _ _ ⟨h1, hno⟩ (by omega) ⟨rfl, rfl, rfl, rfl, congrArg ii (zaH (n := 1000001) (by omega) (by decide)), trivial⟩ rfl trivial rfl rfl
 ·have h1 : es.length ≤ i := by simpa using g1
  rw [List.drop_eq_nil_of_le h1] at hno
  simp only [stp3] at hno
  subst hno
  refine zam Tk (r := ii (-1)) rfl rfl rfl trivial rfl rfl ?_
  rfl
abbrev prD (z : Int × Int) : D := .agg [ii z.1, ii z.2]
def idxP (z : Int × Int) : List (Int × Int) → Nat → Int
 | [], _ => -1
 | x :: r, i => if x = z then (i : Int) else idxP z r (i + 1)
theorem zoC (z : Int × Int) : ∀ (l : List (Int × Int)) (i : Nat), idxP z l i = if z ∈ l then ((i + l.findIdx (eqB z) : Nat) : Int) else -1
 | [], i => rfl
 | x :: r, i => by
  simp only [idxP]
  by_cases h : x = z
  ·subst h
   rw [if_pos rfl, if_pos (by simp)]
   simp [List.findIdx_cons, eqB]
  ·rw [if_neg h, zoC z r (i + 1)]
   by_cases hm : z ∈ r
   ·rw [if_pos hm, if_pos (by simp [hm])]
    have hz : ¬ z = x := fun e => h e.symm
    rw [List.findIdx_cons, show eqB z x = false by simp [eqB, hz]]
    simp only [cond_false]
    congr 1; omega
   ·rw [if_neg hm, if_neg (by simp [hm]; exact fun e => h e.symm)]
theorem zsM (O : List Heap) (l : List (Int × Int)) (z : Int × Int) (e w : Nat) (ho : zaa O e w = some (ziD l)) (hl : l.length ≤ 1000000) : zao Tryz.prog 94 [.osl e w, prD z] O (ii (idxP z l 0)) [] O := by
 have hO : ∀ H, zaa (H :: O) (e + 1) w = some (ziD l) := fun H => zca ho
 generalize hR : idxP z l 0 = R
 obtain ⟨z1, z2⟩ := z
 refine zad Tk Tryz.func94 rfl Tryz.call94 Tryz.ntmps94 (Nat.le_of_ble_eq_true rfl) fun E => ?_
 refine zae Tk Tryz.func94 ?_
 refine zb0 Tk Tryz.func94 (hO _) ?_
 refine zac ?_
 refine zaf (fun i : Nat => [(0, .osl (e + 1) w), (3, .own 0 3 0 0), (7, ii l.length), (8, ii i)]) (fun _ => [(3, .box [ii z1, ii z2])]) (fun _ => O) 19
  (fun i => i ≤ l.length ∧ idxP (z1, z2) (l.drop i) i = R) (fun i => l.length - i) 0 ⟨Nat.zero_le _, hR⟩ ⟨rfl, rfl, rfl, rfl, trivial⟩ rfl ⟨rfl, trivial⟩ rfl rfl ?_
 rintro i ⟨hi, hno⟩ ih
 clear hR
 refine zae Tk Tryz.func94 ?_
 refine zaj Tk Tryz.func94 rfl (fun g1 => ?_) (fun g1 => ?_)
 ·have h1 : i < l.length := by simpa using g1
  have ge : (l.map prI)[(i : Int).toNat]? = some (prI l[i]) := zak h1
  have dl : l.drop i = l[i] :: l.drop (i + 1) := List.drop_eq_getElem_cons h1
  rw [dl] at hno
  simp only [idxP] at hno
  clear dl
  generalize l[i] = y at *
  obtain ⟨y1, y2⟩ := y
  have n1 : 0 ≤ (i : Int) ∧ (i : Int) < (l.length : Int) := by omega
  refine zaz Tk Tryz.func94 zaL rfl ?_
  refine ztn Tk (ho) ?_
  refine zay Tk (by exact n1) ?_
  refine ztn Tk (ho) ?_
  refine zaJ Tk (ge) ?_
  refine zaQ Tk Tryz.func94 (by kernel_rfl) ?_
  refine zaj Tk Tryz.func94 rfl (fun g2 => ?_) (fun g2 => ?_)
  ·have g2 : (z1 == y1) = true ∧ (z2 == y2) = true := by simpa using g2
   have e1 : z1 = y1 := by simpa using g2.1
   have e2 : z2 = y2 := by simpa using g2.2
   rw [if_pos (by rw [e1, e2])] at hno
   subst hno
   refine zam Tk (r := ii (i : Int)) rfl rfl rfl trivial rfl rfl ?_
   rfl
  ·have g2 : ¬ (y1, y2) = (z1, z2) := fun e => by
    injection e with e1 e2
    subst e1 e2
    simp at g2
   rw [if_neg g2] at hno
   refine zac ?_
   exact ih (i + 1) _ _ ⟨h1, hno⟩ (by omega) ⟨rfl, rfl, rfl, congrArg ii (zaH (n := 1000001) (by omega) (by decide)), trivial⟩ rfl ⟨rfl, trivial⟩ rfl rfl
 ·have h1 : l.length ≤ i := by simpa using g1
  rw [List.drop_eq_nil_of_le h1] at hno
  simp only [idxP] at hno
  subst hno
  refine zam Tk (r := ii (-1)) rfl rfl rfl trivial rfl rfl ?_
  rfl
end Go.AI


namespace Go.AI
open Go.Proofs
set_option maxRecDepth 20000
theorem zty {x : Sys} {U : Unf (Int × Int)} (h : UOk (lpIn x) U) : U.sts.length ≤ (lpV x).length := zbi h.nd fun s hs => zfS (h.ok s hs)
set_option maxHeartbeats 16000000 in
theorem ztz (O : List Heap) (x : Sys) (h : smallS x) (hx : gSys x) (hV0 : (lpV x).length ≤ 4095) : zao Tryz.prog 42 [sysD x] O (.tup [autD (lpR x).1, .i (prsI (lpR x).2)]) [] O := by
 have hal := zaX (by decide) (zaE hx.p).1
 by_cases h0 : 0 < x.p.states ∧ 0 < x.s.states
 ·obtain ⟨V, hV1, hU⟩ := zhK hx h0 (by omega)
  have hF := zlm hx false (show (lpV x).length < 4096 by omega)
  have hlp : lpR x = (unfA x.p.alpha V, V.sts) := by unfold lpR; rw [if_pos h0, hV1]
  have hno : (Except.ok V : Except Int (Unf (Int × Int))) = zbx eqB false (zdM x) (lpMk x) x.p.alpha (4097 - 0) 0 (unf0 ((0 : Int), (0 : Int))) := hV1.symm
  have hU0 : UOk (lpIn x) (unf0 ((0 : Int), (0 : Int))) := ⟨fun s hs => by
   rw [show s = (0, 0) by simpa [unf0] using hs]
   exact ⟨⟨Int.le_refl _, h0.1⟩, Int.le_refl _, h0.2⟩, by simp [unf0], rfl⟩
  have hfew : ∀ U : Unf (Int × Int), UOk (lpIn x) U → U.sts.length ≤ 4095 := fun U hU => Nat.le_trans (zty hU) hV0
  have hvok := fun i s ev U V' hU hs hi hq => @zfj (Int × Int) _ eqB false (zdM x) (lpIn x) hF i s ev U V' hU hs hi hq
  have s1 := fun O s e => zro O x.p s e h.p.ed
  have s2 := fun O s e => zro O x.s s e h.s.ed
  have m1 := fun O e => zbl O x.p.marked e (by have := h.p.mkd; simp only [zap]; omega)
  have m2 := fun O e => zbl O x.s.marked e (by have := h.s.mkd; simp only [zap]; omega)
  have hts : ∀ z ev, zdM x z ev = ((stp3 x.p.edges z.1 ev, stp3 x.s.edges z.2 ev), decide (0 ≤ stp3 x.p.edges z.1 ev) && decide (0 ≤ stp3 x.s.edges z.2 ev), 0) := fun z ev => rfl
  have hmr : ∀ z, lpMk x z = (decide (z.1 ∈ x.p.marked) && decide (z.2 ∈ x.s.marked)) := fun z => rfl
  rw [hlp]
  unfold unfA
  generalize hR : (Except.ok V : Except Int (Unf (Int × Int))) = R at *
  clear hlp hV1 hU hF hV0 hx h
  generalize zdM x = ts at *
  generalize lpMk x = mr at *
  generalize lpIn x = P at *
  obtain ⟨⟨al, st, mk, es⟩, ⟨al', st', mk', es'⟩, ob, ct⟩ := x
  simp only at h0 hal hts hmr s1 s2 m1 m2 hno ⊢
  refine zar [10, 19, 21] Tk Tryz.func42 rfl Tryz.call42 Tryz.ntmps42 (Nat.le_of_ble_eq_true rfl) fun E => ?_
  refine zae Tk Tryz.func42 ?_
  refine za1 Tk Tryz.func42 rfl (fun _ => ?_) (fun h => absurd h (by simp; omega))
  refine zaj Tk Tryz.func42 rfl (fun _ => ?_) (fun h => absurd h (by simp; omega))
  refine zag Tk Tryz.func42 (by exact ⟨by decide, by decide⟩) ?_
  refine zac ?_
  refine zaq (zgG 28 105 rfl rfl rfl) ?_
  refine zaq (zaO 4 59 3 1 (pre := [ints al, ii 0]) (post := [.i (.v (.slice none 0 0))]) rfl rfl rfl) ?_
  refine zaq (zaO 4 113 117 3 (pre := [ints al, ii 0, .osl 0 59]) (post := []) rfl rfl rfl) ?_
  refine zaf (fun x : Nat × Unf (Int × Int) => [(1, .own 0 1 0 0), (2, .own 0 2 0 0), (4, .own 0 4 0 0), (5, .osl 0 105), (6, ii x.1)])
   (fun x => [(1, .box (sysC ⟨⟨al, st, mk, es⟩, ⟨al', st', mk', es'⟩, ob, ct⟩)), (2, .box [.i (.v (.slice none 0 0)), ii 0, .i (.v (.slice none 0 0)), .i (.v (.slice none 0 0))]), (4, .box [ints al, ii 0, .osl 0 59, .osl 0 113]), (105, ziD x.2.sts), (59, zav x.2.mkl), (113, zbT x.2.eds)]) (fun _ => O) 121
   (fun x => x.1 ≤ x.2.sts.length ∧ UOk P x.2 ∧ x.2.mkl.length ≤ x.1 ∧ x.2.eds.length ≤ 32 * x.1 ∧ R = zbx eqB false ts mr al (4097 - x.1) x.1 x.2) (fun x => 4097 - x.1) (0, unf0 ((0 : Int), (0 : Int)))
   ⟨Nat.zero_le _, hU0, Nat.le_refl _, Nat.le_refl _, hno⟩ ⟨rfl, rfl, rfl, rfl, rfl, trivial⟩ rfl ⟨rfl, rfl, rfl, rfl, rfl, rfl, trivial⟩ rfl rfl ?_
  clear hno hU0 h0
  rintro ⟨i, U⟩ ⟨hi, hgd, hml, hel, hno⟩ ih
  simp only at hi hgd hml hel hno
  refine zae Tk Tryz.func42 ?_
  refine zaj Tk Tryz.func42 rfl (fun g1 => ?_) (fun g1 => ?_)
  ·have h1 : i < U.sts.length := by simpa using g1
   clear g1
   have hle := hfew U hgd
   have hsi : U.sts[i]? = some U.sts[i] := List.getElem?_eq_getElem h1
   have gs : (U.sts.map prI)[(i : Int).toNat]? = some (prI U.sts[i]) := zak h1
   have hoks := hgd.ok _ (List.getElem_mem h1)
   generalize U.sts[i] = s at *
   have hno : R = match zau eqB false ts i s al (zbp mr i s U) with
     | .error e => .error e
     | .ok U' => zbx eqB false ts mr al (4097 - (i + 1)) (i + 1) U' := by
    rw [hno, show 4097 - i = (4097 - (i + 1)) + 1 by omega]
    simp only [zbx, hsi]
    cases zau eqB false ts i s al (zbp mr i s U) <;> rfl
   obtain ⟨m1', m2'⟩ := zcb mr i s U
   have hM : UOk P (zbp mr i s U) := ⟨by rw [m1']; exact hgd.ok, by rw [m1']; exact hgd.nd, by rw [m1', m2']; exact hgd.fr⟩
   have hm3 : (zbp mr i s U).mkl = if mr s = true then U.mkl ++ [(i : Int)] else U.mkl := by
    unfold zbp
    by_cases h : mr s = true <;> simp [h]
   generalize zbp mr i s U = U1 at *
   rw [hmr] at hm3
   obtain ⟨z1, z2⟩ := s
   simp only at hm3
   have d1 := fun O => m1 O z1
   have d2 := fun O => m2 O z2
   generalize decide (z1 ∈ mk) = B1 at *
   generalize decide (z2 ∈ mk') = B2 at *
   obtain ⟨sts, mkl, eds⟩ := U
   obtain ⟨sts1, mkl1, eds1⟩ := U1
   simp only at m1' m2' hm3 hsi gs hno h1 hle hel hml hi hgd
   subst m1' m2'
   have n1 : 0 ≤ (i : Int) ∧ (i : Int) < (sts1.length : Int) := by omega
   have hml1 : mkl1.length ≤ i + 1 := by rw [hm3]; split; (rw [List.length_append, List.length_singleton]; omega); omega
   apply zcB (P := True) (s6 := { σ := [(1, .own 0 1 0 0), (2, .own 0 2 0 0), (4, .own 0 4 0 0), (5, .osl 0 105), (6, ii i)], S := [(1, .box (sysC ⟨⟨al, st, mk, es⟩, ⟨al', st', mk', es'⟩, ob, ct⟩)), (2, .box [.i (.v (.slice none 0 0)), ii 0, .i (.v (.slice none 0 0)), .i (.v (.slice none 0 0))]), (4, .box [ints al, ii 0, .osl 0 59, .osl 0 113]), (105, ziD sts1), (59, zav mkl1), (113, zbT eds1)] :: O, n := 121 })
   ·intro J
    refine zaz Tk Tryz.func42 zaL rfl ?_
    refine zay Tk (by exact n1) ?_
    refine zay Tk (by exact ⟨by decide, by decide⟩) ?_
    refine zaJ Tk (gs) ?_
    refine za6 Tk (fun _ => d1 _) rfl rfl rfl ?_
    refine zdK Tk (fun c1 => ?_) (fun c1 => ?_)
    ·have c1 : B1 = true := c1
     refine zay Tk (by exact n1) ?_
     refine zay Tk (by exact ⟨by decide, by decide⟩) ?_
     refine zaJ Tk (gs) ?_
     refine za6 Tk (fun _ => d2 _) rfl rfl rfl ?_
     refine zaQ Tk Tryz.func42 (by kernel_rfl) ?_
     rw [c1, Bool.true_and] at hm3
     refine zaj Tk Tryz.func42 rfl (fun c2 => ?_) (fun c2 => ?_)
     ·have c2 : B2 = true := c2
      rw [if_pos c2] at hm3
      refine zag Tk Tryz.func42 (by exact ⟨by show (mkl.length + 1) * 8 ≤ 140737488355328; omega, by show mkl.length + 1 ≤ 9223372036854775807; omega⟩) ?_
      refine zax ?_
      refine zaM (J trivial) ⟨rfl, rfl, rfl, rfl, rfl, trivial⟩ rfl ⟨rfl, rfl, rfl, rfl, by rw [hm3]; exact congrArg some (zaK mkl (i : Int)), rfl, trivial⟩ rfl rfl
     ·have c2 : ¬ B2 = true := by rw [show B2 = false from c2]; decide
      rw [if_neg c2] at hm3
      refine zax ?_
      refine zaM (J trivial) ⟨rfl, rfl, rfl, rfl, rfl, trivial⟩ rfl ⟨rfl, rfl, rfl, rfl, by rw [hm3]; rfl, rfl, trivial⟩ rfl rfl
    ·have c1 : B1 = false := c1
     refine zaQ Tk Tryz.func42 (by kernel_rfl) ?_
     rw [c1, Bool.false_and, if_neg (by decide)] at hm3
     refine gcF Tk Tryz.func42 rfl ?_
     refine zax ?_
     refine zaM (J trivial) ⟨rfl, rfl, rfl, rfl, rfl, trivial⟩ rfl ⟨rfl, rfl, rfl, rfl, by rw [hm3]; rfl, rfl, trivial⟩ rfl rfl
   intro _
   clear hm3 hml d1 d2 gs hgd m1 m2 hmr
   have hV0 : zau eqB false ts i (z1, z2) al ⟨sts1, mkl1, eds1⟩ = zau eqB false ts i (z1, z2) (al.drop 0) ⟨sts1, mkl1, eds1⟩ := rfl
   generalize zau eqB false ts i (z1, z2) al ⟨sts1, mkl1, eds1⟩ = VV at *
   refine zae Tk Tryz.func42 ?_
   refine g_go Tk Tryz.func42 ?_
   refine zac ?_
   refine zaf (fun x : Nat × Unf (Int × Int) => [(1, .own 0 1 0 0), (2, .own 0 2 0 0), (4, .own 0 4 0 0), (5, .osl 0 105), (6, ii i), (62, ints al), (63, ii al.length), (64, ii x.1)])
    (fun x => [(1, .box (sysC ⟨⟨al, st, mk, es⟩, ⟨al', st', mk', es'⟩, ob, ct⟩)), (2, .box [.i (.v (.slice none 0 0)), ii 0, .i (.v (.slice none 0 0)), .i (.v (.slice none 0 0))]), (4, .box [ints al, ii 0, .osl 0 59, .osl 0 113]), (105, ziD x.2.sts), (59, zav x.2.mkl), (113, zbT x.2.eds)]) (fun _ => O) 121
    (fun x => x.1 ≤ al.length ∧ UOk P x.2 ∧ i < x.2.sts.length ∧ x.2.mkl = mkl1 ∧ x.2.eds.length ≤ 32 * i + x.1 ∧ x.2.sts[i]? = some (z1, z2) ∧ VV = zau eqB false ts i (z1, z2) (al.drop x.1) x.2) (fun x => al.length - x.1) (0, ⟨sts1, mkl1, eds1⟩)
    ⟨Nat.zero_le _, hM, h1, rfl, hel, hsi, hV0⟩ ⟨rfl, rfl, rfl, rfl, rfl, rfl, rfl, rfl, trivial⟩ rfl ⟨rfl, rfl, rfl, rfl, rfl, rfl, trivial⟩ rfl rfl ?_
   clear hV0 hsi hel hle hM n1 h1
   rintro ⟨j, ⟨sts, mk0, eds⟩⟩ ⟨hj, hgd, hil, hmke, hel, hsi, hV⟩ ih2
   simp only at hj hgd hil hmke hel hsi hV
   subst hmke
   have hle := hfew _ hgd
   simp only at hle
   have hj1 : ii (IntKind.i64.wrap ((j : Int) + 1)) = ii ((j + 1 : Nat) : Int) := congrArg ii (zaH (n := 4096) (by omega) (by decide))
   refine zae Tk Tryz.func42 ?_
   refine zaj Tk Tryz.func42 rfl (fun g2 => ?_) (fun g2 => ?_)
   ·have h3 : j < al.length := by simpa using g2
    clear g2
    have ga : (al.map fun x => [vi x])[(j : Int).toNat]? = some [vi al[j]] := zak (f := fun x => [vi x]) h3
    have da : al.drop j = al[j] :: al.drop (j + 1) := List.drop_eq_getElem_cons h3
    rw [da] at hV
    simp only [zau] at hV
    clear da
    generalize al[j] = e at *
    have gs : (sts.map prI)[(i : Int).toNat]? = some [vi z1, vi z2] := by simp [hsi]
    have hvok := fun V' h => hvok i (z1, z2) e ⟨sts, mk0, eds⟩ V' hgd hoks hil h
    unfold zbA at hV hvok
    rw [hts] at hV hvok
    simp only at hV hvok
    have d1 := fun O => s1 O z1 e
    have d2 := fun O => s2 O z2 e
    generalize stp3 es z1 e = t1 at *
    generalize stp3 es' z2 e = t2 at *
    have n3 : 0 ≤ (i : Int) ∧ (i : Int) < (sts.length : Int) := by omega
    refine zag Tk Tryz.func42 (by exact ⟨by omega, by show (j : Int) < (al.length : Int); omega⟩) ?_
    refine zat Tk Tryz.func42 (ga) ?_
    refine zaz Tk Tryz.func42 zaL rfl ?_
    refine zay Tk (by exact n3) ?_
    refine zay Tk (by exact ⟨by decide, by decide⟩) ?_
    refine zaJ Tk (gs) ?_
    refine za6 Tk (fun _ => d1 _) rfl rfl rfl ?_
    refine zay Tk (by exact n3) ?_
    refine zay Tk (by exact ⟨by decide, by decide⟩) ?_
    refine zaJ Tk (gs) ?_
    refine za6 Tk (fun _ => d2 _) rfl rfl rfl ?_
    refine znX Tk rfl rfl rfl ?_
    refine zaQ Tk Tryz.func42 (by kernel_rfl) ?_
    have hix := zoC (t1, t2) sts 0
    clear d1 d2 gs
    refine zag Tk Tryz.func42 (by exact ⟨by decide, by decide⟩) ?_
    refine za1 Tk Tryz.func42 rfl (fun c1 => ?_) (fun c1 => ?_)
    ·have c1 : t1 < 0 := of_decide_eq_true c1
     rw [decide_eq_false (show ¬ 0 ≤ t1 by omega), Bool.false_and] at hV
     simp only [ne_eq, not_true, if_false, if_true] at hV
     clear hvok
     refine gcT Tk Tryz.func42 rfl ?_
     refine zac ?_
     exact ih2 (j + 1, ⟨sts, mk0, eds⟩) _ _ ⟨h3, hgd, hil, rfl, by simp only; omega, hsi, hV⟩ (by simp only; omega) ⟨rfl, rfl, rfl, rfl, rfl, rfl, rfl, hj1, trivial⟩ rfl ⟨rfl, rfl, rfl, rfl, rfl, rfl, trivial⟩ rfl rfl
    have c1 : ¬ t1 < 0 := of_decide_eq_false c1
    rw [decide_eq_true (show 0 ≤ t1 by omega), Bool.true_and] at hV hvok
    refine zag Tk Tryz.func42 (by exact ⟨by decide, by decide⟩) ?_
    refine zaj Tk Tryz.func42 rfl (fun c2 => ?_) (fun c2 => ?_)
    ·have c2 : t2 < 0 := of_decide_eq_true c2
     rw [decide_eq_false (show ¬ 0 ≤ t2 by omega)] at hV
     simp only [ne_eq, not_true, if_false, if_true] at hV
     clear hvok
     refine zac ?_
     exact ih2 (j + 1, ⟨sts, mk0, eds⟩) _ _ ⟨h3, hgd, hil, rfl, by simp only; omega, hsi, hV⟩ (by simp only; omega) ⟨rfl, rfl, rfl, rfl, rfl, rfl, rfl, hj1, trivial⟩ rfl ⟨rfl, rfl, rfl, rfl, rfl, rfl, trivial⟩ rfl rfl
    have c2 : ¬ t2 < 0 := of_decide_eq_false c2
    rw [decide_eq_true (show 0 ≤ t2 by omega)] at hV hvok
    simp only [ne_eq, not_true, if_false, Bool.true_eq_false, Bool.false_eq_true, false_and] at hV hvok
    clear c1 c2
    obtain ⟨t, ht⟩ : ∃ t, t = sts.findIdx (eqB (t1, t2)) := ⟨_, rfl⟩
    rw [← ht] at hV hvok hix
    rw [Nat.zero_add] at hix
    obtain ⟨sts2, hst3⟩ : ∃ sts2, sts2 = if (t1, t2) ∈ sts then sts else sts ++ [(t1, t2)] := ⟨_, rfl⟩
    have hU2 : VV = zau eqB false ts i (z1, z2) (al.drop (j + 1)) ⟨sts2, mk0, eds ++ [((i : Int), e, (t : Int))]⟩ ∧ UOk P ⟨sts2, mk0, eds ++ [((i : Int), e, (t : Int))]⟩ ∧ i < sts2.length ∧ sts2[i]? = some (z1, z2) := by
     by_cases hm : (t1, t2) ∈ sts
     ·have hlt : t < sts.length := by rw [ht]; exact zcC ⟨(t1, t2), hm, by simp [eqB]⟩
      rw [if_pos hm] at hst3
      rw [if_pos hlt] at hV hvok
      subst hst3
      have h := hvok _ rfl
      exact ⟨hV, h.1, h.2.1, h.2.2.trans hsi⟩
     ·have hlt : t = sts.length := by
       rw [ht]
       exact za4 fun x hx => by simp only [eqB, decide_eq_false_iff_not]; rintro rfl; exact hm hx
      rw [if_neg hm] at hst3
      rw [if_neg (by omega)] at hV hvok
      subst hst3
      have h := hvok _ rfl
      exact ⟨hV, h.1, h.2.1, h.2.2.trans hsi⟩
    have htm : (t1, t2) ∉ sts → t = sts.length := fun hm => by
     rw [ht]
     exact za4 fun x hx => by simp only [eqB, decide_eq_false_iff_not]; rintro rfl; exact hm hx
    have hic := fun O ho => zsM O sts (t1, t2) 0 105 ho (by omega)
    clear hV hvok ht
    generalize idxP (t1, t2) sts 0 = ix at *
    have hq1 : ix < 0 → t = sts.length ∧ sts2 = sts ++ [(t1, t2)] := fun h => by
     have c2 : (t1, t2) ∉ sts := fun hm => by
      rw [if_pos hm] at hix; omega
     exact ⟨htm c2, by rw [hst3, if_neg c2]⟩
    have hq2 : ¬ ix < 0 → ix = t ∧ sts2 = sts := fun h => by
     have c2 : (t1, t2) ∈ sts := Classical.byContradiction fun hm => by
      rw [if_neg hm] at hix; omega
     exact ⟨by rw [hix, if_pos c2], by rw [hst3, if_pos c2]⟩
    clear hix htm hst3
    apply zcB (P := True) (s6 := { σ := [(1, .own 0 1 0 0), (2, .own 0 2 0 0), (4, .own 0 4 0 0), (5, .osl 0 105), (6, ii i), (62, ints al), (63, ii al.length), (64, ii j), (8, ii e), (10, ii t)], S := [(1, .box (sysC ⟨⟨al, st, mk, es⟩, ⟨al', st', mk', es'⟩, ob, ct⟩)), (2, .box [.i (.v (.slice none 0 0)), ii 0, .i (.v (.slice none 0 0)), .i (.v (.slice none 0 0))]), (4, .box [ints al, ii 0, .osl 0 59, .osl 0 113]), (105, ziD sts2), (59, zav mk0), (113, zbT eds)] :: O, n := 121 })
    ·intro J
     refine zah Tk Tryz.func42 (hic _ rfl) rfl rfl rfl rfl rfl ?_
     refine zaj Tk Tryz.func42 rfl (fun c1 => ?_) (fun c1 => ?_)
     ·have c1 := hq1 (of_decide_eq_true c1)
      refine zag Tk Tryz.func42 (by exact ⟨by show (sts.length + 1) * 16 ≤ 140737488355328; omega, by show sts.length + 1 ≤ 9223372036854775807; omega⟩) ?_
      refine zax ?_
      refine zaM (J trivial) ⟨rfl, rfl, rfl, rfl, rfl, rfl, rfl, rfl, rfl, by rw [c1.1]; rfl, trivial⟩ rfl ⟨rfl, rfl, rfl, by rw [c1.2]; exact congrArg some (ziC sts (t1, t2)), rfl, rfl, trivial⟩ rfl rfl
     ·have c1 := hq2 (of_decide_eq_false c1)
      refine zax ?_
      refine zaM (J trivial) ⟨rfl, rfl, rfl, rfl, rfl, rfl, rfl, rfl, rfl, congrArg ii c1.1, trivial⟩ rfl ⟨rfl, rfl, rfl, by rw [c1.2]; rfl, rfl, rfl, trivial⟩ rfl rfl
    intro _
    obtain ⟨hV, hg2, hi2, hs2⟩ := hU2
    clear hgd hil hsi hic hq1 hq2
    refine zae Tk Tryz.func42 ?_
    refine g_go Tk Tryz.func42 ?_
    refine zag Tk Tryz.func42 (by exact ⟨by show (eds.length + 1) * 24 ≤ 140737488355328; omega, by show eds.length + 1 ≤ 9223372036854775807; omega⟩) ?_
    refine zac ?_
    exact ih2 (j + 1, ⟨sts2, mk0, eds ++ [((i : Int), e, (t : Int))]⟩) _ _ ⟨h3, hg2, hi2, rfl, by simp only [List.length_append, List.length_singleton]; omega, hs2, hV⟩ (by simp only; omega) ⟨rfl, rfl, rfl, rfl, rfl, rfl, rfl, hj1, trivial⟩ rfl ⟨rfl, rfl, rfl, rfl, rfl, congrArg some (zc8 eds ((i : Int), e, (t : Int))), trivial⟩ rfl rfl
   ·have h3 : al.length ≤ j := by simpa using g2
    rw [List.drop_eq_nil_of_le h3] at hV
    simp only [zau] at hV
    subst hV
    simp only at hno
    refine zac ?_
    exact ih (i + 1, ⟨sts, mk0, eds⟩) _ _ ⟨by simp only; omega, hgd, hml1, by simp only; omega, hno⟩ (by simp only; omega) ⟨rfl, rfl, rfl, rfl, congrArg ii (zaH (n := 4096) (by omega) (by decide)), trivial⟩ rfl ⟨rfl, rfl, rfl, rfl, rfl, rfl, trivial⟩ rfl rfl
  ·have h1 : U.sts.length ≤ i := by simpa using g1
   rw [zez h1] at hno
   rw [← hR] at hno
   simp only [Except.ok.injEq] at hno
   subst hno
   obtain ⟨sts, mk0, eds⟩ := V
   refine zax ?_
   refine zaq (zan 105 rfl rfl) ?_
   refine zaq (zan 59 rfl rfl) ?_
   refine zaq (zan 113 rfl rfl) ?_
   refine zae Tk Tryz.func42 ?_
   refine g_go Tk Tryz.func42 ?_
   refine zam Tk (r := .tup [autD ⟨al, sts.length, mk0, eds⟩, .i (prsI sts)]) rfl rfl rfl trivial rfl rfl ?_
   rfl
 ·have hlp : lpR x = (⟨x.p.alpha, 0, [], []⟩, []) := by unfold lpR; rw [if_neg h0]
  rw [hlp]
  clear hlp
  obtain ⟨⟨al, st, mk, es⟩, ⟨al', st', mk', es'⟩, ob, ct⟩ := x
  simp only at h0 ⊢
  refine zar [] Tk Tryz.func42 rfl Tryz.call42 Tryz.ntmps42 (Nat.le_of_ble_eq_true rfl) fun E => ?_
  refine zae Tk Tryz.func42 ?_
  refine za1 Tk Tryz.func42 rfl (fun c1 => ?_) (fun c1 => ?_)
  ·have c1 : st > 0 := of_decide_eq_true c1
   refine zaj Tk Tryz.func42 rfl (fun h => absurd h (by simp; omega)) (fun _ => ?_)
   refine zac ?_
   refine zae Tk Tryz.func42 ?_
   refine gcF Tk Tryz.func42 rfl ?_
   refine zcq Tk (r := .tup [.agg [ints al, ii 0, .i (.v (.slice none 0 0)), .i (.v (.slice none 0 0))], .i (.v (.slice none 0 0))]) rfl rfl rfl trivial rfl rfl ?_
   repeat' (first | refine zdl ?_ | refine zdm ?_ | refine zh5 ?_ | refine CoDL.cons ?_ ?_ | exact CoDL.nil | exact zcR | refine ze3 ?_ | refine CoLL.cons ?_ ?_ | exact CoLL.nil | refine CoL.cons ?_ ?_ | exact CoL.nil | exact CoI.refl _ | exact CoL.refl _ | exact CoLL.refl _ | exact CoDL.refl _ | exact CoD.refl _)
  ·refine gcF Tk Tryz.func42 rfl ?_
   refine zac ?_
   refine zae Tk Tryz.func42 ?_
   refine gcF Tk Tryz.func42 rfl ?_
   refine zcq Tk (r := .tup [.agg [ints al, ii 0, .i (.v (.slice none 0 0)), .i (.v (.slice none 0 0))], .i (.v (.slice none 0 0))]) rfl rfl rfl trivial rfl rfl ?_
   repeat' (first | refine zdl ?_ | refine zdm ?_ | refine zh5 ?_ | refine CoDL.cons ?_ ?_ | exact CoDL.nil | exact zcR | refine ze3 ?_ | refine CoLL.cons ?_ ?_ | exact CoLL.nil | refine CoL.cons ?_ ?_ | exact CoL.nil | exact CoI.refl _ | exact CoL.refl _ | exact CoLL.refl _ | exact CoDL.refl _ | exact CoD.refl _)
end Go.AI


namespace Go.AI
open Go.Proofs
set_option maxRecDepth 20000
theorem zfQ {s : List Int} {gs gm : Int} {gt : Nat → Int} (hs : s.Pairwise (· < ·)) (hr : ∀ x ∈ s, 0 ≤ x ∧ x < 32) (hsl : s.length ≤ 5) (hg : ∀ j, 0 ≤ gt j ∧ gt j ≤ 255) :
  chkA (mkA s gs gm gt) = 0 ∧ smallA (mkA s gs gm gt) ∧ (mkA s gs gm gt).states ≤ 5 ∧ (mkA s gs gm gt).alpha = s := by
 obtain ⟨_, ⟨n, hn, h⟩, h3⟩ := zos (gs := gs) (gm := gm) hs hr hsl hg
 exact ⟨h.c, h.sm, by rw [h.st]; omega, h3⟩
theorem zoF {l s : List Int} (hs : s.Pairwise (· < ·)) (hr : ∀ x ∈ s, 0 ≤ x ∧ x < 32) : zai 32 (hasR l s) none = 0 := zbd (hs.filter _) (fun x hx => hr x (List.mem_filter.1 hx).1) (fun y e => by cases e)
theorem zlh {x : Sk} (h : skOkB x) : gSys (mkS x) ∧ smallS (mkS x) ∧ ((mkS x).p.states ≤ 5 ∧ (mkS x).s.states ≤ 5) := by
 obtain ⟨e1, e2, e3⟩ := zg9 x.st
 obtain ⟨p1, p2, p3, p4⟩ := zfQ (gs := x.ps) (gm := x.pm) e1 e2 e3 h.p.2
 obtain ⟨s1, s2, s3, s4⟩ := zfQ (gs := x.ss) (gm := x.sm) e1 e2 e3 h.s.2
 obtain ⟨o1, o2, o3⟩ := zg9 x.ob
 obtain ⟨c1, c2, c3⟩ := zg9 x.ct
 have hin : ∀ s : List Int, ∀ e ∈ hasR (zaS x.st) s, e ∈ zaS x.st := fun s e he => of_decide_eq_true (List.mem_filter.1 he).2
 refine ⟨⟨p1, s1, s4.trans p4.symm, zoF o1 o2, zoF c1 c2, ?_, ?_⟩, ⟨p2, s2, ?_, ?_⟩, p3, s3⟩
 ·intro e he
  rw [show (mkS x).p.alpha = zaS x.st from p4]
  exact hin _ e he
 ·intro e he
  rw [show (mkS x).p.alpha = zaS x.st from p4]
  exact hin _ e he
 ·have : (hasR (zaS x.st) (zaS x.ob)).length ≤ (zaS x.ob).length := List.length_filter_le _ _
  show (hasR (zaS x.st) (zaS x.ob)).length ≤ 1000000
  omega
 ·have : (hasR (zaS x.st) (zaS x.ct)).length ≤ (zaS x.ct).length := List.length_filter_le _ _
  show (hasR (zaS x.st) (zaS x.ct)).length ≤ 1000000
  omega
theorem zst {x : Sk} (h : skOkB x) : (lpV (mkS x)).length ≤ 25 := by
 obtain ⟨_, _, h1, h2⟩ := zlh h
 rw [zd0]
 exact Nat.le_trans (Nat.mul_le_mul (show (mkS x).p.states.toNat ≤ 5 by omega) (show (mkS x).s.states.toNat ≤ 5 by omega)) (by decide)
theorem ztO (O : List Heap) (x : Sk) (h : skOkB x) : zao Tryz.prog 13 [.agg (skC x)] O (bb (decide ((lpR (mkS x)).1.states ≤ 10))) [] O := by
 have h1 := fun O => zll O x h
 obtain ⟨m1, m2, _⟩ := zlh h
 have h2 := fun O => ztz O (mkS x) m2 m1 (by have := zst h; omega)
 clear m1 m2 h
 generalize lpR (mkS x) = L at *
 generalize mkS x = X at *
 obtain ⟨⟨lal, lst, lmk, les⟩, prs⟩ := L
 obtain ⟨⟨al, st, mk, es⟩, ⟨al', st', mk', es'⟩, ob, ct⟩ := X
 obtain ⟨xst, xps, xpm, xpt, xss, xsm, xt2, xob, xct⟩ := x
 simp only at h1 h2 ⊢
 refine zad Tk Tryz.func13 rfl Tryz.call13 Tryz.ntmps13 (Nat.le_of_ble_eq_true rfl) fun E => ?_
 refine zae Tk Tryz.func13 ?_
 refine zah Tk Tryz.func13 (h1 _) rfl rfl rfl rfl rfl ?_
 refine zah Tk Tryz.func13 (h2 _) rfl rfl rfl rfl rfl ?_
 refine zam Tk (r := bb (decide (lst ≤ 10))) rfl rfl rfl trivial rfl rfl ?_
 rfl
end Go.AI


namespace Go.AI
open Go.Proofs
set_option maxRecDepth 20000
end Go.AI


namespace Go.AI
section
variable {c : Cx} {s : St} {H : Heap} {O : List Heap}
end
end Go.AI


namespace Go.AI
open Go.Proofs
set_option maxRecDepth 20000
end Go.AI


namespace Go.AI
open Go.Proofs
set_option maxRecDepth 20000
theorem znV {x : Sk} (h : skOkB x) (hf : (lpR (mkS x)).1.states ≤ 10) : (lpR (mkS x)).2.length ≤ 10 := by
 obtain ⟨m1, m2, _⟩ := zlh h
 have := (lp_g m1 (by have := zst h; omega)).1.st
 omega
end Go.AI


namespace Go.Proofs.YtlcekmemdnjjbaaGreatDoor
open Go.ChangeShapes Go.WideShapes Go.ChangeAt Go.RowKit Go.Deep Go.WideElems
set_option maxRecDepth 100000
section
variable {H : Type} {enc : TypeId × Value → H} {P : Program} {W : World}
theorem zmD {t e : TypeId} {m z : Nat} {R : List AI.I → Prop} (ht : P.underlying t = some (.array m e)) (hc : P.cellsOf e = z) (hct : P.cellsOf t = m * z) (he : Opn enc P W e R) :
  Opn enc P W t fun is => ∃ xs : List (List AI.I), xs.length = m ∧ is = xs.flatten ∧ ∀ x ∈ xs, R x := by
 intro n cs x h
 obtain ⟨xs, f, rfl, rfl, hl, hlen, hx⟩ := DataW.trod_array ht h
 rw [hct] at hl
 have build : ∀ k, k ≤ m → ∃ ys : List (List AI.I), ys.length = k ∧ AI.RepL (KW W) (cs.take (k * z)) ys.flatten ∧ ∀ y ∈ ys, R y := by
  intro k
  induction k with
  | zero => intro _; exact ⟨[], rfl, by rw [Nat.zero_mul, List.take_zero]; exact .nil, by simp⟩
  | succ k ih =>
   intro hk
   obtain ⟨ys, h1, h2, h3⟩ := ih (by omega)
   have h0 := hx k (by omega)
   rw [hc, List.getElem?_eq_getElem (by omega)] at h0
   obtain ⟨is, hr, hR⟩ := he _ _ _ h0
   refine ⟨ys ++ [is], by simp [h1], ?_, fun y hy => ?_⟩
   ·rw [Nat.succ_mul, List.take_add, List.flatten_append]
    simpa using ze8 h2 hr
   ·rcases List.mem_append.1 hy with hy | hy
    ·exact h3 y hy
    ·rw [List.mem_singleton] at hy
     subst hy
     exact hR
 obtain ⟨ys, h1, h2, h3⟩ := build m (Nat.le_refl _)
 rw [List.take_of_length_le (by omega)] at h2
 exact ⟨_, h2, ys, h1, rfl, h3⟩
theorem zoU : ∀ {xs : List (List AI.I)}, (∀ x ∈ xs, ∃ zs : List Int, zs.length = 5 ∧ x = zs.map (fun z => AI.I.v (.int .u8 z)) ∧ ∀ z ∈ zs, (Lit.int .u8 z).wf = true) → ∃ L : List Int, L.length = 5 * xs.length ∧ xs.flatten = L.map (fun z => AI.I.v (.int .u8 z)) ∧ ∀ z ∈ L, 0 ≤ z ∧ z ≤ 255
 | [], _ => ⟨[], rfl, rfl, by simp⟩
 | x :: r, h => by
  obtain ⟨zs, h1, h2, h3⟩ := h x (by simp)
  obtain ⟨L, g1, g2, g3⟩ := zoU (xs := r) fun y hy => h y (by simp [hy])
  refine ⟨zs ++ L, by rw [List.length_append, h1, g1, List.length_cons]; omega, by rw [List.flatten_cons, h2, g2, List.map_append], fun z hz => ?_⟩
  rcases List.mem_append.1 hz with hz | hz
  ·exact wf_u8 (h3 z hz)
  ·exact g3 z hz
def OpnB (enc : TypeId × Value → H) (P : Program) (W : World) (N : Nat) (t : TypeId) (R : List AI.I → Prop) : Prop :=
 ∀ n, n < N → ∀ cs x, DataW.trod enc P W 0 (fun _ => true) true n t cs = some x → ∃ is, AI.RepL (KW W) cs is ∧ R is
theorem Opn.b {t : TypeId} {R : List AI.I → Prop} (h : Opn enc P W t R) (N : Nat) : OpnB enc P W N t R := fun n _ cs x hx => h n cs x hx
theorem Opn.ofB {t : TypeId} {R : List AI.I → Prop} (h : ∀ N, OpnB enc P W N t R) : Opn enc P W t R := fun n cs x hx => h (n + 1) n (Nat.lt_succ_self n) cs x hx
theorem OpnB.less {t : TypeId} {R : List AI.I → Prop} {N : Nat} (h : OpnB enc P W (N + 1) t R) : OpnB enc P W N t R := fun n hn cs x hx => h n (by omega) cs x hx
def AllP : List (List AI.I → Prop) → List (List AI.I) → Prop
 | [], [] => True
 | R :: Rs, a :: l => R a ∧ AllP Rs l
 | _, _ => False
def FldB (enc : TypeId × Value → H) (P : Program) (W : World) (N : Nat) : List Field → List (List AI.I → Prop) → Prop
 | [], [] => True
 | f :: fs, R :: Rs => OpnB enc P W N f.type R ∧ FldB enc P W N fs Rs
 | _, _ => False
def SeqB (P : Program) : Nat → List Field → Nat → Bool
 | o, [], n => o == n
 | o, f :: fs, n => f.offset == o && SeqB P (o + P.cellsOf f.type) fs n
theorem zg8 {N n : Nat} (hn : n < N) {cs : List Value} : ∀ {fs : List Field} {Rs : List (List AI.I → Prop)} {o : Nat}, FldB enc P W N fs Rs → SeqB P o fs cs.length = true →
  (∀ f ∈ fs, ∃ y, DataW.trod enc P W 0 (fun _ => true) true n f.type ((cs.drop f.offset).take (P.cellsOf f.type)) = some y) → ∃ parts, AI.RepL (KW W) (cs.drop o) parts.flatten ∧ AllP Rs parts
 | [], [], o, _, hs, _ => by
  have : o = cs.length := by simpa [SeqB] using hs
  subst this
  exact ⟨[], by simpa using AI.RepL.nil, trivial⟩
 | f :: fs, R :: Rs, o, ⟨hf, hF⟩, hs, hx => by
  simp only [SeqB, Bool.and_eq_true, beq_iff_eq] at hs
  obtain ⟨rfl, hs⟩ := hs
  obtain ⟨y, hy⟩ := hx f (by simp)
  obtain ⟨a, ra, ha⟩ := hf n hn _ _ hy
  obtain ⟨parts, rp, hp⟩ := zg8 hn hF hs fun g hg => hx g (by simp [hg])
  refine ⟨a :: parts, ?_, ha, hp⟩
  have e : cs.drop f.offset = (cs.drop f.offset).take (P.cellsOf f.type) ++ cs.drop (f.offset + P.cellsOf f.type) := by
   rw [← List.drop_drop, List.take_append_drop]
  rw [e, List.flatten_cons]
  exact ze8 ra rp
 | [], _ :: _, _, h, _, _ => h.elim
 | _ :: _, [], _, h, _, _ => h.elim
theorem zjx {t : TypeId} {fs : Array Field} {Rs : List (List AI.I → Prop)} {N : Nat} (ht : P.underlying t = some (.struct fs)) (hs : SeqB P 0 fs.toList (P.cellsOf t) = true) (hf : FldB enc P W N fs.toList Rs) :
  OpnB enc P W (N + 1) t fun is => ∃ parts, is = parts.flatten ∧ AllP Rs parts := by
 intro n hn cs x h
 obtain ⟨xs, m, rfl, rfl, hl, hlen, hx⟩ := DataW.trod_struct ht h
 rw [← hl] at hs
 obtain ⟨parts, hr, hp⟩ := zg8 (n := m) (by omega) hf hs fun f hfm => by
  obtain ⟨i, hi, e⟩ := List.mem_iff_getElem.1 hfm
  have h1 := hx i f (by rw [← e]; simp)
  rw [h1]
  have : i < xs.length := by rw [hlen]; simpa using hi
  exact ⟨xs[i], by simp [this]⟩
 exact ⟨_, by simpa using hr, parts, rfl, hp⟩
end
section
variable {H : Type} {enc : TypeId × Value → H} {W : World}
abbrev u8V (z : Int) : AI.I := AI.I.v (.int .u8 z)
theorem opn_graph : Opn enc Tryz.prog W 26 fun is => ∃ (x y : Int) (L : List Int), is = [u8V x, u8V y] ++ L.map u8V ∧ 0 ≤ x ∧ L.length = 25 ∧ ∀ z ∈ L, 0 ≤ z ∧ z ≤ 255 := by
 intro n cs y hn
 obtain ⟨is, hr, a, b, c, rfl, ⟨x, rfl, hx⟩, ⟨y, rfl, _⟩, ⟨xs, h5, rfl, hxs⟩⟩ := zjw Tryz.underlying26 (z0 := 1) (z1 := 1) (z2 := 25) (by kernel_rfl) (by kernel_rfl) (by kernel_rfl) (by kernel_rfl) rfl rfl rfl
  (zfK Tryz.underlying5) (zfK Tryz.underlying5) (zmD Tryz.underlying24 (z := 5) (by kernel_rfl) (by kernel_rfl) (zoj Tryz.underlying23 Tryz.underlying5 (by kernel_rfl) (by kernel_rfl))) n _ _ hn
 obtain ⟨L, g1, g2, g3⟩ := zoU hxs
 rw [h5] at g1
 rw [g2] at hr
 exact ⟨_, hr, x, y, L, rfl, (wf_u8 hx).1, g1, g3⟩
theorem zoI {L : List Int} (h : ∀ z ∈ L, 0 ≤ z ∧ z ≤ 255) (j : Nat) : 0 ≤ L.getD j 0 ∧ L.getD j 0 ≤ 255 := by
 rw [List.getD_eq_getElem?_getD]
 cases hj : L[j]? with
 | none => exact ⟨by decide, by decide⟩
 | some z => exact h z (List.mem_of_getElem? hj)
end
end Go.Proofs.YtlcekmemdnjjbaaGreatDoor


namespace Go.Proofs.YtlcekmemdnjjbaaGreatDoor
open Go.ChangeShapes Go.WideShapes Go.ChangeAt Go.RowKit Go.Deep Go.WideElems
set_option maxRecDepth 100000
section
variable {H : Type} {enc : TypeId × Value → H} {W : World}
theorem ziE {r : Reach} {b0 : Nat} {v : Value} {d : DataW H} {p : List MemPlace} (hv : Value.okWide Tryz.prog W r b0 28 v) (h : DataW.Trod enc Tryz.prog W 0 (fun _ => true) true 28 v d p) :
  ∃ x : AI.Sk, (AI.skOkB x ∧ (0 ≤ x.ob ∧ x.ob ≤ 255) ∧ 0 ≤ x.ct ∧ x.ct ≤ 255) ∧ ∀ ρ sh, AI.RepD (KW W) ρ sh v (.agg (AI.skC x)) := by
 obtain ⟨cs, rfl, _⟩ := okWide_struct Tryz.underlying28 hv
 obtain ⟨n, hn⟩ := h
 have hop : Opn enc Tryz.prog W 28 fun is => ∃ parts, is = parts.flatten ∧ AllP [_, _, _, _, _] parts := Opn.ofB fun N => (zjx (Rs := [_, _, _, _, _]) Tryz.underlying28 (by kernel_rfl) ⟨(zfK Tryz.underlying22).b N, opn_graph.b N, opn_graph.b N, (zfK Tryz.underlying22).b N, (zfK Tryz.underlying22).b N, trivial⟩).less
 obtain ⟨is, hr, parts, rfl, hp⟩ := hop n _ _ hn
 match parts, hp with
 | [_, _, _, _, _], ⟨⟨st, e1, _⟩, ⟨ps, pm, L, e2, hps, hL, hLb⟩, ⟨ss, sm, M, e3, hss, hM, hMb⟩, ⟨ob, e4, hob⟩, ⟨ct, e5, hct⟩, _⟩ =>
  subst e1 e2 e3 e4 e5
  refine ⟨⟨st, ps, pm, fun j => L.getD j 0, ss, sm, fun j => M.getD j 0, ob, ct⟩, ⟨⟨⟨hps, zoI hLb⟩, ⟨hss, zoI hMb⟩⟩, wf_u8 hob, wf_u8 hct⟩, fun ρ sh => ?_⟩
  have := AI.RepD.agg (AI.RepDL.ofL (ρ := ρ) (sh := sh) hr)
  match L, hL, M, hM with
  | [a0, a1, a2, a3, a4, a5, a6, a7, a8, a9, a10, a11, a12, a13, a14, a15, a16, a17, a18, a19, a20, a21, a22, a23, a24], _, [b0, b1, b2, b3, b4, b5, b6, b7, b8, b9, b10, b11, b12, b13, b14, b15, b16, b17, b18, b19, b20, b21, b22, b23, b24], _ => exact this
theorem zld {r : Reach} {b0 : Nat} {v : Value} {d : DataW H} {p : List MemPlace} (hv : Value.okWide Tryz.prog W r b0 22 v) (h : DataW.Trod enc Tryz.prog W 0 (fun _ => true) true 22 v d p) :
  ∃ n : Int, True ∧ ∀ ρ sh, AI.RepD (KW W) ρ sh v (AI.u8D n) := by
 obtain ⟨x, rfl, _, _, _⟩ := open_int Tryz.underlying22 hv h
 exact ⟨x, trivial, fun ρ sh => .i (.v rfl)⟩
end
end Go.Proofs.YtlcekmemdnjjbaaGreatDoor


namespace Go.AI
open Go.Proofs
set_option maxRecDepth 20000
theorem zi7 : ∀ x : Fin 256, ∀ i : Fin 5, bitP (x.val : Int) i.val = (BitVec.ofInt 8 (x.val : Int)).getLsbD i.val := by decide +kernel
theorem zfg {x : Int} (hx : 0 ≤ x ∧ x ≤ 255) {i : Nat} (hi : i < 5) : bitP x i = (BitVec.ofInt 8 x).getLsbD i := by
 have := zi7 ⟨x.toNat, by omega⟩ ⟨i, hi⟩
 simpa [show ((x.toNat : Nat) : Int) = x by omega] using this
theorem zpW {n : Nat} (h : n < 256) : IntKind.u8.wrap (n : Int) = n := by
 have : ∀ n : Fin 256, IntKind.u8.wrap (n.val : Int) = n.val := by decide +kernel
 exact this ⟨n, h⟩
theorem ziK (v : BitVec 8) : BitVec.ofInt 8 (v.toNat : Int) = v := by
 rw [BitVec.ofInt_natCast, BitVec.ofNat_toNat, BitVec.setWidth_eq]
theorem zt9 (x y : Int) : 0 ≤ bits .or .u8 x y ∧ bits .or .u8 x y ≤ 255 := by
 have h : bits .or .u8 x y = IntKind.u8.wrap (((BitVec.ofInt 8 x ||| BitVec.ofInt 8 y).toNat : Nat) : Int) := rfl
 have := (BitVec.ofInt 8 x ||| BitVec.ofInt 8 y).isLt
 rw [h, zpW this]
 omega
theorem zs9 (x y : Int) : 0 ≤ bits .andNot .u8 x y ∧ bits .andNot .u8 x y ≤ 255 := by
 have h : bits .andNot .u8 x y = IntKind.u8.wrap (((BitVec.ofInt 8 x &&& ~~~BitVec.ofInt 8 y).toNat : Nat) : Int) := rfl
 have := (BitVec.ofInt 8 x &&& ~~~BitVec.ofInt 8 y).isLt
 rw [h, zpW this]
 omega
theorem zs7 {x y : Int} (hx : 0 ≤ x ∧ x ≤ 255) {i : Nat} (hi : i < 5) (h : bitP x i = true) : bitP (bits .or .u8 x y) i = true := by
 rw [zfg (zt9 x y) hi]
 rw [zfg hx hi] at h
 have e : bits .or .u8 x y = IntKind.u8.wrap (((BitVec.ofInt 8 x ||| BitVec.ofInt 8 y).toNat : Nat) : Int) := rfl
 rw [e, zpW (BitVec.isLt _), ziK, BitVec.getLsbD_or, h]
 rfl
theorem zpo {x y : Int} (hx : 0 ≤ x ∧ x ≤ 255) {i : Nat} (hi : i < 5) (h : bitP (bits .andNot .u8 x y) i = true) : bitP x i = true := by
 rw [zfg (zs9 x y) hi] at h
 rw [zfg hx hi]
 have e : bits .andNot .u8 x y = IntKind.u8.wrap (((BitVec.ofInt 8 x &&& ~~~BitVec.ofInt 8 y).toNat : Nat) : Int) := rfl
 rw [e, zpW (BitVec.isLt _), ziK, BitVec.getLsbD_and] at h
 simp only [Bool.and_eq_true] at h
 exact h.1
theorem zfT {b x : Int} : x ∈ zaS b ↔ ∃ i : Nat, i < 5 ∧ bitP b i = true ∧ x = (i : Int) := by
 unfold zaS rawM
 simp only [List.mem_map, List.mem_filter, List.mem_range]
 exact ⟨fun ⟨i, ⟨h1, h2⟩, h3⟩ => ⟨i, h1, h2, h3.symm⟩, fun ⟨i, h1, h2, h3⟩ => ⟨i, ⟨h1, h2⟩, h3.symm⟩⟩
theorem ztU {x y : Int} (hx : 0 ≤ x ∧ x ≤ 255) {e : Int} (h : e ∈ zaS x) : e ∈ zaS (bits .or .u8 x y) := by
 obtain ⟨i, h1, h2, h3⟩ := zfT.1 h
 exact zfT.2 ⟨i, h1, zs7 hx h1 h2, h3⟩
theorem zq6 {x y : Int} (hx : 0 ≤ x ∧ x ≤ 255) {e : Int} (h : e ∈ zaS (bits .andNot .u8 x y)) : e ∈ zaS x := by
 obtain ⟨i, h1, h2, h3⟩ := zfT.1 h
 exact zfT.2 ⟨i, h1, zpo hx h1 h2, h3⟩
theorem ztV : zaS 31 = [0, 1, 2, 3, 4] := by decide +kernel
theorem zsQ {b e : Int} (h : e ∈ zaS b) : e ∈ zaS 31 := by
 obtain ⟨i, h1, _, h3⟩ := zfT.1 h
 rw [ztV, h3]
 match i, h1 with
 | 0, _ => simp
 | 1, _ => simp
 | 2, _ => simp
 | 3, _ => simp
 | 4, _ => simp
theorem zfX {x y : Sys} (hp : x.p = y.p) (hs : x.s = y.s) : lpR x = lpR y := by
 obtain ⟨p, s, ob, ct⟩ := x
 obtain ⟨p', s', ob', ct'⟩ := y
 simp only at hp hs
 subst hp hs
 rfl
def zrl (x : Sys) (a : Aut) (ps : List (Int × Int)) (E : List Int) (e : Int) : Prop := (∃ s ∈ E, zgz a s e = true) ∧ ∃ s ∈ E, refF x a ps s e = true
theorem zfb {f : Int → Bool} {l : List Int} : 0 < (l.filter f).length ↔ ∃ s ∈ l, f s = true := by
 rw [List.length_pos_iff_exists_mem]
 exact ⟨fun ⟨s, h⟩ => ⟨s, (List.mem_filter.1 h).1, (List.mem_filter.1 h).2⟩, fun ⟨s, h1, h2⟩ => ⟨s, List.mem_filter.2 ⟨h1, h2⟩⟩⟩
theorem zfk {x : Sys} {a : Aut} {ps : List (Int × Int)} {o : Aut} {i : Int} {E : List Int} : ∀ {l : List Int}, (zdI x a ps o i E l).isSome = true ↔ ∃ e ∈ l, zrl x a ps E e
 | [] => by simp [zdI]
 | e :: r => by
  simp only [zdI]
  by_cases c : 0 < (divP a E e).length ∧ 0 < (divR x a ps E e).length
  ·rw [if_pos c]
   exact ⟨fun _ => ⟨e, by simp, zfb.1 c.1, zfb.1 c.2⟩, fun _ => rfl⟩
  ·rw [if_neg c, zfk (l := r)]
   refine ⟨fun ⟨e', h1, h2⟩ => ⟨e', by simp [h1], h2⟩, fun ⟨e', h1, h2⟩ => ?_⟩
   rcases List.mem_cons.1 h1 with rfl | h1
   ·exact absurd ⟨zfb.2 h2.1, zfb.2 h2.2⟩ c
   ·exact ⟨e', h1, h2⟩
theorem zcn {x : Sys} {a : Aut} {ps : List (Int × Int)} {o : Aut} : ∀ {es : List (List Int)} {i : Nat}, (zba x a ps o es i).isSome = true ↔ ∃ E ∈ es, ∃ e ∈ x.ct, zrl x a ps E e
 | [], i => by simp [zba]
 | E :: r, i => by
  simp only [zba]
  have h := zfk (x := x) (a := a) (ps := ps) (o := o) (i := i) (E := E) (l := x.ct)
  cases hI : zdI x a ps o i E x.ct with
  | some w =>
   rw [hI] at h
   obtain ⟨e, h1, h2⟩ := h.1 rfl
   exact ⟨fun _ => ⟨E, by simp, e, h1, h2⟩, fun _ => rfl⟩
  | none =>
   rw [hI] at h
   simp only
   rw [zcn (es := r)]
   refine ⟨fun ⟨E', h1, h2⟩ => ⟨E', by simp [h1], h2⟩, fun ⟨E', h1, h2⟩ => ?_⟩
   rcases List.mem_cons.1 h1 with rfl | h1
   ·have := h.2 h2; cases this
   ·exact ⟨E', h1, h2⟩
end Go.AI


namespace Go.AI
set_option maxRecDepth 20000
theorem zm0 {es : List Edg} {p : Int → Bool} {n : Nat} (hes : ∀ x ∈ es, 0 ≤ x.2.2 ∧ x.2.2 < (n : Int)) {l : List Int} {e : Edg} (he : e ∈ es) (hp : p e.2.1 = true) (h : e.1 ∈ clo es p n l) : e.2.2 ∈ clo es p n l :=
 (zbY hes).2 ⟨hes e he, .step ((zbY hes).1 h).2 he hp⟩
theorem zlg {es : List Edg} {p : Int → Bool} {n : Nat} : ∀ (w l : List Int), ∃ m, nxtL es p n (clo es p n l) w = clo es p n m
 | [], l => ⟨l, rfl⟩
 | e :: w, l => zlg w (tgtE es (clo es p n l) e)
section
variable {a : Aut} {n : Nat} {on on1 : List Int} {V V1 : Unf (List Int)}
theorem prjU.closed (h : prjU a n on V) {E : List Int} (hE : E ∈ V.sts) {e : Edg} (he : e ∈ a.edges) (hp : e.2.1 ∉ on) (hs : e.1 ∈ E) : e.2.2 ∈ E := by
 obtain ⟨i, hi⟩ := List.getElem?_of_mem hE
 obtain ⟨z, _, _, _, hz⟩ := zdd h hi
 obtain ⟨m, hm⟩ := zlg (es := a.edges) (p := lowP on [] false) (n := n) z.2 [0]
 rw [hm] at hz
 rw [← hz] at hs ⊢
 exact zm0 h.g.to he (by simp [lowP, hp]) hs
theorem zcN {on : List Int} {ev : Int} : lowP on [] false ev = true ↔ ev ∉ on := by simp [lowP]
theorem zj2 (h : prjU a n on V) (hsub : ∀ e ∈ on, e ∈ on1) : ∀ (w A E : List Int), E ∈ V.sts → (∀ s ∈ A, s ∈ E) → (∀ e ∈ w, e ∈ zbz a on1) → nxtL a.edges (lowP on1 [] false) n A w ≠ [] → ∃ E' ∈ V.sts, ∀ s ∈ nxtL a.edges (lowP on1 [] false) n A w, s ∈ E'
 | [], A, E, hE, hA, _, _ => ⟨E, hE, hA⟩
 | e :: w, A, E, hE, hA, hw, hne => by
  have hes := h.g.to
  have hne0 : nxt a.edges (lowP on1 [] false) n A e ≠ [] := fun h0 => hne (by
   show nxtL a.edges (lowP on1 [] false) n (nxt a.edges (lowP on1 [] false) n A e) w = []
   rw [h0, zlf])
  obtain ⟨hek, _⟩ := List.mem_filter.1 (hw e (by simp))
  by_cases he : e ∈ on
  ·have hek2 : e ∈ zbz a on := List.mem_filter.2 ⟨hek, by simpa using he⟩
   have hin : ∀ x ∈ nxt a.edges (lowP on1 [] false) n A e, x ∈ nxt a.edges (lowP on [] false) n E e := fun x hx => by
    obtain ⟨h1, h2⟩ := (zbY hes).1 hx
    refine (zbY hes).2 ⟨h1, h2.mono (fun d _ hd => zcN.2 fun hc => zcN.1 hd (hsub _ hc)) fun y hy => .base ?_⟩
    obtain ⟨d, d1, d2, d3⟩ := zcM.1 hy
    exact zcM.2 ⟨d, d1, hA _ d2, d3⟩
   obtain ⟨i, hi⟩ := List.getElem?_of_mem hE
   rcases h.stp hi hek2 with ⟨h1, _⟩ | ⟨_, j, _, h2⟩
   ·exact absurd (List.eq_nil_iff_forall_not_mem.2 fun x hx => by have := hin x hx; rw [h1] at this; cases this) hne0
   ·exact zj2 h hsub w _ _ (List.mem_of_getElem? h2) hin (fun e' h' => hw e' (by simp [h'])) hne
  ·have hin : ∀ x ∈ nxt a.edges (lowP on1 [] false) n A e, x ∈ E := fun x hx => by
    have h2 := ((zbY hes).1 hx).2
    clear hx hne0 hne
    induction h2 with
    | base hb =>
     obtain ⟨d, d1, d2, d3, d4⟩ := zcM.1 hb
     rw [← d4]
     exact h.closed hE d1 (by rw [d3]; exact he) (hA _ d2)
    | step _ h4 h5 ih => exact h.closed hE h4 (fun hc => zcN.1 h5 (hsub _ hc)) ih
   exact zj2 h hsub w _ _ hE hin (fun e' h' => hw e' (by simp [h'])) hne
theorem zq9 (h : prjU a n on V) (h1 : prjU a n on1 V1) (hsub : ∀ e ∈ on, e ∈ on1) {E1 : List Int} (hE : E1 ∈ V1.sts) : ∃ E ∈ V.sts, ∀ s ∈ E1, s ∈ E := by
 obtain ⟨i, hi⟩ := List.getElem?_of_mem hE
 obtain ⟨z, _, _, hk, hz⟩ := zdd h1 hi
 have hne := (h1.hU.ok _ hE).2
 rw [← hz] at hne ⊢
 refine zj2 h hsub z.2 _ _ (List.mem_of_getElem? h.fst) (fun s hs => ?_) hk hne
 obtain ⟨q1, q2⟩ := (zbY h.g.to).1 hs
 exact (zbY h.g.to).2 ⟨q1, q2.mono (fun d _ hd => zcN.2 fun hc => zcN.1 hd (hsub _ hc)) fun y hy => .base hy⟩
theorem zsm (h : gAut a n) (hall : ∀ e ∈ a.edges, e.2.1 ∈ on) {A : List Int} (hA : ∀ s ∈ A, ∀ t ∈ A, s = t) (e : Int) : ∀ s ∈ nxt a.edges (lowP on [] false) n A e, ∀ t ∈ nxt a.edges (lowP on [] false) n A e, s = t := by
 have hb : ∀ y ∈ nxt a.edges (lowP on [] false) n A e, y ∈ tgtE a.edges A e := fun y hy => by
  cases ((zbY h.to).1 hy).2 with
  | base hb => exact hb
  | step _ h4 h5 => exact absurd (hall _ h4) (zcN.1 h5)
 intro s hs t ht
 obtain ⟨d, d1, d2, d3, d4⟩ := zcM.1 (hb s hs)
 obtain ⟨f, f1, f2, f3, f4⟩ := zcM.1 (hb t ht)
 have hst := hA _ d2 _ f2
 have g1 := zcu h.pw d1
 have g2 := zcu h.pw f1
 rw [← d4, ← f4, ← g1, ← g2, hst, d3, f3]
theorem zle (h : gAut a n) (hall : ∀ e ∈ a.edges, e.2.1 ∈ on) : ∀ (w A : List Int), (∀ s ∈ A, ∀ t ∈ A, s = t) → ∀ s ∈ nxtL a.edges (lowP on [] false) n A w, ∀ t ∈ nxtL a.edges (lowP on [] false) n A w, s = t
 | [], A, hA => hA
 | e :: w, A, hA => zle h hall w _ (zsm h hall hA e)
theorem zsT (h : prjU a n on V) (hall : ∀ e ∈ a.edges, e.2.1 ∈ on) {E : List Int} (hE : E ∈ V.sts) : ∀ s ∈ E, ∀ t ∈ E, s = t := by
 obtain ⟨i, hi⟩ := List.getElem?_of_mem hE
 obtain ⟨z, _, _, _, hz⟩ := zdd h hi
 rw [← hz]
 refine zle h.g hall z.2 _ fun s hs t ht => ?_
 have hb : ∀ y ∈ clo a.edges (lowP on [] false) n [0], y = 0 := fun y hy => by
  cases ((zbY h.g.to).1 hy).2 with
  | base hb => simpa using hb
  | step _ h4 h5 => exact absurd (hall _ h4) (zcN.1 h5)
 rw [hb s hs, hb t ht]
end
theorem zo7 {x : Sys} (hx : gSys x) (hV : (lpV x).length ≤ 4095) (hn : (lpR x).2.length ≤ 11) (h0 : (lpR x).2.length ≠ 0) : ∃ V, prjU (lpR x).1 (lpR x).2.length x.ob V ∧ (esR x).2 = V.sts := by
 obtain ⟨V, hU⟩ := ztq (lp_g hx hV).1 (by omega) hn x.ob
 exact ⟨V, hU, by unfold esR; rw [if_neg h0, hU.hV]⟩
theorem zrM {x : Sys} (h0 : (lpR x).2.length = 0) : (esR x).2 = [] := by unfold esR; rw [if_pos h0]
theorem znD {x y : Sys} (hx : gSys x) (hy : gSys y) (hp : x.p = y.p) (hs : x.s = y.s) (hV : (lpV x).length ≤ 4095) (hn : (lpR x).2.length ≤ 11) (hob : ∀ e ∈ x.ob, e ∈ y.ob) (hct : ∀ e ∈ y.ct, e ∈ x.ct) (h : (zdD y).isSome = true) : (zdD x).isSome = true := by
 have hl := zfX hp hs
 obtain ⟨E1, hE1, e, he, ⟨s, hs1, hs2⟩, ⟨t, ht1, ht2⟩⟩ := zcn.1 h
 by_cases h0 : (lpR x).2.length = 0
 ·rw [zrM (by rw [← hl]; exact h0)] at hE1; cases hE1
 ·obtain ⟨V, hU, hes⟩ := zo7 hx hV hn h0
  have hVy : (lpV y).length ≤ 4095 := by rw [zd0, ← hp, ← hs, ← zd0]; exact hV
  obtain ⟨V1, hU1, hes1⟩ := zo7 hy hVy (by rw [← hl]; exact hn) (by rw [← hl]; exact h0)
  rw [← hl] at hU1 hs2 ht2
  rw [hes1] at hE1
  obtain ⟨E, hE, hsub⟩ := zq9 hU hU1 hob hE1
  refine zcn.2 ⟨E, by rw [hes]; exact hE, e, hct e he, ⟨s, hsub s hs1, hs2⟩, t, hsub t ht1, ?_⟩
  unfold refF canF at ht2 ⊢
  rw [hp]; exact ht2
theorem zp0 {x : Sys} (hx : gSys x) (hV : (lpV x).length ≤ 4095) (hn : (lpR x).2.length ≤ 11) (hob : ∀ e ∈ x.p.alpha, e ∈ x.ob) : (zdD x).isSome = false := by
 cases hT : (zdD x).isSome with
 | false => rfl
 | true =>
  exfalso
  obtain ⟨E, hE, e, he, ⟨s, hs1, hs2⟩, ⟨t, ht1, ht2⟩⟩ := zcn.1 hT
  by_cases h0 : (lpR x).2.length = 0
  ·rw [zrM h0] at hE; cases hE
  ·obtain ⟨V, hU, hes⟩ := zo7 hx hV hn h0
   rw [hes] at hE
   have hst := zsT hU (fun d hd => hob _ (by rw [← (lp_g hx hV).2]; exact hU.g.ev _ hd)) hE s hs1 t ht1
   subst hst
   unfold refF at ht2
   rw [hs2] at ht2
   simp at ht2
end Go.AI


namespace Go.AI
open Go.Proofs
set_option maxRecDepth 20000
def zgM (x : Sk) (more fewer : Int) : Sk := { x with ob := bits .or .u8 x.ob more, ct := bits .andNot .u8 x.ct fewer }
def zjj (x : Sk) : Sk := { x with ob := 31, ct := 31 }
theorem zcO {l s : List Int} {e : Int} : e ∈ hasR l s ↔ e ∈ s ∧ e ∈ l := by simp [hasR]
theorem zsf {x : Sk} (h : skOkB x) (hf : (lpR (mkS x)).1.states ≤ 10) : obOk (mkS x) := by
 obtain ⟨m1, m2, m3, m4⟩ := zlh h
 exact zqE m1 m2 ⟨by omega, by omega⟩ (by have := zst h; omega) (by have := znV h hf; omega)
set_option maxHeartbeats 8000000 in
theorem zuc {g : Nat} (hg : zgs g) {ty : TypeId} {fr : Nat × Nat} (O : List Heap) (x : Sk) (more fewer : Int) (h : skOkB x) (hob : 0 ≤ x.ob ∧ x.ob ≤ 255) (hct : 0 ≤ x.ct ∧ x.ct ≤ 255) : ASpecT g (ptab ty fr) Tryz.prog 3 [.agg (skC x), u8D more, u8D fewer] O (bb true) [] O := by
 have hk := fun O => zsC hg (ty := ty) (fr := fr) O
 have h1 := fun O => ztO O x h
 by_cases hf : (lpR (mkS x)).1.states ≤ 10
 ·have hm : skOkB (zgM x more fewer) := ⟨h.p, h.s⟩
  have ha : skOkB (zjj x) := ⟨h.p, h.s⟩
  have lm : lpR (mkS (zgM x more fewer)) = lpR (mkS x) := zfX rfl rfl
  have la : lpR (mkS (zjj x)) = lpR (mkS x) := zfX rfl rfl
  have o1 := zsf h hf
  have o2 := zsf hm (by rw [lm]; exact hf)
  have o3 := zsf ha (by rw [la]; exact hf)
  have k1 := fun O => zll O x h
  have k2 := fun O => zll O (zgM x more fewer) hm
  have k3 := fun O => zll O (zjj x) ha
  have c1 := fun O => zbw hg (ty := ty) (fr := fr) O _ o1
  have c2 := fun O => zbw hg (ty := ty) (fr := fr) O _ o2
  have c3 := fun O => zbw hg (ty := ty) (fr := fr) O _ o3
  have hfit := znV h hf
  have b12 : (zdD (mkS (zgM x more fewer))).isSome = true → (zdD (mkS x)).isSome = true := znD o1.hx o2.hx rfl rfl o1.hV (by omega)
   (fun e he => zcO.2 ⟨ztU hob (zcO.1 he).1, (zcO.1 he).2⟩) (fun e he => zcO.2 ⟨zq6 hct (zcO.1 he).1, (zcO.1 he).2⟩)
  have b3 : (zdD (mkS (zjj x))).isSome = false := zp0 o3.hx o3.hV (by have := znV ha (by rw [la]; exact hf); omega) (fun e he => by
   have hal : (mkS (zjj x)).p.alpha = zaS x.st := by
    obtain ⟨e1, e2, e3⟩ := zg9 x.st
    exact (zfQ (gs := x.ps) (gm := x.pm) e1 e2 e3 h.p.2).2.2.2
   rw [hal] at he
   exact zcO.2 ⟨zsQ he, he⟩)
  rw [decide_eq_true hf] at h1
  rw [b3] at c3
  clear hm ha lm la o1 o2 o3 hfit b3 hf h hob hct
  have k2 : ∀ O, zao Tryz.prog 15 [.agg (skC ⟨x.st, x.ps, x.pm, x.pt, x.ss, x.sm, x.t2, bits .or .u8 x.ob more, bits .andNot .u8 x.ct fewer⟩)] O _ [] O := k2
  have k3 : ∀ O, zao Tryz.prog 15 [.agg (skC ⟨x.st, x.ps, x.pm, x.pt, x.ss, x.sm, x.t2, 31, 31⟩)] O _ [] O := k3
  generalize zdD (mkS x) = T1 at *
  generalize zdD (mkS (zgM x more fewer)) = T2 at *
  generalize zdD (mkS (zjj x)) = T3 at *
  generalize mkS x = X1 at *
  generalize mkS (zgM x more fewer) = X2 at *
  generalize mkS (zjj x) = X3 at *
  generalize T1.isSome = v1 at *
  generalize T2.isSome = v2 at *
  generalize T1.getD zWit = w1 at *
  generalize T2.getD zWit = w2 at *
  generalize T3.getD zWit = w3 at *
  obtain ⟨u1, u2, u3⟩ := w1
  obtain ⟨p1, p2, p3⟩ := w2
  obtain ⟨q1, q2, q3⟩ := w3
  obtain ⟨⟨al, st, mk, es⟩, ⟨al', st', mk', es'⟩, ob, ct⟩ := X1
  obtain ⟨⟨bal, bst, bmk, bes⟩, ⟨bal', bst', bmk', bes'⟩, bob, bct⟩ := X2
  obtain ⟨⟨cal, cst, cmk, ces⟩, ⟨cal', cst', cmk', ces'⟩, cob, cct⟩ := X3
  obtain ⟨xst, xps, xpm, xpt, xss, xsm, xt2, xob, xct⟩ := x
  simp only at k1 k2 k3 c1 c2 c3 h1
  refine za2 [] Tk Tryz.func3 rfl Tryz.call3 Tryz.ntmps3 (Nat.le_of_ble_eq_true rfl) fun E hE => ?_
  refine zae Tk Tryz.func3 ?_
  refine zbb Tk Tryz.func3 hE (hk _) rfl rfl rfl rfl rfl rfl ?_
  refine gkF Tk Tryz.func3 rfl ?_
  refine zah Tk Tryz.func3 (h1 _) rfl rfl rfl rfl rfl ?_
  refine gcF Tk Tryz.func3 rfl ?_
  refine zah Tk Tryz.func3 (k1 _) rfl rfl rfl rfl rfl ?_
  refine zbb Tk Tryz.func3 hE (c1 _) rfl rfl rfl rfl rfl rfl ?_
  refine zah Tk Tryz.func3 (k2 _) rfl rfl rfl rfl rfl ?_
  refine zbb Tk Tryz.func3 hE (c2 _) rfl rfl rfl rfl rfl rfl ?_
  refine zah Tk Tryz.func3 (k3 _) rfl rfl rfl rfl rfl ?_
  refine zbb Tk Tryz.func3 hE (c3 _) rfl rfl rfl rfl rfl rfl ?_
  refine gkT Tk Tryz.func3 rfl ?_
  refine gkT Tk Tryz.func3 rfl ?_
  refine gkT Tk Tryz.func3 rfl ?_
  refine gkT Tk Tryz.func3 rfl ?_
  refine za1 Tk Tryz.func3 rfl (fun d1 => ?_) (fun d1 => ?_)
  ·skip
   refine zam Tk (r := bb true) rfl rfl rfl trivial rfl rfl ?_
   rfl
  ·have d1 : v1 = false := by simpa using d1
   have d2 : v2 = false := Bool.eq_false_iff.2 fun e => by rw [b12 e] at d1; cases d1
   subst d1 d2
   refine zam Tk (r := bb true) rfl rfl rfl trivial rfl rfl ?_
   rfl
 ·rw [decide_eq_false hf] at h1
  clear h hf hob hct
  obtain ⟨xst, xps, xpm, xpt, xss, xsm, xt2, xob, xct⟩ := x
  refine za2 [] Tk Tryz.func3 rfl Tryz.call3 Tryz.ntmps3 (Nat.le_of_ble_eq_true rfl) fun E hE => ?_
  refine zae Tk Tryz.func3 ?_
  refine zbb Tk Tryz.func3 hE (hk _) rfl rfl rfl rfl rfl rfl ?_
  refine gkF Tk Tryz.func3 rfl ?_
  refine zah Tk Tryz.func3 (h1 _) rfl rfl rfl rfl rfl ?_
  refine gcT Tk Tryz.func3 rfl ?_
  refine zbb Tk Tryz.func3 hE (hk _) rfl rfl rfl rfl rfl rfl ?_
  refine zam Tk (r := bb true) rfl rfl rfl trivial rfl rfl ?_
  rfl
end Go.AI


namespace Go.Proofs.YtlcekmemdnjjbaaGreatDoor
set_option maxRecDepth 100000
theorem za8 : laidOutB Tryz.prog = true := by kernel_rfl
theorem zdG : mapsRowed Tryz.prog = true := by kernel_rfl
theorem zdc : (Rows.observabilityMoreRow.inPlace == Tryz.prog.inPlace 3) = true := by kernel_rfl
theorem zdb : (Rows.observabilityMoreRow.unfollowed == Tryz.prog.unfollowed 3) = true := by kernel_rfl
theorem zda : (Rows.observabilityMoreRow.recurses == Tryz.prog.recurses 3) = true := by kernel_rfl
theorem zc9 : (Rows.observabilityMoreRow.named == Tryz.prog.varsNamed 3) = true := by kernel_rfl
theorem zcA : joinedFacts Tryz.prog 3 Tryz.f3 Rows.observabilityMoreSpec Rows.observabilityMoreRow = true := by
 simp only [joinedFacts, Bool.and_eq_true]
 repeat' refine And.intro ?_ ?_
 ·kernel_rfl
 ·exact za8
 ·exact zdG
 ·kernel_rfl
 ·kernel_rfl
 ·kernel_rfl
 ·kernel_rfl
 ·kernel_rfl
 ·kernel_rfl
 ·exact zdc
 ·exact zdb
 ·exact zda
 ·exact zc9
 ·kernel_rfl
 ·kernel_rfl
 ·kernel_rfl
 ·kernel_rfl
 ·kernel_rfl
 ·kernel_rfl
 ·kernel_rfl
 ·kernel_rfl
 ·kernel_rfl
 ·kernel_rfl
 ·kernel_rfl
 ·kernel_rfl
 ·kernel_rfl
 ·kernel_rfl
 ·kernel_rfl
 ·kernel_rfl
 ·kernel_rfl
 ·kernel_rfl
 ·kernel_rfl
theorem zcY : Tryz.prog.mainIs = some (true, "5041c38c3c15c3199033450f7632fe41f4871cb850793ec5542bbc9f8af1fc7c".toList) := by kernel_rfl
theorem zcJ : false = Tryz.prog.looks [] := by kernel_rfl
theorem zcZ : false = Rows.observabilityMoreRow.goesBy Tryz.prog := by kernel_rfl
end Go.Proofs.YtlcekmemdnjjbaaGreatDoor
