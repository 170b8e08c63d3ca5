/- The layer of abstract runs, part 26. -/
import Derived.Test.YtlcekmemdnjjbaaGreatDoorElkY
import Derived.Shelf.Slices.Reverse
import Derived.Shelf.Slices.Cells
import Derived.KernelRfl
import Derived.Test.YtlcekmemdnjjbaaGreatDoorTie
import Derived.Test.YtlcekmemdnjjbaaGreatDoorCards
import Derived.ProofKit
import Derived.LaidMore
import Derived.OpenShut
import Derived.Lay
import Derived.SevenTiedAt
import Derived.Stop.Joined
import Derived.Stop.LaidErr
import Derived.Lib.LaidTab
import Derived.WideKeyArgs
import Derived.Lib.SmallJoins
import Derived.Deep.Slices
set_option linter.unusedSimpArgs false
set_option linter.unusedVariables false
set_option linter.all false

namespace Go.AI
open Go.Proofs
set_option maxRecDepth 20000
def zdw (l : List Int) : ByteArray := ⟨(keyL [] l).toArray⟩
theorem zqb {a b : List Int} (ha : ∀ x ∈ a, 0 ≤ x ∧ x < 64) (hb : ∀ x ∈ b, 0 ≤ x ∧ x < 64) (h : zdw a = zdw b) : a = b := by
 unfold zdw at h
 rw [zfk, zfk] at h
 simp only [ByteArray.mk.injEq, List.nil_append] at h
 have h : encL a = encL b := by
  have := congrArg Array.toList h
  simpa using this
 exact (zgh ha hb (u := []) (v := []) (by rw [h])).1
set_option maxHeartbeats 4000000 in
theorem ztN {g : Nat} (hg : zeO g) {ty : TypeId} {fr : Nat × Nat} (O : List Heap) (l : List Int) (h0 : l ≠ []) (hn : l.length ≤ 4096) (hl : ∀ v ∈ l, 0 ≤ v ∧ v < 64) :
  zbu g (ptab ty fr) Tryz.prog 81 [ints l] O (.i (.v (.string (zdw l)))) [] O := by
 have hno : zdw l = ⟨(keyL [] (l.drop 0)).toArray⟩ := rfl
 have hpos : 0 < l.length := List.length_pos_iff.2 h0
 generalize zdw l = R at *
 refine zaO [200003, 200014, 200015, 200017] Tk Tryz.func81 rfl Tryz.call81 Tryz.ntmps81 (Nat.le_of_ble_eq_true rfl) fun E hE => ?_
 refine zaf Tk Tryz.func81 ?_
 refine g_tb Tk Tryz.func81 rfl rfl rfl rfl rfl rfl rfl rfl ?_
 refine zad ?_
 refine zaw (zkX 3 60 5 1 rfl rfl rfl) ?_
 refine zag (fun x : Nat × List UInt8 × Bool => [(3, .own 0 3 0 0), (6, ints l), (7, ii l.length), (8, ii x.1)]) (fun x => [(3, .tb 217 [dp3 x.2.2, .osl 0 60]), (60, oby x.2.1)]) (fun _ => O) 18
  (fun x => x.1 ≤ l.length ∧ x.2.1.length ≤ 22 * x.1 ∧ (x.1 = 0 ∨ x.2.1 ≠ []) ∧ R = ⟨(keyL x.2.1 (l.drop x.1)).toArray⟩) (fun x => l.length - x.1) (0, [], false)
  ⟨Nat.zero_le _, by simp, .inl rfl, hno⟩ ⟨rfl, rfl, rfl, rfl, trivial⟩ rfl ⟨rfl, rfl, trivial⟩ rfl rfl ?_
 clear hno
 rintro ⟨k, U, q⟩ ⟨hk, hUl, hT0, hF⟩ ih2
 simp only at hk hUl hT0 hF
 refine zaf Tk Tryz.func81 ?_
 refine zae Tk Tryz.func81 rfl (fun g2 => ?_) (fun g2 => ?_)
 ·have h3 : k < l.length := by simpa using g2
  clear g2
  have gl : (l.map fun x => [vi x])[(k : Int).toNat]? = some [vi l[k]] := zah (f := fun x => [vi x]) h3
  have dl : l.drop k = l[k] :: l.drop (k + 1) := List.drop_eq_getElem_cons h3
  have hv := hl _ (List.getElem_mem h3)
  rw [dl] at hF
  simp only [keyL] at hF
  clear dl
  generalize l[k] = n at *
  have hz := zg3 (n := n) (by omega) (by omega)
  have hk1 : ii (IntKind.i64.wrap ((k : Int) + 1)) = ii ((k + 1 : Nat) : Int) := congrArg ii (zaB (n := 4096) (by omega) (by decide))
  refine zak Tk Tryz.func81 (by exact ⟨by omega, by show (k : Int) < (l.length : Int); omega⟩) ?_
  refine zar Tk Tryz.func81 (gl) ?_
  refine zbe Tk Tryz.func81 hE (zrF hg _ n (by omega) (by omega)) rfl rfl rfl rfl rfl rfl ?_
  generalize zhM n = W at *
  refine zc9 Tk Tryz.func81 rfl rfl rfl rfl (zsx rfl W U (ztw q) (by omega) rfl (show 14 < 18 by decide) rfl rfl rfl (by decide)) ?_
  refine zc9 Tk Tryz.func81 rfl rfl rfl rfl (zsy rfl 32 (U ++ W.data.toList) (.inr rfl) (by rw [List.length_append, zfC]; omega) rfl (show 15 < 18 by decide) rfl rfl rfl (by decide)) ?_
  refine zad ?_
  refine ih2 (k + 1, U ++ W.data.toList ++ [32], true) _ _ ⟨h3, by simp only [List.length_append, zfC, List.length_singleton]; omega, .inr (by simp), hF⟩ (by simp only; omega) ⟨rfl, rfl, rfl, hk1, trivial⟩ rfl ⟨rfl, rfl, trivial⟩ rfl rfl
 ·have h3 : l.length ≤ k := by simpa using g2
  rw [List.drop_eq_nil_of_le h3] at hF
  simp only [keyL] at hF
  subst hF
  have hT0 : U ≠ [] := hT0.resolve_left (by omega)
  refine zc9 Tk Tryz.func81 rfl rfl rfl rfl (zsz rfl hT0 rfl (show 17 < 18 by decide) rfl rfl rfl) ?_
  refine zai Tk (r := .i (.v (.string ⟨U.toArray⟩))) rfl rfl rfl trivial rfl rfl ?_
  rfl
abbrev Tb := Nat × Obj
abbrev tbM (bs : List Tb) : List (List I) := bs.map fun b => [I.v (.map (some b.1))]
structure tbOk (l : List Aut) (bs : List Tb) : Prop where
 len : bs.length = l.length
 is : ∀ (i : Nat) a b, l[i]? = some a → bs[i]? = some b → zkU b.2 (.i .i64 (zfx a.edges))
set_option maxHeartbeats 4000000 in
theorem zsO (O : List Heap) (l : List Aut) (ev : List Int) (bs : List Tb) (t : List Int) (e : Int) (hl : l.length ≤ 12) (ht : t.length = l.length) (hc : ∀ a ∈ l, chkA a = 0) (hbs : tbOk l bs) :
  zmm bs Tryz.prog 83 [zmT l ev (tbM bs), ints t, ii e] O (.tup [(match tupS l t e with | some n => ints n | none => .i (.v (.slice none 0 0))), bb (tupS l t e).isSome]) [] O := by
 have hR : tupS l t e = (tupS (l.drop 0) (t.drop 0) e).map (([] : List Int) ++ ·) := by simp
 obtain ⟨R, hRR⟩ : ∃ R, R = tupS l t e := ⟨_, rfl⟩
 rw [← hRR] at hR ⊢
 clear hRR
 have hcl := fun O => zh2 14 O t (by simp only [big]; omega)
 have hbl := hbs.len
 refine zke [11] Tk Tryz.func83 rfl Tryz.call83 Tryz.ntmps83 (Nat.le_of_ble_eq_true rfl) fun E hE => ?_
 refine zaf Tk Tryz.func83 ?_
 refine zaj Tk Tryz.func83 (hcl _) rfl rfl rfl rfl rfl ?_
 refine zad ?_
 refine zag (fun x : Nat × List Int => [(1, ints t), (2, ii e), (3, .own 0 3 0 0), (8, .osl 0 14), (16, auts l), (17, ii l.length), (18, ii x.1)])
  (fun x => [(3, .box [auts l, ints ev, .i (.sl 1 (tbM bs).length (tbM bs))]), (14, zaK (x.2 ++ t.drop x.1))]) (fun _ => O) 51
  (fun x => x.1 ≤ l.length ∧ x.2.length = x.1 ∧ R = (tupS (l.drop x.1) (t.drop x.1) e).map (x.2 ++ ·)) (fun x => l.length - x.1) (0, []) ⟨Nat.zero_le _, rfl, hR⟩ ⟨rfl, rfl, rfl, rfl, rfl, rfl, rfl, trivial⟩ rfl ⟨rfl, rfl, trivial⟩ rfl rfl ?_
 clear hR
 rintro ⟨i, pre⟩ ⟨hi, hp, hno⟩ ih
 simp only at hi hp hno
 have hj1 : ii (IntKind.i64.wrap ((i : Int) + 1)) = ii ((i + 1 : Nat) : Int) := congrArg ii (zaB (n := 4096) (by omega) (by decide))
 refine zaf Tk Tryz.func83 ?_
 refine zae Tk Tryz.func83 rfl (fun g1 => ?_) (fun g1 => ?_)
 ·have h2 : i < l.length := by simpa using g1
  have h3 : i < t.length := by omega
  have h4 : i < bs.length := by omega
  have gl := zeF h2
  have gt : (t.map fun x => [vi x])[(i : Int).toNat]? = some [vi t[i]] := zah (f := fun x => [vi x]) h3
  have gb : (tbM bs)[(i : Int).toNat]? = some [I.v (.map (some bs[i].1))] := zah (f := fun b : Tb => [I.v (.map (some b.1))]) h4
  have hm := hbs.is i _ _ (List.getElem?_eq_getElem h2) (List.getElem?_eq_getElem h4)
  have htb := hE _ (List.getElem_mem h4)
  have dl : l.drop i = l[i] :: l.drop (i + 1) := List.drop_eq_getElem_cons h2
  have dt : t.drop i = t[i] :: t.drop (i + 1) := List.drop_eq_getElem_cons h3
  have ha := hc _ (List.getElem_mem h2)
  rw [dt]
  rw [dl, dt] at hno
  simp only [tupS] at hno
  clear dl dt
  generalize l[i] = a at *
  generalize t[i] = x at *
  generalize bs[i] = b at *
  obtain ⟨b1, b2⟩ := b
  obtain ⟨c1, _, _, c4⟩ := zba ha
  have hal := zbt (by decide) c1
  have h1 := fun O => zdu O a.alpha e (by simp only [zam]; omega) (zaD c1).1
  obtain ⟨hlk, hlg⟩ := zqd (za8 c4).1 (fun x hx => ((zpk ha).2.1 x hx).1) x e
  obtain ⟨al, st, mk, es⟩ := a
  simp only at hlk hlg h1 hno hm
  generalize stp3 es x e = s at *
  refine zak Tk Tryz.func83 (by exact ⟨by omega, by show (i : Int) < (l.length : Int); omega⟩) ?_
  refine zar Tk Tryz.func83 (gl) ?_
  refine zaj Tk Tryz.func83 (h1 _) rfl rfl rfl rfl rfl ?_
  have happ : ∀ y, zaK ((pre ++ [y]) ++ t.drop (i + 1)) = zaK (pre ++ y :: t.drop (i + 1)) := fun y => by rw [List.append_assoc]; rfl
  refine zae Tk Tryz.func83 rfl (fun d1 => ?_) (fun d1 => ?_)
  ·have d1 : e ∉ al := of_decide_eq_false (notT d1)
   rw [if_neg d1, Option.map_map] at hno
   refine zad ?_
   refine ih (i + 1, pre ++ [x]) _ _ ⟨h2, by simp [hp], ?_⟩ (by simp only; omega) ⟨rfl, rfl, rfl, rfl, rfl, rfl, hj1, trivial⟩ rfl ⟨rfl, congrArg some (happ x).symm, trivial⟩ rfl rfl
   rw [hno]
   congr 1
   funext z
   simp
  have d1 : e ∈ al := of_decide_eq_true (notF d1)
  rw [if_pos d1] at hno
  refine zm1 Tk 11 zay rfl (by decide) ?_
  refine zat Tk (by exact ⟨by omega, by show (i : Int) < ((bs.map fun b => [I.v (.map (some b.1))]).length : Int); rw [List.length_map]; omega⟩) ?_
  refine zaA Tk (gb) ?_
  refine zat Tk (by exact ⟨by omega, by show (i : Int) < (t.length : Int); omega⟩) ?_
  refine zaA Tk (gt) ?_
  refine ztQ (i := 12) (ti := zh7) (ki := zkg) (vi := zpV) (kk := .pair .i64) (k := .i64) (l := zfx es) (key := pk x e) Tk htb hm (zqe es) rfl rfl rfl rfl rfl rfl rfl rfl rfl rfl rfl rfl rfl rfl rfl rfl ?_
  refine zav Tk Tryz.func83 (by kernel_rfl) ?_
  refine zae Tk Tryz.func83 rfl (fun d2 => ?_) (fun d2 => ?_)
  ·have d2 : mhas (zfx es) (pk x e) = false := notT d2
   rw [hlk] at d2
   have d2 : ¬ 0 ≤ s := of_decide_eq_false d2
   rw [if_neg d2] at hno
   subst hno
   refine zai Tk (r := .tup [.i (.v (.slice none 0 0)), bb false]) rfl rfl rfl trivial rfl rfl ?_
   rfl
  have d2 : mhas (zfx es) (pk x e) = true := notF d2
  rw [hlk] at d2
  have d2 : 0 ≤ s := of_decide_eq_true d2
  rw [if_pos d2, Option.map_map] at hno
  have hg := hlg d2
  generalize zcS (zfx es) (pk x e) = mg at *
  subst hg
  refine zak Tk Tryz.func83 (by exact ⟨by omega, by show (i : Int) < ((pre ++ x :: t.drop (i + 1)).length : Int); rw [List.length_append]; simp; omega⟩) ?_
  have hset : ((pre ++ x :: t.drop (i + 1)).map fun x => [vi x]).set i [vi mg] = (pre ++ mg :: t.drop (i + 1)).map fun x => [vi x] := by
   rw [List.map_append, List.set_append, if_neg (by rw [List.length_map]; omega), List.length_map, hp, Nat.sub_self]
   simp
  refine zad ?_
  refine ih (i + 1, pre ++ [mg]) _ _ ⟨h2, by simp [hp], ?_⟩ (by simp only; omega) ⟨rfl, rfl, rfl, rfl, rfl, rfl, hj1, trivial⟩ rfl ⟨rfl, ?_, trivial⟩ rfl rfl
  ·rw [hno]
   congr 1
   funext z
   simp
  ·rw [happ mg]
   show some (Ob.arr 3 1 (pre ++ x :: t.drop (i + 1)).length (((pre ++ x :: t.drop (i + 1)).map fun x => [vi x]).set (i : Int).toNat [vi mg]) true) = some (zaK (pre ++ mg :: t.drop (i + 1)))
   rw [Int.toNat_natCast, hset]
   have e1 : (pre ++ x :: t.drop (i + 1)).length = (pre ++ mg :: t.drop (i + 1)).length := by simp
   rw [e1]
 ·have h2 : l.length ≤ i := by simpa using g1
  rw [List.drop_eq_nil_of_le h2, List.drop_eq_nil_of_le (by omega)] at hno
  rw [List.drop_eq_nil_of_le (by omega), List.append_nil]
  simp only [tupS, Option.map_some, List.append_nil] at hno
  subst hno
  refine zax ?_
  refine zaw (zap 14 rfl rfl) ?_
  refine zaf Tk Tryz.func83 ?_
  refine g_go Tk Tryz.func83 ?_
  refine zai Tk (r := .tup [ints pre, bb true]) rfl rfl rfl trivial rfl rfl ?_
  rfl
abbrev ztK (m : List (Value × Int)) : Ob := .mp (.pair .i64) (.i .i64 m)
theorem zqc {l : List Aut} {bs : List Tb} {i : Nat} {a : Aut} {b : Tb} (h : tbOk (l.take i) bs) (hi : i < l.length) (ha : l[i]? = some a) (hb : zkU b.2 (.i .i64 (zfx a.edges))) : tbOk (l.take (i + 1)) (bs ++ [b]) := by
 have hl := h.len
 rw [List.length_take, Nat.min_eq_left (by omega)] at hl
 refine ⟨by rw [List.length_append, List.length_singleton, hl, List.length_take, Nat.min_eq_left (by omega)], fun k a' b' h1 h2 => ?_⟩
 have hk : k < i + 1 := by
  have := (List.getElem?_eq_some_iff.1 h1).1
  rw [List.length_take] at this
  omega
 rw [List.getElem?_take, if_pos hk] at h1
 by_cases e : k = i
 ·subst e
  rw [ha] at h1
  obtain rfl := Option.some.inj h1
  rw [List.getElem?_append_right (by omega), hl, Nat.sub_self] at h2
  obtain rfl := Option.some.inj h2
  exact hb
 ·rw [List.getElem?_append_left (by omega)] at h2
  exact h.is k a' b' (by rw [List.getElem?_take, if_pos (by omega)]; exact h1) h2
set_option maxHeartbeats 4000000 in
theorem zs5 (O : List Heap) (l : List Aut) (hl : l.length ≤ 12) (hc : ∀ a ∈ l, chkA a = 0) (hs : ∀ a ∈ l, smallA a) : zsI [] Tryz.prog 79 [auts l] O (tbOk l) (fun bs => zmT l (evL l) (tbM bs)) (fun bs => bs) := by
 have h1 := fun O => zpc O l hl hc
 generalize evL l = ev at *
 refine zm0 (tbOk l) (fun bs => zmT l ev (tbM bs)) (fun bs => bs) [11, 13] Tk Tryz.func79 rfl Tryz.call79 Tryz.ntmps79 (Nat.le_of_ble_eq_true rfl) fun E _ => ?_
 refine zaf Tk Tryz.func79 ?_
 refine zaj Tk Tryz.func79 (h1 _) rfl rfl rfl rfl rfl ?_
 refine zad ?_
 refine zaw (zaP 3 40 214 1 (pre := [auts l, ints ev]) (post := []) rfl rfl rfl) ?_
 refine zok (fun x : Nat × List Tb => [(2, .own 0 2 0 0), (3, .own 0 3 0 0), (13, auts l), (14, ii l.length), (15, ii x.1)])
  (fun x => [(2, .box [.i (.v (.slice none 0 0)), .i (.v (.slice none 0 0)), .i (.v (.slice none 0 0))]), (3, .box [auts l, ints ev, .osl 0 40]), (40, .arr 214 1 x.2.length (tbM x.2) true)]) (fun _ => O) 44
  (fun E' x => x.1 ≤ l.length ∧ tbOk (l.take x.1) x.2 ∧ Base E E' O ∧ TabsE x.2 E' O ∧ ∀ p ∈ x.2, ¬ E.pr p.1) (fun x => l.length - x.1) (0, [])
  ⟨Nat.zero_le _, ⟨by simp, fun i a b h => by simp at h⟩, Base.refl E O, fun p hp => (List.not_mem_nil hp).elim, fun p hp => (List.not_mem_nil hp).elim⟩ ⟨rfl, rfl, rfl, rfl, rfl, trivial⟩ rfl ⟨rfl, rfl, rfl, trivial⟩ rfl rfl ?_
 rintro E1 ⟨i, bs⟩ ⟨hi, hok, hB, hT, hnp⟩ ih
 simp only at hi hok hB hT hnp
 have hj1 : ii (IntKind.i64.wrap ((i : Int) + 1)) = ii ((i + 1 : Nat) : Int) := congrArg ii (zaB (n := 4096) (by omega) (by decide))
 refine zaf Tk Tryz.func79 ?_
 refine zae Tk Tryz.func79 rfl (fun g1 => ?_) (fun g1 => ?_)
 ·have h2 : i < l.length := by simpa using g1
  have gl := zeF h2
  have hla : l[i]? = some l[i] := List.getElem?_eq_getElem h2
  have hsm := (hs _ (List.getElem_mem h2)).ed
  generalize l[i] = a at *
  obtain ⟨al, st, mk, es⟩ := a
  simp only at hsm
  refine zak Tk Tryz.func79 (by exact ⟨by omega, by show (i : Int) < (l.length : Int); omega⟩) ?_
  refine zar Tk Tryz.func79 (gl) ?_
  obtain ⟨TT, hTT⟩ : ∃ TT, TT = (es.drop 0).foldl (fun m e => mset m (pk e.1 e.2.1) e.2.2) [] := ⟨_, rfl⟩
  have hT0 : zfx es = TT := hTT.symm
  refine zad ?_
  refine zag (fun x : Nat × List (Value × Int) => [(2, .own 0 2 0 0), (3, .own 0 3 0 0), (13, auts l), (14, ii l.length), (15, ii i), (6, .osl 0 19), (21, edgs es), (22, ii es.length), (23, ii x.1)])
   (fun x => [(2, .box [.i (.v (.slice none 0 0)), .i (.v (.slice none 0 0)), .i (.v (.slice none 0 0))]), (3, .box [auts l, ints ev, .osl 0 40]), (40, .arr 214 1 bs.length (tbM bs) true), (19, ztK x.2)]) (fun _ => O) 44
   (fun x => x.1 ≤ es.length ∧ TT = (es.drop x.1).foldl (fun m e => mset m (pk e.1 e.2.1) e.2.2) x.2) (fun x => es.length - x.1) (0, []) ⟨Nat.zero_le _, hTT⟩ ⟨rfl, rfl, rfl, rfl, rfl, rfl, rfl, rfl, rfl, trivial⟩ rfl ⟨rfl, rfl, rfl, rfl, trivial⟩ rfl rfl ?_
  clear hTT
  rintro ⟨j, m⟩ ⟨hj, hno⟩ ih2
  simp only at hj hno
  refine zaf Tk Tryz.func79 ?_
  refine zae Tk Tryz.func79 rfl (fun g2 => ?_) (fun g2 => ?_)
  ·have h3 : j < es.length := by simpa using g2
   have ge : (es.map edgI)[(j : Int).toNat]? = some (edgI es[j]) := zah h3
   have de : es.drop j = es[j] :: es.drop (j + 1) := List.drop_eq_getElem_cons h3
   rw [de, List.foldl_cons] at hno
   clear de
   generalize es[j] = e at *
   obtain ⟨e1, e2, e3⟩ := e
   refine zak Tk Tryz.func79 (by exact ⟨by omega, by show (j : Int) < (es.length : Int); omega⟩) ?_
   refine zar Tk Tryz.func79 (ge) ?_
   refine zad ?_
   exact ih2 (j + 1, mset m (pk e1 e2) e3) _ _ ⟨h3, hno⟩ (by simp only; omega) ⟨rfl, rfl, rfl, rfl, rfl, rfl, rfl, rfl, congrArg ii (zaB (n := 1000001) (by omega) (by decide)), trivial⟩ rfl ⟨rfl, rfl, rfl, rfl, trivial⟩ rfl rfl
  ·have h3 : es.length ≤ j := by simpa using g2
   rw [List.drop_eq_nil_of_le h3, List.foldl_nil] at hno
   subst hno
   refine zax ?_
   refine zjt 6 rfl rfl rfl ?_
   intro E2 b ob hB2 hTb hnb hmi
   refine zaf Tk Tryz.func79 ?_
   refine g_go Tk Tryz.func79 ?_
   refine zak Tk Tryz.func79 (by exact ⟨by show (bs.length + 1) * 8 ≤ 140737488355328; have := hok.len; rw [List.length_take] at this; omega, by show bs.length + 1 ≤ 9223372036854775807; have := hok.len; rw [List.length_take] at this; omega⟩) ?_
   refine zad ?_
   refine ih E2 (i + 1, bs ++ [(b, ob)]) _ _ ⟨h2, zqc hok h2 hla (by rw [hT0]; exact hmi), hB.trans hB2, ?_, ?_⟩ (by simp only; omega) ⟨rfl, rfl, rfl, rfl, hj1, trivial⟩ rfl ⟨rfl, rfl, ?_, trivial⟩ rfl rfl
   ·intro p hp
    rcases List.mem_append.1 hp with hp | hp
    ·exact hT.base hB2 p hp
    ·rw [List.mem_singleton] at hp; subst hp; exact hTb
   ·intro p hp
    rcases List.mem_append.1 hp with hp | hp
    ·exact hnp p hp
    ·rw [List.mem_singleton] at hp; subst hp; exact fun h => hnb (hB.pr _ h)
   ·show some (Ob.arr 214 1 (bs.length + 1) (tbM bs ++ [[I.v (.map (some b))]]) true) = some (Ob.arr 214 1 (bs ++ [(b, ob)]).length (tbM (bs ++ [(b, ob)])) true)
    simp
 ·have h2 : l.length ≤ i := by simpa using g1
  rw [List.take_of_length_le h2] at hok
  refine zax ?_
  refine zaw (zap 40 rfl rfl) ?_
  refine zaf Tk Tryz.func79 ?_
  refine g_go Tk Tryz.func79 ?_
  refine ztp Tk (r := .agg [auts l, ints ev, .i (.sl 1 bs.length (tbM bs))]) bs hok hB rfl hT hnp rfl rfl rfl ?_
  have e1 : (tbM bs).length = bs.length := by simp
  show CoD _ (.agg [auts l, ints ev, .i (.sl 1 (tbM bs).length (tbM bs))])
  rw [e1]
  exact CoD.refl _
end Go.AI


namespace Go.AI
open Go.Proofs
set_option maxRecDepth 20000
theorem zqP {k : ByteArray} {c : Value} (h : keyB (.string k) c = true) (k' : ByteArray) : keyB (.string k') c = (k' == k) := by
 cases c with
 | string s =>
  have e1 : k = s := (znf _ _).1 h
  rw [e1]; rfl
 | _ => simp [keyB] at h
theorem zfV {α : Type} (k : ByteArray) (v : α) (k' : ByteArray) : ∀ m : List (Value × α), zbg (mset m (.string k) v) (.string k') = if k' = k then some v else zbg m (.string k')
 | [] => by
  simp only [mset, zbg]
  rw [show keyB (.string k') (.string k) = (k' == k) from rfl]
  by_cases h : k' = k
  ·rw [if_pos h, h, zpv]; rfl
  ·rw [if_neg h]
   have : (k' == k) = false := by
    rw [Bool.eq_false_iff]; exact fun e => h ((znf _ _).1 e)
   rw [this]; rfl
 | (c, y) :: r => by
  simp only [mset]
  cases hk : keyB (.string k) c with
  | true =>
   simp only [cond_true, zbg]
   rw [zqP hk, show keyB (.string k') (.string k) = (k' == k) from rfl]
   by_cases h : k' = k
   ·rw [if_pos h, h, zpv]; rfl
   ·rw [if_neg h]
    have : (k' == k) = false := by
     rw [Bool.eq_false_iff]; exact fun e => h ((znf _ _).1 e)
    rw [this]; rfl
  | false =>
   simp only [cond_false, zbg]
   rw [zfV k v k' r]
   by_cases h : k' = k
   ·rw [if_pos h, if_pos h, h, hk]; rfl
   ·rw [if_neg h, if_neg h]
def kmOk (P : List Int → Prop) (key : List Int → ByteArray) (km : List (Value × Int)) (sts : List (List Int)) : Prop :=
 ∀ s, P s → mhas km (.string (key s)) = decide (s ∈ sts) ∧ (s ∈ sts → zcS km (.string (key s)) = ((sts.findIdx (eqB s) : Nat) : Int))
theorem zlm {P : List Int → Prop} {key : List Int → ByteArray} (hinj : ∀ a b, P a → P b → key a = key b → a = b) {km : List (Value × Int)} {sts : List (List Int)} (h : kmOk P key km sts) {n : List Int} (hn : P n) (hno : n ∉ sts) :
  kmOk P key (mset km (.string (key n)) (sts.length : Nat)) (sts ++ [n]) := by
 intro s hs
 obtain ⟨h1, h2⟩ := h s hs
 unfold mhas at h1
 unfold zcS at h2
 unfold mhas zcS
 rw [zfV]
 by_cases e : key s = key n
 ·have e := hinj s n hs hn e
  subst e
  rw [if_pos rfl]
  refine ⟨by simp, fun _ => ?_⟩
  have : (sts ++ [s]).findIdx (eqB s) = sts.length := by
   rw [List.findIdx_append, zbS fun x hx => ?_, if_neg (Nat.lt_irrefl _)]
   ·simp [eqB]
   ·simp only [eqB, decide_eq_false_iff_not]
    rintro rfl
    exact hno hx
  rw [this]; rfl
 ·rw [if_neg e]
  have hsn : s ≠ n := fun h => e (by rw [h])
  refine ⟨?_, fun hm => ?_⟩
  ·rw [h1]
   simp [hsn]
  ·have hm : s ∈ sts := by simpa [hsn] using hm
   rw [zdW [n] ⟨s, hm, by simp [eqB]⟩]
   exact h2 hm
theorem zqL {P : List Int → Prop} {key : List Int → ByteArray} (hinj : ∀ a b, P a → P b → key a = key b → a = b) {n : List Int} (hn : P n) : kmOk P key (mset [] (.string (key n)) 0) [n] :=
 zlm (km := []) (sts := []) hinj (fun s _ => by simp [mhas, zbg]) hn (by simp)
theorem znL {σ : Type} [DecidableEq σ] {eq : σ → σ → Bool} {lim : Bool} {step : σ → Int → σ × Bool × Int} {P : σ → Prop} (hF : Fin1 step eq lim P) {i : Nat} {s : σ} {ev : Int} {U V : Unf σ} (hU : UOk P U) (hs : P s) (hi : i < U.sts.length) (h : zcu eq lim step i s ev U = .ok V) :
  UOk P V ∧ i < V.sts.length ∧ V.sts[i]? = U.sts[i]? := by
 have h1 := zft hF (ev := ev) hU hs hi
 split at h1
 ·rw [h1] at h; cases h
 ·obtain ⟨r, h2, h3, _⟩ := h1
  rw [h2] at h
  simp only [Except.ok.injEq] at h
  subst h
  exact ⟨h3, by simp only [List.length_append]; omega, List.getElem?_append_left hi⟩
theorem zgm : ∀ {l : List Aut}, (∀ a ∈ l, chkA a = 0) → zeo l = 0
 | [], _ => rfl
 | a :: l, h => by
  simp only [zeo]
  rw [h a (by simp), if_neg (by simp)]
  exact zgm fun b hb => h b (by simp [hb])
theorem zqg (l : List Aut) (t : List Int) (ev : Int) : zie l t ev = ((tupS l t ev).getD [], (tupS l t ev).isSome, 0) := rfl
set_option maxHeartbeats 16000000 in
theorem zsN {g : Nat} (hg : zeO g) {ty : TypeId} {fr : Nat × Nat} (O : List Heap) (l : List Aut) (hl0 : l ≠ []) (hl : l.length ≤ 12) (hc : ∀ a ∈ l, chkA a = 0) (hs : ∀ a ∈ l, smallA a) (h0 : ∀ a ∈ l, 0 < a.states) (h64 : ∀ a ∈ l, a.states ≤ 64) (hV0 : (zdv l).length ≤ 4095)
  (V : Unf (List Int)) (hV : zqD l = .ok V) :
  zbu g (ptab ty fr) Tryz.prog 32 [auts l] O (.tup [autD (unfA (evL l) V), .i (zqp V.sts), ii 0]) [] O := by
 have h1 := fun O => zsC O l hl hs
 rw [zgm hc] at h1
 have h2 := fun O => zs5 O l hl hc hs
 have h3 := fun O ev M => zoM O l ev M hl fun a ha => by have := h0 a ha; omega
 have hF := zlb hc (show (zdv l).length < 4096 by omega)
 have hf0 : tOk l (tup0 l) := zhk h0
 have hpne : ∀ t, tOk l t → t ≠ [] := fun t ht e => by have := zcX ht; rw [e] at this; exact hl0 (List.eq_nil_of_length_eq_zero this.symm)
 have hinj : ∀ a b, tOk l a → tOk l b → zdw a = zdw b → a = b := fun a b ha hb h => zqb (zgJ ha h64) (zgJ hb h64) h
 have hkey : ∀ O t, tOk l t → zbu g (ptab ty fr) Tryz.prog 81 [ints t] O (.i (.v (.string (zdw t)))) [] O := fun O t ht => ztN hg O t (hpne t ht) (by have := zcX ht; omega) (zgJ ht h64)
 have hmkd := fun O ev M t (ht : tOk l t) => zqJ O l ev M t hl (zcX ht) hc hs
 have hstp := fun O ev bs t e (ht : tOk l t) (hb : tbOk l bs) => zsO O l ev bs t e hl (zcX ht) hc hb
 have hfew : ∀ U : Unf (List Int), UOk (tOk l) U → U.sts.length ≤ 4095 := fun U hU => Nat.le_trans (zc3 hU.nd fun s hs => zc4 (hU.ok s hs)) hV0
 have hevl := zbt (by decide) (zjZ hc)
 have hno : (Except.ok V : Except Int (Unf (List Int))) = zbU eqB true (zie l) (tMk l) (evL l) (4097 - 0) 0 (unf0 (tup0 l)) := hV.symm
 have hU0 : UOk (tOk l) (unf0 (tup0 l)) := ⟨by simpa [unf0] using hf0, by simp [unf0], rfl⟩
 have hk0 := zqL hinj hf0
 have hsts := zqg l
 have hvok := fun i s ev U V' hU hs hi hq => @znL (List Int) _ eqB true (zie l) (tOk l) hF i s ev U V' hU hs hi hq
 unfold unfA
 generalize hR : (Except.ok V : Except Int (Unf (List Int))) = R at *
 generalize evL l = ev at *
 generalize zie l = ts at *
 generalize tMk l = mr at *
 generalize tup0 l = s0 at *
 clear hV hF
 refine zaO [200024, 16, 28, 30] Tk Tryz.func32 rfl Tryz.call32 Tryz.ntmps32 (Nat.le_of_ble_eq_true rfl) fun E hE => ?_
 refine zaf Tk Tryz.func32 ?_
 refine zaj Tk Tryz.func32 (h1 _) rfl rfl rfl rfl rfl ?_
 refine gcF Tk Tryz.func32 rfl ?_
 refine zss Tk Tryz.func32 (ts := []) (O0 := O) (fun p hp => (List.not_mem_nil hp).elim) rfl rfl rfl rfl rfl rfl rfl (h2 _) ?_
 intro bs E3 hbs hB hTB hnp
 have hE3 := hB.eok.tb g (ptab ty fr) O rfl hE
 refine zaj Tk Tryz.func32 (h3 _ _ _) rfl rfl rfl rfl rfl ?_
 refine gcF Tk Tryz.func32 rfl ?_
 refine zbe Tk Tryz.func32 hE3 (hkey _ s0 hf0) rfl rfl rfl rfl rfl rfl ?_
 refine zad ?_
 refine zaw (zkW 37 101 rfl rfl rfl) ?_
 refine zaw (zaP 2 58 3 1 (pre := [ints ev, ii 0]) (post := [.i (.v (.slice none 0 0))]) rfl rfl rfl) ?_
 refine zaw (zaP 2 109 117 3 (pre := [ints ev, ii 0, .osl 0 58]) (post := []) rfl rfl rfl) ?_
 refine zag (fun x : Nat × Unf (List Int) × List (Value × Int) => [(2, .own 0 2 0 0), (3, .osl 0 101), (6, .own 0 6 0 0), (9, .osl 0 38), (10, ii x.1)])
  (fun x => [(2, .box [ints ev, ii 0, .osl 0 58, .osl 0 109]), (6, .box [auts l, ints ev, .i (.sl 1 (tbM bs).length (tbM bs))]), (101, zov x.2.1.sts), (58, zaK x.2.1.mkl), (109, zcR x.2.1.eds), (38, .mp .str (.i .i64 x.2.2))]) (fun _ => O) 117
  (fun x => x.1 ≤ x.2.1.sts.length ∧ UOk (tOk l) x.2.1 ∧ kmOk (tOk l) zdw x.2.2 x.2.1.sts ∧ x.2.1.mkl.length ≤ x.1 ∧ x.2.1.eds.length ≤ 32 * x.1 ∧ R = zbU eqB true ts mr ev (4097 - x.1) x.1 x.2.1) (fun x => 4097 - x.1) (0, unf0 s0, mset [] (.string (zdw s0)) 0)
  ⟨Nat.zero_le _, hU0, hk0, Nat.le_refl _, Nat.le_refl _, hno⟩ ⟨rfl, rfl, rfl, rfl, rfl, trivial⟩ rfl ⟨rfl, rfl, rfl, rfl, rfl, rfl, trivial⟩ rfl rfl ?_
 clear hno hU0 hk0 h1 h2 h3 hf0
 rintro ⟨i, U, km⟩ ⟨hi, hgd, hkm, hml, hel, hno⟩ ih
 simp only at hi hgd hkm hml hel hno
 refine zaf Tk Tryz.func32 ?_
 refine zae Tk Tryz.func32 rfl (fun g1 => ?_) (fun g1 => ?_)
 ·have h1 : i < U.sts.length := by simpa using g1
  clear g1
  have hle := hfew U hgd
  have hsi : U.sts[i]? = some U.sts[i] := List.getElem?_eq_getElem h1
  have gs : (U.sts.map fun r => [zb2 r])[(i : Int).toNat]? = some [zb2 U.sts[i]] := zah (f := fun r => [zb2 r]) h1
  have hoks := hgd.ok _ (List.getElem_mem h1)
  generalize U.sts[i] = s at *
  have hmk' := fun O => hmkd O ev (tbM bs) s hoks
  have hno : R = match zaz eqB true ts i s ev (zbD mr i s U) with
    | .error e => .error e
    | .ok U' => zbU eqB true ts mr ev (4097 - (i + 1)) (i + 1) U' := by
   rw [hno, show 4097 - i = (4097 - (i + 1)) + 1 by omega]
   simp only [zbU, hsi]
   cases zaz eqB true ts i s ev (zbD mr i s U) <;> rfl
  obtain ⟨m1, m2⟩ := zcW mr i s U
  have hM : UOk (tOk l) (zbD mr i s U) := ⟨by rw [m1]; exact hgd.ok, by rw [m1]; exact hgd.nd, by rw [m1, m2]; exact hgd.fr⟩
  have hm3 : (zbD mr i s U).mkl = if mr s = true then U.mkl ++ [(i : Int)] else U.mkl := by
   unfold zbD
   by_cases h : mr s = true <;> simp [h]
  generalize zbD mr i s U = U1 at *
  generalize mr s = B at *
  obtain ⟨sts, mkl, eds⟩ := U
  obtain ⟨sts1, mkl1, eds1⟩ := U1
  simp only at m1 m2 hm3 hsi gs hno h1 hle hel hml hi hkm hgd
  subst m1 m2
  have n1 : 0 ≤ (i : Int) ∧ (i : Int) < (sts1.length : Int) := by omega
  have hml1 : mkl1.length ≤ i + 1 := by rw [hm3]; split; (rw [List.length_append, List.length_singleton]; omega); omega
  refine zaq Tk Tryz.func32 zay rfl ?_
  refine zat Tk (by exact n1) ?_
  refine zaA Tk (gs) ?_
  refine zaN Tk (fun _ => hmk' _) rfl rfl rfl ?_
  refine zav Tk Tryz.func32 (by kernel_rfl) ?_
  apply zbP (P := True) (s6 := { σ := [(2, .own 0 2 0 0), (3, .osl 0 101), (6, .own 0 6 0 0), (9, .osl 0 38), (10, ii i)], S := [(2, .box [ints ev, ii 0, .osl 0 58, .osl 0 109]), (6, .box [auts l, ints ev, .i (.sl 1 (tbM bs).length (tbM bs))]), (101, zov sts1), (58, zaK mkl1), (109, zcR eds1), (38, .mp .str (.i .i64 km))] :: O, n := 117 })
  ·intro J
   refine zae Tk Tryz.func32 rfl (fun c1 => ?_) (fun c1 => ?_)
   ·have c1 : B = true := c1
    rw [if_pos c1] at hm3
    refine zak Tk Tryz.func32 (by exact ⟨by show (mkl.length + 1) * 8 ≤ 140737488355328; omega, by show mkl.length + 1 ≤ 9223372036854775807; omega⟩) ?_
    refine zax ?_
    refine zaJ (J trivial) ⟨rfl, rfl, rfl, rfl, rfl, trivial⟩ rfl ⟨rfl, rfl, rfl, by rw [hm3]; exact congrArg some (zaR mkl (i : Int)), rfl, rfl, trivial⟩ rfl rfl
   ·have c1 : ¬ B = true := by rw [show B = false from c1]; decide
    rw [if_neg c1] at hm3
    refine zax ?_
    refine zaJ (J trivial) ⟨rfl, rfl, rfl, rfl, rfl, trivial⟩ rfl ⟨rfl, rfl, rfl, by rw [hm3]; rfl, rfl, rfl, trivial⟩ rfl rfl
  intro _
  clear hm3 hml hmk' gs hgd
  have hV0 : zaz eqB true ts i s ev ⟨sts1, mkl1, eds1⟩ = zaz eqB true ts i s (ev.drop 0) ⟨sts1, mkl1, eds1⟩ := rfl
  generalize zaz eqB true ts i s ev ⟨sts1, mkl1, eds1⟩ = VV at *
  refine zaf Tk Tryz.func32 ?_
  refine g_go Tk Tryz.func32 ?_
  refine zad ?_
  refine zag (fun x : Nat × Unf (List Int) × List (Value × Int) => [(2, .own 0 2 0 0), (3, .osl 0 101), (6, .own 0 6 0 0), (9, .osl 0 38), (10, ii i), (61, ints ev), (62, ii ev.length), (63, ii x.1)])
   (fun x => [(2, .box [ints ev, ii 0, .osl 0 58, .osl 0 109]), (6, .box [auts l, ints ev, .i (.sl 1 (tbM bs).length (tbM bs))]), (101, zov x.2.1.sts), (58, zaK x.2.1.mkl), (109, zcR x.2.1.eds), (38, .mp .str (.i .i64 x.2.2))]) (fun _ => O) 117
   (fun x => x.1 ≤ ev.length ∧ UOk (tOk l) x.2.1 ∧ kmOk (tOk l) zdw x.2.2 x.2.1.sts ∧ i < x.2.1.sts.length ∧ x.2.1.mkl = mkl1 ∧ x.2.1.eds.length ≤ 32 * i + x.1 ∧ x.2.1.sts[i]? = some s ∧ VV = zaz eqB true ts i s (ev.drop x.1) x.2.1) (fun x => ev.length - x.1) (0, ⟨sts1, mkl1, eds1⟩, km)
   ⟨Nat.zero_le _, hM, hkm, h1, rfl, hel, hsi, hV0⟩ ⟨rfl, rfl, rfl, rfl, rfl, rfl, rfl, rfl, trivial⟩ rfl ⟨rfl, rfl, rfl, rfl, rfl, rfl, trivial⟩ rfl rfl ?_
  clear hV0 hsi hel hle hM n1 h1 hkm
  rintro ⟨j, ⟨sts, mk', eds⟩, km⟩ ⟨hj, hgd, hkm, hil, hmke, hel, hsi, hV⟩ ih2
  simp only at hj hgd hkm hil hmke hel hsi hV
  subst hmke
  have hle := hfew _ hgd
  simp only at hle
  have hj1 : ii (IntKind.i64.wrap ((j : Int) + 1)) = ii ((j + 1 : Nat) : Int) := congrArg ii (zaB (n := 4096) (by omega) (by decide))
  refine zaf Tk Tryz.func32 ?_
  refine zae Tk Tryz.func32 rfl (fun g2 => ?_) (fun g2 => ?_)
  ·have h3 : j < ev.length := by simpa using g2
   clear g2
   have ga : (ev.map fun x => [vi x])[(j : Int).toNat]? = some [vi ev[j]] := zah (f := fun x => [vi x]) h3
   have da : ev.drop j = ev[j] :: ev.drop (j + 1) := List.drop_eq_getElem_cons h3
   rw [da] at hV
   simp only [zaz] at hV
   clear da
   have hst2 := fun O => hstp O ev bs s ev[j] hoks hbs
   generalize ev[j] = e at *
   have gs : (sts.map fun r => [zb2 r])[(i : Int).toNat]? = some [zb2 s] := by simp [hsi]
   have hvok := fun V' h => hvok i s e ⟨sts, mk', eds⟩ V' hgd hoks hil h
   have hnxt : ∀ n, tupS l s e = some n → tOk l n := fun n hn => zfw hc hoks hn
   unfold zcu at hV hvok
   rw [hsts] at hV hvok
   have n3 : 0 ≤ (i : Int) ∧ (i : Int) < (sts.length : Int) := by omega
   refine zak Tk Tryz.func32 (by exact ⟨by omega, by show (j : Int) < (ev.length : Int); omega⟩) ?_
   refine zar Tk Tryz.func32 (ga) ?_
   generalize tupS l s e = NX at *
   cases NX with
   | none =>
    simp only [Option.isSome_none, Option.getD_none, ne_eq, not_true, if_false, if_true] at hV hst2
    refine zaq Tk Tryz.func32 zay rfl ?_
    refine zat Tk (by exact n3) ?_
    refine zaA Tk (gs) ?_
    refine zog Tk hTB (hst2 _) rfl rfl rfl rfl ?_
    refine zav Tk Tryz.func32 (by kernel_rfl) ?_
    refine gcT Tk Tryz.func32 rfl ?_
    refine zad ?_
    exact ih2 (j + 1, ⟨sts, mk', eds⟩, km) _ _ ⟨h3, hgd, hkm, hil, rfl, by simp only; omega, hsi, hV⟩ (by simp only; omega) ⟨rfl, rfl, rfl, rfl, rfl, rfl, rfl, hj1, trivial⟩ rfl ⟨rfl, rfl, rfl, rfl, rfl, rfl, trivial⟩ rfl rfl
   | some nx =>
    simp only [Option.isSome_some, Option.getD_some, ne_eq, not_true, if_false, Bool.true_eq_false] at hV hvok hst2
    have hnx := hnxt nx rfl
    obtain ⟨hkh, hkg⟩ := hkm nx hnx
    refine zaq Tk Tryz.func32 zay rfl ?_
    refine zat Tk (by exact n3) ?_
    refine zaA Tk (gs) ?_
    refine zog Tk hTB (hst2 _) rfl rfl rfl rfl ?_
    refine zav Tk Tryz.func32 (by kernel_rfl) ?_
    refine gcF Tk Tryz.func32 rfl ?_
    refine zbe Tk Tryz.func32 hE3 (hkey _ nx hnx) rfl rfl rfl rfl rfl rfl ?_
    obtain ⟨t, ht⟩ : ∃ t, t = sts.findIdx (eqB nx) := ⟨_, rfl⟩
    rw [← ht] at hV hvok hkg
    obtain ⟨sts2, hst3⟩ : ∃ sts2, sts2 = if nx ∈ sts then sts else sts ++ [nx] := ⟨_, rfl⟩
    obtain ⟨km2, hkm3⟩ : ∃ km2, km2 = if nx ∈ sts then km else mset km (.string (zdw nx)) (sts.length : Nat) := ⟨_, rfl⟩
    have hU2 : VV = zaz eqB true ts i s (ev.drop (j + 1)) ⟨sts2, mk', eds ++ [((i : Int), e, (t : Int))]⟩ ∧ UOk (tOk l) ⟨sts2, mk', eds ++ [((i : Int), e, (t : Int))]⟩ ∧ i < sts2.length ∧ sts2[i]? = some s ∧ kmOk (tOk l) zdw km2 sts2 := by
     by_cases hm : nx ∈ sts
     ·have hlt : t < sts.length := by rw [ht]; exact zeH ⟨nx, hm, by simp [eqB]⟩
      rw [if_pos hm] at hst3 hkm3
      rw [if_pos hlt] at hV hvok
      subst hst3 hkm3
      have h := hvok _ rfl
      exact ⟨hV, h.1, h.2.1, h.2.2.trans hsi, hkm⟩
     ·have hlt : t = sts.length := by
       rw [ht]
       exact zbS fun x hx => by simp only [eqB, decide_eq_false_iff_not]; rintro rfl; exact hm hx
      rw [if_neg hm] at hst3 hkm3
      rw [if_neg (by omega), if_neg (by omega)] at hV hvok
      have hk2 := zlm hinj hkm hnx hm
      subst hst3 hkm3
      have h := hvok _ rfl
      exact ⟨hV, h.1, h.2.1, h.2.2.trans hsi, hk2⟩
    have htm : nx ∉ sts → t = sts.length := fun hm => by
     rw [ht]
     exact zbS fun x hx => by simp only [eqB, decide_eq_false_iff_not]; rintro rfl; exact hm hx
    clear hV hvok ht
    apply zbP (P := True) (s6 := { σ := [(2, .own 0 2 0 0), (3, .osl 0 101), (6, .own 0 6 0 0), (9, .osl 0 38), (10, ii i), (61, ints ev), (62, ii ev.length), (63, ii j), (12, ii e), (15, ii t)], S := [(2, .box [ints ev, ii 0, .osl 0 58, .osl 0 109]), (6, .box [auts l, ints ev, .i (.sl 1 (tbM bs).length (tbM bs))]), (101, zov sts2), (58, zaK mk'), (109, zcR eds), (38, .mp .str (.i .i64 km2))] :: O, n := 117 })
    ·intro J
     refine zae Tk Tryz.func32 rfl (fun c1 => ?_) (fun c1 => ?_)
     ·have c1 : mhas km (.string (zdw nx)) = false := notT c1
      rw [hkh] at c1
      have c1 : nx ∉ sts := of_decide_eq_false c1
      rw [if_neg c1] at hst3 hkm3
      have htl := htm c1
      refine zae Tk Tryz.func32 rfl (fun h => absurd h (by simp; omega)) (fun _ => ?_)
      refine zbe Tk Tryz.func32 hE3 (hkey _ nx hnx) rfl rfl rfl rfl rfl rfl ?_
      refine zak Tk Tryz.func32 (by exact ⟨by show (sts.length + 1) * 24 ≤ 140737488355328; omega, by show sts.length + 1 ≤ 9223372036854775807; omega⟩) ?_
      refine zax ?_
      refine zaJ (J trivial) ⟨rfl, rfl, rfl, rfl, rfl, rfl, rfl, rfl, rfl, by rw [htl]; rfl, trivial⟩ rfl ⟨rfl, rfl, by rw [hst3]; exact congrArg some (zou sts nx), rfl, rfl, by rw [hkm3]; rfl, trivial⟩ rfl rfl
     ·have c1 : mhas km (.string (zdw nx)) = true := notF c1
      rw [hkh] at c1
      have c1 : nx ∈ sts := of_decide_eq_true c1
      rw [if_pos c1] at hst3 hkm3
      have hg := hkg c1
      refine zax ?_
      refine zaJ (J trivial) ⟨rfl, rfl, rfl, rfl, rfl, rfl, rfl, rfl, rfl, congrArg ii hg, trivial⟩ rfl ⟨rfl, rfl, by rw [hst3]; rfl, rfl, rfl, by rw [hkm3]; rfl, trivial⟩ rfl rfl
    intro _
    obtain ⟨hV, hg2, hi2, hs2, hk2⟩ := hU2
    clear hst3 hkm3 htm hkh hkg hst2 hgd hkm hil hsi gs
    refine zaf Tk Tryz.func32 ?_
    refine g_go Tk Tryz.func32 ?_
    refine zak Tk Tryz.func32 (by exact ⟨by show (eds.length + 1) * 24 ≤ 140737488355328; omega, by show eds.length + 1 ≤ 9223372036854775807; omega⟩) ?_
    refine zad ?_
    exact ih2 (j + 1, ⟨sts2, mk', eds ++ [((i : Int), e, (t : Int))]⟩, km2) _ _ ⟨h3, hg2, hk2, hi2, rfl, by simp only [List.length_append, List.length_singleton]; omega, hs2, hV⟩ (by simp only; omega) ⟨rfl, rfl, rfl, rfl, rfl, rfl, rfl, hj1, trivial⟩ rfl ⟨rfl, rfl, rfl, rfl, congrArg some (zfQ eds ((i : Int), e, (t : Int))), rfl, trivial⟩ rfl rfl
  ·have h3 : ev.length ≤ j := by simpa using g2
   rw [List.drop_eq_nil_of_le h3] at hV
   simp only [zaz] at hV
   subst hV
   simp only at hno
   refine zad ?_
   exact ih (i + 1, ⟨sts, mk', eds⟩, km) _ _ ⟨by simp only; omega, hgd, hkm, hml1, by simp only; omega, hno⟩ (by simp only; omega) ⟨rfl, rfl, rfl, rfl, congrArg ii (zaB (n := 4096) (by omega) (by decide)), trivial⟩ rfl ⟨rfl, rfl, rfl, rfl, rfl, rfl, trivial⟩ rfl rfl
 ·have h1 : U.sts.length ≤ i := by simpa using g1
  rw [zmp h1] at hno
  rw [← hR] at hno
  simp only [Except.ok.injEq] at hno
  subst hno
  obtain ⟨sts, mk', eds⟩ := V
  refine zax ?_
  refine zmF hB rfl ?_
  refine zaw (zap 101 rfl rfl) ?_
  refine zaw (zap 58 rfl rfl) ?_
  refine zaw (zap 109 rfl rfl) ?_
  refine zaf Tk Tryz.func32 ?_
  refine g_go Tk Tryz.func32 ?_
  refine zai Tk (r := .tup [autD ⟨ev, sts.length, mk', eds⟩, .i (zqp sts), ii 0]) rfl rfl rfl trivial rfl rfl ?_
  rfl
end Go.AI


namespace Go.AI
open Go.Proofs
set_option maxRecDepth 20000
abbrev estP (n : Nat) (s : List Int) : Prop := s ∈ subs n ∧ s ≠ []
end Go.AI


namespace Go.AI
structure Sys where
 p : Aut
 s : Aut
 ob : List Int
 ct : List Int
structure gSys (x : Sys) : Prop where
 p : chkA x.p = 0
 s : chkA x.s = 0
 al : x.s.alpha = x.p.alpha
 ob : zal 32 x.ob none = 0
 ct : zal 32 x.ct none = 0
 obs : ∀ e ∈ x.ob, e ∈ x.p.alpha
 cts : ∀ e ∈ x.ct, e ∈ x.p.alpha
def zte (x : Sys) (z : Int × Int) (ev : Int) : (Int × Int) × Bool × Int := ((stp3 x.p.edges z.1 ev, stp3 x.s.edges z.2 ev), decide (0 ≤ stp3 x.p.edges z.1 ev) && decide (0 ≤ stp3 x.s.edges z.2 ev), 0)
def lpMk (x : Sys) (z : Int × Int) : Bool := decide (z.1 ∈ x.p.marked) && decide (z.2 ∈ x.s.marked)
def lpU (x : Sys) : Except Int (Unf (Int × Int)) := unfR eqB false (zte x) (lpMk x) x.p.alpha (0, 0)
def lpV (x : Sys) : List (Int × Int) := (List.range x.p.states.toNat).flatMap fun (i : Nat) => (List.range x.s.states.toNat).map fun (j : Nat) => ((i : Int), (j : Int))
def lpR (x : Sys) : Aut × List (Int × Int) := if 0 < x.p.states ∧ 0 < x.s.states then (match lpU x with
 | .ok V => (unfA x.p.alpha V, V.sts)
 | .error _ => (⟨x.p.alpha, 0, [], []⟩, [])) else (⟨x.p.alpha, 0, [], []⟩, [])
end Go.AI


namespace Go.AI
open Go.Proofs
section
variable {c : Cx} {s : St} {k : List Item} {ops : Array Oper} {rest : List Nat} {o : Oper}
end
end Go.AI


namespace Go.AI
open Go.Proofs
section
variable {c : Cx} {s : St} {k : List Item} {ops : Array Oper} {rest : List Nat} {o : Oper}
end
end Go.AI


namespace Go.AI
open Go.Proofs
set_option maxRecDepth 20000
structure smallS (x : Sys) : Prop where
 p : smallA x.p
 s : smallA x.s
 ob : x.ob.length ≤ 1000000
 ct : x.ct.length ≤ 1000000
end Go.AI


namespace Go.AI
def esR (x : Sys) : Aut × List (List Int) := if (lpR x).2.length = 0 then (⟨zmW (lpR x).1 x.ob, 0, [], []⟩, []) else match prjR (lpR x).1 x.ob (lpR x).2.length with
 | .ok V => (unfA (zmW (lpR x).1 x.ob) V, V.sts)
 | .error _ => (⟨zmW (lpR x).1 x.ob, 0, [], []⟩, [])
end Go.AI


namespace Go.AI
section
variable {c : Cx} {s : St} {k : List Item} {ops : Array Oper}
end
end Go.AI


namespace Go.AI
open Go.Proofs
set_option maxRecDepth 20000
end Go.AI


namespace Go.AI
open Go.Proofs
set_option maxRecDepth 20000
end Go.AI


namespace Go.AI
open Go.Proofs
set_option maxRecDepth 20000
end Go.AI


namespace Go.AI
open Go.Proofs
set_option maxRecDepth 20000
structure stOk (x : Sys) (a : Aut) (ps : List (Int × Int)) : Prop where
 hx : gSys x
 sm : smallS x
 ga : gAut a ps.length
 pin : ∀ z ∈ ps, 0 ≤ z.1 ∧ z.1 < x.p.states
 len : ps.length ≤ 4095
end Go.AI


namespace Go.Proofs
open Go.Shelf
end Go.Proofs


namespace Go.AI
open Go.Proofs
end Go.AI


namespace Go.AI
open Go.Proofs
set_option maxRecDepth 20000
abbrev Vis := Int × Int × Int × Int
structure VOk {S : Type} (pr : Vis → S) (vl : List Vis) (wl : List (S × List Int)) : Prop where
 len : vl.length = wl.length
 el : ∀ (j : Nat) v, vl[j]? = some v → ∃ w, wl[j]? = some (pr v, w) ∧ ((v.2.2.1 < 0 ∧ w = []) ∨ ∃ k : Nat, v.2.2.1 = (k : Int) ∧ k < j ∧ ∃ z, wl[k]? = some z ∧ w = z.2 ++ [v.2.2.2])
end Go.AI


namespace Go.AI
open Go.Proofs
set_option maxRecDepth 20000
abbrev LS := Int × Int
def nxQ (es : List Edg) (ob : List Int) (y : LS) (ev : Int) : LS := (stp3 es y.1 ev, if ev ∈ ob then y.2 + 1 else y.2)
def okQ (ob obs : List Int) (k : Int) (ev : Int) : Bool := !decide (ev ∈ ob) || decide (obs[k.toNat]? = some ev)
def evQ (es : List Edg) (ob obs : List Int) (y : LS) : List Int := (evC es y.1).filter (okQ ob obs y.2)
def badQ (obs sts : List Int) (y : LS) : Bool := decide (y.2 = (obs.length : Int)) && decide (y.1 ∈ sts)
def zti (es : List Edg) (ob obs sts : List Int) : Option (LS × List Int) := bsr (nxQ es ob) (fun _ => true) (evQ es ob obs) (badQ obs sts) 100000 0 [(((0, 0) : LS), ([] : List Int))]
end Go.AI


namespace Go.AI
open Go.Proofs
set_option maxRecDepth 20000
def obsQ (o : Aut) (i : Int) : Option (Int × List Int) := bsr (stp3 o.edges) (fun _ => true) (evC o.edges) (fun s => decide (s = i)) 4096 0 [((0 : Int), ([] : List Int))]
def obsW (o : Aut) (i : Int) : List Int := match obsQ o i with
 | some z => z.2
 | none => []
structure tornOk (x : Sys) (a : Aut) (ps : List (Int × Int)) (o : Aut) (es : List (List Int)) : Prop where
 st : stOk x a ps
 go : gAut o es.length
 el : es.length ≤ 4095
 len : ps.length ≤ 12
 srt : ∀ est ∈ es, est.Pairwise (· < ·)
 rng : ∀ est ∈ es, est ≠ [] ∧ est.length ≤ 4096 ∧ ∀ s ∈ est, 0 ≤ s ∧ s < (ps.length : Int)
 h1 : ∀ (i : Nat) est, es[i]? = some est → (∃ z, obsQ o i = some z) ∧ (obsW o i).length ≤ 4096
 h2 : ∀ (i : Nat) est, es[i]? = some est → ∀ sts : List Int, (∀ s ∈ sts, s ∈ est) → 0 < sts.length → ∃ z, zti a.edges x.ob (obsW o i) sts = some z
end Go.AI


namespace Go.AI
open Go.Proofs
set_option maxRecDepth 20000
structure obOk (x : Sys) : Prop where
 sm : smallS x
 hx : gSys x
 h64 : x.p.states ≤ 64 ∧ x.s.states ≤ 64
 hV : (lpV x).length ≤ 4095
 hn : (lpR x).2.length ≤ 12
 tn : tornOk x (lpR x).1 (lpR x).2 (esR x).1 (esR x).2
end Go.AI


namespace Go.AI
section
variable {a : Aut} {n : Nat} {on : List Int} {V : Unf (List Int)}
structure prjU (a : Aut) (n : Nat) (on : List Int) (V : Unf (List Int)) : Prop where
 g : gAut a n
 n0 : 0 < n
 hn : n ≤ 11
 hV : prjR a on n = .ok V
 hU : UAt (zgX a) (zmW a on) (estP n) (zs4 a on n) V.sts.length V
end
end Go.AI


namespace Go.AI
open Go.Proofs
set_option maxRecDepth 20000
abbrev zmv (l : List Sta) : D := .i (.sl 2 l.length (l.map staI))
def nE : Ex := .mk 1 0 0 []
def kE (n : Int) : Ex := .mk 0 n 0 []
def nVr (high : Int) : Vr := ⟨⟨#[110]⟩, 0, high, 0⟩
end Go.AI


namespace Go.AI
open Go.Proofs
set_option maxRecDepth 20000
def back (frm : List (Int × Int)) : Nat → Int × Int → List Int
 | 0, _ => []
 | f + 1, p => if p.1 < 0 then [] else p.2 :: back frm f (frm.getD p.1.toNat (-1, -1))
structure Linked (S : Srch) : Prop where
 len : S.frm.length = S.sts.length
 frm : ∀ k (h : k < S.frm.length), S.frm[k].1 < k
 flt : S.flt.1 < S.sts.length
 most : S.sts.length ≤ 4096
end Go.AI


namespace Go.AI
open Go.Proofs
set_option maxRecDepth 20000
end Go.AI


namespace Go.AI
open Go.Proofs
set_option maxRecDepth 20000
theorem zdd (o v i : Int) : exOk (.mk o v i []) := ⟨Nat.zero_le _, trivial⟩
theorem zlw {o v i : Int} {a b : Ex} (ha : exOk a) (hb : exOk b) : exOk (.mk o v i [a, b]) := ⟨by simp [zam], ha, hb, trivial⟩
end Go.AI


namespace Go.AI
set_option maxRecDepth 20000
section
variable {h : Int} (h1 : 1 ≤ h) (h2 : h ≤ 8191)
include h1 h2
variable {k : Int} (k1 : 0 ≤ k) (k2 : k ≤ h)
omit h1 in
include k1 k2 in
include k1 k2 in
omit h1 in
include k1 k2 in
omit h1 in
include k1 k2 in
omit h1 in
include k1 k2 in
include k1 k2 in
include k1 k2 in
end
end Go.AI


namespace Go.AI
set_option maxRecDepth 20000
def cnt (n : Nat) : List Sta := (List.range n).map fun (i : Nat) => (⟨0, [(i : Int)]⟩ : Sta)
section
variable {H : Nat} (h1 : 1 ≤ H) (h2 : H ≤ 8191)
include h1 h2
end
end Go.AI


namespace Go.AI
open Go.Proofs
set_option maxRecDepth 20000
end Go.AI


namespace Go.AI
open Go.Proofs
set_option maxRecDepth 20000
end Go.AI


namespace Go.AI
open Go.Proofs
set_option maxRecDepth 20000
structure lenS (x : Sys) : Prop where
 pa : x.p.alpha.length ≤ zam
 pm : x.p.marked.length ≤ zam
 pe : x.p.edges.length ≤ zam
 sa : x.s.alpha.length ≤ zam
 sm : x.s.marked.length ≤ zam
 se : x.s.edges.length ≤ zam
 ob : x.ob.length ≤ zam
 ct : x.ct.length ≤ zam
end Go.AI


namespace Go.Proofs.YtlcekmemdnjjbaaGreatDoor
open Go.ChangeShapes Go.WideShapes Go.ChangeAt Go.RowKit
set_option maxRecDepth 100000
theorem Tryz.own : ownKnob Tryz.prog.godebug = none := by kernel_rfl
theorem powG : Tryz.prog.globalNamed "internal/strconv.uint64pow10" = some 0 := by kernel_rfl
theorem ztk : AI.zeO 0 := fun _ _ _ h => AI.zqf powG h
theorem zjh {W : World} (h : laidMetH Tryz.prog [("math/bits.deBruijn32tab", Rows.laid_math_bits_deBruijn32tab), ("math/bits.deBruijn64tab", Rows.laid_math_bits_deBruijn64tab), ("internal/strconv.uint64pow10", Rows.laid_internal_strconv_uint64pow10)] W) :
  ∃ ty fr, W.heap[0]? = some (AI.ptab ty fr) := by
 rw [MakeChecks.laidMetH_plain _ _ _ (by kernel_rfl)] at h
 have h3 := laidMet.tail (laidMet.tail h)
 have hT : Lib.TabIs Tryz.prog W "internal/strconv.uint64pow10" .u64 Lib.pow10Tab :=
  Lib.tabIs_of_head (t := 312) (e := 277) (n := 20) powG (by kernel_rfl) (by kernel_rfl) (by kernel_rfl) (by kernel_rfl) (by kernel_rfl) (rest := []) h3
 unfold Lib.TabIs World.var? at hT
 rw [powG] at hT
 simp only [Option.bind_some] at hT
 cases hc : W.heap[0]? with
 | none => rw [hc] at hT; cases hT
 | some o =>
  rw [hc] at hT
  cases o with
  | cells cs ty fr =>
   simp only [Option.some.injEq] at hT
   subst hT
   exact ⟨ty, fr, rfl⟩
  | _ => cases hT
theorem zrn {f : FuncId} {args : List AI.D} {vs : List Value} {b : Bool} {W : World} {ty : TypeId} {fr : Nat × Nat} (h0 : W.heap[0]? = some (AI.ptab ty fr))
  (hcall : ∀ a w, (callFunc f a).run Tryz.prog w = .ok (.enter f a) w) (hs : AI.zbu 0 (AI.ptab ty fr) Tryz.prog f args [] (AI.bb b) [] [])
  {K : AI.Kn} (hK : ∀ bl o x, K bl o = some x → W.cell? ⟨bl, o, none⟩ = some x) (hr : ∀ ρ sh, AI.RepDL K ρ sh vs args) :
  Calls Tryz.prog f vs.toArray W fun e W' => e = .returned (.bool b) ∧ (∀ i, i < W.heap.size → W'.heap[i]? = W.heap[i]?) ∧ W'.os = W.os ∧ W'.output = W.output := by
 let ρ : Nat → Nat → AI.Loc := fun _ _ => ⟨0, 0, none⟩
 have hobj : ∀ d n, AI.zaa [] d n = none := fun d n => by simp [AI.zaa]
 have hI : AI.HInv (AI.Env.of K ρ W) K ρ [] W :=
  ⟨hK, (fun d n ob e => absurd ((hobj d n).symm.trans e) (by simp)), (fun d n ob d' n' ob' e => absurd ((hobj d n).symm.trans e) (by simp)), Nat.le_refl _, fun _ _ _ => rfl, (fun n ob e => absurd ((hobj 0 n).symm.trans e) (by simp)), fun _ => rfl, fun _ _ _ h => h, fun _ _ _ h => .inl h, rfl, rfl, rfl⟩
 have ht : AI.TabQ 0 (AI.ptab ty fr) [] ρ W := ⟨h0, fun d n x e => by simp [AI.shape, hobj] at e⟩
 rcases hs _ K ρ W vs hI ht (hr _ _) with ⟨_, h⟩ | ⟨v, w', h, _⟩
 ·refine h.mono fun e W' => ?_
  rintro ⟨v, rfl, K', ρ', h1, h2⟩
  obtain rfl := AI.zaI h2
  refine ⟨rfl, fun i hi => h1.old i hi fun d n ob e => ?_, h1.rest.2.1, h1.rest.2.2⟩
  simp [AI.zaa] at e
 ·rw [hcall] at h
  cases h
theorem zsl {W W' : World} {P : MemPlace → Prop} (h : ∀ i, i < W.heap.size → W'.heap[i]? = W.heap[i]?) (h1 : W'.os = W.os) (h2 : W'.output = W.output) : W.keptBut W' P := by
 refine ⟨h1, h2, fun i hi => ?_⟩
 rw [h i hi]
 exact (World.keptBut_refl W P).2.2 i hi
end Go.Proofs.YtlcekmemdnjjbaaGreatDoor


namespace Go.Proofs.YtlcekmemdnjjbaaGreatDoor
open Go.ChangeShapes Go.WideShapes Go.ChangeAt Go.RowKit Go.Deep Go.WideElems
set_option maxRecDepth 100000
def KW (W : World) : AI.Kn := fun b o => W.cell? ⟨b, o, none⟩
theorem ztT (W : World) : ∀ bl o x, KW W bl o = some x → W.cell? ⟨bl, o, none⟩ = some x := fun _ _ _ h => h
section
variable {H : Type} {enc : TypeId × Value → H} {P : Program} {W : World}
def Opn (enc : TypeId × Value → H) (P : Program) (W : World) (t : TypeId) (R : List AI.I → Prop) : Prop :=
 ∀ n cs x, DataW.trod enc P W 0 (fun _ => true) true n t cs = some x → ∃ is, AI.RepL (KW W) cs is ∧ R is
theorem zhv {K : AI.Kn} {a b : List Value} {c d : List AI.I} (h : AI.RepL K a c) (h' : AI.RepL K b d) : AI.RepL K (a ++ b) (c ++ d) := h.append h'
theorem zow {t : TypeId} {k : IntKind} (ht : P.underlying t = some (.int k)) : Opn enc P W t fun is => ∃ z, is = [.v (.int k z)] ∧ (Lit.int k z).wf = true := by
 intro n cs x h
 obtain ⟨z, rfl, rfl, hw⟩ := DataW.trod_int ht h
 exact ⟨[.v (.int k z)], .cons (.v rfl) .nil, z, rfl, hw⟩
theorem zlq {K : AI.Kn} {k : IntKind} : ∀ {cs : List Value}, (∀ i, i < cs.length → ∃ z, cs[i]? = some (.int k z) ∧ (Lit.int k z).wf = true) → ∃ zs : List Int, zs.length = cs.length ∧ AI.RepL K cs (zs.map fun z => .v (.int k z)) ∧ ∀ z ∈ zs, (Lit.int k z).wf = true
 | [], _ => ⟨[], rfl, .nil, by simp⟩
 | c :: cs, h => by
  obtain ⟨z, hz, hw⟩ := h 0 (by simp)
  simp only [List.getElem?_cons_zero, Option.some.injEq] at hz
  subst hz
  obtain ⟨zs, h1, h2, h3⟩ := zlq (cs := cs) fun i hi => by
   have := h (i + 1) (by simp; omega)
   simpa using this
  exact ⟨z :: zs, by simp [h1], .cons (.v rfl) h2, fun y hy => by
   rcases List.mem_cons.1 hy with rfl | hy
   ·exact hw
   ·exact h3 y hy⟩
theorem ziy {t e : TypeId} {k : IntKind} {m : Nat} (ht : P.underlying t = some (.array m e)) (he : P.underlying e = some (.int k)) (hc : P.cellsOf e = 1) (hct : P.cellsOf t = m) :
  Opn enc P W t fun is => ∃ zs : List Int, zs.length = m ∧ is = zs.map (fun z => .v (.int k z)) ∧ ∀ z ∈ zs, (Lit.int k z).wf = true := by
 intro n cs x h
 obtain ⟨xs, f, rfl, rfl, hl, hlen, hx⟩ := DataW.trod_array ht h
 rw [hct] at hl
 obtain ⟨zs, h1, h2, h3⟩ := zlq (K := KW W) (k := k) (cs := cs) fun i hi => by
  have h0 := hx i (by omega)
  rw [hc, Nat.mul_one, List.getElem?_eq_getElem (by omega)] at h0
  obtain ⟨z, hz, _, hw⟩ := DataW.trod_int he h0
  refine ⟨z, ?_, hw⟩
  have := congrArg (fun l => l[0]?) hz
  simpa [List.getElem?_take, List.getElem?_drop] using this
 exact ⟨_, h2, zs, by omega, rfl, h3⟩
theorem zjw {t : TypeId} {f0 f1 f2 : Field} {R0 R1 R2 : List AI.I → Prop} {z0 z1 z2 : Nat} (ht : P.underlying t = some (.struct #[f0, f1, f2])) (hc : P.cellsOf t = z0 + z1 + z2)
  (c0 : P.cellsOf f0.type = z0) (c1 : P.cellsOf f1.type = z1) (c2 : P.cellsOf f2.type = z2) (o0 : f0.offset = 0) (o1 : f1.offset = z0) (o2 : f2.offset = z0 + z1)
  (h0 : Opn enc P W f0.type R0) (h1 : Opn enc P W f1.type R1) (h2 : Opn enc P W f2.type R2) : Opn enc P W t fun is => ∃ a b c, is = a ++ b ++ c ∧ R0 a ∧ R1 b ∧ R2 c := by
 intro n cs x h
 obtain ⟨y0, y1, y2, m, _, hl, g0, g1, g2⟩ := trod_struct3 ht h
 obtain ⟨a, ra, ha⟩ := h0 _ _ _ g0
 obtain ⟨b, rb, hb⟩ := h1 _ _ _ g1
 obtain ⟨c, rc, hcc⟩ := h2 _ _ _ g2
 refine ⟨a ++ b ++ c, ?_, a, b, c, rfl, ha, hb, hcc⟩
 have e : cs = (cs.drop f0.offset).take (P.cellsOf f0.type) ++ (cs.drop f1.offset).take (P.cellsOf f1.type) ++ (cs.drop f2.offset).take (P.cellsOf f2.type) := by
  rw [c0, c1, c2, o0, o1, o2, List.drop_zero]
  have e1 : (cs.drop (z0 + z1)).take z2 = cs.drop (z0 + z1) := List.take_of_length_le (by simp; omega)
  rw [e1]
  have e2 : cs.drop (z0 + z1) = (cs.drop z0).drop z1 := by rw [List.drop_drop]
  rw [e2, List.append_assoc, List.take_append_drop, List.take_append_drop]
 rw [e]
 exact zhv (zhv ra rb) rc
theorem zeN {t : TypeId} (hl : laidOutB P = true) (hr : P.readableRec t = true) (hrow : decide (t < P.types.size) = true) {W' : World} {v : Value} {d : DataW H} {ps : List MemPlace}
  (h : DataW.Trod enc P W 0 (fun _ => true) true t v d ps) (hold : ∀ i, i < W.heap.size → W'.heap[i]? = W.heap[i]?) : DataW.Trod enc P W' 0 (fun b => decide (b < W.heap.size)) true t v d ps := by
 have hlt : ∀ p ∈ ps, p.block < W.heap.size := by
  obtain ⟨n, hn⟩ := h
  exact DataW.trod_lt n t _ _ hn
 refine Trod_stays hl hr (of_decide_eq_true hrow) h (fun p hp => ?_) (fun p hp => decide_eq_true (hlt p hp))
 have hb := hlt p hp
 cases p with
 | cell b off =>
  show W'.cell? ⟨b, off, none⟩ = W.cell? ⟨b, off, none⟩
  unfold World.cell?
  rw [hold b hb]
 | map b => exact hold b hb
end
end Go.Proofs.YtlcekmemdnjjbaaGreatDoor


namespace Go.Proofs.YtlcekmemdnjjbaaGreatDoor
open Go.ChangeShapes Go.WideShapes Go.ChangeAt Go.RowKit Go.Deep Go.WideElems
set_option maxRecDepth 100000
section
variable {H : Type} {enc : TypeId × Value → H} {W : World}
theorem wf_u8 {z : Int} (h : (Lit.int .u8 z).wf = true) : 0 ≤ z ∧ z ≤ 255 := by
 simp only [Lit.wf, Bool.and_eq_true, decide_eq_true_eq] at h
 have e1 : IntKind.u8.min = 0 := rfl
 have e2 : IntKind.u8.max = 255 := rfl
 rw [e1, e2] at h
 exact h
structure autLen (x : AI.Aut) : Prop where
 e : x.edges.length ≤ AI.zam
 a : x.alpha.length ≤ AI.zam
 m : x.marked.length ≤ AI.zam
end
end Go.Proofs.YtlcekmemdnjjbaaGreatDoor


namespace Go.Proofs.YtlcekmemdnjjbaaGreatDoor
open Go.ChangeShapes Go.WideShapes Go.ChangeAt Go.RowKit Go.Deep Go.WideElems
set_option maxRecDepth 100000
section
variable {H : Type} {enc : TypeId × Value → H} {W : World}
end
end Go.Proofs.YtlcekmemdnjjbaaGreatDoor


namespace Go.AI
open Go.Proofs
set_option maxRecDepth 20000
end Go.AI


namespace Go.AI
open Go.Proofs
set_option maxRecDepth 20000
end Go.AI


namespace Go.AI
abbrev zjL (gs : Int) (gt : Nat → Int) : Prop := 0 ≤ gs ∧ ∀ j, 0 ≤ gt j ∧ gt j ≤ 255
open Go.Proofs
set_option maxRecDepth 20000
structure Sk where
 st : Int
 ps : Int
 pm : Int
 pt : Nat → Int
 ss : Int
 sm : Int
 t2 : Nat → Int
 ob : Int
 ct : Int
structure skOkB (x : Sk) : Prop where
 p : zjL x.ps x.pt
 s : zjL x.ss x.t2
end Go.AI


namespace Go.AI
open Go.Proofs
set_option maxRecDepth 20000
end Go.AI


namespace Go.AI
open Go.Proofs
set_option maxRecDepth 20000
end Go.AI


namespace Go.AI
open Go.Proofs
set_option maxRecDepth 20000
theorem zd6 {s : List Int} {gs gm : Int} {gt : Nat → Int} (hs : s.Pairwise (· < ·)) (hr : ∀ x ∈ s, 0 ≤ x ∧ x < 32) (hsl : s.length ≤ 5) (hg : ∀ j, 0 ≤ gt j ∧ gt j ≤ 255) :
  chkA (mkA s gs gm gt) = 0 ∧ smallA (mkA s gs gm gt) ∧ (mkA s gs gm gt).states ≤ 5 ∧ (mkA s gs gm gt).alpha = s := by
 obtain ⟨_, ⟨n, hn, h⟩, h3⟩ := ziB (gs := gs) (gm := gm) hs hr hsl hg
 exact ⟨h.c, h.sm, by rw [h.st]; omega, h3⟩
end Go.AI


namespace Go.AI
open Go.Proofs
set_option maxRecDepth 20000
end Go.AI


namespace Go.AI
section
variable {c : Cx} {s : St} {H : Heap} {O : List Heap}
end
end Go.AI


namespace Go.AI
open Go.Proofs
set_option maxRecDepth 20000
end Go.AI


namespace Go.AI
open Go.Proofs
set_option maxRecDepth 20000
end Go.AI


namespace Go.Proofs.YtlcekmemdnjjbaaGreatDoor
open Go.ChangeShapes Go.WideShapes Go.ChangeAt Go.RowKit Go.Deep Go.WideElems
set_option maxRecDepth 100000
section
variable {H : Type} {enc : TypeId × Value → H} {P : Program} {W : World}
theorem zeT {r : Reach} {b0 n : Nat} {t e : TypeId} {v : Value} (ht : P.underlying t = some (.array n e)) (h : Value.okWide P W r b0 t v) : ∃ cs, v = .agg cs := by
 simp only [Value.okWide, ht] at h
 obtain ⟨cs, rfl, _⟩ := h
 exact ⟨cs, rfl⟩
theorem zgQ {t e : TypeId} {m z : Nat} {R : List AI.I → Prop} (ht : P.underlying t = some (.array m e)) (hc : P.cellsOf e = z) (hct : P.cellsOf t = m * z) (he : Opn enc P W e R) :
  Opn enc P W t fun is => ∃ xs : List (List AI.I), xs.length = m ∧ is = xs.flatten ∧ ∀ x ∈ xs, R x := by
 intro n cs x h
 obtain ⟨xs, f, rfl, rfl, hl, hlen, hx⟩ := DataW.trod_array ht h
 rw [hct] at hl
 have build : ∀ k, k ≤ m → ∃ ys : List (List AI.I), ys.length = k ∧ AI.RepL (KW W) (cs.take (k * z)) ys.flatten ∧ ∀ y ∈ ys, R y := by
  intro k
  induction k with
  | zero => intro _; exact ⟨[], rfl, by rw [Nat.zero_mul, List.take_zero]; exact .nil, by simp⟩
  | succ k ih =>
   intro hk
   obtain ⟨ys, h1, h2, h3⟩ := ih (by omega)
   have h0 := hx k (by omega)
   rw [hc, List.getElem?_eq_getElem (by omega)] at h0
   obtain ⟨is, hr, hR⟩ := he _ _ _ h0
   refine ⟨ys ++ [is], by simp [h1], ?_, fun y hy => ?_⟩
   ·rw [Nat.succ_mul, List.take_add, List.flatten_append]
    simpa using zhv h2 hr
   ·rcases List.mem_append.1 hy with hy | hy
    ·exact h3 y hy
    ·rw [List.mem_singleton] at hy
     subst hy
     exact hR
 obtain ⟨ys, h1, h2, h3⟩ := build m (Nat.le_refl _)
 rw [List.take_of_length_le (by omega)] at h2
 exact ⟨_, h2, ys, h1, rfl, h3⟩
theorem zoY : ∀ {xs : List (List AI.I)}, (∀ x ∈ xs, ∃ zs : List Int, zs.length = 5 ∧ x = zs.map (fun z => AI.I.v (.int .u8 z)) ∧ ∀ z ∈ zs, (Lit.int .u8 z).wf = true) → ∃ L : List Int, L.length = 5 * xs.length ∧ xs.flatten = L.map (fun z => AI.I.v (.int .u8 z)) ∧ ∀ z ∈ L, 0 ≤ z ∧ z ≤ 255
 | [], _ => ⟨[], rfl, rfl, by simp⟩
 | x :: r, h => by
  obtain ⟨zs, h1, h2, h3⟩ := h x (by simp)
  obtain ⟨L, g1, g2, g3⟩ := zoY (xs := r) fun y hy => h y (by simp [hy])
  refine ⟨zs ++ L, by rw [List.length_append, h1, g1, List.length_cons]; omega, by rw [List.flatten_cons, h2, g2, List.map_append], fun z hz => ?_⟩
  rcases List.mem_append.1 hz with hz | hz
  ·exact wf_u8 (h3 z hz)
  ·exact g3 z hz
end
section
variable {H : Type} {enc : TypeId × Value → H} {W : World}
abbrev u8V (z : Int) : AI.I := AI.I.v (.int .u8 z)
theorem zox : Opn enc Tryz.prog W 26 fun is => ∃ (x y : Int) (L : List Int), is = [u8V x, u8V y] ++ L.map u8V ∧ 0 ≤ x ∧ L.length = 25 ∧ ∀ z ∈ L, 0 ≤ z ∧ z ≤ 255 := by
 intro n cs y hn
 obtain ⟨is, hr, a, b, c, rfl, ⟨x, rfl, hx⟩, ⟨y, rfl, _⟩, ⟨xs, h5, rfl, hxs⟩⟩ := zjw Tryz.underlying26 (z0 := 1) (z1 := 1) (z2 := 25) (by kernel_rfl) (by kernel_rfl) (by kernel_rfl) (by kernel_rfl) rfl rfl rfl
  (zow Tryz.underlying5) (zow Tryz.underlying5) (zgQ Tryz.underlying24 (z := 5) (by kernel_rfl) (by kernel_rfl) (ziy Tryz.underlying23 Tryz.underlying5 (by kernel_rfl) (by kernel_rfl))) n _ _ hn
 obtain ⟨L, g1, g2, g3⟩ := zoY hxs
 rw [h5] at g1
 rw [g2] at hr
 exact ⟨_, hr, x, y, L, rfl, (wf_u8 hx).1, g1, g3⟩
theorem zjM {L : List Int} (h : ∀ z ∈ L, 0 ≤ z ∧ z ≤ 255) (j : Nat) : 0 ≤ L.getD j 0 ∧ L.getD j 0 ≤ 255 := by
 rw [List.getD_eq_getElem?_getD]
 cases hj : L[j]? with
 | none => exact ⟨by decide, by decide⟩
 | some z => exact h z (List.mem_of_getElem? hj)
end
end Go.Proofs.YtlcekmemdnjjbaaGreatDoor


namespace Go.Proofs.YtlcekmemdnjjbaaGreatDoor
open Go.ChangeShapes Go.WideShapes Go.ChangeAt Go.RowKit Go.Deep Go.WideElems
set_option maxRecDepth 100000
section
variable {H : Type} {enc : TypeId × Value → H} {W : World}
end
end Go.Proofs.YtlcekmemdnjjbaaGreatDoor


namespace Go.AI
open Go.Proofs
set_option maxRecDepth 20000
structure byt (b : Int) : Prop where
 h0 : 0 ≤ b
 h1 : b ≤ 255
end Go.AI


namespace Go.AI
open Go.Proofs
set_option maxRecDepth 20000
def zpt (m : Ext) : Sta × Int := if chk m ≠ 0 then (zfr, chk m) else (zcY m, 0)
theorem zsE (O : List Heap) (m : Ext) (hok : extOk m) : zan Tryz.prog 118 [extD m] O (.tup [staD (zpt m).1, ii (zpt m).2]) [] O := by
 have hv : chk m = 0 → m.vars.length ≤ 16 := by
  intro h
  by_cases h2 : m.vars.length ≤ 16
  ·exact h2
  ·exfalso
   have e : zbT m.vars = 3 := by
    unfold zbT
    rw [if_pos (by omega)]
   unfold chk at h
   rw [e] at h
   revert h
   repeat' split
   all_goals omega
 generalize hR : zpt m = R
 unfold zpt at hR
 refine zac Tk Tryz.func118 rfl Tryz.call118 Tryz.ntmps118 (Nat.le_of_ble_eq_true rfl) fun E => ?_
 refine zaf Tk Tryz.func118 ?_
 refine zaj Tk Tryz.func118 (zh6 _ m hok) rfl rfl rfl rfl rfl ?_
 refine zae Tk Tryz.func118 rfl (fun h1 => ?_) (fun h1 => ?_)
 ·have h1 := bneT h1
  rw [if_pos h1] at hR
  subst hR
  refine zao Tk (r := _) rfl rfl rfl trivial rfl rfl ?_
  repeat' (first | refine zbK ?_ | refine zbZ ?_ | refine zbY ?_ | refine CoDL.cons ?_ ?_ | exact CoDL.nil | exact zaW | refine zeY ?_ | refine CoLL.cons ?_ ?_ | exact CoLL.nil | refine CoL.cons ?_ ?_ | exact CoL.nil | exact CoI.refl _ | exact CoL.refl _ | exact CoLL.refl _ | exact CoDL.refl _ | exact CoD.refl _)
 have h1 := bneF h1
 rw [if_neg (by simpa using h1)] at hR
 subst hR
 refine zaj Tk Tryz.func118 (zrZ _ m (hv (by simpa using h1))) rfl rfl rfl rfl rfl ?_
 refine zai Tk (r := .tup [staD (zcY m), ii 0]) rfl rfl rfl trivial rfl rfl ?_
 rfl
end Go.AI


namespace Go.AI
open Go.Proofs
set_option maxRecDepth 20000
def ckS (m : Ext) (s : Sta) : Int :=
 if chk m ≠ 0 then chk m else if s.loc < 0 ∨ s.loc ≥ m.locs then 2 else if s.vals.length ≠ m.vars.length then 4 else if within m.vars s.vals = false then 2 else 0
theorem ze0 (O : List Heap) (m : Ext) (s : Sta) (hok : extOk m) : zan Tryz.prog 125 [extD m, staD s] O (ii (ckS m s)) [] O := by
 generalize hR : ckS m s = R
 unfold ckS at hR
 obtain ⟨sl, sv⟩ := s
 simp only at hR
 have hw := fun O => zp6 O m.vars sv hok.va
 generalize within m.vars sv = W at hw hR
 refine zac Tk Tryz.func125 rfl Tryz.call125 Tryz.ntmps125 (Nat.le_of_ble_eq_true rfl) fun E => ?_
 refine zaf Tk Tryz.func125 ?_
 refine zaj Tk Tryz.func125 (zh6 _ m hok) rfl rfl rfl rfl rfl ?_
 refine zae Tk Tryz.func125 rfl (fun h1 => ?_) (fun h1 => ?_)
 ·have h1 := bneT h1
  rw [if_pos h1] at hR
  refine zai Tk (r := ii (chk m)) rfl rfl rfl trivial rfl rfl ?_
  exact congrArg ii hR
 have h1 := bneF h1
 rw [if_neg (by simpa using h1)] at hR
 refine zaF Tk Tryz.func125 rfl (fun h2 => ?_) (fun h2 => ?_)
 ·have h2 : sl < 0 := by simpa using h2
  rw [if_pos (.inl h2)] at hR
  refine gcT Tk Tryz.func125 rfl ?_
  refine zai Tk (r := ii 2) rfl rfl rfl trivial rfl rfl ?_
  exact congrArg ii hR
 have h2 : ¬ sl < 0 := by simpa using h2
 refine zae Tk Tryz.func125 rfl (fun h3 => ?_) (fun h3 => ?_)
 ·have h3 : m.locs ≤ sl := by simpa using h3
  rw [if_pos (.inr h3)] at hR
  refine zai Tk (r := ii 2) rfl rfl rfl trivial rfl rfl ?_
  exact congrArg ii hR
 have h3 : ¬ m.locs ≤ sl := by simpa using h3
 rw [if_neg (by rintro (h | h); exact h2 h; exact h3 h)] at hR
 refine zae Tk Tryz.func125 rfl (fun h4 => ?_) (fun h4 => ?_)
 ·have h4 := bneT h4
  rw [if_pos (by intro e; exact h4 (by rw [e]))] at hR
  refine zai Tk (r := ii 4) rfl rfl rfl trivial rfl rfl ?_
  exact congrArg ii hR
 have h4 := bneF h4
 have h4 : sv.length = m.vars.length := by
  have : ((sv.length : Nat) : Int) = m.vars.length := by simpa using h4
  omega
 rw [if_neg (by rw [h4]; simp)] at hR
 refine zaj Tk Tryz.func125 (hw _) rfl rfl rfl rfl rfl ?_
 cases W with
 | false =>
  refine gcT Tk Tryz.func125 rfl ?_
  refine zai Tk (r := ii 2) rfl rfl rfl trivial rfl rfl ?_
  exact congrArg ii hR
 | true =>
  refine gcF Tk Tryz.func125 rfl ?_
  refine zai Tk (r := ii 0) rfl rfl rfl trivial rfl rfl ?_
  exact congrArg ii hR
end Go.AI


namespace Go.AI
open Go.Proofs
set_option maxRecDepth 20000
def stpR (m : Ext) (s : Sta) (ev : Int) : Sta × Bool × Int := if ckS m s ≠ 0 then (zfr, false, ckS m s) else if ev ∉ m.alpha then (zfr, false, 9) else zfy m s ev
theorem zpj {m : Ext} {s : Sta} (h : ckS m s = 0) : chk m = 0 ∧ s.vals.length = m.vars.length ∧ within m.vars s.vals = true ∧ 0 ≤ s.loc ∧ s.loc < m.locs := by
 unfold ckS at h
 by_cases h1 : chk m ≠ 0
 ·rw [if_pos h1] at h; exact absurd h h1
 rw [if_neg h1] at h
 by_cases h2 : s.loc < 0 ∨ s.loc ≥ m.locs
 ·rw [if_pos h2] at h; cases h
 rw [if_neg h2] at h
 by_cases h3 : s.vals.length ≠ m.vars.length
 ·rw [if_pos h3] at h; cases h
 rw [if_neg h3] at h
 by_cases h4 : within m.vars s.vals = false
 ·rw [if_pos h4] at h; cases h
 exact ⟨by simpa using h1, by simpa using h3, by simpa using h4, by omega, by omega⟩
theorem zsR (O : List Heap) (m : Ext) (s : Sta) (ev : Int) (hok : extOk m) : zan Tryz.prog 121 [extD m, staD s, ii ev] O (.tup [staD (stpR m s ev).1, bb (stpR m s ev).2.1, ii (stpR m s ev).2.2]) [] O := by
 have hck := fun O => ze0 O m s hok
 have hs := @zpj m s
 have hst := fun O hr hl => zsP O m s ev hok hr hl
 generalize hR : stpR m s ev = R
 unfold stpR at hR
 generalize ckS m s = c at *
 refine zac Tk Tryz.func121 rfl Tryz.call121 Tryz.ntmps121 (Nat.le_of_ble_eq_true rfl) fun E => ?_
 refine zaf Tk Tryz.func121 ?_
 refine zaj Tk Tryz.func121 (hck _) rfl rfl rfl rfl rfl ?_
 refine zae Tk Tryz.func121 rfl (fun h1 => ?_) (fun h1 => ?_)
 ·have h1 := bneT h1
  rw [if_pos h1] at hR
  subst hR
  refine zao Tk (r := _) rfl rfl rfl trivial rfl rfl ?_
  exact coZ
 have h1 := bneF h1
 rw [if_neg (by simpa using h1)] at hR
 obtain ⟨h2, h3, -⟩ := hs h1
 have hr := zgk h2
 refine zaj Tk Tryz.func121 (zdu _ m.alpha ev hok.al (zaD hr.alpha).1) rfl rfl rfl rfl rfl ?_
 refine zae Tk Tryz.func121 rfl (fun h4 => ?_) (fun h4 => ?_)
 ·have h4 : ev ∉ m.alpha := by simpa using h4
  rw [if_pos h4] at hR
  subst hR
  refine zao Tk (r := _) rfl rfl rfl trivial rfl rfl ?_
  exact coZ
 have h4 : ev ∈ m.alpha := by simpa using h4
 rw [if_neg (by simpa using h4)] at hR
 subst hR
 have hst := fun O => hst O hr h3
 generalize zfy m s ev = n at *
 obtain ⟨⟨nl, nv⟩, np, ne⟩ := n
 refine zaj Tk Tryz.func121 (hst _) rfl rfl rfl rfl rfl ?_
 refine zai Tk (r := .tup [staD ⟨nl, nv⟩, bb np, ii ne]) rfl rfl rfl trivial rfl rfl ?_
 rfl
end Go.AI


namespace Go.AI
open Go.Proofs
set_option maxRecDepth 20000
theorem zer {n : Int} : ∀ {l : List Int} {y : Int}, zal n l (some y) = 0 → y + 1 ≤ n → (l.length : Int) ≤ n - 1 - y
 | [], y, _, h => by simp only [List.length_nil]; omega
 | x :: r, y, h, hy => by
  simp only [zal] at h
  by_cases h1 : x < 0 ∨ x ≥ n
  ·rw [if_pos h1] at h; exact absurd h (by decide)
  rw [if_neg h1] at h
  by_cases h2 : (some y).any (x ≤ ·) = true
  ·rw [if_pos h2] at h; exact absurd h (by decide)
  rw [if_neg h2] at h
  have hxy : y < x := by simpa using h2
  have := zer h (by omega)
  simp only [List.length_cons]
  omega
theorem zeq {n : Int} (hn : 0 ≤ n) : ∀ {l : List Int}, zal n l none = 0 → (l.length : Int) ≤ n
 | [], _ => by simpa using hn
 | x :: r, h => by
  simp only [zal] at h
  by_cases h1 : x < 0 ∨ x ≥ n
  ·rw [if_pos h1] at h; exact absurd h (by decide)
  rw [if_neg h1] at h
  have h' : zal n r (some x) = 0 := by simpa using h
  have := zer h' (by omega)
  simp only [List.length_cons]
  omega
end Go.AI


namespace Go.AI
open Go.Proofs
set_option maxRecDepth 20000
def zs2 (lo hi : Int) : List Int := (List.range (hi - lo + 1).toNat).map fun (k : Nat) => lo + k
def zsF (out : List (List Int)) (v : Vr) : List (List Int) := out.flatMap fun vals => (zs2 v.low v.high).map fun n => vals ++ [n]
def allV (l : List Vr) : List (List Int) := l.foldl zsF [[]]
end Go.AI


namespace Go.AI
set_option maxRecDepth 20000
structure Bx where
 low : List Int
 high : List Int
end Go.AI


namespace Go.AI
set_option maxRecDepth 20000
def inV : List Vr → List Int → Prop
 | [], [] => True
 | v :: r, x :: xs => (v.low ≤ x ∧ x ≤ v.high) ∧ inV r xs
 | _, _ => False
end Go.AI


namespace Go.AI
set_option maxRecDepth 20000
structure DomOk (l : List Vr) (out : List (List Int)) : Prop where
 mem : ∀ v, v ∈ out ↔ inV l v
 nd : out.Nodup
end Go.AI


namespace Go.AI
open Go.Proofs
set_option maxRecDepth 20000
end Go.AI


namespace Go.AI
open Go.Proofs
set_option maxRecDepth 20000
theorem zfF (O : List Heap) (a b : List Int) (ha : a.length ≤ zam) : zan Tryz.prog 35 [ints a, ints b] O (bb (decide (a = b))) [] O := by
 refine zac Tk Tryz.func35 rfl Tryz.call35 Tryz.ntmps35 (Nat.le_of_ble_eq_true rfl) fun E => ?_
 refine zaf Tk Tryz.func35 ?_
 refine zae Tk Tryz.func35 rfl (fun h1 => ?_) (fun h1 => ?_)
 ·have h1 := bneT h1
  rw [decide_eq_false fun e => h1 (by rw [e])]
  refine zai Tk (r := bb false) rfl rfl rfl trivial rfl rfl ?_
  rfl
 have h1 := bneF h1
 have hlen : a.length = b.length := by
  have : ((a.length : Nat) : Int) = b.length := by simpa using h1
  omega
 refine zad ?_
 refine zag (fun i : Nat => [(0, ints a), (1, ints b), (5, ii i)]) (fun _ => []) (fun _ => O) 26
  (fun i => i ≤ a.length ∧ ∀ (j : Nat) (h : j < a.length), j < i → a[j] = b[j]'(by omega)) (fun i => a.length - i) 0 ⟨Nat.zero_le _, fun j _ h => by omega⟩ ⟨rfl, rfl, rfl, trivial⟩ rfl trivial rfl rfl ?_
 rintro i ⟨hi, hno⟩ ih
 refine zaf Tk Tryz.func35 ?_
 refine zae Tk Tryz.func35 rfl (fun h2 => ?_) (fun h2 => ?_)
 ·have h2 : i < a.length := by simpa using h2
  have ga : (a.map fun x => [vi x])[(i : Int).toNat]? = some [(fun x => vi x) a[i]] := zah (f := fun x => [vi x]) h2
  have gb : (b.map fun x => [vi x])[(i : Int).toNat]? = some [(fun x => vi x) (b[i]'(by omega))] := zah (f := fun x => [vi x]) (by omega)
  have hne : a[i] ≠ b[i]'(by omega) → a ≠ b := fun h e => by subst e; exact h rfl
  have hstep : a[i] = b[i]'(by omega) → ∀ (j : Nat) (h : j < a.length), j < i + 1 → a[j] = b[j]'(by omega) := fun h j hj hji => by
   by_cases e : j = i
   ·subst e; exact h
   ·exact hno j hj (by omega)
  generalize a[i] = x at *
  generalize b[i]'(by omega) = y at *
  refine zaq Tk Tryz.func35 zay rfl ?_
  refine zat Tk (by exact ⟨by omega, by show (i : Int) < (a.length : Int); omega⟩) ?_
  refine zaA Tk (ga) ?_
  refine zat Tk (by exact ⟨by omega, by show (i : Int) < (b.length : Int); omega⟩) ?_
  refine zaA Tk (gb) ?_
  refine zav Tk Tryz.func35 (by kernel_rfl) ?_
  refine zae Tk Tryz.func35 rfl (fun h3 => ?_) (fun h3 => ?_)
  ·have h3 : x ≠ y := by simpa using h3
   rw [decide_eq_false (hne h3)]
   refine zai Tk (r := bb false) rfl rfl rfl trivial rfl rfl ?_
   rfl
  ·have h3 : x = y := by simpa using h3
   refine zad ?_
   exact ih (i + 1) _ _ ⟨h2, hstep h3⟩ (by omega) ⟨rfl, rfl, congrArg ii (zaB h2 ha), trivial⟩ rfl trivial rfl rfl
 ·have h2 : a.length ≤ i := by simpa using h2
  have : a = b := List.ext_getElem hlen fun j h h' => hno j h (by omega)
  rw [decide_eq_true this]
  refine zai Tk (r := bb true) rfl rfl rfl trivial rfl rfl ?_
  rfl
end Go.AI


namespace Go.AI
open Go.Proofs
set_option maxRecDepth 20000
structure domOk (l : List Vr) : Prop where
 len : l.length ≤ 16
 b : ∀ v ∈ l, (-65536 ≤ v.low ∧ v.high ≤ 65536) ∧ v.low ≤ v.high
 cnt : ∀ j, (allV (l.take j)).length ≤ 4096
end Go.AI


namespace Go.AI
open Go.Proofs
set_option maxRecDepth 20000
end Go.AI


namespace Go.AI
open Go.Proofs
set_option maxRecDepth 20000
structure valsB (l : List Vr) (dom : List (List Int)) : Prop where
 vb : ∀ a ∈ l, -65536 ≤ a.low ∧ a.high ≤ 65536
 ll : l.length ≤ 16
 len : dom.length ≤ 4096
 vl : ∀ v ∈ dom, v.length = l.length
 b : ∀ v ∈ dom, ∀ j, -65536 ≤ v.getD j 0 ∧ v.getD j 0 ≤ 65536
end Go.AI


namespace Go.AI
open Go.Proofs
set_option maxRecDepth 20000
abbrev obyJ (T : List UInt8) : Ob := .arr 5 1 T.length (u8l T) true
theorem zli (T s : List UInt8) : Ob.arr 5 1 (T.length + s.length) (u8l T ++ u8l s) true = obyJ (T ++ s) := by rw [znT]; simp [obyJ]
theorem zif (K : Kn) (s : ByteArray) : RepL K (Lib.strCells s) (u8l s.data.toList).flatten := zfv K s.data.toList
theorem zew (s : ByteArray) : s.data.toList.length = s.size := by rw [Array.length_toList]; rfl
theorem zrc {c : Cx} (hP : c.P = Tryz.prog) {s : St} {o : Oper} {t nm nm2 : Nat} {dp : D} {H : Heap} {O : List Heap} (sb : ByteArray) (T : List UInt8) (hdp : dp = .i (.v (.pointer none)) ∨ dp = .own 0 nm 0 0) (hlim : T.length + sb.size ≤ 140737488355328) (ht : o.dst = some t) (hn : t < s.n) (hS : s.S = H :: O)
  (hb : look H nm = some (.tb 217 [dp, .osl 0 nm2])) (ha : look H nm2 = some (obyJ T)) (hne : nm ≠ nm2) :
  Wp c o s 133 [.own 0 nm 0 0, .i (.v (.string sb))] { σ := (t, .tup [ii sb.size, .i (.v .nilIface)]) :: zdy nm2 s.σ, S := ((nm, .tb 217 [.own 0 nm 0 0, .osl 0 nm2]) :: (nm2, obyJ (T ++ sb.data.toList)) :: zbp nm2 ((nm, .tb 217 [.own 0 nm 0 0, .osl 0 nm2]) :: H)) :: O, n := s.n } := by
 have h := zdt (c := c) (s := s) (o := o) (ys := u8l sb.data.toList) (m := sb.data.toList.length) (T := 217) (ty := 5) (rd := .tup [ii sb.size, .i (.v .nilIface)]) (dx := .i (.v (.string sb))) (x := .string sb) (res := .tuple #[.int .i64 sb.size, .nilIface]) (xs := u8l T) (n := T.length) (by rw [hP]; exact znG sb) (by rw [hP]; exact Tryz.call133)
  (fun K ρ sh v h => zaI h) (fun K ρ sh => .tup (.cons (.i (.v rfl)) (.cons (.i (.v rfl)) .nil))) hdp ht hn hS hb ha hne (fun K => zif K sb) (zk0 _) (by simp [u8l]) (by rw [zew]; exact hlim)
 rwa [zli] at h
theorem zrd {c : Cx} (hP : c.P = Tryz.prog) {s : St} {o : Oper} {t nm nm2 : Nat} {dp : D} {H : Heap} {O : List Heap} {T : List UInt8} (h0 : T ≠ []) (ht : o.dst = some t) (hn : t < s.n) (hS : s.S = H :: O)
  (hb : look H nm = some (.tb 217 [dp, .osl 0 nm2])) (ha : look H nm2 = some (obyJ T)) :
  Wp c o s 136 [.own 0 nm 0 0] { σ := (t, .i (.v (.string ⟨T.toArray⟩))) :: zdy nm2 s.σ, S := ((nm2, .arr 5 1 0 [] true) :: zbp nm2 H) :: O, n := s.n } :=
 zi1 (c := c) (s := s) (o := o) (T := 217) (ty := 5) (by rw [hP]; exact zn1) (by rw [hP]; exact Tryz.call136) h0 ht hn hS hb ha
end Go.AI


namespace Go.AI
open Go.Proofs
set_option maxRecDepth 20000
theorem zlA {c : Cx} (hP : c.P = Tryz.prog) {s : St} {o : Oper} {t nm nm2 : Nat} {dp : D} {H : Heap} {O : List Heap} (b : UInt8) (T : List UInt8) (hdp : dp = .i (.v (.pointer none)) ∨ dp = .own 0 nm 0 0) (hlim : T.length + 1 ≤ 140737488355328) (ht : o.dst = some t) (hn : t < s.n) (hS : s.S = H :: O)
  (hb : look H nm = some (.tb 217 [dp, .osl 0 nm2])) (ha : look H nm2 = some (obyJ T)) (hne : nm ≠ nm2) :
  Wp c o s 135 [.own 0 nm 0 0, .i (.v (.int .u8 b.toNat))] { σ := (t, .i (.v .nilIface)) :: zdy nm2 s.σ, S := ((nm, .tb 217 [.own 0 nm 0 0, .osl 0 nm2]) :: (nm2, obyJ (T ++ [b])) :: zbp nm2 ((nm, .tb 217 [.own 0 nm 0 0, .osl 0 nm2]) :: H)) :: O, n := s.n } := by
 have h := zdt (c := c) (s := s) (o := o) (ys := u8l [b]) (m := 1) (T := 217) (ty := 5) (rd := .i (.v .nilIface)) (dx := .i (.v (.int .u8 b.toNat))) (x := .int .u8 b.toNat) (res := .nilIface) (xs := u8l T) (n := T.length) (by rw [hP]; exact zkV b.toNat) (by rw [hP]; exact Tryz.call135)
  (fun K ρ sh v h => zaI h) (fun K ρ sh => .i (.v rfl)) hdp ht hn hS hb ha hne (fun K => zfv K [b]) (zk0 _) (by simp [u8l]) hlim
 rwa [show T.length + 1 = T.length + [b].length from rfl, zli] at h
def ze9 : List UInt8 → List Int → List UInt8
 | T, [] => T
 | T, n :: r => ze9 (T ++ (zhM n).data.toList ++ [32]) r
def zeb : List UInt8 → List (List Int) → List UInt8
 | T, [] => T
 | T, l :: r => zeb (ze9 T l ++ [59]) r
def zej (ls : List (List Int)) : ByteArray := ⟨(zeb [] ls).toArray⟩
abbrev dp3J (p : Bool) : D := bif p then .own 0 3 0 0 else .i (.v (.pointer none))
theorem zph (p : Bool) : dp3J p = .i (.v (.pointer none)) ∨ dp3J p = .own 0 3 0 0 := by cases p; exact .inl rfl; exact .inr rfl
set_option maxHeartbeats 4000000 in
theorem zrD {g : Nat} (hg : zeO g) {ty : TypeId} {fr : Nat × Nat} (O : List Heap) (ls : List (List Int)) (h0 : ls ≠ []) (hn : ls.length ≤ 4096) (hl : ∀ l ∈ ls, l.length ≤ 4096 ∧ ∀ v ∈ l, i64B v) :
  zbu g (ptab ty fr) Tryz.prog 86 [.i (zoL ls)] O (.i (.v (.string (zej ls)))) [] O := by
 have hno : zej ls = ⟨(zeb [] (ls.drop 0)).toArray⟩ := rfl
 have hpos : 0 < ls.length := List.length_pos_iff.2 h0
 generalize zej ls = R at *
 refine zaO [200003, 200022, 200023, 200025, 200027] Tk Tryz.func86 rfl Tryz.call86 Tryz.ntmps86 (Nat.le_of_ble_eq_true rfl) fun E hE => ?_
 refine zaf Tk Tryz.func86 ?_
 refine g_tb Tk Tryz.func86 rfl rfl rfl rfl rfl rfl rfl rfl ?_
 refine zad ?_
 refine zaw (zkX 3 60 5 1 rfl rfl rfl) ?_
 refine zag (fun x : Nat × List UInt8 × Bool => [(3, .own 0 3 0 0), (8, .i (zoL ls)), (9, ii ls.length), (10, ii x.1)]) (fun x => [(3, .tb 217 [dp3J x.2.2, .osl 0 60]), (60, obyJ x.2.1)]) (fun _ => O) 28
  (fun x => x.1 ≤ ls.length ∧ x.2.1.length ≤ 100000 * x.1 ∧ (x.1 = 0 ∨ x.2.1 ≠ []) ∧ R = ⟨(zeb x.2.1 (ls.drop x.1)).toArray⟩) (fun x => ls.length - x.1) (0, [], false)
  ⟨Nat.zero_le _, by simp, .inl rfl, hno⟩ ⟨rfl, rfl, rfl, rfl, trivial⟩ rfl ⟨rfl, rfl, trivial⟩ rfl rfl ?_
 clear hno
 rintro ⟨i, T, p⟩ ⟨hi, hTl, hT0, hno⟩ ih
 simp only at hi hTl hT0 hno
 refine zaf Tk Tryz.func86 ?_
 refine zae Tk Tryz.func86 rfl (fun g1 => ?_) (fun g1 => ?_)
 ·have h2 : i < ls.length := by simpa using g1
  clear g1
  have gb : (ls.map fun x => [zb2 x])[(i : Int).toNat]? = some [zb2 ls[i]] := zah (f := fun x => [zb2 x]) h2
  have db : ls.drop i = ls[i] :: ls.drop (i + 1) := List.drop_eq_getElem_cons h2
  have hll := hl _ (List.getElem_mem h2)
  rw [db] at hno
  simp only [zeb] at hno
  clear db
  generalize ls[i] = l at *
  have hi1 : ii (IntKind.i64.wrap ((i : Int) + 1)) = ii ((i + 1 : Nat) : Int) := congrArg ii (zaB (n := 4096) (by omega) (by decide))
  refine zak Tk Tryz.func86 (by exact ⟨by omega, by show (i : Int) < (ls.length : Int); omega⟩) ?_
  refine zar Tk Tryz.func86 (gb) ?_
  have hF0 : ze9 T l = ze9 T (l.drop 0) := rfl
  generalize ze9 T l = F at *
  refine zad ?_
  refine zag (fun x : Nat × List UInt8 × Bool => [(3, .own 0 3 0 0), (8, .i (zoL ls)), (9, ii ls.length), (10, ii i), (14, ints l), (15, ii l.length), (16, ii x.1)]) (fun x => [(3, .tb 217 [dp3J x.2.2, .osl 0 60]), (60, obyJ x.2.1)]) (fun _ => O) 28
   (fun x => x.1 ≤ l.length ∧ x.2.1.length ≤ T.length + 22 * x.1 ∧ F = ze9 x.2.1 (l.drop x.1)) (fun x => l.length - x.1) (0, T, p)
   ⟨Nat.zero_le _, by simp, hF0⟩ ⟨rfl, rfl, rfl, rfl, rfl, rfl, rfl, trivial⟩ rfl ⟨rfl, rfl, trivial⟩ (by cases p <;> rfl) rfl ?_
  clear hF0
  rintro ⟨k, U, q⟩ ⟨hk, hUl, hF⟩ ih2
  simp only at hk hUl hF
  refine zaf Tk Tryz.func86 ?_
  refine zae Tk Tryz.func86 rfl (fun g2 => ?_) (fun g2 => ?_)
  ·have h3 : k < l.length := by simpa using g2
   clear g2
   have gl : (l.map fun x => [vi x])[(k : Int).toNat]? = some [vi l[k]] := zah (f := fun x => [vi x]) h3
   have dl : l.drop k = l[k] :: l.drop (k + 1) := List.drop_eq_getElem_cons h3
   have hv := hll.2 _ (List.getElem_mem h3)
   rw [dl] at hF
   simp only [ze9] at hF
   clear dl
   generalize l[k] = n at *
   have hz := zg3 hv.1 hv.2
   have hk1 : ii (IntKind.i64.wrap ((k : Int) + 1)) = ii ((k + 1 : Nat) : Int) := congrArg ii (zaB (n := 4096) (by omega) (by decide))
   refine zak Tk Tryz.func86 (by exact ⟨by omega, by show (k : Int) < (l.length : Int); omega⟩) ?_
   refine zar Tk Tryz.func86 (gl) ?_
   refine zbe Tk Tryz.func86 hE (zrF hg _ n hv.1 hv.2) rfl rfl rfl rfl rfl rfl ?_
   generalize zhM n = W at *
   refine zc9 Tk Tryz.func86 rfl rfl rfl rfl (zrc rfl W U (zph q) (by omega) rfl (show 22 < 28 by decide) rfl rfl rfl (by decide)) ?_
   refine zc9 Tk Tryz.func86 rfl rfl rfl rfl (zlA rfl 32 (U ++ W.data.toList) (.inr rfl) (by rw [List.length_append, zew]; omega) rfl (show 23 < 28 by decide) rfl rfl rfl (by decide)) ?_
   refine zad ?_
   refine ih2 (k + 1, U ++ W.data.toList ++ [32], true) _ _ ⟨h3, by simp only [List.length_append, zew, List.length_singleton]; omega, hF⟩ (by simp only; omega) ⟨rfl, rfl, rfl, rfl, rfl, rfl, hk1, trivial⟩ rfl ⟨rfl, rfl, trivial⟩ rfl rfl
  ·have h3 : l.length ≤ k := by simpa using g2
   rw [List.drop_eq_nil_of_le h3] at hF
   simp only [ze9] at hF
   subst hF
   refine zc9 Tk Tryz.func86 rfl rfl rfl rfl (zlA rfl 59 F (zph q) (by omega) rfl (show 25 < 28 by decide) rfl rfl rfl (by decide)) ?_
   refine zad ?_
   refine ih (i + 1, F ++ [59], true) _ _ ⟨h2, by simp only [List.length_append, List.length_singleton]; omega, .inr (by simp), hno⟩ (by simp only; omega) ⟨rfl, rfl, rfl, hi1, trivial⟩ rfl ⟨rfl, rfl, trivial⟩ rfl rfl
 ·have h2 : ls.length ≤ i := by simpa using g1
  rw [List.drop_eq_nil_of_le h2] at hno
  simp only [zeb] at hno
  subst hno
  have hT0 : T ≠ [] := hT0.resolve_left (by omega)
  refine zc9 Tk Tryz.func86 rfl rfl rfl rfl (zrd rfl hT0 rfl (show 27 < 28 by decide) rfl rfl rfl) ?_
  refine zai Tk (r := .i (.v (.string ⟨T.toArray⟩))) rfl rfl rfl trivial rfl rfl ?_
  rfl
end Go.AI


namespace Go.AI
open Go.Proofs
set_option maxRecDepth 20000
def zf6 (x : Int) : List Int → Nat → Int
 | [], _ => -1
 | y :: r, i => if x = y then i else zf6 x r (i + 1)
theorem ziJ (x : Int) : ∀ (l : List Int) (i : Nat), zf6 x l i ≥ 0 ↔ x ∈ l
 | [], _ => by simp [zf6]
 | y :: r, i => by
  simp only [zf6]
  by_cases h : x = y
  ·simp only [if_pos h, h]
   simp
  ·simp only [if_neg h]
   rw [ziJ x r (i + 1)]
   simp [h]
theorem zoP (x : Int) (l : List Int) (i : Nat) : decide (zf6 x l i ≥ 0) = decide (x ∈ l) := decide_eq_decide.2 (ziJ x l i)
theorem zoO (O : List Heap) (l : List Int) (x : Int) (hl : l.length ≤ zam) : zan Tryz.prog 56 [ints l, ii x] O (ii (zf6 x l 0)) [] O := by
 generalize hR : zf6 x l 0 = R
 refine zac Tk Tryz.func56 rfl Tryz.call56 Tryz.ntmps56 (Nat.le_of_ble_eq_true rfl) fun E => ?_
 refine zaf Tk Tryz.func56 ?_
 refine zad ?_
 refine zag (fun i : Nat => [(0, ints l), (1, ii x), (7, ii l.length), (8, ii i)]) (fun _ => []) (fun _ => O) 19
  (fun i => i ≤ l.length ∧ zf6 x (l.drop i) i = R) (fun i => l.length - i) 0 ⟨Nat.zero_le _, hR⟩ ⟨rfl, rfl, rfl, rfl, trivial⟩ rfl trivial rfl rfl ?_
 rintro i ⟨hi, hno⟩ ih
 clear hR
 refine zaf Tk Tryz.func56 ?_
 refine zae Tk Tryz.func56 rfl (fun g1 => ?_) (fun g1 => ?_)
 ·have h1 : i < l.length := by simpa using g1
  have gl : (l.map fun x => [vi x])[(i : Int).toNat]? = some [vi l[i]] := zah (f := fun x => [vi x]) h1
  have dl : l.drop i = l[i] :: l.drop (i + 1) := List.drop_eq_getElem_cons h1
  rw [dl] at hno
  simp only [zf6] at hno
  clear dl
  generalize l[i] = y at *
  refine zak Tk Tryz.func56 (by exact ⟨by omega, by show (i : Int) < (l.length : Int); omega⟩) ?_
  refine zar Tk Tryz.func56 (gl) ?_
  refine zae Tk Tryz.func56 rfl (fun g2 => ?_) (fun g2 => ?_)
  ·have g2 : x = y := beqT g2
   rw [if_pos g2] at hno
   subst hno
   refine zai Tk (r := ii (i : Int)) rfl rfl rfl trivial rfl rfl ?_
   rfl
  ·have g2 : x ≠ y := beqF g2
   rw [if_neg g2] at hno
   refine zad ?_
   exact ih (i + 1) _ _ ⟨h1, hno⟩ (by omega) ⟨rfl, rfl, rfl, congrArg ii (zaB h1 hl), trivial⟩ rfl trivial rfl rfl
 ·have h1 : l.length ≤ i := by simpa using g1
  rw [List.drop_eq_nil_of_le h1] at hno
  simp only [zf6] at hno
  subst hno
  refine zai Tk (r := ii (-1)) rfl rfl rfl trivial rfl rfl ?_
  rfl
theorem zdf (O : List Heap) (l : List Int) (x : Int) (hl : l.length ≤ zam) : zan Tryz.prog 17 [ints l, ii x] O (bb (decide (x ∈ l))) [] O := by
 rw [← zoP x l 0]
 have h := fun O => zoO O l x hl
 refine zac Tk Tryz.func17 rfl Tryz.call17 Tryz.ntmps17 (Nat.le_of_ble_eq_true rfl) fun E => ?_
 refine zaf Tk Tryz.func17 ?_
 refine zaj Tk Tryz.func17 (h _) rfl rfl rfl rfl rfl ?_
 refine zai Tk (r := bb (decide (zf6 x l 0 ≥ 0))) rfl rfl rfl trivial rfl rfl ?_
 rfl
theorem zh1 (O : List Heap) (l : List Int) (hl : l.length * 8 ≤ big) : zan Tryz.prog 77 [ints l] O (ints l) [] O := by
 refine zac Tk Tryz.func77 rfl Tryz.call77 Tryz.ntmps77 (Nat.le_of_ble_eq_true rfl) fun E => ?_
 refine zaf Tk Tryz.func77 ?_
 refine ztq Tk Tryz.func77 rfl rfl fun b hb => ?_
 refine zae Tk Tryz.func77 rfl (fun h1 => ?_) (fun h1 => ?_)
 ·have hl0 : l = [] := List.eq_nil_of_length_eq_zero (hb h1)
  subst hl0
  refine zao Tk (r := .i (.v (.slice none 0 0))) rfl rfl rfl trivial rfl rfl ?_
  exact zbY zaW
 ·refine zak Tk Tryz.func77 (by exact ⟨by show (0 + l.length) * 8 ≤ 140737488355328; simp only [big] at hl; omega, by show 0 + l.length ≤ 9223372036854775807; simp only [big] at hl; omega⟩) ?_
  refine zbm (zrr (l := [(2, .osl 0 7)]) (Hv := [(7, .arr 3 1 (0 + l.length) ([] ++ l.map fun x => [vi x]) true)]) ⟨rfl, trivial⟩ rfl ⟨rfl, trivial⟩ rfl rfl) ?_
  rw [Nat.zero_add, List.nil_append]
  refine zbm (zap 7 rfl rfl) ?_
  refine zai Tk (r := ints l) rfl rfl rfl trivial rfl rfl ?_
  rfl
def fkey (s : Sta) : ByteArray := zej [[s.loc], s.vals]
structure keyOkJ (s : Sta) : Prop where
 loc : i64B s.loc
 len : s.vals.length ≤ 4096
 vals : ∀ v ∈ s.vals, i64B v
theorem zeC {g : Nat} (hg : zeO g) {ty : TypeId} {fr : Nat × Nat} (O : List Heap) (s : Sta) (hs : keyOkJ s) : zbu g (ptab ty fr) Tryz.prog 119 [staD s] O (.i (.v (.string (fkey s)))) [] O := by
 have hk := fun O => zrD hg (ty := ty) (fr := fr) O [[s.loc], s.vals] (by simp) (by simp) (by
  intro l hl
  simp only [List.mem_cons, List.mem_nil_iff, or_false] at hl
  rcases hl with rfl | rfl
  ·exact ⟨by simp, fun v hv => by simp only [List.mem_singleton] at hv; subst hv; exact hs.loc⟩
  ·exact ⟨hs.len, hs.vals⟩)
 unfold fkey
 generalize zej [[s.loc], s.vals] = K at *
 obtain ⟨l, v⟩ := s
 refine zaO [] Tk Tryz.func119 rfl Tryz.call119 Tryz.ntmps119 (Nat.le_of_ble_eq_true rfl) fun E hE => ?_
 refine zaf Tk Tryz.func119 ?_
 refine zbe Tk Tryz.func119 hE (hk _) rfl rfl rfl rfl rfl rfl ?_
 refine zai Tk (r := .i (.v (.string K))) rfl rfl rfl trivial rfl rfl ?_
 rfl
theorem zmU (O : List Heap) (m : Ext) (s : Sta) (ev : Int) (d nm : Nat) (ho : zaa O d nm = some (.box (extC m))) (hok : extOk m) : zan Tryz.prog 120 [staD s, ii ev, .own d nm 0 0] O (.tup [staD (stpR m s ev).1, bb (stpR m s ev).2.1, ii (stpR m s ev).2.2]) [] O := by
 have h := fun O => zsR O m s ev hok
 generalize stpR m s ev = R at *
 obtain ⟨⟨a, b⟩, p, e⟩ := R
 obtain ⟨l, v⟩ := s
 refine zac Tk Tryz.func120 rfl Tryz.call120 Tryz.ntmps120 (Nat.le_of_ble_eq_true rfl) fun E => ?_
 refine zaf Tk Tryz.func120 ?_
 refine zgz Tk Tryz.func120 (zdD ho) ?_
 refine zaj Tk Tryz.func120 (h _) rfl rfl rfl rfl rfl ?_
 refine zai Tk (r := .tup [staD ⟨a, b⟩, bb p, ii e]) rfl rfl rfl trivial rfl rfl ?_
 rfl
theorem zmV (O : List Heap) (m : Ext) (s : Sta) (d nm : Nat) (ho : zaa O d nm = some (.box (extC m))) (hok : extOk m) : zan Tryz.prog 122 [staD s, .own d nm 0 0] O (bb (decide (s.loc ∈ m.marked))) [] O := by
 have h := fun O => zdf O m.marked s.loc hok.ma
 obtain ⟨l, v⟩ := s
 refine zac Tk Tryz.func122 rfl Tryz.call122 Tryz.ntmps122 (Nat.le_of_ble_eq_true rfl) fun E => ?_
 refine zaf Tk Tryz.func122 ?_
 refine zgz Tk Tryz.func122 (zdD ho) ?_
 refine zaj Tk Tryz.func122 (h _) rfl rfl rfl rfl rfl ?_
 refine zai Tk (r := bb (decide (l ∈ m.marked))) rfl rfl rfl trivial rfl rfl ?_
 rfl
end Go.AI
