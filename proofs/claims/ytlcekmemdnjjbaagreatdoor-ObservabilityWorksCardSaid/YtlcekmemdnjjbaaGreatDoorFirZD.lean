/- The layer of abstract runs, part 30. -/
import Derived.Test.YtlcekmemdnjjbaaGreatDoorFirZC
import Derived.Test.YtlcekmemdnjjbaaGreatDoorRows
import Derived.KernelRfl
import Derived.JoinedOf
import Derived.SevenTiedAt
set_option linter.unusedSimpArgs false
set_option linter.unusedVariables false
set_option linter.all false

namespace Go.AI
open Go.Proofs
set_option maxRecDepth 20000
abbrev u8I' (z : Int) : List I := [I.v (.int .u8 z)]
abbrev zrl (l : List Int) : D := .i (.sl 1 l.length (l.map u8I'))
def wY (al : List Int) (y : Int) : Int := al.getD ((IntKind.i64.wrap y).tmod (al.length : Int)).toNat 0
def wOf (al l : List Int) : List Int := l.map (wY al)
theorem zs5 {al : List Int} (h0 : al.length ≠ 0) {y : Int} (hy : 0 ≤ y ∧ y ≤ 255) : ∃ k : Nat, k < al.length ∧ (IntKind.i64.wrap y).tmod (al.length : Int) = (k : Int) ∧ al[k]? = some (wY al y) := by
 have hw : IntKind.i64.wrap y = y := w64 (by omega) (by omega)
 have h1 : 0 ≤ y.tmod (al.length : Int) := Int.tmod_nonneg _ hy.1
 have h2 : y.tmod (al.length : Int) < (al.length : Int) := Int.tmod_lt_of_pos _ (by omega)
 refine ⟨(y.tmod (al.length : Int)).toNat, by omega, by rw [hw]; omega, ?_⟩
 have hl : (y.tmod (al.length : Int)).toNat < al.length := by omega
 unfold wY
 rw [hw, List.getD_eq_getElem?_getD, List.getElem?_eq_getElem hl]
 rfl
theorem zs6 {al : List Int} (h0 : al.length ≠ 0) {l : List Int} (hl : ∀ y ∈ l, 0 ≤ y ∧ y ≤ 255) : ∀ e ∈ wOf al l, e ∈ al := by
 intro e he
 obtain ⟨y, hy, rfl⟩ := List.mem_map.1 he
 obtain ⟨k, _, _, h⟩ := zs5 h0 (hl y hy)
 exact List.mem_of_getElem? h
theorem zqE {x : Sys} {o : Aut} {rows : List (List Int)} {w : List Int} (hw : w.length ≤ 4096) (h : ∀ e ∈ w, e ∈ x.p.alpha) : ziy x o rows w = ((genR x.p w && zb0 x.ct x.ob o rows w 0 (decide (0 < o.states))), 0) := by
 unfold ziy
 rw [if_neg (by omega), if_neg (by simp only [List.any_eq_true, Bool.not_eq_true', decide_eq_false_iff_not, not_exists, not_and]; exact fun e he hn => hn (h e he))]
 cases genR x.p w with
 | false => rw [if_pos rfl]; rfl
 | true => rw [if_neg (by decide)]; rfl
theorem ztS {x : Sys} (h : obOk x) : gAut (esR x).1 (ctlR x (lpR x).1 (esR x).2).length ∧ (ctlR x (lpR x).1 (esR x).2).length ≤ 4096 ∧ ∀ r ∈ ctlR x (lpR x).1 (esR x).2, r.Pairwise (· < ·) ∧ r.length ≤ 1000000 := by
 have hl : (ctlR x (lpR x).1 (esR x).2).length = (esR x).2.length := by unfold ctlR; rw [List.length_map]
 refine ⟨by rw [hl]; exact h.tn.go, by rw [hl]; have := h.tn.el; omega, fun r hr => ?_⟩
 obtain ⟨E, _, rfl⟩ := List.mem_map.1 hr
 exact ⟨(zan h.hx.ct).1.filter _, Nat.le_trans (List.length_filter_le _ _) h.sm.ct⟩
set_option maxHeartbeats 16000000 in
theorem zs4 {g : Nat} (hg : ze8 g) {ty : TypeId} {fr : Nat × Nat} (O : List Heap) (x : Sk) (l : List Int) (h : skOkB x) (hlm : l.length ≤ zao) (hlb : ∀ y ∈ l, 0 ≤ y ∧ y ≤ 255) : ASpecT g (ptab ty fr) Tryz.prog 4 [.agg (skC x), zrl l] O (bb true) [] O := by
 have hk := fun O => zsB hg (ty := ty) (fr := fr) O
 have h1 := fun O => ztJ O x h
 by_cases hf : (lpR (mkS x)).1.states ≤ 10 ∧ l.length ≤ 8
 ·obtain ⟨hf, hl8⟩ := hf
  have hob := zt4 h hf
  have hfit := zrq h hf
  have k1 := fun O => zrA O x h
  have h2 := fun O => zrE hg (ty := ty) (fr := fr) O (mkS x) hob.sm hob.hx hob.h64 hob.hV
  have hct := fun O e => zbc O (mkS x).ct e (by have := hob.sm.ct; simp only [zao]; omega)
  have hsp := fun O s e => zkY O (mkS x).p s e hob.sm.p.ed
  have hga := (lp_g hob.hx hob.hV).1
  have hal2 := (lp_g hob.hx hob.hV).2
  have hsa := fun O s e => zkY O (lpR (mkS x)).1 s e hga.sm.ed
  have hst := hga.st
  have ha32 := zaU (by decide) (zay hga.c).1
  have hct2 := ztS hob
  have himt : (zez (mkS x)).isSome = true → ∀ O, ASpecT g (ptab ty fr) Tryz.prog 19 [sysD (mkS x)] O (.tup [zCtl, ii 26]) [] O := fun ht O => ziN hg O _ hob ht
  have himf : (zez (mkS x)).isSome = false → ∀ O, ASpecT g (ptab ty fr) Tryz.prog 19 [sysD (mkS x)] O (.tup [ctlD (esR (mkS x)).1 (ctlR (mkS x) (lpR (mkS x)).1 (esR (mkS x)).2), ii 0]) [] O := fun ht O => zf5 hg O _ hob ht
  have hpm : ∀ w : List Int, w.length ≤ 8 → ∀ O, zap Tryz.prog 20 [sysD (mkS x), ctlD (esR (mkS x)).1 (ctlR (mkS x) (lpR (mkS x)).1 (esR (mkS x)).2), ints w] O _ [] O := fun w hw O => zof O (mkS x) _ _ w hob.sm hob.hx hct2.1 hct2.2.1 hct2.2.2 (by simp only [zao]; omega)
  have hgn : ∀ w : List Int, w.length ≤ 8 → ∀ O, zap Tryz.prog 21 [autD (lpR (mkS x)).1, ints w] O _ [] O := fun w hw O => zf7 O _ _ w hga (by simp only [zao]; omega)
  have hwk : (lpR (mkS x)).2.length ≠ 0 → (zez (mkS x)).isSome = false → (∀ (i : Nat) z, (lpR (mkS x)).2[i]? = some z → ∀ e ∈ (lpR (mkS x)).1.alpha, e ∉ (mkS x).ct → 0 ≤ stp3 (mkS x).p.edges z.1 e → 0 ≤ stp3 (lpR (mkS x)).1.edges i e) → ∀ w : List Int, w.length ≤ 8 → (∀ e ∈ w, e ∈ (lpR (mkS x)).1.alpha) →
    ziy (mkS x) (esR (mkS x)).1 (ctlR (mkS x) (lpR (mkS x)).1 (esR (mkS x)).2) w = (genR (lpR (mkS x)).1 w, 0) := fun a1 a2 a3 w a4 a5 => by
   rw [hal2] at a3 a5
   rw [zqE (by omega) a5, znn hob.hx hob.hV (by omega) a1 a2 a3 w a5]
  rw [decide_eq_true hf] at h1
  clear hct2 hga hal2 hob hf h
  generalize ziy (mkS x) (esR (mkS x)).1 (ctlR (mkS x) (lpR (mkS x)).1 (esR (mkS x)).2) = PT at *
  generalize ctlR (mkS x) (lpR (mkS x)).1 (esR (mkS x)).2 = rows at *
  generalize (esR (mkS x)).1 = o at *
  generalize (zez (mkS x)).isSome = T at *
  generalize lpR (mkS x) = L at *
  obtain ⟨a, ps⟩ := L
  simp only at hst ha32 h2 hsa hgn hwk hfit
  generalize genR a = GA at *
  generalize mkS x = X at *
  obtain ⟨⟨al, st, mk, es⟩, ⟨al', st', mk', es'⟩, ob, ct⟩ := X
  obtain ⟨oal, ost, omk, oes⟩ := o
  obtain ⟨lal, lst, lmk, leds⟩ := a
  obtain ⟨xst, xps, xpm, xpt, xss, xsm, xt2, xob, xct⟩ := x
  simp only at hst ha32 h2 hsa hgn hwk k1 h1 hct hsp himt himf hpm
  refine zaR [26] Tk Tryz.func4 rfl Tryz.call4 Tryz.ntmps4 (Nat.le_of_ble_eq_true rfl) fun E hE => ?_
  refine zae Tk Tryz.func4 ?_
  refine za3 Tk Tryz.func4 hE (hk _) rfl rfl rfl rfl rfl rfl ?_
  refine gkF Tk Tryz.func4 rfl ?_
  refine zaf Tk Tryz.func4 (h1 _) rfl rfl rfl rfl rfl ?_
  refine gkF Tk Tryz.func4 rfl ?_
  refine zai Tk Tryz.func4 rfl (fun h => absurd h (by simp; omega)) (fun _ => ?_)
  refine zaf Tk Tryz.func4 (k1 _) rfl rfl rfl rfl rfl ?_
  refine za3 Tk Tryz.func4 hE (h2 _) rfl rfl rfl rfl rfl rfl ?_
  refine gkF Tk Tryz.func4 rfl ?_
  refine zai Tk Tryz.func4 rfl (fun h => absurd h (by simp [hst])) (fun _ => ?_)
  obtain ⟨Q, hQ⟩ : ∃ Q : Nat → Int × Int → Int → Prop, Q = fun (i : Nat) z e => e ∉ ct → 0 ≤ stp3 es z.1 e → 0 ≤ stp3 leds i e := ⟨_, rfl⟩
  refine zac ?_
  refine zag (fun i : Nat => [(1, zrl l), (5, .own 0 5 0 0), (6, .own 0 6 0 0), (7, .i (prsI ps)), (51, .i (prsI ps)), (52, ii ps.length), (53, ii i)]) (fun _ => [(5, .box (sysC ⟨⟨al, st, mk, es⟩, ⟨al', st', mk', es'⟩, ob, ct⟩)), (6, .box [ints lal, ii lst, ints lmk, edgs leds])]) (fun _ => O) 156
   (fun i => i ≤ ps.length ∧ ∀ (i' : Nat), i' < i → ∀ z, ps[i']? = some z → ∀ e ∈ lal, Q i' z e) (fun i => ps.length - i) 0 ⟨Nat.zero_le _, fun _ h => absurd h (Nat.not_lt_zero _)⟩ ⟨rfl, rfl, rfl, rfl, rfl, rfl, rfl, trivial⟩ rfl ⟨rfl, rfl, trivial⟩ rfl rfl ?_
  rintro i ⟨hi, hall⟩ ih
  refine zae Tk Tryz.func4 ?_
  refine zai Tk Tryz.func4 rfl (fun g1 => ?_) (fun g1 => ?_)
  ·have h3 : i < ps.length := by simpa using g1
   clear g1
   have hi1 : ii (IntKind.i64.wrap ((i : Int) + 1)) = ii ((i + 1 : Nat) : Int) := congrArg ii (zaC (n := 4096) (by omega) (by decide))
   have gp : (ps.map prI)[(i : Int).toNat]? = some (prI ps[i]) := zaj h3
   have hpi : ps[i]? = some ps[i] := List.getElem?_eq_getElem h3
   generalize ps[i] = z at *
   obtain ⟨z1, z2⟩ := z
   refine zah Tk Tryz.func4 (by exact ⟨by omega, by show (i : Int) < (ps.length : Int); omega⟩) ?_
   refine zar Tk Tryz.func4 (gp) ?_
   refine zac ?_
   refine zag (fun j : Nat => [(1, zrl l), (5, .own 0 5 0 0), (6, .own 0 6 0 0), (7, .i (prsI ps)), (51, .i (prsI ps)), (52, ii ps.length), (53, ii i), (9, ii i), (10, .own 0 10 0 0), (59, ints lal), (60, ii lal.length), (61, ii j)]) (fun _ => [(5, .box (sysC ⟨⟨al, st, mk, es⟩, ⟨al', st', mk', es'⟩, ob, ct⟩)), (6, .box [ints lal, ii lst, ints lmk, edgs leds]), (10, .box [ii z1, ii z2])]) (fun _ => O) 156
    (fun j => j ≤ lal.length ∧ ∀ e ∈ lal.take j, Q i (z1, z2) e) (fun j => lal.length - j) 0 ⟨Nat.zero_le _, by simp⟩ ⟨rfl, rfl, rfl, rfl, rfl, rfl, rfl, rfl, rfl, rfl, rfl, rfl, trivial⟩ rfl ⟨rfl, rfl, rfl, trivial⟩ rfl rfl ?_
   rintro j ⟨hj, hin⟩ ih2
   refine zae Tk Tryz.func4 ?_
   refine zai Tk Tryz.func4 rfl (fun g2 => ?_) (fun g2 => ?_)
   ·have h4 : j < lal.length := by simpa using g2
    clear g2
    have hj1 : ii (IntKind.i64.wrap ((j : Int) + 1)) = ii ((j + 1 : Nat) : Int) := congrArg ii (zaC (n := 4096) (by omega) (by decide))
    have ga : (lal.map fun x => [vi x])[(j : Int).toNat]? = some [vi lal[j]] := zaj (f := fun x => [vi x]) h4
    have htk : lal.take (j + 1) = lal.take j ++ [lal[j]] := List.take_succ_eq_append_getElem h4
    generalize lal[j] = e at *
    have hstep : Q i (z1, z2) e → ∀ e' ∈ lal.take (j + 1), Q i (z1, z2) e' := fun hq e' he' => by
     rw [htk] at he'
     rcases List.mem_append.1 he' with he' | he'
     ·exact hin e' he'
     ·rw [List.mem_singleton] at he'
      subst he'; exact hq
    have d1 := fun O => hct O e
    have d2 := fun O => hsp O z1 e
    have d3 := fun O => hsa O (i : Int) e
    rw [hQ] at hstep
    simp only at hstep
    refine zah Tk Tryz.func4 (by exact ⟨by omega, by show (j : Int) < (lal.length : Int); omega⟩) ?_
    refine zar Tk Tryz.func4 (ga) ?_
    refine zaf Tk Tryz.func4 (d1 _) rfl rfl rfl rfl rfl ?_
    refine zaS Tk Tryz.func4 rfl (fun c1 => ?_) (fun c1 => ?_)
    ·have c1 : ¬ e ∈ ct := by simpa using c1
     refine zah Tk Tryz.func4 (by exact ⟨by decide, by decide⟩) ?_
     refine zaf Tk Tryz.func4 (d2 _) rfl rfl rfl rfl rfl ?_
     refine zaS Tk Tryz.func4 rfl (fun c2 => ?_) (fun c2 => ?_)
     ·have c2 : stp3 es z1 e ≥ 0 := of_decide_eq_true c2
      refine zaf Tk Tryz.func4 (d3 _) rfl rfl rfl rfl rfl ?_
      refine zai Tk Tryz.func4 rfl (fun c3 => ?_) (fun c3 => ?_)
      ·refine zal Tk (r := bb true) rfl rfl rfl trivial rfl rfl ?_
       rfl
      ·have c3 : ¬ stp3 leds i e < 0 := of_decide_eq_false c3
       refine zac ?_
       refine ih2 (j + 1) _ _ ⟨h4, by rw [hQ]; exact hstep fun _ _ => by omega⟩ (by omega) ⟨rfl, rfl, rfl, rfl, rfl, rfl, rfl, rfl, rfl, rfl, rfl, hj1, trivial⟩ rfl ⟨rfl, rfl, rfl, trivial⟩ rfl rfl
     ·have c2 : ¬ stp3 es z1 e ≥ 0 := of_decide_eq_false c2
      refine gcF Tk Tryz.func4 rfl ?_
      refine zac ?_
      refine ih2 (j + 1) _ _ ⟨h4, by rw [hQ]; exact hstep fun _ h => absurd h c2⟩ (by omega) ⟨rfl, rfl, rfl, rfl, rfl, rfl, rfl, rfl, rfl, rfl, rfl, hj1, trivial⟩ rfl ⟨rfl, rfl, rfl, trivial⟩ rfl rfl
    ·have c1 : e ∈ ct := by simpa using c1
     repeat (first | refine gcT Tk Tryz.func4 rfl ?_ | refine gkT Tk Tryz.func4 rfl ?_ | refine skT Tk ?_ | refine gcF Tk Tryz.func4 rfl ?_ | refine gkF Tk Tryz.func4 rfl ?_ | refine skF Tk ?_)
     refine zac ?_
     refine ih2 (j + 1) _ _ ⟨h4, by rw [hQ]; exact hstep fun h => absurd c1 h⟩ (by omega) ⟨rfl, rfl, rfl, rfl, rfl, rfl, rfl, rfl, rfl, rfl, rfl, hj1, trivial⟩ rfl ⟨rfl, rfl, rfl, trivial⟩ rfl rfl
   ·have h4 : lal.length ≤ j := by simpa using g2
    rw [List.take_of_length_le h4] at hin
    refine zac ?_
    refine ih (i + 1) _ _ ⟨h3, fun i' hi' z hz e he => ?_⟩ (by omega) ⟨rfl, rfl, rfl, rfl, rfl, rfl, hi1, trivial⟩ rfl ⟨rfl, rfl, trivial⟩ rfl rfl
    by_cases hc : i' < i
    ·exact hall i' hc z hz e he
    ·obtain rfl : i' = i := by omega
     rw [hpi] at hz
     cases Option.some.inj hz
     exact hin e he
  have h3 : ps.length ≤ i := by simpa using g1
  have hun : ∀ (i : Nat) z, ps[i]? = some z → ∀ e ∈ lal, e ∉ ct → 0 ≤ stp3 es z.1 e → 0 ≤ stp3 leds i e := fun i' z hz e he => by
   have := hall i' (by have := (List.getElem?_eq_some_iff.1 hz).1; omega) z hz e he
   rw [hQ] at this
   exact this
  have hwk2 := fun a1 a2 => hwk a1 a2 hun
  clear hwk hun hall ih hi hct hsp hsa hQ Q g1 h3
  cases T with
  | true =>
   have himt := himt rfl
   refine za3 Tk Tryz.func4 hE (himt _) rfl rfl rfl rfl rfl rfl ?_
   repeat (first | refine gcT Tk Tryz.func4 rfl ?_ | refine gkT Tk Tryz.func4 rfl ?_ | refine skT Tk ?_ | refine gcF Tk Tryz.func4 rfl ?_ | refine gkF Tk Tryz.func4 rfl ?_ | refine skF Tk ?_)
   refine zal Tk (r := bb true) rfl rfl rfl trivial rfl rfl ?_
   rfl
  | false =>
   have himf := himf rfl
   refine za3 Tk Tryz.func4 hE (himf _) rfl rfl rfl rfl rfl rfl ?_
   refine gkF Tk Tryz.func4 rfl ?_
   refine zaS Tk Tryz.func4 rfl (fun c1 => ?_) (fun c1 => ?_)
   ·repeat (first | refine gcT Tk Tryz.func4 rfl ?_ | refine gkT Tk Tryz.func4 rfl ?_ | refine skT Tk ?_ | refine gcF Tk Tryz.func4 rfl ?_ | refine gkF Tk Tryz.func4 rfl ?_ | refine skF Tk ?_)
    refine zal Tk (r := bb true) rfl rfl rfl trivial rfl rfl ?_
    rfl
   have c1 : lal.length ≠ 0 := by simpa using c1
   refine zai Tk Tryz.func4 rfl (fun c2 => ?_) (fun c2 => ?_)
   ·refine gkT Tk Tryz.func4 rfl ?_
    refine zal Tk (r := bb true) rfl rfl rfl trivial rfl rfl ?_
    rfl
   have c2 : lst ≠ 0 := by simpa using c2
   have hwk3 := hwk2 (by omega) rfl
   have hwl : ∀ j, (wOf lal (l.take j)).length = (l.take j).length := fun j => by unfold wOf; rw [List.length_map]
   refine zac ?_
   refine zat (zcx 14 130 3 1 rfl rfl rfl) ?_
   refine zag (fun j : Nat => [(5, .own 0 5 0 0), (6, .own 0 6 0 0), (13, .own 0 13 0 0), (14, .osl 0 130), (112, zrl l), (113, ii l.length), (114, ii j)]) (fun j => [(5, .box (sysC ⟨⟨al, st, mk, es⟩, ⟨al', st', mk', es'⟩, ob, ct⟩)), (6, .box [ints lal, ii lst, ints lmk, edgs leds]), (13, .box [ints oal, ii ost, ints omk, edgs oes, .i (zdD rows)]), (130, zau (wOf lal (l.take j)))]) (fun _ => O) 156
    (fun j => j ≤ l.length) (fun j => l.length - j) 0 (Nat.zero_le _) ⟨rfl, rfl, rfl, rfl, rfl, rfl, rfl, trivial⟩ rfl ⟨rfl, rfl, rfl, rfl, trivial⟩ rfl rfl ?_
   rintro j hj ih
   have hlj := hwl j
   rw [List.length_take] at hlj
   refine zae Tk Tryz.func4 ?_
   refine zai Tk Tryz.func4 rfl (fun g2 => ?_) (fun g2 => ?_)
   ·have h4 : j < l.length := by simpa using g2
    clear g2
    have hj1 : ii (IntKind.i64.wrap ((j : Int) + 1)) = ii ((j + 1 : Nat) : Int) := congrArg ii (zaC (n := 4096) (by omega) (by decide))
    have ga : (l.map u8I')[(j : Int).toNat]? = some (u8I' l[j]) := zaj h4
    have htk : wOf lal (l.take (j + 1)) = wOf lal (l.take j) ++ [wY lal l[j]] := by
     rw [List.take_succ_eq_append_getElem h4]; unfold wOf; rw [List.map_append]; rfl
    obtain ⟨k, hk1, hk2, hk3⟩ := zs5 c1 (hlb _ (List.getElem_mem h4))
    generalize l[j] = y at *
    have gk : (lal.map fun x => [vi x])[((IntKind.i64.wrap y).tmod (lal.length : Int)).toNat]? = some [vi (wY lal y)] := by
     rw [hk2, Int.toNat_natCast, List.getElem?_map, hk3]; rfl
    refine zah Tk Tryz.func4 (by exact ⟨by omega, by show (j : Int) < (l.length : Int); omega⟩) ?_
    refine zar Tk Tryz.func4 (ga) ?_
    refine zaA Tk Tryz.func4 zaL rfl ?_
    refine zaz Tk (by exact (by omega : ((lal.length : Nat) : Int) ≠ 0)) ?_
    refine zaz Tk (by exact ⟨by rw [hk2]; omega, by rw [hk2]; show ((k : Nat) : Int) < (lal.length : Int); omega⟩) ?_
    refine zaJ Tk (gk) ?_
    refine zpg Tk Tryz.func4 ([12, 13]) (by kernel_rfl) (by kernel_rfl) ?_
    refine zah Tk Tryz.func4 (by exact ⟨by show ((wOf lal (l.take j)).length + 1) * 8 ≤ 140737488355328; omega, by show (wOf lal (l.take j)).length + 1 ≤ 9223372036854775807; omega⟩) ?_
    refine zac ?_
    refine ih (j + 1) _ _ h4 (by omega) ⟨rfl, rfl, rfl, rfl, rfl, rfl, hj1, trivial⟩ rfl ⟨rfl, rfl, rfl, ?_, trivial⟩ rfl rfl
    rw [htk]
    exact congrArg some (zaK (wOf lal (l.take j)) (wY lal y))
   ·have h4 : l.length ≤ j := by simpa using g2
    rw [List.take_of_length_le h4] at *
    have hw8 : (wOf lal l).length ≤ 8 := by omega
    have p1 := hpm _ hw8
    have p2 := hgn _ hw8
    have p3 := hwk3 _ hw8 (zs6 c1 hlb)
    rw [p3] at p1
    generalize wOf lal l = w at *
    generalize GA w = b at *
    refine zax ?_
    refine zat (zaq 130 rfl rfl) ?_
    refine zae Tk Tryz.func4 ?_
    refine g_go Tk Tryz.func4 ?_
    refine zaf Tk Tryz.func4 (p1 _) rfl rfl rfl rfl rfl ?_
    refine zaf Tk Tryz.func4 (p2 _) rfl rfl rfl rfl rfl ?_
    repeat (first | refine gcT Tk Tryz.func4 rfl ?_ | refine gkT Tk Tryz.func4 rfl ?_ | refine skT Tk ?_ | refine gcF Tk Tryz.func4 rfl ?_ | refine gkF Tk Tryz.func4 rfl ?_ | refine skF Tk ?_)
    refine zal Tk (r := bb (b == b)) rfl rfl rfl trivial rfl rfl ?_
    cases b <;> rfl
 ·have hb : decide ((lpR (mkS x)).1.states ≤ 10) = true → ¬ l.length ≤ 8 := fun h hl => hf ⟨of_decide_eq_true h, hl⟩
  clear hlb h hf
  generalize decide ((lpR (mkS x)).1.states ≤ 10) = b at *
  obtain ⟨xst, xps, xpm, xpt, xss, xsm, xt2, xob, xct⟩ := x
  cases b with
  | true =>
   have hb := hb rfl
   refine zaR [] Tk Tryz.func4 rfl Tryz.call4 Tryz.ntmps4 (Nat.le_of_ble_eq_true rfl) fun E hE => ?_
   refine zae Tk Tryz.func4 ?_
   refine za3 Tk Tryz.func4 hE (hk _) rfl rfl rfl rfl rfl rfl ?_
   refine gkF Tk Tryz.func4 rfl ?_
   refine zaf Tk Tryz.func4 (h1 _) rfl rfl rfl rfl rfl ?_
   refine gkF Tk Tryz.func4 rfl ?_
   refine zai Tk Tryz.func4 rfl (fun _ => ?_) (fun h => absurd h (by simp; omega))
   refine za3 Tk Tryz.func4 hE (hk _) rfl rfl rfl rfl rfl rfl ?_
   refine zal Tk (r := bb true) rfl rfl rfl trivial rfl rfl ?_
   rfl
  | false =>
   refine zaR [] Tk Tryz.func4 rfl Tryz.call4 Tryz.ntmps4 (Nat.le_of_ble_eq_true rfl) fun E hE => ?_
   refine zae Tk Tryz.func4 ?_
   refine za3 Tk Tryz.func4 hE (hk _) rfl rfl rfl rfl rfl rfl ?_
   refine gkF Tk Tryz.func4 rfl ?_
   refine zaf Tk Tryz.func4 (h1 _) rfl rfl rfl rfl rfl ?_
   repeat (first | refine gcT Tk Tryz.func4 rfl ?_ | refine gkT Tk Tryz.func4 rfl ?_ | refine skT Tk ?_ | refine gcF Tk Tryz.func4 rfl ?_ | refine gkF Tk Tryz.func4 rfl ?_ | refine skF Tk ?_)
   refine za3 Tk Tryz.func4 hE (hk _) rfl rfl rfl rfl rfl rfl ?_
   refine zal Tk (r := bb true) rfl rfl rfl trivial rfl rfl ?_
   rfl
end Go.AI


namespace Go.Proofs.YtlcekmemdnjjbaaGreatDoor
set_option maxRecDepth 100000
theorem zbj : laidOutB Tryz.prog = true := by kernel_rfl
theorem zda : mapsRowed Tryz.prog = true := by kernel_rfl
theorem zcY : (Rows.observabilityWorksRow.inPlace == Tryz.prog.inPlace 4) = true := by kernel_rfl
theorem zcX : (Rows.observabilityWorksRow.unfollowed == Tryz.prog.unfollowed 4) = true := by kernel_rfl
theorem zcW : (Rows.observabilityWorksRow.recurses == Tryz.prog.recurses 4) = true := by kernel_rfl
theorem zcV : (Rows.observabilityWorksRow.named == Tryz.prog.varsNamed 4) = true := by kernel_rfl
theorem zcv : joinedFacts Tryz.prog 4 Tryz.f4 Rows.observabilityWorksSpec Rows.observabilityWorksRow = true := by
 simp only [joinedFacts, Bool.and_eq_true]
 repeat' refine And.intro ?_ ?_
 ·kernel_rfl
 ·exact zbj
 ·exact zda
 ·kernel_rfl
 ·kernel_rfl
 ·kernel_rfl
 ·kernel_rfl
 ·kernel_rfl
 ·kernel_rfl
 ·exact zcY
 ·exact zcX
 ·exact zcW
 ·exact zcV
 ·kernel_rfl
 ·kernel_rfl
 ·kernel_rfl
 ·kernel_rfl
 ·kernel_rfl
 ·kernel_rfl
 ·kernel_rfl
 ·kernel_rfl
 ·kernel_rfl
 ·kernel_rfl
 ·kernel_rfl
 ·kernel_rfl
 ·kernel_rfl
 ·kernel_rfl
 ·kernel_rfl
 ·kernel_rfl
 ·kernel_rfl
 ·kernel_rfl
 ·kernel_rfl
theorem zcJ : Tryz.prog.mainIs = some (true, "5041c38c3c15c3199033450f7632fe41f4871cb850793ec5542bbc9f8af1fc7c".toList) := by kernel_rfl
theorem zcB : false = Tryz.prog.looks [] := by kernel_rfl
theorem zcK : false = Rows.observabilityWorksRow.goesBy Tryz.prog := by kernel_rfl
end Go.Proofs.YtlcekmemdnjjbaaGreatDoor
