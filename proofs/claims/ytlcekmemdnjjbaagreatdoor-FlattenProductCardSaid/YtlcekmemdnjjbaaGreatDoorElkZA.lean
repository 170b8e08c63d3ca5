/- The layer of abstract runs, part 27. -/
import Derived.Test.YtlcekmemdnjjbaaGreatDoorElkZ
set_option linter.unusedSimpArgs false
set_option linter.unusedVariables false
set_option linter.all false

namespace Go.AI
open Go.Proofs
set_option maxRecDepth 20000
abbrev zd5 (l : List Edg) : Ob := .arr 117 3 l.length (l.map edgI) true
theorem zgS (l : List Edg) (e : Edg) : Ob.arr 117 3 (l.length + 1) (l.map edgI ++ [edgI e]) true = zd5 (l ++ [e]) := by simp
theorem zmM (l : List Sta) (s : Sta) : Ob.arr 196 2 (l.length + 1) (l.map staI ++ [staI s]) true = zot (l ++ [s]) := by simp
abbrev keq (a b : Sta) : Bool := fkey a == fkey b
def unfX (m : Ext) (alpha : List Int) (first : Sta) : Except Int (Unf Sta) := unfR keq true (stpR m) (fun s => decide (s.loc ∈ m.marked)) alpha first
def kidx : List Sta → Nat → List (Value × Int)
 | [], _ => []
 | s :: r, i => (.string (fkey s), (i : Int)) :: kidx r (i + 1)
theorem ziF (b : ByteArray) : ∀ (l : List Sta) (i : Nat), zbg (kidx l i) (.string b) = if l.findIdx (fun t => b == fkey t) < l.length then some (((i + l.findIdx fun t => b == fkey t : Nat) : Int)) else none
 | [], i => by simp [kidx, zbg]
 | s :: r, i => by
  simp only [kidx, zbg, keyB, List.findIdx_cons]
  cases h : b == fkey s with
  | true => simp
  | false =>
   simp only [cond_false]
   rw [ziF b r (i + 1)]
   have e : i + 1 + r.findIdx (fun t => b == fkey t) = i + (r.findIdx (fun t => b == fkey t) + 1) := by omega
   simp only [e, List.length_cons, Nat.add_lt_add_iff_right]
theorem zln {s : Sta} : ∀ (l : List Sta) (i : Nat), ¬ l.findIdx (keq s) < l.length → mset (kidx l i) (.string (fkey s)) ((i + l.length : Nat) : Int) = kidx (l ++ [s]) i
 | [], i, _ => by simp [kidx, mset]
 | t :: r, i, h => by
  rw [List.findIdx_cons] at h
  cases hk : keq s t with
  | true => rw [hk] at h; simp at h
  | false =>
   rw [hk] at h
   simp only [cond_false, List.length_cons, Nat.add_lt_add_iff_right] at h
   have hk' : (fkey s == fkey t) = false := hk
   simp only [List.cons_append, kidx, mset, keyB, hk', cond_false]
   have e : i + (t :: r).length = (i + 1) + r.length := by simp only [List.length_cons]; omega
   rw [e, zln r (i + 1) h]
theorem zrX {m : Ext} {s : Sta} {ev : Int} (hr : extRight m) (h : okS m s) (hp : (stpR m s ev).2.1 = true) : okS m (stpR m s ev).1 := by
 unfold stpR at hp ⊢
 split at hp
 ·cases hp
 rename_i h1
 rw [if_neg h1]
 split at hp
 ·cases hp
 rename_i h2
 rw [if_neg h2]
 exact zrY hr h hp
theorem zoA {m : Ext} {s : Sta} (hr : extRight m) (h : okS m s) : keyOkJ s := by
 have := zgR hr h
 exact ⟨this.1, by omega, this.2.1⟩
theorem zfu {σ : Type} {eq : σ → σ → Bool} {lim : Bool} {step : σ → Int → σ × Bool × Int} {mkd : σ → Bool} {alpha : List Int} {U : Unf σ} {i : Nat} (h : U.sts.length ≤ i) : ∀ k, zbU eq lim step mkd alpha k i U = .ok U
 | 0 => rfl
 | k + 1 => by simp only [zbU, List.getElem?_eq_none h]
structure UGood (m : Ext) (U : Unf Sta) : Prop where
 len : U.sts.length ≤ 4096
 ok : ∀ s ∈ U.sts, okS m s
abbrev fnS (d nm : Nat) : D := .fn (.func 120) [] [.own d nm 0 0]
abbrev fnM (d nm : Nat) : D := .fn (.func 122) [] [.own d nm 0 0]
def unfD (alpha : List Int) : Except Int (Unf Sta) → D
 | .error e => .tup [autD ⟨[], 0, [], []⟩, zmv [], ii e]
 | .ok U => .tup [autD ⟨alpha, U.sts.length, U.mkl, U.eds⟩, zmv U.sts, ii 0]
theorem zpi {e : Int} : CoD (.tup [.agg [.i (.v (.slice none 0 0)), ii 0, .i (.v (.slice none 0 0)), .i (.v (.slice none 0 0))], .i (.v (.slice none 0 0)), ii e]) (unfD [] (.error e)) :=
 zbK (.cons (zbZ (.cons (zbY zaW) (.cons (CoD.refl _) (.cons (zbY zaW) (.cons (zbY zaW) .nil))))) (.cons (zbY zaW) (CoDL.refl _)))
set_option maxHeartbeats 4000000 in
theorem znO {g : Nat} (hg : zeO g) {ty : TypeId} {fr : Nat × Nat} (O : List Heap) (m : Ext) (alpha : List Int) (first : Sta) (d nm : Nat) (ho : zaa O d nm = some (.box (extC m))) (hok : extOk m) (hr : extRight m) (ha : alpha.length ≤ 4096) (hf : okS m first) :
  zbu g (ptab ty fr) Tryz.prog 123 [ints alpha, staD first, .fn (.func 119) [] [], fnS d nm, fnM d nm] O (unfD alpha (unfX m alpha first)) [] O := by
 have hO : ∀ H, zaa (H :: O) (d + 1) nm = some (.box (extC m)) := fun H => zdD ho
 have hno : unfX m alpha first = zbU keq true (stpR m) (fun s => decide (s.loc ∈ m.marked)) alpha (4097 - 0) 0 (unf0 first) := rfl
 generalize unfX m alpha first = R at *
 have hkf := zoA hr hf
 refine zaO [9, 23] Tk Tryz.func123 rfl Tryz.call123 Tryz.ntmps123 (Nat.le_of_ble_eq_true rfl) fun E hE => ?_
 refine zaf Tk Tryz.func123 ?_
 refine zbe Tk Tryz.func123 hE (zeC hg _ first hkf) rfl rfl rfl rfl rfl rfl ?_
 refine zad ?_
 refine zaw (zkW 25 95 rfl rfl rfl) ?_
 refine zaw (zaP 10 47 3 1 (pre := [ints alpha, ii 0]) (post := [.i (.v (.slice none 0 0))]) rfl rfl rfl) ?_
 refine zaw (zaP 10 103 117 3 (pre := [ints alpha, ii 0, .osl 0 47]) (post := []) rfl rfl rfl) ?_
 refine zag (fun x : Nat × Unf Sta => [(0, ints alpha), (2, .fn (.func 119) [] []), (3, fnS (d + 1) nm), (4, fnM (d + 1) nm), (10, .own 0 10 0 0), (11, .osl 0 95), (13, .osl 0 26), (14, ii x.1)])
  (fun x => [(10, .box [ints alpha, ii 0, .osl 0 47, .osl 0 103]), (95, zot x.2.sts), (47, zaK x.2.mkl), (103, zd5 x.2.eds), (26, .mp .str (.i .i64 (kidx x.2.sts 0)))]) (fun _ => O) 111
  (fun x => x.1 ≤ x.2.sts.length ∧ UGood m x.2 ∧ x.2.mkl.length ≤ x.1 ∧ x.2.eds.length ≤ 4096 * x.1 ∧ R = zbU keq true (stpR m) (fun s => decide (s.loc ∈ m.marked)) alpha (4097 - x.1) x.1 x.2) (fun x => 4097 - x.1) (0, unf0 first)
  ⟨Nat.zero_le _, ⟨by simp [unf0], fun s hs => by rw [unf0, List.mem_singleton] at hs; subst hs; exact hf⟩, Nat.le_refl _, Nat.le_refl _, hno⟩ ⟨rfl, rfl, rfl, rfl, rfl, rfl, rfl, rfl, trivial⟩ rfl ⟨rfl, rfl, rfl, rfl, rfl, trivial⟩ rfl rfl ?_
 clear hno
 rintro ⟨i, U⟩ ⟨hi, hgd, hml, hel, hno⟩ ih
 simp only at hi hgd hml hel hno
 refine zaf Tk Tryz.func123 ?_
 refine zae Tk Tryz.func123 rfl (fun g1 => ?_) (fun g1 => ?_)
 ·have h1 : i < U.sts.length := by simpa using g1
  clear g1
  have hle := hgd.len
  have hsi : U.sts[i]? = some U.sts[i] := List.getElem?_eq_getElem h1
  have gs : (U.sts.map staI)[(i : Int).toNat]? = some (staI U.sts[i]) := zah h1
  have hoks := hgd.ok _ (List.getElem_mem h1)
  generalize U.sts[i] = s at *
  have hno : R = match zaz keq true (stpR m) i s alpha (zbD (fun s => decide (s.loc ∈ m.marked)) i s U) with
    | .error e => .error e
    | .ok U' => zbU keq true (stpR m) (fun s => decide (s.loc ∈ m.marked)) alpha (4097 - (i + 1)) (i + 1) U' := by
   rw [hno, show 4097 - i = (4097 - (i + 1)) + 1 by omega]
   simp only [zbU, hsi]
   cases zaz keq true (stpR m) i s alpha (zbD (fun s => decide (s.loc ∈ m.marked)) i s U) <;> rfl
  have hmk := fun H => zmV (H :: O) m s (d + 1) nm (hO H) hok
  obtain ⟨m1, m2⟩ := zcW (fun s : Sta => decide (s.loc ∈ m.marked)) i s U
  have hm3 : (zbD (fun s : Sta => decide (s.loc ∈ m.marked)) i s U).mkl = if s.loc ∈ m.marked then U.mkl ++ [(i : Int)] else U.mkl := by
   unfold zbD
   by_cases h : s.loc ∈ m.marked <;> simp [h]
  generalize zbD (fun s : Sta => decide (s.loc ∈ m.marked)) i s U = U1 at *
  obtain ⟨sts, mkl, eds⟩ := U
  obtain ⟨sts1, mkl1, eds1⟩ := U1
  simp only at *
  subst m1 m2
  obtain ⟨sl, sv⟩ := s
  simp only at *
  refine zak Tk Tryz.func123 (by exact ⟨by omega, by show (i : Int) < (sts1.length : Int); omega⟩) ?_
  refine zar Tk Tryz.func123 (gs) ?_
  refine zaj Tk Tryz.func123 (hmk _) rfl rfl rfl rfl rfl ?_
  apply zbP (P := True) (s6 := { σ := [(0, ints alpha), (2, .fn (.func 119) [] []), (3, fnS (d + 1) nm), (4, fnM (d + 1) nm), (10, .own 0 10 0 0), (11, .osl 0 95), (13, .osl 0 26), (14, ii i)], S := [(10, .box [ints alpha, ii 0, .osl 0 47, .osl 0 103]), (95, zot sts1), (47, zaK mkl1), (103, zd5 eds1), (26, .mp .str (.i .i64 (kidx sts1 0)))] :: O, n := 111 })
  ·intro J
   refine zae Tk Tryz.func123 rfl (fun c1 => ?_) (fun c1 => ?_)
   ·have c1 : sl ∈ m.marked := of_decide_eq_true c1
    rw [if_pos c1] at hm3
    subst hm3
    refine zak Tk Tryz.func123 (by exact ⟨by show (mkl.length + 1) * 8 ≤ 140737488355328; omega, by show mkl.length + 1 ≤ 9223372036854775807; omega⟩) ?_
    refine zax ?_
    refine zaJ (J trivial) ⟨rfl, rfl, rfl, rfl, rfl, rfl, rfl, rfl, trivial⟩ rfl ⟨rfl, rfl, congrArg some (zaR mkl (i : Int)), rfl, rfl, trivial⟩ rfl rfl
   ·have c1 : sl ∉ m.marked := of_decide_eq_false c1
    rw [if_neg c1] at hm3
    subst hm3
    refine zax ?_
    refine zaJ (J trivial) ⟨rfl, rfl, rfl, rfl, rfl, rfl, rfl, rfl, trivial⟩ rfl ⟨rfl, rfl, rfl, rfl, rfl, trivial⟩ rfl rfl
  intro _
  have hml1 : mkl1.length ≤ i + 1 := by rw [hm3]; split; (rw [List.length_append, List.length_singleton]; omega); omega
  clear hm3 hml hmk gs
  have hV0 : zaz keq true (stpR m) i ⟨sl, sv⟩ alpha ⟨sts1, mkl1, eds1⟩ = zaz keq true (stpR m) i ⟨sl, sv⟩ (alpha.drop 0) ⟨sts1, mkl1, eds1⟩ := rfl
  generalize zaz keq true (stpR m) i ⟨sl, sv⟩ alpha ⟨sts1, mkl1, eds1⟩ = V at *
  refine zaf Tk Tryz.func123 ?_
  refine g_go Tk Tryz.func123 ?_
  refine zad ?_
  refine zag (fun x : Nat × Unf Sta => [(0, ints alpha), (2, .fn (.func 119) [] []), (3, fnS (d + 1) nm), (4, fnM (d + 1) nm), (10, .own 0 10 0 0), (11, .osl 0 95), (13, .osl 0 26), (14, ii i), (49, ints alpha), (50, ii alpha.length), (51, ii x.1)])
   (fun x => [(10, .box [ints alpha, ii 0, .osl 0 47, .osl 0 103]), (95, zot x.2.sts), (47, zaK x.2.mkl), (103, zd5 x.2.eds), (26, .mp .str (.i .i64 (kidx x.2.sts 0)))]) (fun _ => O) 111
   (fun x => x.1 ≤ alpha.length ∧ UGood m x.2 ∧ i < x.2.sts.length ∧ x.2.mkl.length ≤ i + 1 ∧ x.2.eds.length ≤ 4096 * i + x.1 ∧ x.2.sts[i]? = some ⟨sl, sv⟩ ∧ V = zaz keq true (stpR m) i ⟨sl, sv⟩ (alpha.drop x.1) x.2) (fun x => alpha.length - x.1) (0, ⟨sts1, mkl1, eds1⟩)
   ⟨Nat.zero_le _, ⟨hgd.len, hgd.ok⟩, h1, hml1, hel, hsi, hV0⟩ ⟨rfl, rfl, rfl, rfl, rfl, rfl, rfl, rfl, rfl, rfl, rfl, trivial⟩ rfl ⟨rfl, rfl, rfl, rfl, rfl, trivial⟩ rfl rfl ?_
  clear hV0 hsi hml1 hel hgd hle
  rintro ⟨j, ⟨sts, mk, eds⟩⟩ ⟨hj, hgd, hil, hml, hel, hsi, hV⟩ ih2
  simp only at hj hgd hil hml hel hsi hV
  have hle : sts.length ≤ 4096 := hgd.len
  refine zaf Tk Tryz.func123 ?_
  refine zae Tk Tryz.func123 rfl (fun g2 => ?_) (fun g2 => ?_)
  ·have h3 : j < alpha.length := by simpa using g2
   clear g2
   have ga : (alpha.map fun x => [vi x])[(j : Int).toNat]? = some [vi alpha[j]] := zah (f := fun x => [vi x]) h3
   have da : alpha.drop j = alpha[j] :: alpha.drop (j + 1) := List.drop_eq_getElem_cons h3
   rw [da] at hV
   simp only [zaz] at hV
   clear da
   generalize alpha[j] = ev at *
   have gs : (sts.map staI)[(i : Int).toNat]? = some (staI ⟨sl, sv⟩) := by simp [hsi]
   have hst := fun H => zmU (H :: O) m ⟨sl, sv⟩ ev (d + 1) nm (hO H) hok
   have hokn := @zrX m ⟨sl, sv⟩ ev hr hoks
   have hj1 : ii (IntKind.i64.wrap ((j : Int) + 1)) = ii ((j + 1 : Nat) : Int) := congrArg ii (zaB (n := 4096) (by omega) (by decide))
   unfold zcu at hV
   generalize stpR m ⟨sl, sv⟩ ev = N at *
   obtain ⟨⟨nl, nv⟩, np, ne⟩ := N
   simp only at hV hst hokn
   refine zak Tk Tryz.func123 (by exact ⟨by omega, by show (j : Int) < (alpha.length : Int); omega⟩) ?_
   refine zar Tk Tryz.func123 (ga) ?_
   refine zak Tk Tryz.func123 (by exact ⟨by omega, by show (i : Int) < (sts.length : Int); omega⟩) ?_
   refine zar Tk Tryz.func123 (gs) ?_
   refine zaj Tk Tryz.func123 (hst _) rfl rfl rfl rfl rfl ?_
   refine zae Tk Tryz.func123 rfl (fun c1 => ?_) (fun c1 => ?_)
   ·have c1 : ne ≠ 0 := bneT c1
    rw [if_pos c1] at hV
    subst hV
    simp only at hno
    subst hno
    refine zao Tk (r := _) rfl rfl rfl trivial rfl rfl ?_
    exact zpi
   have c1 : ne = 0 := bneF c1
   rw [if_neg (by simpa using c1)] at hV
   refine zae Tk Tryz.func123 rfl (fun c2 => ?_) (fun c2 => ?_)
   ·have c2 : np = false := notT c2
    rw [if_pos c2] at hV
    refine zad ?_
    exact ih2 (j + 1, ⟨sts, mk, eds⟩) _ _ ⟨h3, hgd, hil, hml, by simp only; omega, hsi, hV⟩ (by simp only; omega) ⟨rfl, rfl, rfl, rfl, rfl, rfl, rfl, rfl, rfl, rfl, hj1, trivial⟩ rfl ⟨rfl, rfl, rfl, rfl, rfl, trivial⟩ rfl rfl
   have c2 : np = true := notF c2
   rw [if_neg (by rw [c2]; simp)] at hV
   have hon := hokn c2
   have hkn := zoA hr hon
   have hlk := ziF (fkey ⟨nl, nv⟩) sts 0
   have hks := @zln ⟨nl, nv⟩ sts 0
   rw [Nat.zero_add] at hks
   rw [Nat.zero_add] at hlk
   have hix : sts.findIdx (keq ⟨nl, nv⟩) ≤ sts.length := findIdx_le
   have hlk : zbg (kidx sts 0) (.string (fkey ⟨nl, nv⟩)) = if sts.findIdx (keq ⟨nl, nv⟩) < sts.length then some ((sts.findIdx (keq ⟨nl, nv⟩) : Nat) : Int) else none := hlk
   generalize sts.findIdx (keq ⟨nl, nv⟩) = t at *
   refine zbe Tk Tryz.func123 hE (zeC hg _ ⟨nl, nv⟩ hkn) rfl rfl rfl rfl rfl rfl ?_
   generalize hst2 : (if t < sts.length then sts else sts ++ [(⟨nl, nv⟩ : Sta)]) = sts2
   apply zbP (P := t < sts.length ∨ sts.length ≠ 4096) (s6 := { σ := [(0, ints alpha), (2, .fn (.func 119) [] []), (3, fnS (d + 1) nm), (4, fnM (d + 1) nm), (10, .own 0 10 0 0), (11, .osl 0 95), (13, .osl 0 26), (14, ii i), (16, ii ev), (20, ii t), (49, ints alpha), (50, ii alpha.length), (51, ii j)], S := [(10, .box [ints alpha, ii 0, .osl 0 47, .osl 0 103]), (95, zot sts2), (47, zaK mk), (103, zd5 eds), (26, .mp .str (.i .i64 (kidx sts2 0)))] :: O, n := 111 })
   ·intro J
    refine zae Tk Tryz.func123 rfl (fun c3 => ?_) (fun c3 => ?_)
    ·have c3 : mhas (kidx sts 0) (.string (fkey ⟨nl, nv⟩)) = false := notT c3
     have hlt : ¬ t < sts.length := fun h => by
      unfold mhas at c3
      rw [hlk, if_pos h] at c3
      cases c3
     have hte : t = sts.length := by omega
     rw [if_neg hlt] at hst2 hV
     have hks := hks hlt
     refine zae Tk Tryz.func123 rfl (fun c4 => ?_) (fun c4 => ?_)
     ·have c4 : ((sts.length : Nat) : Int) = 4096 := beqT c4
      have c4 : sts.length = 4096 := by omega
      rw [if_pos ⟨trivial, c4⟩] at hV
      subst hV
      simp only at hno
      subst hno
      refine zao Tk (r := _) rfl rfl rfl trivial rfl rfl ?_
      exact zpi
     have c4 : ((sts.length : Nat) : Int) ≠ 4096 := beqF c4
     have c4 : sts.length ≠ 4096 := by omega
     refine zbe Tk Tryz.func123 hE (zeC hg _ ⟨nl, nv⟩ hkn) rfl rfl rfl rfl rfl rfl ?_
     refine zak Tk Tryz.func123 (by exact ⟨by show (sts.length + 1) * 32 ≤ 140737488355328; omega, by show sts.length + 1 ≤ 9223372036854775807; omega⟩) ?_
     subst hst2
     refine zax ?_
     refine zaJ (J (.inr c4)) ⟨rfl, rfl, rfl, rfl, rfl, rfl, rfl, rfl, rfl, by rw [hte]; rfl, rfl, rfl, rfl, trivial⟩ rfl ⟨rfl, congrArg some (zmM sts (⟨nl, nv⟩ : Sta)), rfl, rfl, congrArg (fun l => some (Ob.mp .str (.i .i64 l))) hks, trivial⟩ rfl rfl
    ·have c3 : mhas (kidx sts 0) (.string (fkey ⟨nl, nv⟩)) = true := notF c3
     have hlt : t < sts.length := Classical.byContradiction fun h => by
      unfold mhas at c3
      rw [hlk, if_neg h] at c3
      cases c3
     rw [if_pos hlt] at hst2 hlk
     subst hst2
     refine zax ?_
     refine zaJ (J (.inl hlt)) ⟨rfl, rfl, rfl, rfl, rfl, rfl, rfl, rfl, rfl, by show ii (zcS (kidx sts 0) (.string (fkey ⟨nl, nv⟩))) = _; unfold zcS; rw [hlk]; rfl, rfl, rfl, rfl, trivial⟩ rfl ⟨rfl, rfl, rfl, rfl, rfl, trivial⟩ rfl rfl
   ·intro hP
    have hV : V = zaz keq true (stpR m) i ⟨sl, sv⟩ (alpha.drop (j + 1)) ⟨sts2, mk, eds ++ [((i : Int), ev, (t : Int))]⟩ := by
     rw [hV]
     by_cases hlt : t < sts.length
     ·rw [if_pos hlt] at hst2 ⊢
      subst hst2
      rfl
     ·rw [if_neg hlt] at hst2 ⊢
      rw [if_neg (by rintro ⟨_, h⟩; rcases hP with h' | h'; exact hlt h'; exact h' h)]
      subst hst2
      rfl
    have hg2 : UGood m ⟨sts2, mk, eds ++ [((i : Int), ev, (t : Int))]⟩ := by
     by_cases hlt : t < sts.length
     ·rw [if_pos hlt] at hst2
      subst hst2
      exact ⟨hgd.len, hgd.ok⟩
     ·rw [if_neg hlt] at hst2
      subst hst2
      refine ⟨?_, fun x hx => ?_⟩
      ·show (sts ++ [(⟨nl, nv⟩ : Sta)]).length ≤ 4096
       rw [List.length_append, List.length_singleton]
       rcases hP with h' | h'
       ·exact absurd h' hlt
       ·omega
      ·rcases List.mem_append.1 hx with hx | hx
       ·exact hgd.ok x hx
       ·rw [List.mem_singleton] at hx
        subst hx
        exact hon
    have hi2 : i < sts2.length ∧ sts2[i]? = some ⟨sl, sv⟩ := by
     by_cases hlt : t < sts.length
     ·rw [if_pos hlt] at hst2
      subst hst2
      exact ⟨hil, hsi⟩
     ·rw [if_neg hlt] at hst2
      subst hst2
      refine ⟨by rw [List.length_append]; omega, ?_⟩
      rw [List.getElem?_append_left hil]
      exact hsi
    have hi4 : i < 4096 := by omega
    clear hst2 hst hlk hks hgd hil hsi
    refine zaf Tk Tryz.func123 ?_
    refine g_go Tk Tryz.func123 ?_
    refine zak Tk Tryz.func123 (by exact ⟨by show (eds.length + 1) * 24 ≤ 140737488355328; omega, by show eds.length + 1 ≤ 9223372036854775807; omega⟩) ?_
    refine zad ?_
    exact ih2 (j + 1, ⟨sts2, mk, eds ++ [((i : Int), ev, (t : Int))]⟩) _ _ ⟨h3, hg2, hi2.1, hml, by simp only [List.length_append, List.length_singleton]; omega, hi2.2, hV⟩ (by simp only; omega) ⟨rfl, rfl, rfl, rfl, rfl, rfl, rfl, rfl, rfl, rfl, hj1, trivial⟩ rfl ⟨rfl, rfl, rfl, congrArg some (zgS eds ((i : Int), ev, (t : Int))), rfl, trivial⟩ rfl rfl
  ·have h3 : alpha.length ≤ j := by simpa using g2
   rw [List.drop_eq_nil_of_le h3] at hV
   simp only [zaz] at hV
   subst hV
   simp only at hno
   have hja : j ≤ 4096 := by omega
   refine zad ?_
   exact ih (i + 1, ⟨sts, mk, eds⟩) _ _ ⟨by simp only; omega, hgd, hml, by simp only; omega, hno⟩ (by simp only; omega) ⟨rfl, rfl, rfl, rfl, rfl, rfl, rfl, congrArg ii (zaB (n := 4096) (by omega) (by decide)), trivial⟩ rfl ⟨rfl, rfl, rfl, rfl, rfl, trivial⟩ rfl rfl
 ·have h1 : U.sts.length ≤ i := by simpa using g1
  rw [zfu h1] at hno
  subst hno
  obtain ⟨sts, mk, eds⟩ := U
  refine zbm (zap 95 rfl rfl) ?_
  refine zbm (zap 47 rfl rfl) ?_
  refine zbm (zap 103 rfl rfl) ?_
  refine zbm (zcs rfl) ?_
  refine zai Tk (r := unfD alpha (.ok ⟨sts, mk, eds⟩)) rfl rfl rfl trivial rfl rfl ?_
  rfl
end Go.AI


namespace Go.AI
open Go.Proofs
set_option maxRecDepth 20000
def zhi (m : Ext) : Except Int (Unf Sta) := if chk m ≠ 0 then .error (chk m) else unfX m m.alpha (zcY m)
theorem zlJ {g : Nat} (hg : zeO g) {ty : TypeId} {fr : Nat × Nat} (O : List Heap) (m : Ext) (hok : extOk m) : zbu g (ptab ty fr) Tryz.prog 70 [extD m] O (unfD m.alpha (zhi m)) [] O := by
 have hb := fun O => zsE O m hok
 unfold zpt at hb
 unfold zhi
 by_cases h1 : chk m ≠ 0
 ·simp only [if_pos h1] at hb ⊢
  refine zaO [] Tk Tryz.func70 rfl Tryz.call70 Tryz.ntmps70 (Nat.le_of_ble_eq_true rfl) fun E hE => ?_
  refine zaf Tk Tryz.func70 ?_
  refine zaj Tk Tryz.func70 (hb _) rfl rfl rfl rfl rfl ?_
  refine zae Tk Tryz.func70 rfl (fun h2 => ?_) (fun h2 => ?_)
  rotate_left
  ·exact absurd (bneF h2) h1
  refine zao Tk (r := _) rfl rfl rfl trivial rfl rfl ?_
  exact zpi
 ·have h1 : chk m = 0 := Classical.byContradiction h1
  have hr := zgk h1
  have hal := zeq (by decide) hr.alpha
  simp only [h1, ne_eq, not_true_eq_false, if_false] at hb ⊢
  have hcl := fun O => zh1 O m.alpha (by simp only [big]; omega)
  have hun := fun O ho => znO hg (ty := ty) (fr := fr) O m m.alpha (zcY m) 0 1 ho hok hr (by omega) (zk2 hr)
  generalize unfX m m.alpha (zcY m) = R at *
  generalize zcY m = st at *
  obtain ⟨sl, sv⟩ := st
  cases R with
  | error e =>
   refine zaO [] Tk Tryz.func70 rfl Tryz.call70 Tryz.ntmps70 (Nat.le_of_ble_eq_true rfl) fun E hE => ?_
   refine zaf Tk Tryz.func70 ?_
   refine zaj Tk Tryz.func70 (hb _) rfl rfl rfl rfl rfl ?_
   refine gcF Tk Tryz.func70 rfl ?_
   refine zaq Tk Tryz.func70 zay rfl ?_
   refine zaN Tk (fun _ => hcl _) rfl rfl rfl ?_
   refine zhr Tk hE (hun _ rfl) rfl rfl rfl rfl ?_
   refine zex Tk rfl rfl rfl ?_
   refine zav Tk Tryz.func70 (by kernel_rfl) ?_
   refine zao Tk (r := _) rfl rfl rfl trivial rfl rfl ?_
   exact CoD.refl _
  | ok U =>
   obtain ⟨us, um, ue⟩ := U
   refine zaO [] Tk Tryz.func70 rfl Tryz.call70 Tryz.ntmps70 (Nat.le_of_ble_eq_true rfl) fun E hE => ?_
   refine zaf Tk Tryz.func70 ?_
   refine zaj Tk Tryz.func70 (hb _) rfl rfl rfl rfl rfl ?_
   refine gcF Tk Tryz.func70 rfl ?_
   refine zaq Tk Tryz.func70 zay rfl ?_
   refine zaN Tk (fun _ => hcl _) rfl rfl rfl ?_
   refine zhr Tk hE (hun _ rfl) rfl rfl rfl rfl ?_
   refine zex Tk rfl rfl rfl ?_
   refine zav Tk Tryz.func70 (by kernel_rfl) ?_
   refine zao Tk (r := _) rfl rfl rfl trivial rfl rfl ?_
   exact CoD.refl _
end Go.AI


namespace Go.AI
open Go.Proofs
set_option maxRecDepth 20000
def zh3 (m : Ext) : List Sta → Int
 | [] => 0
 | s :: r => if ckS m s ≠ 0 then ckS m s else zh3 m r
def whL (x : Ex) : List Sta → Nat → List Int → List Int × Int
 | [], _, acc => (acc, 0)
 | s :: r, i, acc => if (zbh x s.vals).2 ≠ 0 then ([], (zbh x s.vals).2) else whL x r (i + 1) (if (zbh x s.vals).1 = 1 then acc ++ [(i : Int)] else acc)
def zia (m : Ext) (l : List Sta) (x : Ex) : List Int × Int :=
 if chk m ≠ 0 then ([], chk m) else if zh3 m l ≠ 0 then ([], zh3 m l) else if (zbs x m.vars.length).2 ≠ 0 then ([], (zbs x m.vars.length).2) else if (zbs x m.vars.length).1 ≠ 2 then ([], 16) else whL x l 0 []
theorem zi3 {e : Int} : CoD (.tup [.i (.v (.slice none 0 0)), ii e]) (.tup [ints [], ii e]) := zbK (.cons (zbY zaW) (CoDL.refl _))
theorem zrU (O : List Heap) (m : Ext) (l : List Sta) (x : Ex) (hok : extOk m) (hx : exOk x) (hl : l.length ≤ 1000000) (hv : ∀ s ∈ l, s.vals.length ≤ zam) : zan Tryz.prog 74 [extD m, zmv l, exA x] O (.tup [ints (zia m l x).1, ii (zia m l x).2]) [] O := by
 generalize hR : zia m l x = R
 unfold zia at hR
 have hck := fun O => zh6 O m hok
 refine zac Tk Tryz.func74 rfl Tryz.call74 Tryz.ntmps74 (Nat.le_of_ble_eq_true rfl) fun E => ?_
 refine zaf Tk Tryz.func74 ?_
 refine zaj Tk Tryz.func74 (hck _) rfl rfl rfl rfl rfl ?_
 refine zae Tk Tryz.func74 rfl (fun g0 => ?_) (fun g0 => ?_)
 ·have g0 : chk m ≠ 0 := bneT g0
  rw [if_pos g0] at hR
  subst hR
  refine zao Tk (r := _) rfl rfl rfl trivial rfl rfl ?_
  exact zi3
 have g0 : chk m = 0 := bneF g0
 rw [if_neg (by simpa using g0)] at hR
 clear hck
 have hC0 : zh3 m l = zh3 m (l.drop 0) := rfl
 generalize zh3 m l = C at *
 refine zad ?_
 refine zag (fun i : Nat => [(1, zmv l), (3, .own 0 3 0 0), (5, .own 0 5 0 0), (24, zmv l), (25, ii l.length), (26, ii i)]) (fun _ => [(3, .box (extC m)), (5, .box [ii x.op, ii x.vl, ii x.ix, exs x.args])]) (fun _ => O) 75
  (fun i => i ≤ l.length ∧ C = zh3 m (l.drop i)) (fun i => l.length - i) 0 ⟨Nat.zero_le _, hC0⟩ ⟨rfl, rfl, rfl, rfl, rfl, rfl, trivial⟩ rfl ⟨rfl, rfl, trivial⟩ rfl rfl ?_
 clear hC0
 rintro i ⟨hi, hC⟩ ih
 refine zaf Tk Tryz.func74 ?_
 refine zae Tk Tryz.func74 rfl (fun g1 => ?_) (fun g1 => ?_)
 ·have h1 : i < l.length := by simpa using g1
  have gs : (l.map staI)[(i : Int).toNat]? = some (staI l[i]) := zah h1
  have hd : l.drop i = l[i] :: l.drop (i + 1) := List.drop_eq_getElem_cons h1
  rw [hd] at hC
  simp only [zh3] at hC
  clear hd
  generalize l[i] = s at *
  have hcs := fun O => ze0 O m s hok
  generalize ckS m s = e at *
  obtain ⟨sl, sv⟩ := s
  have hi1 : ii (IntKind.i64.wrap ((i : Int) + 1)) = ii ((i + 1 : Nat) : Int) := congrArg ii (zaB (n := 1000000) (by omega) (by decide))
  refine zak Tk Tryz.func74 (by exact ⟨by omega, by show (i : Int) < (l.length : Int); omega⟩) ?_
  refine zar Tk Tryz.func74 (gs) ?_
  refine zaj Tk Tryz.func74 (hcs _) rfl rfl rfl rfl rfl ?_
  refine zae Tk Tryz.func74 rfl (fun g2 => ?_) (fun g2 => ?_)
  ·have g2 : e ≠ 0 := bneT g2
   rw [if_pos g2] at hC
   subst hC
   rw [if_pos g2] at hR
   subst hR
   refine zao Tk (r := _) rfl rfl rfl trivial rfl rfl ?_
   exact zi3
  ·have g2 : e = 0 := bneF g2
   rw [if_neg (by simpa using g2)] at hC
   refine zad ?_
   exact ih (i + 1) _ _ ⟨h1, hC⟩ (by omega) ⟨rfl, rfl, rfl, rfl, rfl, hi1, trivial⟩ rfl ⟨rfl, rfl, trivial⟩ rfl rfl
 clear ih
 have h1 : l.length ≤ i := by simpa using g1
 rw [List.drop_eq_nil_of_le h1] at hC
 simp only [zh3] at hC
 subst hC
 rw [if_neg (by simp)] at hR
 clear g1 h1 hi
 have hch := fun O => zrl O x m.vars.length hx
 generalize zbs x m.vars.length = Q at *
 obtain ⟨qk, qe⟩ := Q
 simp only at hR hch
 refine zaj Tk Tryz.func74 (hch _) rfl rfl rfl rfl rfl ?_
 refine zae Tk Tryz.func74 rfl (fun g1 => ?_) (fun g1 => ?_)
 ·have g1 : qe ≠ 0 := bneT g1
  rw [if_pos g1] at hR
  subst hR
  refine zao Tk (r := _) rfl rfl rfl trivial rfl rfl ?_
  exact zi3
 have g1 : qe = 0 := bneF g1
 rw [if_neg (by simpa using g1)] at hR
 refine zae Tk Tryz.func74 rfl (fun g2 => ?_) (fun g2 => ?_)
 ·have g2 : qk ≠ 2 := bneT g2
  rw [if_pos g2] at hR
  subst hR
  refine zao Tk (r := _) rfl rfl rfl trivial rfl rfl ?_
  exact zi3
 have g2 : qk = 2 := bneF g2
 rw [if_neg (by simpa using g2)] at hR
 have hR0 : R = whL x (l.drop 0) 0 [] := hR.symm
 clear hR hch
 refine zad ?_
 refine zaw (zcT 14 72 3 1 rfl rfl rfl) ?_
 refine zag (fun y : Nat × List Int => [(5, .own 0 5 0 0), (14, .osl 0 72), (50, zmv l), (51, ii l.length), (52, ii y.1)]) (fun y => [(5, .box [ii x.op, ii x.vl, ii x.ix, exs x.args]), (72, zaK y.2)]) (fun _ => O) 75
  (fun y => y.1 ≤ l.length ∧ y.2.length ≤ y.1 ∧ R = whL x (l.drop y.1) y.1 y.2) (fun y => l.length - y.1) (0, []) ⟨Nat.zero_le _, Nat.le_refl _, hR0⟩ ⟨rfl, rfl, rfl, rfl, rfl, trivial⟩ rfl ⟨rfl, rfl, trivial⟩ rfl rfl ?_
 clear hR0
 rintro ⟨i, acc⟩ ⟨hi, hac, hno⟩ ih
 simp only at hi hac hno
 refine zaf Tk Tryz.func74 ?_
 refine zae Tk Tryz.func74 rfl (fun g3 => ?_) (fun g3 => ?_)
 ·have h1 : i < l.length := by simpa using g3
  have gs : (l.map staI)[(i : Int).toNat]? = some (staI l[i]) := zah h1
  have hvi := hv _ (List.getElem_mem h1)
  have hd : l.drop i = l[i] :: l.drop (i + 1) := List.drop_eq_getElem_cons h1
  rw [hd] at hno
  simp only [whL] at hno
  clear hd
  generalize l[i] = s at *
  obtain ⟨sl, sv⟩ := s
  simp only at hno hvi
  have hev := fun O => zbJ O x sv hx hvi
  generalize zbh x sv = V at *
  obtain ⟨v, ve⟩ := V
  simp only at hno hev
  have hi1 : ii (IntKind.i64.wrap ((i : Int) + 1)) = ii ((i + 1 : Nat) : Int) := congrArg ii (zaB (n := 1000000) (by omega) (by decide))
  refine zak Tk Tryz.func74 (by exact ⟨by omega, by show (i : Int) < (l.length : Int); omega⟩) ?_
  refine zar Tk Tryz.func74 (gs) ?_
  refine zaj Tk Tryz.func74 (hev _) rfl rfl rfl rfl rfl ?_
  refine zae Tk Tryz.func74 rfl (fun g4 => ?_) (fun g4 => ?_)
  ·have g4 : ve ≠ 0 := bneT g4
   rw [if_pos g4] at hno
   subst hno
   refine zao Tk (r := _) rfl rfl rfl trivial rfl rfl ?_
   exact zi3
  have g4 : ve = 0 := bneF g4
  rw [if_neg (by simpa using g4)] at hno
  refine zae Tk Tryz.func74 rfl (fun g5 => ?_) (fun g5 => ?_)
  ·have g5 : v = 1 := beqT g5
   rw [if_pos g5] at hno
   refine zak Tk Tryz.func74 (by exact ⟨by show (acc.length + 1) * 8 ≤ 140737488355328; omega, by show acc.length + 1 ≤ 9223372036854775807; omega⟩) ?_
   refine zad ?_
   exact ih (i + 1, acc ++ [(i : Int)]) _ _ ⟨h1, by simp only [List.length_append, List.length_singleton]; omega, hno⟩ (by simp only; omega) ⟨rfl, rfl, rfl, rfl, hi1, trivial⟩ rfl ⟨rfl, congrArg some (zaR acc (i : Int)), trivial⟩ rfl rfl
  ·have g5 : v ≠ 1 := beqF g5
   rw [if_neg g5] at hno
   refine zad ?_
   exact ih (i + 1, acc) _ _ ⟨h1, by simp only; omega, hno⟩ (by simp only; omega) ⟨rfl, rfl, rfl, rfl, hi1, trivial⟩ rfl ⟨rfl, rfl, trivial⟩ rfl rfl
 ·have h1 : l.length ≤ i := by simpa using g3
  rw [List.drop_eq_nil_of_le h1] at hno
  simp only [whL] at hno
  subst hno
  refine zbm (zap 72 rfl rfl) ?_
  refine zai Tk (r := .tup [ints acc, ii 0]) rfl rfl rfl trivial rfl rfl ?_
  rfl
end Go.AI


namespace Go.AI
set_option maxRecDepth 20000
structure Org where
 locs : List Int
 vals : List Int
instance orgDec : DecidableEq Org := fun a b => decidable_of_iff (a.locs = b.locs ∧ a.vals = b.vals) ⟨fun ⟨h1, h2⟩ => by cases a; cases b; cases h1; cases h2; rfl, fun h => by subst h; exact ⟨rfl, rfl⟩⟩
abbrev orgD (o : Org) : D := .agg [ints o.locs, ints o.vals]
abbrev orgI (o : Org) : List I := [zb2 o.locs, zb2 o.vals]
abbrev zmN (l : List Org) : D := .i (.sl 2 l.length (l.map orgI))
def znF : Org := ⟨[], []⟩
def zd0 : Mv := ⟨0, 0, 0, ze6, []⟩
abbrev extI (m : Ext) : List I := [zb2 m.alpha, vi m.locs, vi m.init, zb2 m.marked, .sl 4 m.vars.length (m.vars.map vrI), .sl 8 m.moves.length (m.moves.map mvI)]
abbrev exts (l : List Ext) : D := .i (.sl 6 l.length (l.map extI))
def za2 (loc ev : Int) (vals : List Int) : List Mv → Nat → Nat → Option Nat → Option Int × Nat × Option Nat
 | [], _, c, k => (none, c, k)
 | x :: r, i, c, k => if x.frm ≠ loc ∨ x.ev ≠ ev then za2 loc ev vals r (i + 1) c k else
  if (zbh x.g vals).2 ≠ 0 then (some (zbh x.g vals).2, c, k) else
  if (zbh x.g vals).1 = 1 then za2 loc ev vals r (i + 1) (c + 1) (some i) else za2 loc ev vals r (i + 1) c k
def selK (m : Ext) (loc ev : Int) (vals : List Int) : Except Int (Option Nat) := match za2 loc ev vals m.moves 0 0 none with
 | (some e, _, _) => .error e
 | (none, c, k) => if c > 1 then .error 18 else .ok k
def mvAt (l : List Mv) : Option Nat → Mv
 | none => zd0
 | some k => l.getD k zd0
def ze8 (at_ : Org) (ev : Int) : List Ext → Nat → List (Option (Option Nat)) → Except Int (List (Option (Option Nat)))
 | [], _, ps => .ok ps
 | m :: r, i, ps => if ev ∉ m.alpha then ze8 at_ ev r (i + 1) (ps ++ [none]) else
  match selK m (at_.locs.getD i 0) ev at_.vals with
  | .error e => .error e
  | .ok k => ze8 at_ ev r (i + 1) (ps ++ [some k])
def canO (ps : List (Option (Option Nat))) : Bool := !ps.contains (some none)
def zbc : List Ext → List Int → List (Option (Option Nat)) → List Int
 | m :: r, x :: l, none :: ps => x :: zbc r l ps
 | m :: r, x :: l, some k :: ps => (mvAt m.moves k).to :: zbc r l ps
 | _, l, _ => l
def mvsO : List Ext → List (Option (Option Nat)) → List Mv
 | m :: r, none :: ps => mvsO r ps
 | m :: r, some k :: ps => mvAt m.moves k :: mvsO r ps
 | _, _ => []
def asgU (vars : List Vr) (vals : List Int) : List Upd → List Int → List Int → Except Int (List Int × List Int)
 | [], out, G => .ok (out, G)
 | u :: r, out, G => if (zbh u.x vals).2 ≠ 0 ∨ (vars[u.v.toNat]?).any (fun a => decide ((zbh u.x vals).1 < a.low) || decide ((zbh u.x vals).1 > a.high)) then .error 17 else
  if u.v ∈ G ∧ out.getD u.v.toNat 0 ≠ (zbh u.x vals).1 then .error 13 else
  asgU vars vals r (out.set u.v.toNat (zbh u.x vals).1) (if u.v ∈ G then G else G ++ [u.v])
def asgM (vars : List Vr) (vals : List Int) : List Mv → List Int → List Int → Except Int (List Int × List Int)
 | [], out, G => .ok (out, G)
 | x :: r, out, G => match asgU vars vals x.us out G with
  | .error e => .error e
  | .ok (out', G') => asgM vars vals r out' G'
def zbV (l : List Ext) (o : Org) (ev : Int) : Org × Bool × Int := match ze8 o ev l 0 [] with
 | .error e => (znF, false, e)
 | .ok ps => if canO ps = false then (znF, false, 0) else
  match asgM ((l.getD 0 ⟨[], 0, 0, [], [], []⟩).vars) o.vals (mvsO l ps) o.vals [] with
  | .error e => (znF, false, e)
  | .ok (out, _) => (⟨zbc l o.locs ps, out⟩, true, 0)
theorem zf0 : ∀ (l : List Ext) (x : List Int), zbc l x [] = x
 | [], x => by simp [zbc]
 | _ :: _, [] => by simp [zbc]
 | _ :: _, _ :: _ => by simp [zbc]
theorem zea : ∀ (l : List Ext) (x : List Int) (ps : List (Option (Option Nat))), (zbc l x ps).length = x.length
 | [], x, _ => by simp [zbc]
 | _ :: _, [], _ => by simp [zbc]
 | _ :: _, _ :: _, [] => by simp [zbc]
 | m :: r, y :: x, none :: ps => by simp [zbc, zea r x ps]
 | m :: r, y :: x, some k :: ps => by simp [zbc, zea r x ps]
theorem zf1 : ∀ (l : List Ext) (x : List Int) (ps : List (Option (Option Nat))) (k : Option Nat) (h : ps.length < l.length), zbc l x (ps ++ [some k]) = (zbc l x ps).set ps.length (mvAt l[ps.length].moves k).to
 | m :: r, [], ps, k, _ => by simp [zbc]
 | m :: r, y :: x, [], k, _ => by simp [zbc, zf0]
 | m :: r, y :: x, none :: ps, k, h => by
  have := zf1 r x ps k (by simpa using h)
  simp [zbc, this]
 | m :: r, y :: x, some j :: ps, k, h => by
  have := zf1 r x ps k (by simpa using h)
  simp [zbc, this]
theorem zez : ∀ (l : List Ext) (x : List Int) (ps : List (Option (Option Nat))), zbc l x (ps ++ [none]) = zbc l x ps
 | [], x, ps => by simp [zbc]
 | m :: r, [], ps => by simp [zbc]
 | m :: r, y :: x, [] => by simp [zbc, zf0]
 | m :: r, y :: x, none :: ps => by simp [zbc, zez r x ps]
 | m :: r, y :: x, some j :: ps => by simp [zbc, zez r x ps]
theorem zhE : ∀ (l : List Ext), mvsO l [] = []
 | [] => by simp [mvsO]
 | _ :: _ => by simp [mvsO]
theorem zhF : ∀ (l : List Ext) (ps : List (Option (Option Nat))) (k : Option Nat) (h : ps.length < l.length), mvsO l (ps ++ [some k]) = mvsO l ps ++ [mvAt l[ps.length].moves k]
 | m :: r, [], k, _ => by simp [mvsO, zhE]
 | m :: r, none :: ps, k, h => by
  have := zhF r ps k (by simpa using h)
  simp [mvsO, this]
 | m :: r, some j :: ps, k, h => by
  have := zhF r ps k (by simpa using h)
  simp [mvsO, this]
theorem zfS : ∀ (l : List Ext) (ps : List (Option (Option Nat))), mvsO l (ps ++ [none]) = mvsO l ps
 | [], ps => by simp [mvsO]
 | m :: r, [] => by simp [mvsO, zhE]
 | m :: r, none :: ps => by simp [mvsO, zfS r ps]
 | m :: r, some j :: ps => by simp [mvsO, zfS r ps]
theorem zpo (ps : List (Option (Option Nat))) : canO (ps ++ [none]) = canO ps := by
 unfold canO
 rw [List.contains_eq_any_beq, List.contains_eq_any_beq]
 simp [List.any_append]
theorem zrm (ps : List (Option (Option Nat))) (k : Option Nat) : canO (ps ++ [some k]) = (canO ps && k.isSome) := by
 unfold canO
 rw [List.contains_eq_any_beq, List.contains_eq_any_beq]
 cases k <;> simp [List.any_append]
end Go.AI


namespace Go.AI
set_option maxRecDepth 20000
theorem zhq {loc ev : Int} {vals : List Int} : ∀ {l : List Mv} {i c : Nat} {k : Option Nat}, (∀ j, k = some j → j < i) → ∀ j, (za2 loc ev vals l i c k).2.2 = some j → j < i + l.length
 | [], i, c, k, hk, j, h => hk j h
 | x :: r, i, c, k, hk, j, h => by
  have hk1 : ∀ j, k = some j → j < i + 1 := fun j hj => by have := hk j hj; omega
  simp only [za2] at h
  simp only [List.length_cons]
  split at h
  ·have := zhq hk1 j h; omega
  split at h
  ·have := hk1 j h; omega
  split at h
  ·have := zhq (k := some i) (fun j hj => by simp only [Option.some.injEq] at hj; omega) j h; omega
  ·have := zhq hk1 j h; omega
theorem zfg {loc ev : Int} {vals : List Int} : ∀ {l : List Mv} {i c : Nat} {k : Option Nat}, k.isSome = decide (1 ≤ c) → (za2 loc ev vals l i c k).1 = none → (za2 loc ev vals l i c k).2.2.isSome = decide (1 ≤ (za2 loc ev vals l i c k).2.1)
 | [], i, c, k, hk, _ => hk
 | x :: r, i, c, k, hk, h => by
  by_cases h1 : x.frm ≠ loc ∨ x.ev ≠ ev
  ·simp only [za2, if_pos h1] at h ⊢; exact zfg hk h
  by_cases h2 : (zbh x.g vals).2 ≠ 0
  ·simp only [za2, if_neg h1, if_pos h2] at h; cases h
  by_cases h3 : (zbh x.g vals).1 = 1
  ·simp only [za2, if_neg h1, if_neg h2, if_pos h3] at h ⊢; exact zfg (by simp) h
  ·simp only [za2, if_neg h1, if_neg h2, if_neg h3] at h ⊢; exact zfg hk h
theorem zr4 {m : Ext} {loc ev : Int} {vals : List Int} {k : Nat} (h : selK m loc ev vals = .ok (some k)) : k < m.moves.length := by
 have hl := @zhq loc ev vals m.moves 0 0 none (fun j hj => by cases hj)
 unfold selK at h
 generalize za2 loc ev vals m.moves 0 0 none = S at *
 obtain ⟨e, c, k'⟩ := S
 cases e with
 | some e => cases h
 | none =>
  simp only at h
  split at h
  ·cases h
  ·simp only [Except.ok.injEq] at h
   have := hl k h
   omega
end Go.AI


namespace Go.AI
set_option maxRecDepth 20000
def okLo : List Ext → List Int → Prop
 | [], [] => True
 | m :: r, x :: xs => (0 ≤ x ∧ x < m.locs) ∧ okLo r xs
 | _, _ => False
theorem zhB : ∀ {l : List Ext} {x : List Int}, okLo l x → x.length = l.length
 | [], [], _ => rfl
 | _ :: _, _ :: _, h => by simp only [List.length_cons]; rw [zhB h.2]
 | [], _ :: _, h => h.elim
 | _ :: _, [], h => h.elim
theorem zlg : ∀ {l : List Ext} {x : List Int}, okLo l x → ∀ a ∈ x, ∃ m ∈ l, 0 ≤ a ∧ a < m.locs
 | [], [], _, a, h => by simp at h
 | m :: r, y :: x, h, a, ha => by
  rcases List.mem_cons.1 ha with rfl | ha
  ·exact ⟨m, by simp, h.1⟩
  ·obtain ⟨n, hn, h1⟩ := zlg h.2 a ha
   exact ⟨n, by simp [hn], h1⟩
 | [], _ :: _, h, _, _ => h.elim
 | _ :: _, [], h, _, _ => h.elim
def okP : List Ext → List (Option (Option Nat)) → Prop
 | [], [] => True
 | m :: r, p :: ps => (∀ k, p = some (some k) → k < m.moves.length) ∧ okP r ps
 | _, _ => False
def zdQ (o : Org) (ev : Int) : List Ext → Nat → Except Int (List (Option (Option Nat)))
 | [], _ => .ok []
 | m :: r, i => if ev ∉ m.alpha then (match zdQ o ev r (i + 1) with
   | .error e => .error e
   | .ok q => .ok (none :: q)) else
  match selK m (o.locs.getD i 0) ev o.vals with
  | .error e => .error e
  | .ok k => match zdQ o ev r (i + 1) with
   | .error e => .error e
   | .ok q => .ok (some k :: q)
theorem zhz {o : Org} {ev : Int} : ∀ (l : List Ext) (i : Nat) (ps : List (Option (Option Nat))), ze8 o ev l i ps = match zdQ o ev l i with
  | .error e => .error e
  | .ok q => .ok (ps ++ q)
 | [], i, ps => by simp [ze8, zdQ]
 | m :: r, i, ps => by
  simp only [ze8, zdQ]
  split
  ·rw [zhz r]
   cases zdQ o ev r (i + 1) <;> simp
  ·cases selK m (o.locs.getD i 0) ev o.vals with
   | error e => rfl
   | ok k =>
    simp only
    rw [zhz r]
    cases zdQ o ev r (i + 1) <;> simp
theorem zhy {o : Org} {ev : Int} : ∀ {l : List Ext} {i : Nat} {q : List (Option (Option Nat))}, zdQ o ev l i = .ok q → okP l q
 | [], i, q, h => by simp only [zdQ, Except.ok.injEq] at h; subst h; trivial
 | m :: r, i, q, h => by
  simp only [zdQ] at h
  split at h
  ·cases hq : zdQ o ev r (i + 1) with
   | error e => rw [hq] at h; cases h
   | ok q' =>
    rw [hq] at h
    simp only [Except.ok.injEq] at h
    subst h
    exact ⟨fun k hk => (by cases hk), zhy hq⟩
  ·cases hk : selK m (o.locs.getD i 0) ev o.vals with
   | error e => rw [hk] at h; cases h
   | ok k =>
    rw [hk] at h
    simp only at h
    cases hq : zdQ o ev r (i + 1) with
    | error e => rw [hq] at h; cases h
    | ok q' =>
     rw [hq] at h
     simp only [Except.ok.injEq] at h
     subst h
     refine ⟨fun j hj => ?_, zhy hq⟩
     simp only [Option.some.injEq] at hj
     subst hj
     exact zr4 hk
theorem zes (p : Option (Option Nat)) (ps : List (Option (Option Nat))) : canO (p :: ps) = (decide (p ≠ some none) && canO ps) := by
 unfold canO
 rw [List.contains_cons]
 cases p with
 | none => simp
 | some k => cases k <;> simp
theorem ziz : ∀ {l : List Ext} {x : List Int} {q : List (Option (Option Nat))}, (∀ m ∈ l, extRight m) → okLo l x → okP l q → canO q = true → okLo l (zbc l x q)
 | [], [], [], _, _, _, _ => by simp [zbc, okLo]
 | m :: r, y :: x, p :: q, hr, hl, hp, hc => by
  rw [zes, Bool.and_eq_true, decide_eq_true_eq] at hc
  have ih := ziz (fun n hn => hr n (by simp [hn])) hl.2 hp.2 hc.2
  match p, hc.1, hp.1 with
  | none, _, _ => exact ⟨hl.1, ih⟩
  | some none, h, _ => exact absurd rfl h
  | some (some k), _, h =>
   have hk := h k rfl
   have hm := (chk_mv (hr m (by simp))) _ (List.getElem_mem hk)
   have e : mvAt m.moves (some k) = m.moves[k] := by simp [mvAt, List.getD_eq_getElem?_getD, List.getElem?_eq_getElem hk]
   simp only [zbc, okLo, e]
   exact ⟨hm.to, ih⟩
 | [], _ :: _, _, _, h, _, _ => h.elim
 | _ :: _, [], _, _, h, _, _ => h.elim
 | [], [], _ :: _, _, _, h, _ => h.elim
 | _ :: _, _ :: _, [], _, _, h, _ => h.elim
where
 chk_mv {m : Ext} (h : extRight m) : ∀ x ∈ m.moves, mvRight m x := h.mv
theorem zeP {l : List Vr} {v : List Int} (h : within l v = true) : l.length = v.length := by
 apply Classical.byContradiction
 intro hc
 rw [zet l v hc] at h
 cases h
theorem zgp {vars : List Vr} {vals : List Int} : ∀ {us : List Upd} {acc G a G' : List Int}, within vars acc = true → asgU vars vals us acc G = .ok (a, G') → within vars a = true
 | [], acc, G, a, G', h, e => by
  simp only [asgU, Except.ok.injEq, Prod.mk.injEq] at e
  rw [← e.1]; exact h
 | u :: r, acc, G, a, G', h, e => by
  simp only [asgU] at e
  split at e
  ·cases e
  rename_i h1
  split at e
  ·cases e
  refine zgp ?_ e
  cases hv : vars[u.v.toNat]? with
  | none =>
   have hlen := zeP h
   rw [List.getElem?_eq_none_iff] at hv
   rw [List.set_eq_of_length_le (by omega)]
   exact h
  | some v =>
   obtain ⟨hk, rfl⟩ := List.getElem?_eq_some_iff.1 hv
   rw [hv] at h1
   simp only [Option.any_some, Bool.or_eq_true, decide_eq_true_eq, not_or] at h1
   exact zgF h hk (by omega)
theorem zgq {vars : List Vr} {vals : List Int} : ∀ {ms : List Mv} {acc G a G' : List Int}, within vars acc = true → asgM vars vals ms acc G = .ok (a, G') → within vars a = true
 | [], acc, G, a, G', h, e => by
  simp only [asgM, Except.ok.injEq, Prod.mk.injEq] at e
  rw [← e.1]; exact h
 | x :: r, acc, G, a, G', h, e => by
  simp only [asgM] at e
  cases hu : asgU vars vals x.us acc G with
  | error e' => rw [hu] at e; cases e
  | ok p =>
   rw [hu] at e
   exact zgq (zgp h hu) e
abbrev zcU (l : List Ext) : List Vr := (l.getD 0 ⟨[], 0, 0, [], [], []⟩).vars
structure okOJ (l : List Ext) (o : Org) : Prop where
 locs : okLo l o.locs
 vals : within (zcU l) o.vals = true
theorem zqi {l : List Ext} (hr : ∀ m ∈ l, extRight m) {o : Org} {ev : Int} (h : okOJ l o) (hp : (zbV l o ev).2.1 = true) : okOJ l (zbV l o ev).1 := by
 unfold zbV at hp ⊢
 rw [zhz] at hp ⊢
 cases hq : zdQ o ev l 0 with
 | error e => rw [hq] at hp; cases hp
 | ok q =>
  rw [hq] at hp
  simp only [List.nil_append] at hp ⊢
  by_cases hc : canO q = false
  ·rw [if_pos hc] at hp; cases hp
  rw [if_neg hc] at hp ⊢
  cases ha : asgM (l.getD 0 ⟨[], 0, 0, [], [], []⟩).vars o.vals (mvsO l q) o.vals [] with
  | error e => rw [ha] at hp; cases hp
  | ok p =>
   obtain ⟨a, G⟩ := p
   exact ⟨ziz hr h.locs (zhy hq) (by simpa using hc), zgq h.vals ha⟩
def zbW : List Ext → List Int → Bool
 | m :: r, x :: xs => decide (x ∈ m.marked) && zbW r xs
 | _, _ => true
abbrev zcc (o : Org) : ByteArray := zej [o.locs, o.vals]
abbrev keqO (a b : Org) : Bool := zcc a == zcc b
def zfA (l : List Ext) : Org := ⟨l.map (·.init), (zcU l).map (·.init)⟩
def zbB : List Ext → Int
 | [] => 0
 | m :: r => if chk m ≠ 0 then chk m else zbB r
theorem zhe : ∀ {l : List Ext}, zbB l = 0 → ∀ m ∈ l, chk m = 0
 | [], _, m, hm => by simp at hm
 | n :: r, h, m, hm => by
  simp only [zbB] at h
  by_cases h1 : chk n ≠ 0
  ·rw [if_pos h1] at h; exact absurd h h1
  rw [if_neg h1] at h
  rcases List.mem_cons.1 hm with rfl | hm
  ·simpa using h1
  ·exact zhe h m hm
structure jntOk (l : List Ext) : Prop where
 pos : l ≠ []
 len : l.length ≤ 12
 ok : ∀ m ∈ l, extOk m
 right : ∀ m ∈ l, extRight m
 same : ∀ m ∈ l, m.vars = zcU l
theorem zoN : ∀ {l : List Ext}, (∀ m ∈ l, extRight m) → okLo l (l.map (·.init))
 | [], _ => trivial
 | m :: r, h => ⟨(h m (by simp)).init, zoN fun n hn => h n (by simp [hn])⟩
theorem zn0 {l : List Ext} (h : jntOk l) : okOJ l (zfA l) := by
 refine ⟨zoN h.right, ?_⟩
 match l, h with
 | [], h => exact absurd rfl h.pos
 | m :: r, h => exact (zk2 (h.right m (by simp))).2
theorem zsa {l : List Ext} (hj : jntOk l) {o : Org} (h : okOJ l o) : ∀ x ∈ [o.locs, o.vals], x.length ≤ 4096 ∧ ∀ v ∈ x, i64B v := by
 intro x hx
 simp only [List.mem_cons, List.mem_nil_iff, or_false] at hx
 rcases hx with rfl | rfl
 ·have := zhB h.locs
  have := hj.len
  refine ⟨by omega, fun v hv => ?_⟩
  obtain ⟨m, hm, h1⟩ := zlg h.locs v hv
  have h2 := (hj.right m hm).locs
  exact ⟨by omega, by omega⟩
 ·match l, hj with
  | [], hj => exact absurd rfl hj.pos
  | m :: r, hj =>
   have hm := hj.right m (by simp)
   have hb := zgR (s := ⟨m.init, o.vals⟩) hm ⟨hm.init, h.vals⟩
   exact ⟨by have h3 : o.vals.length ≤ 16 := hb.2.2.1; omega, hb.2.1⟩
end Go.AI


namespace Go.AI
open Go.Proofs
set_option maxRecDepth 20000
abbrev mvC (x : Mv) : List D := [ii x.frm, ii x.ev, ii x.to, ii x.g.op, ii x.g.vl, ii x.g.ix, exs x.g.args, upds x.us]
abbrev mvZ : List D := [ii 0, ii 0, ii 0, ii 0, ii 0, ii 0, .i (.v (.slice none 0 0)), .i (.v (.slice none 0 0))]
abbrev mvF (x : Mv) : D := .agg (mvC x)
def mvK (l : List Mv) : Option Nat → List D
 | none => mvZ
 | some k => mvC (l.getD k zd0)
def zi4 (m : Ext) (loc ev : Int) (vals : List Int) : Mv × Bool × Int := match za2 loc ev vals m.moves 0 0 none with
 | (some e, _, k) => (mvAt m.moves k, false, e)
 | (none, c, k) => if c > 1 then (zd0, false, 18) else (mvAt m.moves k, decide (c = 1), 0)
theorem zrg {b : Bool} {e : Int} : CoD (.tup [.agg mvZ, bb b, ii e]) (.tup [mvF zd0, bb b, ii e]) := by
 show CoD (.tup [.agg [ii 0, ii 0, ii 0, ii 0, ii 0, ii 0, .i (.v (.slice none 0 0)), .i (.v (.slice none 0 0))], bb b, ii e]) (.tup [.agg [ii 0, ii 0, ii 0, ii 0, ii 0, ii 0, .i (.sl 4 0 []), .i (.sl 5 0 [])], bb b, ii e])
 repeat' (first | refine zbK ?_ | refine zbZ ?_ | refine zbY ?_ | refine CoDL.cons ?_ ?_ | exact CoDL.nil | exact zaW | refine zeY ?_ | refine CoLL.cons ?_ ?_ | exact CoLL.nil | refine CoL.cons ?_ ?_ | exact CoL.nil | exact CoI.refl _ | exact CoL.refl _ | exact CoLL.refl _ | exact CoDL.refl _ | exact CoD.refl _)
set_option maxHeartbeats 4000000 in
theorem zrh (O : List Heap) (m : Ext) (loc ev : Int) (vals : List Int) (hok : extOk m) (hl : vals.length ≤ zam) : zan Tryz.prog 138 [extD m, ii loc, ii ev, ints vals] O (.tup [mvF (zi4 m loc ev vals).1, bb (zi4 m loc ev vals).2.1, ii (zi4 m loc ev vals).2.2]) [] O := by
 have hmo := hok.mo
 unfold zi4
 have hR : za2 loc ev vals m.moves 0 0 none = za2 loc ev vals (m.moves.drop 0) 0 0 none := rfl
 generalize za2 loc ev vals m.moves 0 0 none = R at *
 refine zac Tk Tryz.func138 rfl Tryz.call138 Tryz.ntmps138 (Nat.le_of_ble_eq_true rfl) fun E => ?_
 refine zaf Tk Tryz.func138 ?_
 refine zad ?_
 refine zag (fun x : Nat × Nat × Option Nat => [(1, ii loc), (2, ii ev), (3, ints vals), (4, .own 0 4 0 0), (8, .own 0 8 0 0), (11, ii x.2.1), (17, mvs m.moves), (18, ii m.moves.length), (19, ii x.1)]) (fun x => [(8, .box (mvK m.moves x.2.2)), (4, .box (extC m))]) (fun _ => O) 56
  (fun x => x.1 ≤ m.moves.length ∧ x.2.1 ≤ x.1 ∧ R = za2 loc ev vals (m.moves.drop x.1) x.1 x.2.1 x.2.2) (fun x => m.moves.length - x.1) (0, 0, none) ⟨Nat.zero_le _, Nat.le_refl _, hR⟩ ⟨rfl, rfl, rfl, rfl, rfl, rfl, rfl, rfl, rfl, trivial⟩ rfl ⟨rfl, rfl, trivial⟩ rfl rfl ?_
 clear hR
 rintro ⟨i, c, k⟩ ⟨hi, hc, hno⟩ ih
 simp only at hi hc hno
 refine zaf Tk Tryz.func138 ?_
 refine zae Tk Tryz.func138 rfl (fun g1 => ?_) (fun g1 => ?_)
 ·have h1 : i < m.moves.length := by simpa using g1
  clear g1
  have hd : m.moves.drop i = m.moves[i] :: m.moves.drop (i + 1) := List.drop_eq_getElem_cons h1
  have hg : (m.moves.map mvI)[(i : Int).toNat]? = some (mvI m.moves[i]) := zah h1
  have hx := (hok.mv _ (List.getElem_mem h1)).1
  have hgd : m.moves.getD i zd0 = m.moves[i] := by rw [List.getD_eq_getElem?_getD, List.getElem?_eq_getElem h1]; rfl
  generalize m.moves[i] = x at *
  obtain ⟨xf, xe, xt, xg, xu⟩ := x
  simp only at hx
  rw [hd] at hno
  simp only [za2] at hno
  have hev := fun O => zbJ O xg vals hx hl
  generalize zbh xg vals = V at *
  obtain ⟨y, e⟩ := V
  simp only at hno hev
  have hi1 : ii (IntKind.i64.wrap ((i : Int) + 1)) = ii ((i + 1 : Nat) : Int) := congrArg ii (zaB h1 hmo)
  clear hd
  refine zak Tk Tryz.func138 (by exact ⟨by omega, by show (i : Int) < (m.moves.length : Int); omega⟩) ?_
  refine zar Tk Tryz.func138 (hg) ?_
  refine zaF Tk Tryz.func138 rfl (fun h2 => ?_) (fun h2 => ?_)
  ·have h2 : xf ≠ loc := bneT h2
   rw [if_pos (.inl h2)] at hno
   refine gcT Tk Tryz.func138 rfl ?_
   refine zad ?_
   exact ih (i + 1, c, k) _ _ ⟨h1, by simp only; omega, hno⟩ (by simp only; omega) ⟨rfl, rfl, rfl, rfl, rfl, rfl, rfl, rfl, hi1, trivial⟩ rfl ⟨rfl, rfl, trivial⟩ (by cases k <;> rfl) rfl
  have h2 : xf = loc := bneF h2
  refine zae Tk Tryz.func138 rfl (fun h3 => ?_) (fun h3 => ?_)
  ·have h3 : xe ≠ ev := bneT h3
   rw [if_pos (.inr h3)] at hno
   refine zad ?_
   exact ih (i + 1, c, k) _ _ ⟨h1, by simp only; omega, hno⟩ (by simp only; omega) ⟨rfl, rfl, rfl, rfl, rfl, rfl, rfl, rfl, hi1, trivial⟩ rfl ⟨rfl, rfl, trivial⟩ (by cases k <;> rfl) rfl
  have h3 : xe = ev := bneF h3
  rw [if_neg (by simp [h2, h3])] at hno
  refine zaj Tk Tryz.func138 (hev _) rfl rfl rfl rfl rfl ?_
  refine zae Tk Tryz.func138 rfl (fun h4 => ?_) (fun h4 => ?_)
  ·have h4 : e ≠ 0 := bneT h4
   rw [if_pos h4] at hno
   subst hno
   cases k with
   | none =>
    refine zao Tk (r := .tup [.agg mvZ, bb false, ii e]) rfl rfl rfl trivial rfl rfl ?_
    exact zrg
   | some k =>
    refine zai Tk (r := .tup [mvF (mvAt m.moves (some k)), bb false, ii e]) rfl rfl rfl trivial rfl rfl ?_
    rfl
  have h4 : e = 0 := bneF h4
  rw [if_neg (by simpa using h4)] at hno
  refine zae Tk Tryz.func138 rfl (fun h5 => ?_) (fun h5 => ?_)
  ·have h5 : y = 1 := beqT h5
   rw [if_pos h5] at hno
   cases k with
   | none =>
    refine zad ?_
    refine ih (i + 1, c + 1, some i) _ _ ⟨h1, by simp only; omega, hno⟩ (by simp only; omega) ⟨rfl, rfl, rfl, rfl, rfl, congrArg ii (zaB (n := zam) (i := c) (by omega) (Nat.le_refl _)), rfl, rfl, hi1, trivial⟩ rfl ⟨?_, rfl, trivial⟩ rfl rfl
    exact congrArg (fun y => some (Ob.box (mvC y))) hgd.symm
   | some k =>
    refine zad ?_
    refine ih (i + 1, c + 1, some i) _ _ ⟨h1, by simp only; omega, hno⟩ (by simp only; omega) ⟨rfl, rfl, rfl, rfl, rfl, congrArg ii (zaB (n := zam) (i := c) (by omega) (Nat.le_refl _)), rfl, rfl, hi1, trivial⟩ rfl ⟨?_, rfl, trivial⟩ rfl rfl
    exact congrArg (fun y => some (Ob.box (mvC y))) hgd.symm
  ·have h5 : y ≠ 1 := beqF h5
   rw [if_neg h5] at hno
   refine zad ?_
   exact ih (i + 1, c, k) _ _ ⟨h1, by simp only; omega, hno⟩ (by simp only; omega) ⟨rfl, rfl, rfl, rfl, rfl, rfl, rfl, rfl, hi1, trivial⟩ rfl ⟨rfl, rfl, trivial⟩ (by cases k <;> rfl) rfl
 ·have h1 : m.moves.length ≤ i := by simpa using g1
  clear g1
  rw [List.drop_eq_nil_of_le h1] at hno
  simp only [za2] at hno
  subst hno
  have hb : ((c : Int) == 1) = decide (c = 1) := by
   rw [Bool.eq_iff_iff]
   simp
   omega
  cases k with
  | none =>
   refine zae Tk Tryz.func138 rfl (fun h2 => ?_) (fun h2 => ?_)
   ·have h2 : c > 1 := by have : (c : Int) > 1 := of_decide_eq_true h2; omega
    simp only [if_pos h2]
    refine zao Tk (r := .tup [.agg mvZ, bb false, ii 18]) rfl rfl rfl trivial rfl rfl ?_
    exact zrg
   ·have h2 : ¬ c > 1 := by have : ¬ (c : Int) > 1 := of_decide_eq_false h2; omega
    simp only [if_neg h2]
    rw [← hb]
    refine zao Tk (r := .tup [.agg mvZ, bb ((c : Int) == 1), ii 0]) rfl rfl rfl trivial rfl rfl ?_
    exact zrg
  | some k =>
   refine zae Tk Tryz.func138 rfl (fun h2 => ?_) (fun h2 => ?_)
   ·have h2 : c > 1 := by have : (c : Int) > 1 := of_decide_eq_true h2; omega
    simp only [if_pos h2]
    refine zao Tk (r := .tup [.agg mvZ, bb false, ii 18]) rfl rfl rfl trivial rfl rfl ?_
    exact zrg
   ·have h2 : ¬ c > 1 := by have : ¬ (c : Int) > 1 := of_decide_eq_false h2; omega
    simp only [if_neg h2]
    rw [← hb]
    refine zai Tk (r := .tup [mvF (mvAt m.moves (some k)), bb ((c : Int) == 1), ii 0]) rfl rfl rfl trivial rfl rfl ?_
    rfl
abbrev gmap (G : List Int) : List (Value × Bool) := G.map fun g => (.int .i64 g, true)
theorem zoU (v : Int) : ∀ G : List Int, zbg (gmap G) (.int .i64 v) = if v ∈ G then some true else none
 | [] => by simp [zbg]
 | g :: r => by
  simp only [gmap, List.map_cons, zbg, keyB, List.mem_cons]
  have ih : zbg (r.map fun g => ((.int .i64 g : Value), true)) (.int .i64 v) = _ := zoU v r
  rw [ih]
  by_cases h : v = g
  ·subst h; simp
  ·have : (v == g) = false := by simpa using h
   rw [this]; simp [h]
theorem zto (G : List Int) (v : Int) : zmS (gmap G) (.int .i64 v) = decide (v ∈ G) := by
 unfold zmS
 rw [zoU]
 by_cases h : v ∈ G <;> simp [h]
theorem zrH (v : Int) : ∀ G : List Int, mset (gmap G) (.int .i64 v) true = gmap (if v ∈ G then G else G ++ [v])
 | [] => by simp [mset]
 | g :: r => by
  simp only [gmap, List.map_cons, mset, keyB, List.mem_cons]
  have ih : mset (r.map fun g => ((.int .i64 g : Value), true)) (.int .i64 v) true = _ := zrH v r
  rw [ih]
  by_cases h : v = g
  ·subst h; simp
  ·have : (v == g) = false := by simpa using h
   rw [this]
   by_cases hr : v ∈ r <;> simp [h, hr]
theorem zrf {e : Int} : CoD (.tup [.i (.v (.slice none 0 0)), ii e]) (.tup [ints [], ii e]) := zbK (.cons (zbY zaW) (CoDL.refl _))
def asgD : Except Int (List Int × List Int) → D
 | .error e => .tup [ints [], ii e]
 | .ok (a, _) => .tup [ints a, ii 0]
set_option maxHeartbeats 4000000 in
theorem zng (O : List Heap) (vars : List Vr) (ms : List Mv) (vals : List Int) (hl : vals.length = vars.length) (hl16 : vars.length ≤ 16) (hm : ms.length ≤ zam)
  (hus : ∀ x ∈ ms, x.us.length ≤ zam ∧ ∀ u ∈ x.us, exOk u.x ∧ 0 ≤ u.v ∧ u.v < vars.length) : zan Tryz.prog 139 [vrs vars, mvs ms, ints vals] O (asgD (asgM vars vals ms vals [])) [] O := by
 have hR0 : asgM vars vals ms vals [] = asgM vars vals (ms.drop 0) vals [] := rfl
 generalize asgM vars vals ms vals [] = R at *
 refine zaC [14] Tk Tryz.func139 rfl Tryz.call139 Tryz.ntmps139 (Nat.le_of_ble_eq_true rfl) fun E => ?_
 refine zaf Tk Tryz.func139 ?_
 refine zaj Tk Tryz.func139 (zh2 90 _ vals (by simp only [big]; omega)) rfl rfl rfl rfl rfl ?_
 refine zad ?_
 refine zag (fun x : Nat × List Int × List Int => [(0, vrs vars), (2, ints vals), (8, .osl 0 90), (9, .osl 0 18), (19, mvs ms), (20, ii ms.length), (21, ii x.1)]) (fun x => [(90, zaK x.2.1), (18, .mp (.int .i64) (.b (gmap x.2.2)))]) (fun _ => O) 85
  (fun x => x.1 ≤ ms.length ∧ x.2.1.length = vars.length ∧ R = asgM vars vals (ms.drop x.1) x.2.1 x.2.2) (fun x => ms.length - x.1) (0, vals, []) ⟨Nat.zero_le _, hl, hR0⟩ ⟨rfl, rfl, rfl, rfl, rfl, rfl, rfl, trivial⟩ rfl ⟨rfl, rfl, trivial⟩ rfl rfl ?_
 clear hR0
 rintro ⟨j, out, G⟩ ⟨hj, ho, hno⟩ ih
 simp only at hj ho hno
 refine zaf Tk Tryz.func139 ?_
 refine zae Tk Tryz.func139 rfl (fun g1 => ?_) (fun g1 => ?_)
 rotate_left
 ·have h1 : ms.length ≤ j := by simpa using g1
  rw [List.drop_eq_nil_of_le h1] at hno
  simp only [asgM] at hno
  subst hno
  refine zbm (zap 90 rfl rfl) ?_
  refine zai Tk (r := .tup [ints out, ii 0]) rfl rfl rfl trivial rfl rfl ?_
  rfl
 have h1 : j < ms.length := by simpa using g1
 clear g1
 have gx : (ms.map mvI)[(j : Int).toNat]? = some (mvI ms[j]) := zah h1
 have dx : ms.drop j = ms[j] :: ms.drop (j + 1) := List.drop_eq_getElem_cons h1
 have hux := hus _ (List.getElem_mem h1)
 rw [dx] at hno
 simp only [asgM] at hno
 clear dx
 generalize ms[j] = x at *
 obtain ⟨xf, xe, xt, xg, us⟩ := x
 simp only at hux hno
 obtain ⟨hul, hux⟩ := hux
 have hj1 : ii (IntKind.i64.wrap ((j : Int) + 1)) = ii ((j + 1 : Nat) : Int) := congrArg ii (zaB h1 hm)
 refine zak Tk Tryz.func139 (by exact ⟨by omega, by show (j : Int) < (ms.length : Int); omega⟩) ?_
 refine zar Tk Tryz.func139 (gx) ?_
 have hV0 : asgU vars vals us out G = asgU vars vals (us.drop 0) out G := rfl
 generalize asgU vars vals us out G = V at *
 refine zad ?_
 refine zag (fun x : Nat × List Int × List Int => [(0, vrs vars), (2, ints vals), (8, .osl 0 90), (9, .osl 0 18), (19, mvs ms), (20, ii ms.length), (21, ii j), (26, upds us), (27, ii us.length), (28, ii x.1)]) (fun x => [(90, zaK x.2.1), (18, .mp (.int .i64) (.b (gmap x.2.2)))]) (fun _ => O) 85
  (fun x => x.1 ≤ us.length ∧ x.2.1.length = vars.length ∧ V = asgU vars vals (us.drop x.1) x.2.1 x.2.2) (fun x => us.length - x.1) (0, out, G) ⟨Nat.zero_le _, ho, hV0⟩ ⟨rfl, rfl, rfl, rfl, rfl, rfl, rfl, rfl, rfl, rfl, trivial⟩ rfl ⟨rfl, rfl, trivial⟩ rfl rfl ?_
 clear hV0 ho
 rintro ⟨i, out, G⟩ ⟨hi, hc, hV⟩ ih2
 simp only at hi hc hV
 refine zaf Tk Tryz.func139 ?_
 refine zae Tk Tryz.func139 rfl (fun g2 => ?_) (fun g2 => ?_)
 rotate_left
 ·have h2 : us.length ≤ i := by simpa using g2
  rw [List.drop_eq_nil_of_le h2] at hV
  simp only [asgU] at hV
  subst hV
  simp only at hno
  refine zad ?_
  exact ih (j + 1, out, G) _ _ ⟨h1, hc, hno⟩ (by simp only; omega) ⟨rfl, rfl, rfl, rfl, rfl, rfl, hj1, trivial⟩ rfl ⟨rfl, rfl, trivial⟩ rfl rfl
 have h2 : i < us.length := by simpa using g2
 clear g2
 have gu : (us.map updI)[(i : Int).toNat]? = some (updI us[i]) := zah h2
 have du : us.drop i = us[i] :: us.drop (i + 1) := List.drop_eq_getElem_cons h2
 have hux := hux _ (List.getElem_mem h2)
 rw [du] at hV
 simp only [asgU] at hV
 clear du
 generalize us[i] = u at *
 have hev := fun O => zbJ O u.x vals hux.1 (by simp only [zam]; omega)
 generalize zbh u.x vals = W at *
 obtain ⟨uv, ux⟩ := u
 obtain ⟨xo, xv, xi, xa⟩ := ux
 obtain ⟨y, e⟩ := W
 simp only at hV hev hux
 obtain ⟨k, rfl⟩ := Int.eq_ofNat_of_zero_le hux.2.1
 have hk : k < vars.length := by omega
 have gv : (vars.map vrI)[(k : Int).toNat]? = some (vrI vars[k]) := zah hk
 have lk : vars[(k : Int).toNat]? = some vars[k] := by rw [Int.toNat_natCast]; exact List.getElem?_eq_getElem hk
 have gy : (out.map fun x => [vi x])[(k : Int).toNat]? = some [vi (out.getD k 0)] := by
  rw [zah (f := fun x => [vi x]) (show k < out.length by omega), List.getD_eq_getElem?_getD, List.getElem?_eq_getElem (show k < out.length by omega)]
  rfl
 rw [lk] at hV
 simp only [Option.any_some, Int.toNat_natCast] at hV
 clear lk
 generalize vars[k] = a at *
 obtain ⟨an, al, ah, aj⟩ := a
 simp only at hV
 have n1 : 0 ≤ (i : Int) ∧ (i : Int) < (us.length : Int) := by omega
 have n2 : 0 ≤ (k : Int) ∧ (k : Int) < (vars.length : Int) := by omega
 have n3 : 0 ≤ (k : Int) ∧ (k : Int) < (out.length : Int) := by omega
 have hi1 : ii (IntKind.i64.wrap ((i : Int) + 1)) = ii ((i + 1 : Nat) : Int) := congrArg ii (zaB h2 hul)
 have hset := zrH (k : Int) G
 have hget := zto G (k : Int)
 refine zak Tk Tryz.func139 (n1) ?_
 refine zar Tk Tryz.func139 (gu) ?_
 refine zaj Tk Tryz.func139 (hev _) rfl rfl rfl rfl rfl ?_
 refine zaF Tk Tryz.func139 rfl (fun g2 => ?_) (fun g2 => ?_)
 ·have g2 := bneT g2
  rw [if_pos (.inl g2)] at hV
  subst hV
  simp only at hno
  subst hno
  repeat (first | refine gcT Tk Tryz.func139 rfl ?_ | refine gkT Tk Tryz.func139 rfl ?_ | refine skT Tk ?_ | refine gcF Tk Tryz.func139 rfl ?_ | refine gkF Tk Tryz.func139 rfl ?_ | refine skF Tk ?_)
  refine zao Tk (r := .tup [.i (.v (.slice none 0 0)), ii 17]) rfl rfl rfl trivial rfl rfl ?_
  exact zrf
 have g2 := bneF g2
 refine zak Tk Tryz.func139 (n2) ?_
 refine zar Tk Tryz.func139 (gv) ?_
 refine zaF Tk Tryz.func139 rfl (fun g3 => ?_) (fun g3 => ?_)
 ·have g3 : y < al := of_decide_eq_true g3
  rw [if_pos (by simp [g3])] at hV
  subst hV
  simp only at hno
  subst hno
  refine gcT Tk Tryz.func139 rfl ?_
  refine zao Tk (r := .tup [.i (.v (.slice none 0 0)), ii 17]) rfl rfl rfl trivial rfl rfl ?_
  exact zrf
 have g3 : ¬ y < al := of_decide_eq_false g3
 refine zak Tk Tryz.func139 (n2) ?_
 refine zar Tk Tryz.func139 (gv) ?_
 refine zae Tk Tryz.func139 rfl (fun g4 => ?_) (fun g4 => ?_)
 ·have g4 : y > ah := of_decide_eq_true g4
  rw [if_pos (by simp [g4])] at hV
  subst hV
  simp only at hno
  subst hno
  refine zao Tk (r := .tup [.i (.v (.slice none 0 0)), ii 17]) rfl rfl rfl trivial rfl rfl ?_
  exact zrf
 have g4 : ¬ y > ah := of_decide_eq_false g4
 rw [if_neg (by simp [g2]; omega)] at hV
 apply zbP (P := ¬ ((k : Int) ∈ G ∧ out.getD k 0 ≠ y)) (s6 := { σ := [(0, vrs vars), (2, ints vals), (8, .osl 0 90), (9, .osl 0 18), (14, ii y), (13, .own 0 13 0 0), (19, mvs ms), (20, ii ms.length), (21, ii j), (26, upds us), (27, ii us.length), (28, ii i)], S := [(13, .box [ii k, ii xo, ii xv, ii xi, exs xa]), (90, zaK out), (18, .mp (.int .i64) (.b (gmap G)))] :: O, n := 85 })
 ·intro J
  refine zaF Tk Tryz.func139 rfl (fun g5 => ?_) (fun g5 => ?_)
  ·have g5 : (k : Int) ∈ G := of_decide_eq_true (hget.symm.trans g5)
   refine zak Tk Tryz.func139 (n3) ?_
   refine zar Tk Tryz.func139 (gy) ?_
   refine zae Tk Tryz.func139 rfl (fun g6 => ?_) (fun g6 => ?_)
   ·have g6 : out.getD k 0 ≠ y := bneT g6
    rw [if_pos ⟨g5, g6⟩] at hV
    subst hV
    simp only at hno
    subst hno
    refine zao Tk (r := .tup [.i (.v (.slice none 0 0)), ii 13]) rfl rfl rfl trivial rfl rfl ?_
    exact zrf
   have g6 : out.getD k 0 = y := bneF g6
   refine zax ?_
   refine zaJ (J (fun h => h.2 g6)) ⟨rfl, rfl, rfl, rfl, rfl, rfl, rfl, rfl, rfl, rfl, rfl, rfl, trivial⟩ rfl ⟨rfl, rfl, rfl, trivial⟩ rfl rfl
  ·have g5 : (k : Int) ∉ G := of_decide_eq_false (hget.symm.trans g5)
   refine gcF Tk Tryz.func139 rfl ?_
   refine zax ?_
   refine zaJ (J (fun h => g5 h.1)) ⟨rfl, rfl, rfl, rfl, rfl, rfl, rfl, rfl, rfl, rfl, rfl, rfl, trivial⟩ rfl ⟨rfl, rfl, rfl, trivial⟩ rfl rfl
 intro hP
 rw [if_neg hP] at hV
 refine zaf Tk Tryz.func139 ?_
 refine g_go Tk Tryz.func139 ?_
 refine zaq Tk Tryz.func139 zay rfl ?_
 refine zat Tk (n3) ?_
 refine zex Tk rfl rfl rfl ?_
 refine zlz Tk Tryz.func139 ([9]) (by kernel_rfl) (by kernel_rfl) ?_
 refine zad ?_
 refine ih2 (i + 1, out.set k y, if (k : Int) ∈ G then G else G ++ [(k : Int)]) _ _ ⟨h2, by simpa using hc, hV⟩ (by simp only; omega) ⟨rfl, rfl, rfl, rfl, rfl, rfl, rfl, rfl, rfl, hi1, trivial⟩ rfl ⟨?_, congrArg (fun x => some (Ob.mp (.int .i64) (.b x))) hset, trivial⟩ rfl rfl
 show some (Ob.arr 3 1 out.length ((out.map fun x => [vi x]).set k [vi y]) true) = some (zaK (out.set k y))
 simp [List.map_set]
end Go.AI


namespace Go.AI
open Go.Proofs
set_option maxRecDepth 20000
theorem zjm {loc ev : Int} {vals : List Int} : ∀ {l : List Mv} {i c : Nat} {k : Option Nat}, ∀ e, (za2 loc ev vals l i c k).1 = some e → e ≠ 0
 | [], i, c, k, e, h => by simp [za2] at h
 | x :: r, i, c, k, e, h => by
  simp only [za2] at h
  split at h
  ·exact zjm e h
  split at h
  ·rename_i h1
   simp only [Option.some.injEq] at h
   rw [← h]
   exact h1
  split at h <;> exact zjm e h
theorem zri {m : Ext} {loc ev : Int} {vals : List Int} : match selK m loc ev vals with
  | .error e => e ≠ 0 ∧ (zi4 m loc ev vals).2 = (false, e)
  | .ok k => zi4 m loc ev vals = (mvAt m.moves k, k.isSome, 0) := by
 have h1 := @zjm loc ev vals m.moves 0 0 none
 have h2 := @zfg loc ev vals m.moves 0 0 none rfl
 unfold selK zi4
 generalize za2 loc ev vals m.moves 0 0 none = S at *
 obtain ⟨e, c, k⟩ := S
 cases e with
 | some e => exact ⟨h1 e rfl, rfl⟩
 | none =>
  have h2 := h2 rfl
  simp only at h2 ⊢
  by_cases hc : c > 1
  ·simp only [if_pos hc]
   exact ⟨by decide, trivial⟩
  ·simp only [if_neg hc]
   rw [h2]
   congr 2
   apply decide_eq_decide.2
   omega
theorem zqG (l : List Mv) (k : Option Nat) : mvAt l k = zd0 ∨ mvAt l k ∈ l := by
 cases k with
 | none => exact .inl rfl
 | some k =>
  simp only [mvAt, List.getD_eq_getElem?_getD]
  cases h : l[k]? with
  | none => exact .inl rfl
  | some x => exact .inr (List.mem_of_getElem? h)
theorem zfi : ∀ {l : List Ext} {ps : List (Option (Option Nat))}, ∀ x ∈ mvsO l ps, x = zd0 ∨ ∃ m ∈ l, x ∈ m.moves
 | [], ps, x, h => by simp [mvsO] at h
 | m :: r, [], x, h => by simp [mvsO] at h
 | m :: r, none :: ps, x, h => by
  simp only [mvsO] at h
  rcases zfi x h with h | ⟨n, hn, hx⟩
  ·exact .inl h
  ·exact .inr ⟨n, by simp [hn], hx⟩
 | m :: r, some k :: ps, x, h => by
  simp only [mvsO, List.mem_cons] at h
  rcases h with rfl | h
  ·rcases zqG m.moves k with h | h
   ·exact .inl h
   ·exact .inr ⟨m, by simp, h⟩
  ·rcases zfi x h with h | ⟨n, hn, hx⟩
   ·exact .inl h
   ·exact .inr ⟨n, by simp [hn], hx⟩
theorem zfj : ∀ (l : List Ext) (ps : List (Option (Option Nat))), (mvsO l ps).length ≤ l.length
 | [], ps => by simp [mvsO]
 | m :: r, [] => by simp [mvsO]
 | m :: r, none :: ps => by have := zfj r ps; simp only [mvsO, List.length_cons]; omega
 | m :: r, some k :: ps => by have := zfj r ps; simp only [mvsO, List.length_cons]; omega
theorem zsc {l : List Ext} (hj : jntOk l) {ps : List (Option (Option Nat))} : ∀ x ∈ mvsO l ps, x.us.length ≤ zam ∧ ∀ u ∈ x.us, exOk u.x ∧ 0 ≤ u.v ∧ u.v < (zcU l).length := by
 intro x hx
 rcases zfi x hx with rfl | ⟨m, hm, hx⟩
 ·exact ⟨Nat.zero_le _, fun u hu => by simp [zd0] at hu⟩
 ·have h1 := (hj.ok m hm).mv x hx
  have h2 := zcV ((hj.right m hm).mv x hx).us
  rw [hj.same m hm] at h2
  exact ⟨h1.2.1, fun u hu => ⟨h1.2.2 u hu, (h2 u hu).1, (h2 u hu).2.1⟩⟩
theorem zlG {vars : List Vr} {vals : List Int} : ∀ {us : List Upd} {out G : List Int} {e : Int}, asgU vars vals us out G = .error e → e = 17 ∨ e = 13
 | [], out, G, e, h => by simp [asgU] at h
 | u :: r, out, G, e, h => by
  simp only [asgU] at h
  split at h
  ·simp only [Except.error.injEq] at h; exact .inl h.symm
  split at h
  ·simp only [Except.error.injEq] at h; exact .inr h.symm
  ·exact zlG h
theorem zlH {vars : List Vr} {vals : List Int} : ∀ {ms : List Mv} {out G : List Int} {e : Int}, asgM vars vals ms out G = .error e → e = 17 ∨ e = 13
 | [], out, G, e, h => by simp [asgM] at h
 | x :: r, out, G, e, h => by
  simp only [asgM] at h
  cases hu : asgU vars vals x.us out G with
  | error e' =>
   rw [hu] at h
   simp only [Except.error.injEq] at h
   subst h
   exact zlG hu
  | ok p =>
   rw [hu] at h
   exact zlH h
abbrev omvs (l : List Mv) : Ob := .arr 150 8 l.length (l.map mvI) true
theorem zlf (l : List Mv) (x : Mv) : Ob.arr 150 8 (l.length + 1) (l.map mvI ++ [mvI x]) true = omvs (l ++ [x]) := by simp
theorem coZO {b : Bool} {e : Int} : CoD (.tup [.agg [.i (.v (.slice none 0 0)), .i (.v (.slice none 0 0))], bb b, ii e]) (.tup [orgD znF, bb b, ii e]) := by
 show CoD _ (.tup [.agg [.i (.sl 1 0 []), .i (.sl 1 0 [])], bb b, ii e])
 repeat' (first | refine zbK ?_ | refine zbZ ?_ | refine zbY ?_ | refine CoDL.cons ?_ ?_ | exact CoDL.nil | exact zaW | refine zeY ?_ | refine CoLL.cons ?_ ?_ | exact CoLL.nil | refine CoL.cons ?_ ?_ | exact CoL.nil | exact CoI.refl _ | exact CoL.refl _ | exact CoLL.refl _ | exact CoDL.refl _ | exact CoD.refl _)
set_option maxHeartbeats 4000000 in
theorem zsQ (O : List Heap) (l : List Ext) (o : Org) (ev : Int) (hj : jntOk l) (hlo : o.locs.length = l.length) (hlv : o.vals.length = (zcU l).length) :
  zan Tryz.prog 88 [exts l, orgD o, ii ev] O (.tup [orgD (zbV l o ev).1, bb (zbV l o ev).2.1, ii (zbV l o ev).2.2]) [] O := by
 have hl12 := hj.len
 have hv16 : (zcU l).length ≤ 16 := by
  match l, hj with
  | [], hj => exact absurd rfl hj.pos
  | m :: r, hj => exact zfe (hj.right m (by simp)).vars
 unfold zbV
 have hP : ze8 o ev l 0 [] = ze8 o ev (l.drop 0) 0 [] := rfl
 generalize ze8 o ev l 0 [] = R at *
 refine zaC [15, 20] Tk Tryz.func88 rfl Tryz.call88 Tryz.ntmps88 (Nat.le_of_ble_eq_true rfl) fun E => ?_
 refine zaf Tk Tryz.func88 ?_
 refine zaj Tk Tryz.func88 (zh2 90 _ o.locs (by simp only [big]; omega)) rfl rfl rfl rfl rfl ?_
 refine zad ?_
 refine zaw (zcT 9 62 150 8 rfl rfl rfl) ?_
 refine zag (fun x : Nat × List (Option (Option Nat)) => [(0, exts l), (2, ii ev), (4, .own 0 4 0 0), (6, .own 0 6 0 0), (7, bb (canO x.2)), (8, ii 0), (9, .osl 0 62), (19, exts l), (20, ii l.length), (21, ii x.1)])
  (fun x => [(4, .box [ints o.locs, ints o.vals]), (6, .box [.osl 0 90, .i (.v (.slice none 0 0))]), (90, zaK (zbc l o.locs x.2)), (62, omvs (mvsO l x.2))]) (fun _ => O) 84
  (fun x => x.1 ≤ l.length ∧ x.2.length = x.1 ∧ R = ze8 o ev (l.drop x.1) x.1 x.2) (fun x => l.length - x.1) (0, []) ⟨Nat.zero_le _, rfl, hP⟩ ⟨rfl, rfl, rfl, rfl, rfl, rfl, rfl, rfl, rfl, rfl, trivial⟩ rfl ⟨rfl, rfl, congrArg (fun x => some (zaK x)) (zf0 l o.locs).symm, congrArg (fun x => some (omvs x)) (zhE l).symm, trivial⟩ rfl rfl ?_
 clear hP
 rintro ⟨i, ps⟩ ⟨hi, hpl, hno⟩ ih
 simp only at hi hpl hno
 refine zaf Tk Tryz.func88 ?_
 refine zae Tk Tryz.func88 rfl (fun g1 => ?_) (fun g1 => ?_)
 ·have h1 : i < l.length := by simpa using g1
  clear g1
  have gm : (l.map extI)[(i : Int).toNat]? = some (extI l[i]) := zah h1
  have dm : l.drop i = l[i] :: l.drop (i + 1) := List.drop_eq_getElem_cons h1
  have hok := hj.ok _ (List.getElem_mem h1)
  have gx : (o.locs.map fun x => [vi x])[(i : Int).toNat]? = some [vi (o.locs.getD i 0)] := by
   rw [zah (f := fun x => [vi x]) (show i < o.locs.length by omega), List.getD_eq_getElem?_getD, List.getElem?_eq_getElem (show i < o.locs.length by omega)]
   rfl
  rw [dm] at hno
  simp only [ze8] at hno
  clear dm
  have hcl := fun O => zdf O l[i].alpha ev hok.al
  have hch := fun O => zrh O l[i] (o.locs.getD i 0) ev o.vals hok (by simp only [zam]; omega)
  have hsel := @zri l[i] (o.locs.getD i 0) ev o.vals
  have hL := fun k => zf1 l o.locs ps k (by omega)
  have hM := fun k => zhF l ps k (by omega)
  simp only [hpl] at hL hM
  generalize o.locs.getD i 0 = loc at *
  generalize l[i] = m at *
  have n1 : 0 ≤ (i : Int) ∧ (i : Int) < (l.length : Int) := by omega
  have n2 : 0 ≤ (i : Int) ∧ (i : Int) < (o.locs.length : Int) := by omega
  have hi1 : ii (IntKind.i64.wrap ((i : Int) + 1)) = ii ((i + 1 : Nat) : Int) := congrArg ii (zaB (n := 4096) (by omega) (by decide))
  refine zak Tk Tryz.func88 (n1) ?_
  refine zar Tk Tryz.func88 (gm) ?_
  refine zaj Tk Tryz.func88 (hcl _) rfl rfl rfl rfl rfl ?_
  refine zae Tk Tryz.func88 rfl (fun g2 => ?_) (fun g2 => ?_)
  ·have g2 : ev ∉ m.alpha := by simpa using g2
   rw [if_pos g2] at hno
   refine zad ?_
   refine ih (i + 1, ps ++ [none]) _ _ ⟨h1, by simp [hpl], hno⟩ (by simp only; omega) ⟨rfl, rfl, rfl, rfl, congrArg bb (zpo ps).symm, rfl, rfl, rfl, rfl, hi1, trivial⟩ rfl ⟨rfl, rfl, congrArg (fun x => some (zaK x)) (zez l o.locs ps).symm, congrArg (fun x => some (omvs x)) (zfS l ps).symm, trivial⟩ rfl rfl
  have g2 : ev ∈ m.alpha := by simpa using g2
  rw [if_neg (by simpa using g2)] at hno
  generalize selK m loc ev o.vals = K at *
  generalize zi4 m loc ev o.vals = C at *
  obtain ⟨x, f, e⟩ := C
  simp only at hch
  refine zaq Tk Tryz.func88 zay rfl ?_
  refine zat Tk (n2) ?_
  refine zaA Tk (gx) ?_
  refine zaN Tk (fun _ => hch _) rfl rfl rfl ?_
  refine zex Tk rfl rfl rfl ?_
  refine zav Tk Tryz.func88 (by kernel_rfl) ?_
  refine zae Tk Tryz.func88 rfl (fun g3 => ?_) (fun g3 => ?_)
  ·have g3 : e ≠ 0 := bneT g3
   cases K with
   | ok k =>
    simp only [Prod.mk.injEq] at hsel
    exact absurd hsel.2.2 g3
   | error e' =>
    obtain ⟨_, h⟩ := hsel
    simp only [Prod.mk.injEq] at h
    obtain ⟨_, rfl⟩ := h
    simp only at hno
    subst hno
    refine zao Tk (r := _) rfl rfl rfl trivial rfl rfl ?_
    exact coZO
  have g3 : e = 0 := bneF g3
  cases K with
  | error e' =>
   obtain ⟨h0, h⟩ := hsel
   simp only [Prod.mk.injEq] at h
   exact absurd (h.2.symm.trans g3) h0
  | ok k =>
   simp only [Prod.mk.injEq] at hsel
   obtain ⟨hx, rfl, _⟩ := hsel
   simp only at hno
   have hL := hL k
   have hM := hM k
   have hC := zrm ps k
   rw [← hx] at hL hM
   clear hx
   obtain ⟨xf, xe, xt, xg, xu⟩ := x
   have hcb : bb (canO (ps ++ [some k])) = bb (bif canO ps then k.isSome else false) := by rw [hC]; cases canO ps <;> rfl
   have hol : (zbc l o.locs ps).length = o.locs.length := zea l o.locs ps
   have n3 : 0 ≤ (i : Int) ∧ (i : Int) < ((zbc l o.locs ps).length : Int) := by omega
   have hml := zfj l ps
   generalize zbc l o.locs ps = L1 at *
   generalize mvsO l ps = M1 at *
   have hfin : ∀ s : St, Sub s [(0, exts l), (2, ii ev), (4, .own 0 4 0 0), (6, .own 0 6 0 0), (7, bb (canO (ps ++ [some k]))), (8, ii 0), (9, .osl 0 62), (19, exts l), (20, ii l.length), (21, ii ((i + 1 : Nat) : Int))] → True := fun _ _ => trivial
   cases hcp : canO ps with
   | true =>
    rw [hcp] at hcb
    refine gkT Tk Tryz.func88 rfl ?_
    refine zak Tk Tryz.func88 (n3) ?_
    refine zak Tk Tryz.func88 (by exact ⟨by show (M1.length + 1) * 96 ≤ 140737488355328; omega, by show M1.length + 1 ≤ 9223372036854775807; omega⟩) ?_
    refine zad ?_
    refine ih (i + 1, ps ++ [some k]) _ _ ⟨h1, by simp [hpl], hno⟩ (by simp only; omega) ⟨rfl, rfl, rfl, rfl, hcb.symm, rfl, rfl, rfl, rfl, hi1, trivial⟩ rfl ⟨rfl, rfl, ?_, ?_, trivial⟩ rfl rfl
    ·rw [hL]
     show some (Ob.arr 3 1 L1.length ((L1.map fun x => [vi x]).set i [vi xt]) true) = some (zaK (L1.set i xt))
     simp [List.map_set]
    ·rw [hM]
     exact congrArg some (zlf M1 ⟨xf, xe, xt, xg, xu⟩)
   | false =>
    rw [hcp] at hcb
    refine gkF Tk Tryz.func88 rfl ?_
    refine zak Tk Tryz.func88 (n3) ?_
    refine zak Tk Tryz.func88 (by exact ⟨by show (M1.length + 1) * 96 ≤ 140737488355328; omega, by show M1.length + 1 ≤ 9223372036854775807; omega⟩) ?_
    refine zad ?_
    refine ih (i + 1, ps ++ [some k]) _ _ ⟨h1, by simp [hpl], hno⟩ (by simp only; omega) ⟨rfl, rfl, rfl, rfl, hcb.symm, rfl, rfl, rfl, rfl, hi1, trivial⟩ rfl ⟨rfl, rfl, ?_, ?_, trivial⟩ rfl rfl
    ·rw [hL]
     show some (Ob.arr 3 1 L1.length ((L1.map fun x => [vi x]).set i [vi xt]) true) = some (zaK (L1.set i xt))
     simp [List.map_set]
    ·rw [hM]
     exact congrArg some (zlf M1 ⟨xf, xe, xt, xg, xu⟩)
 ·have h1 : l.length ≤ i := by simpa using g1
  rw [List.drop_eq_nil_of_le h1] at hno
  simp only [ze8] at hno
  subst hno
  simp only
  clear ih g1
  have hus := @zsc l hj ps
  have hml := zfj l ps
  have has := fun O => zng O (zcU l) (mvsO l ps) o.vals hlv hv16 (by simp only [zam]; omega) hus
  have h0 : 0 < l.length := List.length_pos_iff.2 hj.pos
  have g0 : (l.map extI)[(0 : Int).toNat]? = some (extI l[0]) := zah (i := 0) h0
  have e0 : (l.getD 0 ⟨[], 0, 0, [], [], []⟩) = l[0] := by rw [List.getD_eq_getElem?_getD, List.getElem?_eq_getElem h0]; rfl
  unfold zcU at has
  rw [e0] at has ⊢
  generalize l[0] = m0 at *
  have hne := fun e => @zlH m0.vars o.vals (mvsO l ps) o.vals [] e
  generalize asgM m0.vars o.vals (mvsO l ps) o.vals [] = A at *
  have hol : (zbc l o.locs ps).length = o.locs.length := zea l o.locs ps
  generalize zbc l o.locs ps = L1 at *
  generalize mvsO l ps = M1 at *
  refine zax ?_
  refine zaw (zap 62 rfl rfl) ?_
  cases hcp : canO ps with
  | false =>
   refine zaf Tk Tryz.func88 ?_
   refine g_go Tk Tryz.func88 ?_
   refine gcT Tk Tryz.func88 rfl ?_
   refine zao Tk (r := _) rfl rfl rfl trivial rfl rfl ?_
   exact coZO
  | true =>
   simp only [Bool.true_eq_false, if_false]
   refine zaf Tk Tryz.func88 ?_
   refine g_go Tk Tryz.func88 ?_
   refine gcF Tk Tryz.func88 rfl ?_
   cases A with
   | error e =>
    have hne : e ≠ 0 := by rcases hne e rfl with rfl | rfl <;> decide
    refine zaq Tk Tryz.func88 zay rfl ?_
    refine zat Tk (by exact ⟨by omega, by show (0 : Int) < (l.length : Int); omega⟩) ?_
    refine zaA Tk (g0) ?_
    refine zaN Tk (fun _ => has _) rfl rfl rfl ?_
    refine zex Tk rfl rfl rfl ?_
    refine zav Tk Tryz.func88 (by kernel_rfl) ?_
    refine zae Tk Tryz.func88 rfl (fun g4 => ?_) (fun g4 => ?_)
    rotate_left
    ·exact absurd (bneF g4) hne
    refine zao Tk (r := _) rfl rfl rfl trivial rfl rfl ?_
    exact coZO
   | ok p =>
    obtain ⟨a, G⟩ := p
    refine zaq Tk Tryz.func88 zay rfl ?_
    refine zat Tk (by exact ⟨by omega, by show (0 : Int) < (l.length : Int); omega⟩) ?_
    refine zaA Tk (g0) ?_
    refine zaN Tk (fun _ => has _) rfl rfl rfl ?_
    refine zex Tk rfl rfl rfl ?_
    refine zav Tk Tryz.func88 (by kernel_rfl) ?_
    refine gcF Tk Tryz.func88 rfl ?_
    refine zax ?_
    refine zaw (zap 90 rfl rfl) ?_
    refine zaw (zcs rfl) ?_
    refine zaf Tk Tryz.func88 ?_
    refine g_go Tk Tryz.func88 ?_
    refine zai Tk (r := .tup [orgD ⟨L1, a⟩, bb true, ii 0]) rfl rfl rfl trivial rfl rfl ?_
    rfl
end Go.AI


namespace Go.AI
open Go.Proofs
set_option maxRecDepth 20000
theorem zhL {l : List Ext} (hj : jntOk l) {o : Org} (h : okOJ l o) : o.locs.length = l.length ∧ o.vals.length = (zcU l).length := ⟨zhB h.locs, (zeP h.vals).symm⟩
theorem zsm {l : List Ext} (hj : jntOk l) : (zcU l).length ≤ 16 := by
 match l, hj with
 | [], hj => exact absurd rfl hj.pos
 | m :: r, hj => exact zfe (hj.right m (by simp)).vars
theorem zhK {g : Nat} (hg : zeO g) {ty : TypeId} {fr : Nat × Nat} (O : List Heap) {l : List Ext} (hj : jntOk l) (o : Org) (h : okOJ l o) : zbu g (ptab ty fr) Tryz.prog 85 [orgD o] O (.i (.v (.string (zcc o)))) [] O := by
 have hk := fun O => zrD hg (ty := ty) (fr := fr) O [o.locs, o.vals] (by simp) (by simp) (zsa hj h)
 unfold zcc
 generalize zej [o.locs, o.vals] = K at *
 obtain ⟨a, b⟩ := o
 refine zaO [] Tk Tryz.func85 rfl Tryz.call85 Tryz.ntmps85 (Nat.le_of_ble_eq_true rfl) fun E hE => ?_
 refine zaf Tk Tryz.func85 ?_
 refine zbe Tk Tryz.func85 hE (hk _) rfl rfl rfl rfl rfl rfl ?_
 refine zai Tk (r := .i (.v (.string K))) rfl rfl rfl trivial rfl rfl ?_
 rfl
theorem zqN (O : List Heap) (l : List Ext) (o : Org) (ev : Int) (d nm : Nat) (ho : zaa O d nm = some (.box [exts l])) (hj : jntOk l) (h : okOJ l o) : zan Tryz.prog 87 [orgD o, ii ev, .own d nm 0 0] O (.tup [orgD (zbV l o ev).1, bb (zbV l o ev).2.1, ii (zbV l o ev).2.2]) [] O := by
 have h := fun O => zsQ O l o ev hj (zhL hj h).1 (zhL hj h).2
 generalize zbV l o ev = R at *
 obtain ⟨⟨a, b⟩, p, e⟩ := R
 obtain ⟨x, v⟩ := o
 refine zac Tk Tryz.func87 rfl Tryz.call87 Tryz.ntmps87 (Nat.le_of_ble_eq_true rfl) fun E => ?_
 refine zaf Tk Tryz.func87 ?_
 refine zgz Tk Tryz.func87 (zdD ho) ?_
 refine zaj Tk Tryz.func87 (h _) rfl rfl rfl rfl rfl ?_
 refine zai Tk (r := .tup [orgD ⟨a, b⟩, bb p, ii e]) rfl rfl rfl trivial rfl rfl ?_
 rfl
theorem zqO (O : List Heap) (l : List Ext) (o : Org) (d nm : Nat) (ho : zaa O d nm = some (.box [exts l])) (hj : jntOk l) (h : okOJ l o) : zan Tryz.prog 89 [orgD o, .own d nm 0 0] O (bb (zbW l o.locs)) [] O := by
 have hO : ∀ H, zaa (H :: O) (d + 1) nm = some (.box [exts l]) := fun H => zdD ho
 have hll := (zhL hj h).1
 have hl12 := hj.len
 have hR : zbW l o.locs = zbW (l.drop 0) (o.locs.drop 0) := rfl
 generalize zbW l o.locs = R at *
 obtain ⟨x, v⟩ := o
 simp only at hll hR
 refine zac Tk Tryz.func89 rfl Tryz.call89 Tryz.ntmps89 (Nat.le_of_ble_eq_true rfl) fun E => ?_
 refine zaf Tk Tryz.func89 ?_
 refine zgz Tk Tryz.func89 (zdD ho) ?_
 refine zad ?_
 refine zag (fun i : Nat => [(2, .own 0 2 0 0), (6, exts l), (7, ii l.length), (8, ii i)]) (fun _ => [(2, .box [ints x, ints v])]) (fun _ => O) 23
  (fun i => i ≤ l.length ∧ R = zbW (l.drop i) (x.drop i)) (fun i => l.length - i) 0 ⟨Nat.zero_le _, hR⟩ ⟨rfl, rfl, rfl, rfl, trivial⟩ rfl ⟨rfl, trivial⟩ rfl rfl ?_
 clear hR
 rintro i ⟨hi, hno⟩ ih
 refine zaf Tk Tryz.func89 ?_
 refine zae Tk Tryz.func89 rfl (fun g1 => ?_) (fun g1 => ?_)
 ·have h1 : i < l.length := by simpa using g1
  clear g1
  have gm : (l.map extI)[(i : Int).toNat]? = some (extI l[i]) := zah h1
  have gx : (x.map fun x => [vi x])[(i : Int).toNat]? = some [vi (x[i]'(by omega))] := zah (f := fun x => [vi x]) (by omega)
  have dm : l.drop i = l[i] :: l.drop (i + 1) := List.drop_eq_getElem_cons h1
  have dx : x.drop i = (x[i]'(by omega)) :: x.drop (i + 1) := List.drop_eq_getElem_cons (by omega)
  have hok := hj.ok _ (List.getElem_mem h1)
  rw [dm, dx] at hno
  simp only [zbW] at hno
  clear dm dx
  generalize l[i] = m at *
  generalize x[i]'(by omega) = a at *
  have hc := fun O => zdf O m.marked a hok.ma
  refine zak Tk Tryz.func89 (by exact ⟨by omega, by show (i : Int) < (l.length : Int); omega⟩) ?_
  refine zar Tk Tryz.func89 (gm) ?_
  refine zaq Tk Tryz.func89 zay rfl ?_
  refine zat Tk (by exact ⟨by omega, by show (i : Int) < (x.length : Int); omega⟩) ?_
  refine zaA Tk (gx) ?_
  refine zaN Tk (fun _ => hc _) rfl rfl rfl ?_
  refine zav Tk Tryz.func89 (by kernel_rfl) ?_
  refine zae Tk Tryz.func89 rfl (fun g2 => ?_) (fun g2 => ?_)
  ·have g2 : a ∉ m.marked := by simpa using g2
   have hno : R = false := by rw [hno]; simp [g2]
   subst hno
   refine zai Tk (r := bb false) rfl rfl rfl trivial rfl rfl ?_
   rfl
  ·have g2 : a ∈ m.marked := by simpa using g2
   have hno : R = zbW (l.drop (i + 1)) (x.drop (i + 1)) := by rw [hno]; simp [g2]
   refine zad ?_
   exact ih (i + 1) _ _ ⟨h1, hno⟩ (by omega) ⟨rfl, rfl, rfl, congrArg ii (zaB (n := 4096) (by omega) (by decide)), trivial⟩ rfl ⟨rfl, trivial⟩ rfl rfl
 ·have h1 : l.length ≤ i := by simpa using g1
  have hno : R = true := by rw [hno, List.drop_eq_nil_of_le h1]; simp [zbW]
  subst hno
  refine zai Tk (r := bb true) rfl rfl rfl trivial rfl rfl ?_
  rfl
end Go.AI


namespace Go.AI
open Go.Proofs
set_option maxRecDepth 20000
abbrev zoz (l : List Org) : Ob := .arr 87 2 l.length (l.map orgI) true
theorem zmO (l : List Org) (s : Org) : Ob.arr 87 2 (l.length + 1) (l.map orgI ++ [orgI s]) true = zoz (l ++ [s]) := by simp
def unfO (m : List Ext) (alpha : List Int) (first : Org) : Except Int (Unf Org) := unfR keqO true (zbV m) (fun s => zbW m s.locs) alpha first
abbrev fnSO (d nm : Nat) : D := .fn (.func 87) [] [.own d nm 0 0]
abbrev fnMO (d nm : Nat) : D := .fn (.func 89) [] [.own d nm 0 0]
def znR (alpha : List Int) : Except Int (Unf Org) → D
 | .error e => .tup [autD ⟨[], 0, [], []⟩, zmN [], ii e]
 | .ok U => .tup [autD ⟨alpha, U.sts.length, U.mkl, U.eds⟩, zmN U.sts, ii 0]
def zdz : List Org → Nat → List (Value × Int)
 | [], _ => []
 | s :: r, i => (.string (zcc s), (i : Int)) :: zdz r (i + 1)
theorem zg2 (b : ByteArray) : ∀ (l : List Org) (i : Nat), zbg (zdz l i) (.string b) = if l.findIdx (fun t => b == zcc t) < l.length then some (((i + l.findIdx fun t => b == zcc t : Nat) : Int)) else none
 | [], i => by simp [zdz, zbg]
 | s :: r, i => by
  simp only [zdz, zbg, keyB, List.findIdx_cons]
  cases h : b == zcc s with
  | true => simp
  | false =>
   simp only [cond_false]
   rw [zg2 b r (i + 1)]
   have e : i + 1 + r.findIdx (fun t => b == zcc t) = i + (r.findIdx (fun t => b == zcc t) + 1) := by omega
   simp only [e, List.length_cons, Nat.add_lt_add_iff_right]
theorem ziG {s : Org} : ∀ (l : List Org) (i : Nat), ¬ l.findIdx (keqO s) < l.length → mset (zdz l i) (.string (zcc s)) ((i + l.length : Nat) : Int) = zdz (l ++ [s]) i
 | [], i, _ => by simp [zdz, mset]
 | t :: r, i, h => by
  rw [List.findIdx_cons] at h
  cases hk : keqO s t with
  | true => rw [hk] at h; simp at h
  | false =>
   rw [hk] at h
   simp only [cond_false, List.length_cons, Nat.add_lt_add_iff_right] at h
   have hk' : (zcc s == zcc t) = false := hk
   simp only [List.cons_append, zdz, mset, keyB, hk', cond_false]
   have e : i + (t :: r).length = (i + 1) + r.length := by simp only [List.length_cons]; omega
   rw [e, ziG r (i + 1) h]
structure UGoodO (m : List Ext) (U : Unf Org) : Prop where
 len : U.sts.length ≤ 4096
 ok : ∀ s ∈ U.sts, okOJ m s
set_option maxHeartbeats 4000000 in
theorem znN {g : Nat} (hg : zeO g) {ty : TypeId} {fr : Nat × Nat} (O : List Heap) (m : List Ext) (alpha : List Int) (first : Org) (d nm : Nat) (ho : zaa O d nm = some (.box [exts m])) (hJ : jntOk m) (ha : alpha.length ≤ 4096) (hf : okOJ m first) :
  zbu g (ptab ty fr) Tryz.prog 90 [ints alpha, orgD first, .fn (.func 85) [] [], fnSO d nm, fnMO d nm] O (znR alpha (unfO m alpha first)) [] O := by
 have hO : ∀ H, zaa (H :: O) (d + 1) nm = some (.box [exts m]) := fun H => zdD ho
 have hno : unfO m alpha first = zbU keqO true (zbV m) (fun s => zbW m s.locs) alpha (4097 - 0) 0 (unf0 first) := rfl
 generalize unfO m alpha first = R at *
 refine zaO [9, 23] Tk Tryz.func90 rfl Tryz.call90 Tryz.ntmps90 (Nat.le_of_ble_eq_true rfl) fun E hE => ?_
 refine zaf Tk Tryz.func90 ?_
 refine zbe Tk Tryz.func90 hE (zhK hg _ hJ first hf) rfl rfl rfl rfl rfl rfl ?_
 refine zad ?_
 refine zaw (zkW 25 95 rfl rfl rfl) ?_
 refine zaw (zaP 10 47 3 1 (pre := [ints alpha, ii 0]) (post := [.i (.v (.slice none 0 0))]) rfl rfl rfl) ?_
 refine zaw (zaP 10 103 117 3 (pre := [ints alpha, ii 0, .osl 0 47]) (post := []) rfl rfl rfl) ?_
 refine zag (fun x : Nat × Unf Org => [(0, ints alpha), (2, .fn (.func 85) [] []), (3, fnSO (d + 1) nm), (4, fnMO (d + 1) nm), (10, .own 0 10 0 0), (11, .osl 0 95), (13, .osl 0 26), (14, ii x.1)])
  (fun x => [(10, .box [ints alpha, ii 0, .osl 0 47, .osl 0 103]), (95, zoz x.2.sts), (47, zaK x.2.mkl), (103, zd5 x.2.eds), (26, .mp .str (.i .i64 (zdz x.2.sts 0)))]) (fun _ => O) 111
  (fun x => x.1 ≤ x.2.sts.length ∧ UGoodO m x.2 ∧ x.2.mkl.length ≤ x.1 ∧ x.2.eds.length ≤ 4096 * x.1 ∧ R = zbU keqO true (zbV m) (fun s => zbW m s.locs) alpha (4097 - x.1) x.1 x.2) (fun x => 4097 - x.1) (0, unf0 first)
  ⟨Nat.zero_le _, ⟨by simp [unf0], fun s hs => by rw [unf0, List.mem_singleton] at hs; subst hs; exact hf⟩, Nat.le_refl _, Nat.le_refl _, hno⟩ ⟨rfl, rfl, rfl, rfl, rfl, rfl, rfl, rfl, trivial⟩ rfl ⟨rfl, rfl, rfl, rfl, rfl, trivial⟩ rfl rfl ?_
 clear hno
 rintro ⟨i, U⟩ ⟨hi, hgd, hml, hel, hno⟩ ih
 simp only at hi hgd hml hel hno
 refine zaf Tk Tryz.func90 ?_
 refine zae Tk Tryz.func90 rfl (fun g1 => ?_) (fun g1 => ?_)
 ·have h1 : i < U.sts.length := by simpa using g1
  clear g1
  have hle := hgd.len
  have hsi : U.sts[i]? = some U.sts[i] := List.getElem?_eq_getElem h1
  have gs : (U.sts.map orgI)[(i : Int).toNat]? = some (orgI U.sts[i]) := zah h1
  have hoks := hgd.ok _ (List.getElem_mem h1)
  generalize U.sts[i] = s at *
  have hno : R = match zaz keqO true (zbV m) i s alpha (zbD (fun s => zbW m s.locs) i s U) with
    | .error e => .error e
    | .ok U' => zbU keqO true (zbV m) (fun s => zbW m s.locs) alpha (4097 - (i + 1)) (i + 1) U' := by
   rw [hno, show 4097 - i = (4097 - (i + 1)) + 1 by omega]
   simp only [zbU, hsi]
   cases zaz keqO true (zbV m) i s alpha (zbD (fun s => zbW m s.locs) i s U) <;> rfl
  have hmk := fun H => zqO (H :: O) m s (d + 1) nm (hO H) hJ hoks
  obtain ⟨m1, m2⟩ := zcW (fun s : Org => zbW m s.locs) i s U
  have hm3 : (zbD (fun s : Org => zbW m s.locs) i s U).mkl = if zbW m s.locs = true then U.mkl ++ [(i : Int)] else U.mkl := by
   unfold zbD
   by_cases h : zbW m s.locs = true <;> simp [h]
  generalize zbD (fun s : Org => zbW m s.locs) i s U = U1 at *
  obtain ⟨sts, mkl, eds⟩ := U
  obtain ⟨sts1, mkl1, eds1⟩ := U1
  simp only at *
  subst m1 m2
  obtain ⟨sl, sv⟩ := s
  simp only at *
  refine zak Tk Tryz.func90 (by exact ⟨by omega, by show (i : Int) < (sts1.length : Int); omega⟩) ?_
  refine zar Tk Tryz.func90 (gs) ?_
  refine zaj Tk Tryz.func90 (hmk _) rfl rfl rfl rfl rfl ?_
  apply zbP (P := True) (s6 := { σ := [(0, ints alpha), (2, .fn (.func 85) [] []), (3, fnSO (d + 1) nm), (4, fnMO (d + 1) nm), (10, .own 0 10 0 0), (11, .osl 0 95), (13, .osl 0 26), (14, ii i)], S := [(10, .box [ints alpha, ii 0, .osl 0 47, .osl 0 103]), (95, zoz sts1), (47, zaK mkl1), (103, zd5 eds1), (26, .mp .str (.i .i64 (zdz sts1 0)))] :: O, n := 111 })
  ·intro J
   refine zae Tk Tryz.func90 rfl (fun c1 => ?_) (fun c1 => ?_)
   ·have c1 : zbW m sl = true := c1
    rw [if_pos c1] at hm3
    subst hm3
    refine zak Tk Tryz.func90 (by exact ⟨by show (mkl.length + 1) * 8 ≤ 140737488355328; omega, by show mkl.length + 1 ≤ 9223372036854775807; omega⟩) ?_
    refine zax ?_
    refine zaJ (J trivial) ⟨rfl, rfl, rfl, rfl, rfl, rfl, rfl, rfl, trivial⟩ rfl ⟨rfl, rfl, congrArg some (zaR mkl (i : Int)), rfl, rfl, trivial⟩ rfl rfl
   ·have c1 : ¬ zbW m sl = true := by rw [show zbW m sl = false from c1]; simp
    rw [if_neg c1] at hm3
    subst hm3
    refine zax ?_
    refine zaJ (J trivial) ⟨rfl, rfl, rfl, rfl, rfl, rfl, rfl, rfl, trivial⟩ rfl ⟨rfl, rfl, rfl, rfl, rfl, trivial⟩ rfl rfl
  intro _
  have hml1 : mkl1.length ≤ i + 1 := by rw [hm3]; split; (rw [List.length_append, List.length_singleton]; omega); omega
  clear hm3 hml hmk gs
  have hV0 : zaz keqO true (zbV m) i ⟨sl, sv⟩ alpha ⟨sts1, mkl1, eds1⟩ = zaz keqO true (zbV m) i ⟨sl, sv⟩ (alpha.drop 0) ⟨sts1, mkl1, eds1⟩ := rfl
  generalize zaz keqO true (zbV m) i ⟨sl, sv⟩ alpha ⟨sts1, mkl1, eds1⟩ = V at *
  refine zaf Tk Tryz.func90 ?_
  refine g_go Tk Tryz.func90 ?_
  refine zad ?_
  refine zag (fun x : Nat × Unf Org => [(0, ints alpha), (2, .fn (.func 85) [] []), (3, fnSO (d + 1) nm), (4, fnMO (d + 1) nm), (10, .own 0 10 0 0), (11, .osl 0 95), (13, .osl 0 26), (14, ii i), (49, ints alpha), (50, ii alpha.length), (51, ii x.1)])
   (fun x => [(10, .box [ints alpha, ii 0, .osl 0 47, .osl 0 103]), (95, zoz x.2.sts), (47, zaK x.2.mkl), (103, zd5 x.2.eds), (26, .mp .str (.i .i64 (zdz x.2.sts 0)))]) (fun _ => O) 111
   (fun x => x.1 ≤ alpha.length ∧ UGoodO m x.2 ∧ i < x.2.sts.length ∧ x.2.mkl.length ≤ i + 1 ∧ x.2.eds.length ≤ 4096 * i + x.1 ∧ x.2.sts[i]? = some ⟨sl, sv⟩ ∧ V = zaz keqO true (zbV m) i ⟨sl, sv⟩ (alpha.drop x.1) x.2) (fun x => alpha.length - x.1) (0, ⟨sts1, mkl1, eds1⟩)
   ⟨Nat.zero_le _, ⟨hgd.len, hgd.ok⟩, h1, hml1, hel, hsi, hV0⟩ ⟨rfl, rfl, rfl, rfl, rfl, rfl, rfl, rfl, rfl, rfl, rfl, trivial⟩ rfl ⟨rfl, rfl, rfl, rfl, rfl, trivial⟩ rfl rfl ?_
  clear hV0 hsi hml1 hel hgd hle
  rintro ⟨j, ⟨sts, mk, eds⟩⟩ ⟨hj, hgd, hil, hml, hel, hsi, hV⟩ ih2
  simp only at hj hgd hil hml hel hsi hV
  have hle : sts.length ≤ 4096 := hgd.len
  refine zaf Tk Tryz.func90 ?_
  refine zae Tk Tryz.func90 rfl (fun g2 => ?_) (fun g2 => ?_)
  ·have h3 : j < alpha.length := by simpa using g2
   clear g2
   have ga : (alpha.map fun x => [vi x])[(j : Int).toNat]? = some [vi alpha[j]] := zah (f := fun x => [vi x]) h3
   have da : alpha.drop j = alpha[j] :: alpha.drop (j + 1) := List.drop_eq_getElem_cons h3
   rw [da] at hV
   simp only [zaz] at hV
   clear da
   generalize alpha[j] = ev at *
   have gs : (sts.map orgI)[(i : Int).toNat]? = some (orgI ⟨sl, sv⟩) := by simp [hsi]
   have hst := fun H => zqN (H :: O) m ⟨sl, sv⟩ ev (d + 1) nm (hO H) hJ hoks
   have hokn := @zqi m hJ.right ⟨sl, sv⟩ ev hoks
   have hj1 : ii (IntKind.i64.wrap ((j : Int) + 1)) = ii ((j + 1 : Nat) : Int) := congrArg ii (zaB (n := 4096) (by omega) (by decide))
   unfold zcu at hV
   generalize zbV m ⟨sl, sv⟩ ev = N at *
   obtain ⟨⟨nl, nv⟩, np, ne⟩ := N
   simp only at hV hst hokn
   refine zak Tk Tryz.func90 (by exact ⟨by omega, by show (j : Int) < (alpha.length : Int); omega⟩) ?_
   refine zar Tk Tryz.func90 (ga) ?_
   refine zak Tk Tryz.func90 (by exact ⟨by omega, by show (i : Int) < (sts.length : Int); omega⟩) ?_
   refine zar Tk Tryz.func90 (gs) ?_
   refine zaj Tk Tryz.func90 (hst _) rfl rfl rfl rfl rfl ?_
   refine zae Tk Tryz.func90 rfl (fun c1 => ?_) (fun c1 => ?_)
   ·have c1 : ne ≠ 0 := bneT c1
    rw [if_pos c1] at hV
    subst hV
    simp only at hno
    subst hno
    refine zao Tk (r := _) rfl rfl rfl trivial rfl rfl ?_
    exact zpi
   have c1 : ne = 0 := bneF c1
   rw [if_neg (by simpa using c1)] at hV
   refine zae Tk Tryz.func90 rfl (fun c2 => ?_) (fun c2 => ?_)
   ·have c2 : np = false := notT c2
    rw [if_pos c2] at hV
    refine zad ?_
    exact ih2 (j + 1, ⟨sts, mk, eds⟩) _ _ ⟨h3, hgd, hil, hml, by simp only; omega, hsi, hV⟩ (by simp only; omega) ⟨rfl, rfl, rfl, rfl, rfl, rfl, rfl, rfl, rfl, rfl, hj1, trivial⟩ rfl ⟨rfl, rfl, rfl, rfl, rfl, trivial⟩ rfl rfl
   have c2 : np = true := notF c2
   rw [if_neg (by rw [c2]; simp)] at hV
   have hon := hokn c2
   have hlk := zg2 (zcc ⟨nl, nv⟩) sts 0
   have hks := @ziG ⟨nl, nv⟩ sts 0
   rw [Nat.zero_add] at hks
   rw [Nat.zero_add] at hlk
   have hix : sts.findIdx (keqO ⟨nl, nv⟩) ≤ sts.length := findIdx_le
   have hlk : zbg (zdz sts 0) (.string (zcc ⟨nl, nv⟩)) = if sts.findIdx (keqO ⟨nl, nv⟩) < sts.length then some ((sts.findIdx (keqO ⟨nl, nv⟩) : Nat) : Int) else none := hlk
   generalize sts.findIdx (keqO ⟨nl, nv⟩) = t at *
   refine zbe Tk Tryz.func90 hE (zhK hg _ hJ ⟨nl, nv⟩ hon) rfl rfl rfl rfl rfl rfl ?_
   generalize hst2 : (if t < sts.length then sts else sts ++ [(⟨nl, nv⟩ : Org)]) = sts2
   apply zbP (P := t < sts.length ∨ sts.length ≠ 4096) (s6 := { σ := [(0, ints alpha), (2, .fn (.func 85) [] []), (3, fnSO (d + 1) nm), (4, fnMO (d + 1) nm), (10, .own 0 10 0 0), (11, .osl 0 95), (13, .osl 0 26), (14, ii i), (16, ii ev), (20, ii t), (49, ints alpha), (50, ii alpha.length), (51, ii j)], S := [(10, .box [ints alpha, ii 0, .osl 0 47, .osl 0 103]), (95, zoz sts2), (47, zaK mk), (103, zd5 eds), (26, .mp .str (.i .i64 (zdz sts2 0)))] :: O, n := 111 })
   ·intro J
    refine zae Tk Tryz.func90 rfl (fun c3 => ?_) (fun c3 => ?_)
    ·have c3 : mhas (zdz sts 0) (.string (zcc ⟨nl, nv⟩)) = false := notT c3
     have hlt : ¬ t < sts.length := fun h => by
      unfold mhas at c3
      rw [hlk, if_pos h] at c3
      cases c3
     have hte : t = sts.length := by omega
     rw [if_neg hlt] at hst2 hV
     have hks := hks hlt
     refine zae Tk Tryz.func90 rfl (fun c4 => ?_) (fun c4 => ?_)
     ·have c4 : ((sts.length : Nat) : Int) = 4096 := beqT c4
      have c4 : sts.length = 4096 := by omega
      rw [if_pos ⟨trivial, c4⟩] at hV
      subst hV
      simp only at hno
      subst hno
      refine zao Tk (r := _) rfl rfl rfl trivial rfl rfl ?_
      exact zpi
     have c4 : ((sts.length : Nat) : Int) ≠ 4096 := beqF c4
     have c4 : sts.length ≠ 4096 := by omega
     refine zbe Tk Tryz.func90 hE (zhK hg _ hJ ⟨nl, nv⟩ hon) rfl rfl rfl rfl rfl rfl ?_
     refine zak Tk Tryz.func90 (by exact ⟨by show (sts.length + 1) * 48 ≤ 140737488355328; omega, by show sts.length + 1 ≤ 9223372036854775807; omega⟩) ?_
     subst hst2
     refine zax ?_
     refine zaJ (J (.inr c4)) ⟨rfl, rfl, rfl, rfl, rfl, rfl, rfl, rfl, rfl, by rw [hte]; rfl, rfl, rfl, rfl, trivial⟩ rfl ⟨rfl, congrArg some (zmO sts (⟨nl, nv⟩ : Org)), rfl, rfl, congrArg (fun l => some (Ob.mp .str (.i .i64 l))) hks, trivial⟩ rfl rfl
    ·have c3 : mhas (zdz sts 0) (.string (zcc ⟨nl, nv⟩)) = true := notF c3
     have hlt : t < sts.length := Classical.byContradiction fun h => by
      unfold mhas at c3
      rw [hlk, if_neg h] at c3
      cases c3
     rw [if_pos hlt] at hst2 hlk
     subst hst2
     refine zax ?_
     refine zaJ (J (.inl hlt)) ⟨rfl, rfl, rfl, rfl, rfl, rfl, rfl, rfl, rfl, by show ii (zcS (zdz sts 0) (.string (zcc ⟨nl, nv⟩))) = _; unfold zcS; rw [hlk]; rfl, rfl, rfl, rfl, trivial⟩ rfl ⟨rfl, rfl, rfl, rfl, rfl, trivial⟩ rfl rfl
   ·intro hP
    have hV : V = zaz keqO true (zbV m) i ⟨sl, sv⟩ (alpha.drop (j + 1)) ⟨sts2, mk, eds ++ [((i : Int), ev, (t : Int))]⟩ := by
     rw [hV]
     by_cases hlt : t < sts.length
     ·rw [if_pos hlt] at hst2 ⊢
      subst hst2
      rfl
     ·rw [if_neg hlt] at hst2 ⊢
      rw [if_neg (by rintro ⟨_, h⟩; rcases hP with h' | h'; exact hlt h'; exact h' h)]
      subst hst2
      rfl
    have hg2 : UGoodO m ⟨sts2, mk, eds ++ [((i : Int), ev, (t : Int))]⟩ := by
     by_cases hlt : t < sts.length
     ·rw [if_pos hlt] at hst2
      subst hst2
      exact ⟨hgd.len, hgd.ok⟩
     ·rw [if_neg hlt] at hst2
      subst hst2
      refine ⟨?_, fun x hx => ?_⟩
      ·show (sts ++ [(⟨nl, nv⟩ : Org)]).length ≤ 4096
       rw [List.length_append, List.length_singleton]
       rcases hP with h' | h'
       ·exact absurd h' hlt
       ·omega
      ·rcases List.mem_append.1 hx with hx | hx
       ·exact hgd.ok x hx
       ·rw [List.mem_singleton] at hx
        subst hx
        exact hon
    have hi2 : i < sts2.length ∧ sts2[i]? = some ⟨sl, sv⟩ := by
     by_cases hlt : t < sts.length
     ·rw [if_pos hlt] at hst2
      subst hst2
      exact ⟨hil, hsi⟩
     ·rw [if_neg hlt] at hst2
      subst hst2
      refine ⟨by rw [List.length_append]; omega, ?_⟩
      rw [List.getElem?_append_left hil]
      exact hsi
    have hi4 : i < 4096 := by omega
    clear hst2 hst hlk hks hgd hil hsi
    refine zaf Tk Tryz.func90 ?_
    refine g_go Tk Tryz.func90 ?_
    refine zak Tk Tryz.func90 (by exact ⟨by show (eds.length + 1) * 24 ≤ 140737488355328; omega, by show eds.length + 1 ≤ 9223372036854775807; omega⟩) ?_
    refine zad ?_
    exact ih2 (j + 1, ⟨sts2, mk, eds ++ [((i : Int), ev, (t : Int))]⟩) _ _ ⟨h3, hg2, hi2.1, hml, by simp only [List.length_append, List.length_singleton]; omega, hi2.2, hV⟩ (by simp only; omega) ⟨rfl, rfl, rfl, rfl, rfl, rfl, rfl, rfl, rfl, rfl, hj1, trivial⟩ rfl ⟨rfl, rfl, rfl, congrArg some (zgS eds ((i : Int), ev, (t : Int))), rfl, trivial⟩ rfl rfl
  ·have h3 : alpha.length ≤ j := by simpa using g2
   rw [List.drop_eq_nil_of_le h3] at hV
   simp only [zaz] at hV
   subst hV
   simp only at hno
   have hja : j ≤ 4096 := by omega
   refine zad ?_
   exact ih (i + 1, ⟨sts, mk, eds⟩) _ _ ⟨by simp only; omega, hgd, hml, by simp only; omega, hno⟩ (by simp only; omega) ⟨rfl, rfl, rfl, rfl, rfl, rfl, rfl, congrArg ii (zaB (n := 4096) (by omega) (by decide)), trivial⟩ rfl ⟨rfl, rfl, rfl, rfl, rfl, trivial⟩ rfl rfl
 ·have h1 : U.sts.length ≤ i := by simpa using g1
  rw [zfu h1] at hno
  subst hno
  obtain ⟨sts, mk, eds⟩ := U
  refine zbm (zap 95 rfl rfl) ?_
  refine zbm (zap 47 rfl rfl) ?_
  refine zbm (zap 103 rfl rfl) ?_
  refine zbm (zcs rfl) ?_
  refine zai Tk (r := znR alpha (.ok ⟨sts, mk, eds⟩)) rfl rfl rfl trivial rfl rfl ?_
  rfl
end Go.AI
