/- The layer of abstract runs, part 22. -/
import Derived.Test.YtlcekmemdnjjbaaGreatDoorElkU
set_option linter.unusedSimpArgs false
set_option linter.unusedVariables false
set_option linter.all false

namespace Go.AI
open Go.Proofs
set_option maxRecDepth 20000
theorem zhJ (O : List Heap) (a b : Int) (h0 : 0 ≤ b) (h1 : b ≤ zam) : zan Tryz.prog 173 [ii a, ii b] O (bb (decide (b < a) || decide (a < -b))) [] O := by
 have h := zjA O a b
 simp only [zam] at h1
 rw [w64 (by omega) (by omega), Int.zero_sub] at h
 exact h
theorem orT {p q : Prop} [Decidable p] [Decidable q] (h : (decide p || decide q) = true) : p ∨ q := by simpa using h
theorem orF {p q : Prop} [Decidable p] [Decidable q] (h : (decide p || decide q) = false) : ¬ (p ∨ q) := by
 intro h'
 have : (decide p || decide q) = true := by simpa using h'
 rw [h] at this; cases this
def za4 (op v ix : Int) (len : Nat) (n : Int) : Int :=
 if (arity op).2 = false then 11 else
 if (len : Int) ≠ (arity op).1 then 4 else
 if (op ≠ 0 ∧ v ≠ 0) ∨ (op ≠ 1 ∧ ix ≠ 0) then 6 else
 if (op = 0 ∧ (65536 < v ∨ v < -65536)) ∨ (op = 1 ∧ (ix < 0 ∨ ix ≥ n)) then 2 else 0
mutual
def zcg : Ex → Int → Int → Int → Int × Int
 | .mk op v ix args, n, lvl, c =>
  if c = 64 ∨ lvl > 8 then (3, c) else
  if za4 op v ix args.length n ≠ 0 then (za4 op v ix args.length n, c + 1) else zcP args n (lvl + 1) (c + 1)
def zcP : List Ex → Int → Int → Int → Int × Int
 | [], _, _, c => (0, c)
 | e :: r, n, lvl, c => if (zcg e n lvl c).1 ≠ 0 then zcg e n lvl c else zcP r n lvl (zcg e n lvl c).2
end
mutual
theorem ziO : ∀ (x : Ex) (n lvl c : Int), 0 ≤ c → c ≤ 64 → 0 ≤ (zcg x n lvl c).2 ∧ (zcg x n lvl c).2 ≤ 64
 | .mk op v ix args, n, lvl, c, h0, h1 => by
  simp only [zcg]
  split
  ·exact ⟨h0, h1⟩
  ·split
   ·simp only; omega
   ·exact zg5 args n (lvl + 1) (c + 1) (by omega) (by omega)
theorem zg5 : ∀ (l : List Ex) (n lvl c : Int), 0 ≤ c → c ≤ 64 → 0 ≤ (zcP l n lvl c).2 ∧ (zcP l n lvl c).2 ≤ 64
 | [], n, lvl, c, h0, h1 => ⟨h0, h1⟩
 | e :: r, n, lvl, c, h0, h1 => by
  have := ziO e n lvl c h0 h1
  simp only [zcP]
  split
  ·exact this
  ·exact zg5 r n lvl _ this.1 this.2
end
theorem zq3 : ∀ (N : Nat) (x : Ex), SizeOf.sizeOf x < N → exOk x → ∀ (O : List Heap) (d nm : Nat) (n lvl c : Int), zaa O d nm = some (.box [ii c]) → 0 ≤ c → c ≤ 64 → 0 ≤ lvl → lvl ≤ 9 →
  zan Tryz.prog 170 [exD x, ii n, ii lvl, .own d nm 0 0] O (ii (zcg x n lvl c).1) [] (setAt O d nm (.box [ii (zcg x n lvl c).2])) := by
 intro N
 induction N with
 | zero => intro x h; omega
 | succ N ihN =>
  intro x hs hok O d nm n lvl c ho hc0 hc1 hl0 hl1
  obtain ⟨op, v, ix, args⟩ := x
  simp only [exOk] at hok
  have hch : ∀ e ∈ args, ∀ (O : List Heap) (d nm : Nat) (n lvl c : Int), zaa O d nm = some (.box [ii c]) → 0 ≤ c → c ≤ 64 → 0 ≤ lvl → lvl ≤ 9 →
    zan Tryz.prog 170 [exD e, ii n, ii lvl, .own d nm 0 0] O (ii (zcg e n lvl c).1) [] (setAt O d nm (.box [ii (zcg e n lvl c).2])) := by
   intro e he
   refine ihN e ?_ (ziV hok.2 e he)
   have := List.sizeOf_lt_of_mem he
   simp only [Ex.mk.sizeOf_spec] at hs
   omega
  have hlen : args.length ≤ zam := hok.1
  generalize hR : zcg (.mk op v ix args) n lvl c = R
  have hO1 : ∀ H, zaa (H :: O) (d + 1) nm = some (.box [ii c]) := fun H => by simpa [zaa] using ho
  have hw : c ≠ 64 → IntKind.i64.wrap (c + 1) = c + 1 := fun h => w64 (by omega) (by omega)
  have hwl : IntKind.i64.wrap (lvl + 1) = lvl + 1 := w64 (by omega) (by omega)
  have early : c = 64 ∨ lvl > 8 → R = (3, c) := fun h => by rw [← hR]; simp only [zcg]; rw [if_pos h]
  have head : ¬(c = 64 ∨ lvl > 8) → za4 op v ix args.length n ≠ 0 → R = (za4 op v ix args.length n, c + 1) := fun h h2 => by rw [← hR]; simp only [zcg]; rw [if_neg h, if_pos h2]
  have body : ¬(c = 64 ∨ lvl > 8) → za4 op v ix args.length n = 0 → R = zcP args n (lvl + 1) (c + 1) := fun h h2 => by rw [← hR]; simp only [zcg]; rw [if_neg h, if_neg (by simpa using h2)]
  refine zaC [3, 9, 11, 13] Tk Tryz.func170 rfl Tryz.call170 Tryz.ntmps170 (Nat.le_of_ble_eq_true rfl) fun E => ?_
  refine zaf Tk Tryz.func170 ?_
  refine zgz Tk Tryz.func170 (hO1 _) ?_
  apply zbP (P := ¬(c = 64 ∨ lvl > 8)) (s6 := { σ := [(1, ii n), (2, ii lvl), (3, .own (d + 1) nm 0 0), (4, .own 0 4 0 0)], S := [(4, .box [ii op, ii v, ii ix, exs args])] :: O, n := 103 })
  ·intro J
   refine zaF Tk Tryz.func170 rfl (fun h1 => ?_) (fun h1 => ?_)
   ·have := early (.inl (beqT h1))
    subst this
    refine gcT Tk Tryz.func170 rfl ?_
    refine zbm (wk_S (S' := _ :: setAt O d nm (.box [ii c])) (zdm (zeU ho))) ?_
    refine zai Tk (r := ii 3) rfl rfl rfl trivial rfl rfl ?_
    rfl
   ·refine zae Tk Tryz.func170 rfl (fun h2 => ?_) (fun h2 => ?_)
    ·have := early (.inr (by have := of_decide_eq_true h2; omega))
     subst this
     refine zbm (wk_S (S' := _ :: setAt O d nm (.box [ii c])) (zdm (zeU ho))) ?_
     refine zai Tk (r := ii 3) rfl rfl rfl trivial rfl rfl ?_
     rfl
    ·have h1 := beqF h1
     have h2 := of_decide_eq_false h2
     refine zax ?_
     exact zdP (J (by omega)) ⟨rfl, rfl, rfl, rfl, trivial⟩ rfl rfl
  ·intro hP
   have hw := hw (by omega)
   have head := head hP
   have body := body hP
   clear early
   let s2 : St := { σ := [(1, ii n), (2, ii lvl), (3, .own (d + 1) nm 0 0), (4, .own 0 4 0 0)], S := [(4, .box [ii op, ii v, ii ix, exs args])] :: setAt O d nm (.box [ii (c + 1)]), n := 103 }
   have hSS : [(4, Ob.box [ii op, ii v, ii ix, exs args])] :: setAt O d nm (.box [ii (IntKind.i64.wrap (c + 1))]) = s2.S := by rw [hw]
   have hS2 : ∀ d' n', zaa s2.S d' n' = zaa ([(4, Ob.box [ii op, ii v, ii ix, exs args])] :: setAt O d nm (.box [ii (IntKind.i64.wrap (c + 1))])) d' n' := by rw [hSS]; exact fun _ _ => rfl
   refine zaf Tk Tryz.func170 ?_
   refine g_go Tk Tryz.func170 ?_
   refine zgz Tk Tryz.func170 (hO1 _) ?_
   refine zgz Tk Tryz.func170 (hO1 _) ?_
   refine zaj Tk Tryz.func170 (zkf _ op) rfl rfl rfl rfl rfl ?_
   refine zae Tk Tryz.func170 rfl (fun h3 => ?_) (fun h3 => ?_)
   ·have h3 := notT h3
    have hh : za4 op v ix args.length n = 11 := by unfold za4; rw [if_pos h3]
    have := head (by rw [hh]; decide)
    subst this
    refine zbm (wk_S (S' := s2.S) (by exact hS2)) ?_
    refine zai Tk (r := ii 11) rfl rfl rfl trivial rfl rfl ?_
    rw [hh]
   have h3 := notF h3
   have h3 : ¬ (arity op).2 = false := by rw [h3]; simp
   refine zae Tk Tryz.func170 rfl (fun h4 => ?_) (fun h4 => ?_)
   ·have h4 := bneT h4
    have hh : za4 op v ix args.length n = 4 := by unfold za4; rw [if_neg h3, if_pos h4]
    have := head (by rw [hh]; decide)
    subst this
    refine zbm (wk_S (S' := s2.S) (by exact hS2)) ?_
    refine zai Tk (r := ii 4) rfl rfl rfl trivial rfl rfl ?_
    rw [hh]
   have h4 := bneF h4
   have h4 : ¬ (args.length : Int) ≠ (arity op).1 := by omega
   have bad6 : (op ≠ 0 ∧ v ≠ 0) ∨ (op ≠ 1 ∧ ix ≠ 0) → R = (6, c + 1) := fun h => by
    have hh : za4 op v ix args.length n = 6 := by unfold za4; rw [if_neg h3, if_neg h4, if_pos h]
    rw [head (by rw [hh]; decide), hh]
   apply zbP (P := ¬ ((op ≠ 0 ∧ v ≠ 0) ∨ (op ≠ 1 ∧ ix ≠ 0))) (s6 := s2)
   ·intro J
    refine zax ?_
    refine zaf Tk Tryz.func170 ?_
    refine g_go Tk Tryz.func170 ?_
    refine zaF Tk Tryz.func170 rfl (fun h5 => ?_) (fun h5 => ?_)
    ·have h5 := bneT h5
     refine zaF Tk Tryz.func170 rfl (fun h6 => ?_) (fun h6 => ?_)
     ·have := bad6 (.inl ⟨h5, bneT h6⟩)
      subst this
      refine gcT Tk Tryz.func170 rfl ?_
      refine zbm (wk_S (S' := s2.S) (by exact hS2)) ?_
      refine zai Tk (r := ii 6) rfl rfl rfl trivial rfl rfl ?_
      rfl
     ·have h6 := bneF h6
      refine zaF Tk Tryz.func170 rfl (fun h7 => ?_) (fun h7 => ?_)
      ·have h7 := bneT h7
       refine zae Tk Tryz.func170 rfl (fun h8 => ?_) (fun h8 => ?_)
       ·have := bad6 (.inr ⟨h7, bneT h8⟩)
        subst this
        refine zbm (wk_S (S' := s2.S) (by exact hS2)) ?_
        refine zai Tk (r := ii 6) rfl rfl rfl trivial rfl rfl ?_
        rfl
       ·have h8 := bneF h8
        refine zax ?_
        exact zdP (J (by omega)) ⟨rfl, rfl, rfl, rfl, trivial⟩ hSS rfl
      ·have h7 := bneF h7
       refine gcF Tk Tryz.func170 rfl ?_
       refine zax ?_
       exact zdP (J (by omega)) ⟨rfl, rfl, rfl, rfl, trivial⟩ hSS rfl
    ·have h5 := bneF h5
     refine gkF Tk Tryz.func170 rfl ?_
     refine zaF Tk Tryz.func170 rfl (fun h7 => ?_) (fun h7 => ?_)
     ·have h7 := bneT h7
      refine zae Tk Tryz.func170 rfl (fun h8 => ?_) (fun h8 => ?_)
      ·have := bad6 (.inr ⟨h7, bneT h8⟩)
       subst this
       refine zbm (wk_S (S' := s2.S) (by exact hS2)) ?_
       refine zai Tk (r := ii 6) rfl rfl rfl trivial rfl rfl ?_
       rfl
      ·have h8 := bneF h8
       refine zax ?_
       exact zdP (J (by omega)) ⟨rfl, rfl, rfl, rfl, trivial⟩ hSS rfl
     ·have h7 := bneF h7
      omega
   ·intro hQ
    have bad2 : (op = 0 ∧ (65536 < v ∨ v < -65536)) ∨ (op = 1 ∧ (ix < 0 ∨ ix ≥ n)) → R = (2, c + 1) := fun h => by
     have hh : za4 op v ix args.length n = 2 := by unfold za4; rw [if_neg h3, if_neg h4, if_neg hQ, if_pos h]
     rw [head (by rw [hh]; decide), hh]
    have good : ¬ ((op = 0 ∧ (65536 < v ∨ v < -65536)) ∨ (op = 1 ∧ (ix < 0 ∨ ix ≥ n))) → R = zcP args n (lvl + 1) (c + 1) := fun h => by
     have hh : za4 op v ix args.length n = 0 := by unfold za4; rw [if_neg h3, if_neg h4, if_neg hQ, if_neg h]
     exact body hh
    clear head body bad6
    apply zbP (P := R = zcP args n (lvl + 1) (c + 1)) (s6 := s2)
    ·intro J
     refine zaf Tk Tryz.func170 ?_
     refine g_go Tk Tryz.func170 ?_
     refine zaF Tk Tryz.func170 rfl (fun h5 => ?_) (fun h5 => ?_)
     ·have h5 := beqT h5
      refine zaj Tk Tryz.func170 (zhJ _ v 65536 (by decide) (by decide)) rfl rfl rfl rfl rfl ?_
      refine zaF Tk Tryz.func170 rfl (fun h6 => ?_) (fun h6 => ?_)
      ·have h6 := orT h6
       have := bad2 (.inl ⟨h5, h6⟩)
       subst this
       refine gcT Tk Tryz.func170 rfl ?_
       refine zai Tk (r := ii 2) rfl rfl rfl trivial rfl rfl ?_
       rfl
      ·have h6 := orF h6
       refine zaF Tk Tryz.func170 rfl (fun h7 => ?_) (fun h7 => ?_)
       ·have h7 := beqT h7
        omega
       ·refine gcF Tk Tryz.func170 rfl ?_
        refine zax ?_
        exact zdP (J (good (by omega))) ⟨rfl, rfl, rfl, rfl, trivial⟩ rfl rfl
     ·have h5 := beqF h5
      refine gkF Tk Tryz.func170 rfl ?_
      refine zaF Tk Tryz.func170 rfl (fun h7 => ?_) (fun h7 => ?_)
      ·have h7 := beqT h7
       refine zaF Tk Tryz.func170 rfl (fun h8 => ?_) (fun h8 => ?_)
       ·have h8 := of_decide_eq_true h8
        have := bad2 (.inr ⟨h7, .inl h8⟩)
        subst this
        refine gcT Tk Tryz.func170 rfl ?_
        refine zai Tk (r := ii 2) rfl rfl rfl trivial rfl rfl ?_
        rfl
       ·have h8 := of_decide_eq_false h8
        refine zae Tk Tryz.func170 rfl (fun h9 => ?_) (fun h9 => ?_)
        ·have h9 := of_decide_eq_true h9
         have := bad2 (.inr ⟨h7, .inr h9⟩)
         subst this
         refine zai Tk (r := ii 2) rfl rfl rfl trivial rfl rfl ?_
         rfl
        ·have h9 := of_decide_eq_false h9
         refine zax ?_
         exact zdP (J (good (by omega))) ⟨rfl, rfl, rfl, rfl, trivial⟩ rfl rfl
      ·have h7 := beqF h7
       refine gcF Tk Tryz.func170 rfl ?_
       refine zax ?_
       exact zdP (J (good (by omega))) ⟨rfl, rfl, rfl, rfl, trivial⟩ rfl rfl
    ·intro hR
     clear good bad2 hQ h3 h4
     refine zaf Tk Tryz.func170 ?_
     refine g_go Tk Tryz.func170 ?_
     refine zad ?_
     have hx : zaa O d nm = some (.box [ii c]) := ho
     refine zag (fun x : Nat × Int => [(1, ii n), (2, ii lvl), (3, .own (d + 1) nm 0 0), (87, exs args), (88, ii args.length), (89, ii x.1)]) (fun _ => []) (fun x => setAt O d nm (.box [ii x.2])) 103
      (fun x => x.1 ≤ args.length ∧ 0 ≤ x.2 ∧ x.2 ≤ 64 ∧ R = zcP (args.drop x.1) n (lvl + 1) x.2) (fun x => args.length - x.1) (0, c + 1) ⟨Nat.zero_le _, by simp only; omega, by simp only; omega, hR⟩ ⟨rfl, rfl, rfl, rfl, rfl, rfl, trivial⟩ rfl trivial rfl rfl ?_
     rintro ⟨i, c'⟩ ⟨hi, hc0', hc1', hno⟩ ih
     simp only at hi hc0' hc1' hno
     refine zaf Tk Tryz.func170 ?_
     refine zae Tk Tryz.func170 rfl (fun h5 => ?_) (fun h5 => ?_)
     ·have h5 : i < args.length := by simpa using h5
      have hd : args.drop i = args[i] :: args.drop (i + 1) := (List.drop_eq_getElem_cons h5)
      have hm := List.getElem_mem h5
      have hg := zhY h5
      generalize args[i] = e at hd hm hg
      have hce := fun O ho => hch e hm O (d + 1) nm n (IntKind.i64.wrap (lvl + 1)) c' ho hc0' hc1' (by omega) (by omega)
      have hcnt := ziO e n (IntKind.i64.wrap (lvl + 1)) c' hc0' hc1'
      obtain ⟨eo, ev, ei, ea⟩ := e
      simp only [exI] at hg
      rw [hd] at hno
      simp only [zcP] at hno
      rw [← hwl] at hno
      refine zak Tk Tryz.func170 (by omega) ?_
      refine zar Tk Tryz.func170 (hg) ?_
      refine zaj Tk Tryz.func170 (hce _ (by exact zdD (zdH ho))) rfl rfl rfl (zmB (zoc (zdH ho) rfl)) rfl ?_
      generalize zcg (.mk eo ev ei ea) n (IntKind.i64.wrap (lvl + 1)) c' = Q at hno hcnt
      obtain ⟨qe, qc⟩ := Q
      simp only at hno hcnt
      refine zae Tk Tryz.func170 rfl (fun h6 => ?_) (fun h6 => ?_)
      ·have h6 := bneT h6
       rw [if_pos h6] at hno
       subst hno
       refine zbm (wk_S (S' := _ :: setAt O d nm (.box [ii qc])) (zdm fun d n => zgT d n)) ?_
       refine zai Tk (r := ii _) rfl rfl rfl trivial rfl rfl ?_
       rfl
      ·have h6 := bneF h6
       rw [if_neg (by simpa using h6), hwl] at hno
       refine g_wk (wk_S (S' := _ :: setAt O d nm (.box [ii qc])) (zdm fun d n => zgT d n)) ?_
       refine zad ?_
       refine ih (i + 1, qc) _ _ ⟨h5, hcnt.1, hcnt.2, hno⟩ (by simp only; omega) ⟨rfl, rfl, rfl, rfl, rfl, congrArg ii (zaB h5 hlen), trivial⟩ rfl trivial rfl rfl
     ·have h5 : args.length ≤ i := by simpa using h5
      rw [List.drop_eq_nil_of_le h5] at hno
      subst hno
      refine zai Tk (r := ii 0) rfl rfl rfl trivial rfl rfl ?_
      rfl
end Go.AI


namespace Go.AI
section
variable {c : Cx} {s : St} {E : Env} {K : Kn} {ρ : Nat → Nat → Loc} {H : Heap} {O : List Heap} {w : World}
theorem HInv.rebox {b : Nat} {cs cs' : List D} (hh : HInv E K ρ (H :: O) w) (ho : look H b = some (.box cs)) (hc : ∀ vs, RepDL K ρ (shape (H :: O)) vs cs → RepDL K ρ (shape (H :: O)) vs cs') : HInv E K ρ (((b, .box cs') :: H) :: O) w := by
 have hsh : shape (((b, .box cs') :: H) :: O) = shape (H :: O) := zb4 ho rfl
 have hcase : ∀ d n o, zaa (((b, .box cs') :: H) :: O) d n = some o → ∃ o0, zaa (H :: O) d n = some o0 ∧ (o = o0 ∨ (d = 0 ∧ n = b ∧ o = .box cs' ∧ o0 = .box cs)) ∧ (∀ l, zas l o ↔ zas l o0) := by
  intro d n o e
  rcases zdl (ob := .box cs) e with ⟨rfl, rfl, rfl⟩ | ⟨_, e2⟩
  ·exact ⟨.box cs, by simpa [zaa] using ho, .inr ⟨rfl, rfl, rfl, rfl⟩, fun l => Iff.rfl⟩
  ·exact ⟨o, e2, .inl rfl, fun _ => Iff.rfl⟩
 refine ⟨hh.holds, ?_, ?_, hh.size, ?_, ?_, hh.outer, hh.Kle, hh.Knew, hh.rest⟩
 ·intro d n o e
  obtain ⟨o0, e0, h1, _⟩ := hcase d n o e
  have h0 := hh.own _ _ _ e0
  have hdr : shape ((((b, .box cs') :: H) :: O).drop d) = shape ((H :: O).drop d) := by
   cases d with
   | zero => exact hsh
   | succ d => rfl
  rw [hdr]
  rcases h1 with rfl | ⟨rfl, rfl, rfl, rfl⟩
  ·exact h0
  ·obtain ⟨cl, T, a1, a2, a3⟩ := h0
   have e2 : (fun d n => ρ (0 + d) n) = ρ := by funext d n; rw [Nat.zero_add]
   rw [e2] at a2 ⊢
   exact ⟨cl, T, a1, hc _ a2, a3⟩
 ·intro d n o d' n' o' e e' b1 b2 hbe
  obtain ⟨o1, e1, _, h1⟩ := hcase d n o e
  obtain ⟨o2, e2, _, h2⟩ := hcase d' n' o' e'
  exact hh.inj _ _ _ _ _ _ e1 e2 ((h1 _).1 b1) ((h2 _).1 b2) hbe
 ·intro b' hb hno
  exact hh.old b' hb fun d n o e => hno d n o (by simpa [zaa] using e)
 ·intro n o e hb
  obtain ⟨o1, e1, _, h1⟩ := hcase 0 n o e
  exact hh.loc _ _ e1 ((h1 _).1 hb)
theorem RepDL.mid {K : Kn} {ρ : Nat → Nat → Loc} {sh : Nat → Nat → Option Sh} {d d' : D} (h : ∀ v, RepD K ρ sh v d → RepD K ρ sh v d') : ∀ {a b : List D} {vs : List Value}, RepDL K ρ sh vs (a ++ d :: b) → RepDL K ρ sh vs (a ++ d' :: b)
 | [], b, _, .cons r rs => .cons (h _ r) rs
 | _ :: a, b, _, .cons r rs => .cons r (RepDL.mid (a := a) h rs)
theorem zaP (b nm e z : Nat) {pre post : List D} (hS : s.S = H :: O) (hb : look H b = some (.box (pre ++ .i (.v (.slice none 0 0)) :: post))) (hf : look H nm = none) : Wk c s { σ := s.σ, S := ((b, .box (pre ++ .osl 0 nm :: post)) :: (nm, .arr e z 0 [] true) :: H) :: O, n := s.n } := by
 intro K ρ a w hi
 have hh := hi.h
 rw [hS] at hh
 let l0 : Loc := ⟨0, 0, none⟩
 have hown : ∀ ρ' sh', OwnAt K ρ' sh' w l0 (.arr e z 0 [] true) := fun ρ' sh' => ⟨by simp, rfl, Nat.le_refl _, by simp [l0], .inl ⟨rfl, rfl⟩⟩
 have hg : Grow K ρ (H :: O) w [(nm, .arr e z 0 [] true)] K (upd ρ nm l0) w := by
  refine ⟨K.le_refl, fun _ _ _ h => .inl h, Nat.le_refl _, fun _ _ => rfl, ⟨rfl, rfl, rfl⟩, fun d n' h => ?_, hh.holds, fun n' ob e' => ?_, fun n1 o1 n2 o2 e1 e2 b1 b2 _ => ?_⟩
  ·refine zaH _ _ _ (h.imp id fun h e' => ?_)
   subst e'
   simp [zab] at h
  ·obtain ⟨rfl, rfl⟩ := zaG e'
   rw [zaL]
   exact ⟨hown _ _, fun hb => absurd rfl hb⟩
  ·obtain ⟨rfl, rfl⟩ := zaG e1
   obtain ⟨rfl, rfl⟩ := zaG e2
   rfl
 obtain ⟨hI, hst⟩ := HInv.grow (S := H :: O) rfl hh (fun _ _ _ e => e) (fun n' h => by
  cases hl : look [(nm, Ob.arr e z 0 [] true)] n' with
  | none => exact absurd hl h
  | some ob => obtain ⟨rfl, rfl⟩ := zaG hl; exact hf) hg
 have hbn : nm ≠ b := fun e' => by subst e'; rw [hf] at hb; cases hb
 have hb' : look ((nm, Ob.arr e z 0 [] true) :: H) b = some (.box (pre ++ .i (.v (.slice none 0 0)) :: post)) := by rw [zab, if_neg hbn]; exact hb
 have hI2 : HInv c.E K (upd ρ nm l0) (((b, .box (pre ++ .osl 0 nm :: post)) :: (nm, .arr e z 0 [] true) :: H) :: O) w := by
  refine HInv.rebox hI hb' fun vs hv => hv.mid fun v h1 => ?_
  rw [zaI h1]
  have := RepD.osl (K := K) (ρ := upd ρ nm l0) (sh := shape (((nm, Ob.arr e z 0 [] true) :: H) :: O)) (dep := 0) (nm := nm) (es := z) (len := 0) (by simp [shape, zaa, zab, Ob.sh])
  rw [zaL] at this
  exact this
 have hsh : shape (((b, .box (pre ++ .osl 0 nm :: post)) :: (nm, .arr e z 0 [] true) :: H) :: O) = shape (((nm, Ob.arr e z 0 [] true) :: H) :: O) := zb4 hb' rfl
 refine ⟨K, upd ρ nm l0, hI2, hi.defers, hi.size, fun t' d e' => ?_⟩
 have := hi.slots _ _ e'
 rw [hS] at this
 show RepD K _ (shape (((b, .box (pre ++ .osl 0 nm :: post)) :: (nm, .arr e z 0 [] true) :: H) :: O)) _ _
 rw [hsh]
 exact this.stays hst
theorem znI (b nm e z : Nat) (hS : s.S = H :: O) (hb : look H b = some (.box [.i (.v (.slice none 0 0))])) (hf : look H nm = none) : Wk c s { σ := s.σ, S := ((b, .box [.osl 0 nm]) :: (nm, .arr e z 0 [] true) :: H) :: O, n := s.n } := zaP b nm e z (pre := []) (post := []) hS hb hf
end
end Go.AI


namespace Go.AI
open Go.Proofs
set_option maxRecDepth 20000
def zb0 (op : Int) (l : List Int) : Int :=
 if op = 0 ∨ op = 1 then 1 else
 if op = 2 ∨ op = 3 ∨ op = 4 ∨ op = 5 then (if l.all (· = 1) then 1 else 0) else
 if op = 6 ∨ op = 7 ∨ op = 8 ∨ op = 9 then (if l.all (· = 1) then 2 else 0) else
 if op = 10 ∨ op = 11 ∨ op = 12 then (if l.all (· = 2) then 2 else 0) else
 if op = 13 then (if l.getD 0 0 = 2 ∧ l.getD 1 0 = l.getD 2 0 then l.getD 1 0 else 0) else 0
mutual
def zbv : Ex → Int
 | .mk op _ _ args => match zaZ args with
  | some l => zb0 op l
  | none => 0
def zaZ : List Ex → Option (List Int)
 | [] => some []
 | e :: r => if zbv e = 0 then none else (zaZ r).map (zbv e :: ·)
end
theorem zcw : ∀ {r : List Ex} {l : List Int}, zaZ r = some l → l.length = r.length
 | [], l, h => by simp only [zaZ, Option.some.injEq] at h; subst h; rfl
 | e :: r, l, h => by
  simp only [zaZ] at h
  split at h
  ·cases h
  ·cases hk : zaZ r with
   | none => simp [hk] at h
   | some l' =>
    simp only [hk, Option.map_some, Option.some.injEq] at h
    subst h
    simp [zcw hk]
theorem zsn {p : Prop} [Decidable p] {a b : Int × Bool} (ha : a.1 ≤ 3) (hb : b.1 ≤ 3) : (if p then a else b).1 ≤ 3 := by
 split <;> assumption
theorem zlI (op : Int) : (arity op).1 ≤ 3 := by
 unfold arity
 repeat' (refine zsn ?_ ?_)
 all_goals decide
theorem zdZ {op : Int} (h : (arity op).2 = true) : (op = 0 ∨ op = 1) ∨ (op = 2 ∨ op = 3 ∨ op = 4 ∨ op = 5) ∨ (op = 6 ∨ op = 7 ∨ op = 8 ∨ op = 9) ∨ (op = 10 ∨ op = 11 ∨ op = 12) ∨ op = 13 := by
 by_cases hn : op = 0 ∨ op = 1 ∨ op = 2 ∨ op = 3 ∨ op = 4 ∨ op = 5 ∨ op = 6 ∨ op = 7 ∨ op = 8 ∨ op = 9 ∨ op = 10 ∨ op = 11 ∨ op = 12 ∨ op = 13
 ·omega
 ·unfold arity at h
  rw [if_neg (by omega), if_neg (by omega), if_neg (by omega), if_neg (by omega), if_neg (by omega), if_neg (by omega), if_neg (by omega), if_neg (by omega), if_neg (by omega), if_neg (by omega), if_neg (by omega), if_neg (by omega), if_neg (by omega), if_neg (by omega)] at h
  cases h
theorem zcK {op v ix n : Int} {len : Nat} (h : za4 op v ix len n = 0) : (arity op).2 = true ∧ (len : Int) = (arity op).1 ∧ ¬ ((op ≠ 0 ∧ v ≠ 0) ∨ (op ≠ 1 ∧ ix ≠ 0)) ∧ ¬ ((op = 0 ∧ (65536 < v ∨ v < -65536)) ∨ (op = 1 ∧ (ix < 0 ∨ ix ≥ n))) := by
 unfold za4 at h
 by_cases h1 : (arity op).2 = false
 ·rw [if_pos h1] at h; cases h
 rw [if_neg h1] at h
 by_cases h2 : (len : Int) ≠ (arity op).1
 ·rw [if_pos h2] at h; cases h
 rw [if_neg h2] at h
 by_cases h3 : (op ≠ 0 ∧ v ≠ 0) ∨ (op ≠ 1 ∧ ix ≠ 0)
 ·rw [if_pos h3] at h; cases h
 rw [if_neg h3] at h
 by_cases h4 : (op = 0 ∧ (65536 < v ∨ v < -65536)) ∨ (op = 1 ∧ (ix < 0 ∨ ix ≥ n))
 ·rw [if_pos h4] at h; cases h
 exact ⟨by simpa using h1, by omega, h3, h4⟩
mutual
def wfE (n : Int) : Ex → Prop
 | .mk op v ix args => za4 op v ix args.length n = 0 ∧ wfEs n args
def wfEs (n : Int) : List Ex → Prop
 | [] => True
 | x :: xs => wfE n x ∧ wfEs n xs
end
theorem zfc {n : Int} : ∀ {l : List Ex}, wfEs n l → ∀ x ∈ l, wfE n x
 | [], _, x, h => by simp at h
 | y :: r, h, x, hx => by
  simp only [wfEs] at h
  rcases List.mem_cons.1 hx with rfl | hx
  ·exact h.1
  ·exact zfc h.2 x hx
mutual
theorem zhQ : ∀ (x : Ex) (n lvl c : Int), (zcg x n lvl c).1 = 0 → wfE n x
 | .mk op v ix args, n, lvl, c, h => by
  simp only [zcg] at h
  split at h
  ·cases h
  ·split at h
   ·rename_i h1; exact absurd h h1
   ·rename_i h1
    exact ⟨by simpa using h1, ziN args n _ _ h⟩
theorem ziN : ∀ (l : List Ex) (n lvl c : Int), (zcP l n lvl c).1 = 0 → wfEs n l
 | [], n, lvl, c, _ => trivial
 | e :: r, n, lvl, c, h => by
  simp only [zcP] at h
  split at h
  ·rename_i h1; exact absurd h h1
  ·rename_i h1
   exact ⟨zhQ e n lvl c (by simpa using h1), ziN r n _ _ h⟩
end
theorem zjB {args : List Ex} {i : Nat} {l : List Int} (h : i < args.length) (hl : zaZ (args.take i) = some l) : zaZ (args.take (i + 1)) = if zbv args[i] = 0 then none else some (l ++ [zbv args[i]]) := by
 induction args generalizing i l with
 | nil => simp at h
 | cons e r ih =>
  cases i with
  | zero =>
   simp only [List.take_zero, zaZ, Option.some.injEq] at hl
   subst hl
   simp [zaZ]
  | succ i =>
   simp only [List.take_succ_cons, zaZ] at hl ⊢
   split at hl
   ·cases hl
   ·rename_i h1
    rw [if_neg h1]
    cases hk : zaZ (r.take i) with
    | none => simp [hk] at hl
    | some l' =>
     simp only [hk, Option.map_some, Option.some.injEq] at hl
     subst hl
     rw [ih (by simpa using h) hk]
     simp only [List.getElem_cons_succ]
     split <;> simp
theorem zjC {args : List Ex} {i : Nat} (hl : zaZ (args.take i) = none) : zaZ args = none := by
 induction args generalizing i with
 | nil => simpa using hl
 | cons e r ih =>
  cases i with
  | zero => simp [zaZ] at hl
  | succ i =>
   simp only [List.take_succ_cons, zaZ] at hl ⊢
   split at hl
   ·rename_i h1; rw [if_pos h1]
   ·rename_i h1
    rw [if_neg h1]
    cases hk : zaZ (r.take i) with
    | none => rw [ih hk]; rfl
    | some l => simp [hk] at hl
theorem zaR (l : List Int) (k : Int) : Ob.arr 3 1 (l.length + 1) ((l.map fun x => [vi x]) ++ [[vi k]]) true = zaK (l ++ [k]) := by
 simp
set_option maxHeartbeats 4000000 in
theorem ztj (n : Int) : ∀ (N : Nat) (x : Ex), SizeOf.sizeOf x < N → wfE n x → ∀ O, zan Tryz.prog 171 [exD x] O (ii (zbv x)) [] O := by
 intro N
 induction N with
 | zero => intro x h; omega
 | succ N ihN =>
  intro x hs hwf O
  obtain ⟨op, v, ix, args⟩ := x
  simp only [wfE] at hwf
  obtain ⟨hform, hwf⟩ := hwf
  obtain ⟨ha, hb, -, -⟩ := zcK hform
  have hch : ∀ e ∈ args, ∀ O, zan Tryz.prog 171 [exD e] O (ii (zbv e)) [] O := by
   intro e he O
   refine ihN e ?_ (zfc hwf e he) O
   have := List.sizeOf_lt_of_mem he
   simp only [Ex.mk.sizeOf_spec] at hs
   omega
  have hlen3 : args.length ≤ 3 := by have := zlI op; omega
  have hlen : args.length ≤ zam := by simp only [zam]; omega
  clear ihN hs
  generalize hR : zbv (.mk op v ix args) = R
  simp only [zbv] at hR
  refine zaC [11] Tk Tryz.func171 rfl Tryz.call171 Tryz.ntmps171 (Nat.le_of_ble_eq_true rfl) fun E => ?_
  refine zaf Tk Tryz.func171 ?_
  apply zrE (P := fun l => zaZ args = some l) (s6 := fun l => { σ := [(1, .own 0 1 0 0), (3, .own 0 3 0 0), (7, .fn (.func 204) [] [.own 0 3 0 0])], S := [(3, .box [ints l]), (1, .box [ii op, ii v, ii ix, exs args])] :: O, n := 68 })
  ·intro J
   refine zad ?_
   refine zaw (znI 3 22 3 1 rfl rfl rfl) ?_
   refine zag (fun x : Nat × List Int => [(1, .own 0 1 0 0), (3, .own 0 3 0 0), (9, exs args), (10, ii args.length), (11, ii x.1)]) (fun x => [(3, .box [.osl 0 22]), (22, zaK x.2), (1, .box [ii op, ii v, ii ix, exs args])]) (fun _ => O) 68
    (fun x => x.1 ≤ args.length ∧ zaZ (args.take x.1) = some x.2) (fun x => args.length - x.1) (0, []) ⟨Nat.zero_le _, rfl⟩ ⟨rfl, rfl, rfl, rfl, rfl, trivial⟩ rfl ⟨rfl, rfl, rfl, trivial⟩ rfl rfl ?_
   rintro ⟨i, l⟩ ⟨hi, hno⟩ ih
   simp only at hi hno
   refine zaf Tk Tryz.func171 ?_
   refine zae Tk Tryz.func171 rfl (fun h5 => ?_) (fun h5 => ?_)
   ·have h5 : i < args.length := by simpa using h5
    have hm := List.getElem_mem h5
    have hg := zhY h5
    have ht := zjB h5 hno
    have hll := zcw hno
    simp only [List.length_take, Nat.min_eq_left hi] at hll
    generalize args[i] = e at hm hg ht
    have hce := fun O => hch e hm O
    obtain ⟨eo, ev, ei, ea⟩ := e
    simp only [exI] at hg
    refine zak Tk Tryz.func171 (by omega) ?_
    refine zar Tk Tryz.func171 (hg) ?_
    refine zaj Tk Tryz.func171 (hce _) rfl rfl rfl rfl rfl ?_
    generalize zbv (.mk eo ev ei ea) = k at ht
    refine zae Tk Tryz.func171 rfl (fun h6 => ?_) (fun h6 => ?_)
    ·have h6 := beqT h6
     rw [if_pos h6] at ht
     have := zjC ht
     rw [this] at hR
     subst hR
     refine zai Tk (r := ii 0) rfl rfl rfl trivial rfl rfl ?_
     rfl
    ·have h6 := beqF h6
     rw [if_neg h6] at ht
     refine zak Tk Tryz.func171 (by exact ⟨by show (l.length + 1) * 8 ≤ 140737488355328; omega, by show l.length + 1 ≤ 9223372036854775807; omega⟩) ?_
     refine zad ?_
     refine ih (i + 1, l ++ [k]) _ _ ⟨h5, ht⟩ (by simp only; omega) ⟨rfl, rfl, rfl, rfl, congrArg ii (zaB h5 hlen), trivial⟩ rfl ⟨rfl, congrArg some (zaR l k), rfl, trivial⟩ rfl rfl
   ·have h5 : args.length ≤ i := by simpa using h5
    rw [List.take_of_length_le h5] at hno
    refine zax ?_
    refine zaw (zap 22 rfl rfl) ?_
    refine zaw (zcs rfl) ?_
    refine zcF (l := [(1, .own 0 1 0 0), (3, .own 0 3 0 0), (7, .fn (.func 204) [] [.own 0 3 0 0])]) (Hv := [(3, .box [ints l]), (1, .box [ii op, ii v, ii ix, exs args])]) ⟨rfl, rfl, rfl, trivial⟩ rfl ⟨rfl, rfl, trivial⟩ rfl rfl (J l hno)
  ·intro l hl
   have hll := zcw hl
   rw [hl] at hR
   simp only at hR
   have hlm : l.length ≤ zam := by simp only [zam]; omega
   refine zaf Tk Tryz.func171 ?_
   refine g_go Tk Tryz.func171 ?_
   have hc := zdZ ha
   have k1 := fun O d nm (ho : zaa O d nm = some (.box [ints l])) => zoH O 1 l d nm hlm ho
   have k2 := fun O d nm (ho : zaa O d nm = some (.box [ints l])) => zoH O 2 l d nm hlm ho
   have g1 : (op = 0 ∨ op = 1) → R = 1 := fun h => by rw [← hR]; unfold zb0; rw [if_pos h]
   have g2 : (op = 2 ∨ op = 3 ∨ op = 4 ∨ op = 5) → R = if l.all (· = 1) then 1 else 0 := fun h => by rw [← hR]; unfold zb0; rw [if_neg (by omega), if_pos h]
   have g3 : (op = 6 ∨ op = 7 ∨ op = 8 ∨ op = 9) → R = if l.all (· = 1) then 2 else 0 := fun h => by rw [← hR]; unfold zb0; rw [if_neg (by omega), if_neg (by omega), if_pos h]
   have g4 : (op = 10 ∨ op = 11 ∨ op = 12) → R = if l.all (· = 2) then 2 else 0 := fun h => by rw [← hR]; unfold zb0; rw [if_neg (by omega), if_neg (by omega), if_neg (by omega), if_pos h]
   have g5 : op = 13 → R = if l.getD 0 0 = 2 ∧ l.getD 1 0 = l.getD 2 0 then l.getD 1 0 else 0 := fun h => by rw [← hR]; unfold zb0; rw [if_neg (by omega), if_neg (by omega), if_neg (by omega), if_neg (by omega), if_pos h]
   clear hR hform hch
   rcases hc with hc | hc | hc | hc | hc
   ·have := g1 hc
    subst this
    clear g1 g2 g3 g4 g5
    rcases hc with rfl | rfl
    all_goals
     repeat (first | refine gcT Tk Tryz.func171 rfl ?_ | refine gkT Tk Tryz.func171 rfl ?_ | refine skT Tk ?_ | refine gcF Tk Tryz.func171 rfl ?_ | refine gkF Tk Tryz.func171 rfl ?_ | refine skF Tk ?_)
     refine zai Tk (r := ii 1) rfl rfl rfl trivial rfl rfl ?_
     rfl
   ·have := g2 hc
    subst this
    clear g1 g2 g3 g4 g5
    rcases hc with rfl | rfl | rfl | rfl
    all_goals
     repeat (first | refine gcT Tk Tryz.func171 rfl ?_ | refine gkT Tk Tryz.func171 rfl ?_ | refine skT Tk ?_ | refine gcF Tk Tryz.func171 rfl ?_ | refine gkF Tk Tryz.func171 rfl ?_ | refine skF Tk ?_)
     refine zaj Tk Tryz.func171 (k1 _ _ _ rfl) rfl rfl rfl rfl rfl ?_
     refine zae Tk Tryz.func171 rfl (fun h1 => ?_) (fun h1 => ?_)
     ·refine zai Tk (r := ii 1) rfl rfl rfl trivial rfl rfl ?_
      rw [if_pos h1]
     ·skip
      refine zai Tk (r := ii 0) rfl rfl rfl trivial rfl rfl ?_
      rw [h1]; rfl
   ·have := g3 hc
    subst this
    clear g1 g2 g3 g4 g5
    rcases hc with rfl | rfl | rfl | rfl
    all_goals
     repeat (first | refine gcT Tk Tryz.func171 rfl ?_ | refine gkT Tk Tryz.func171 rfl ?_ | refine skT Tk ?_ | refine gcF Tk Tryz.func171 rfl ?_ | refine gkF Tk Tryz.func171 rfl ?_ | refine skF Tk ?_)
     refine zaj Tk Tryz.func171 (k1 _ _ _ rfl) rfl rfl rfl rfl rfl ?_
     refine zae Tk Tryz.func171 rfl (fun h1 => ?_) (fun h1 => ?_)
     ·refine zai Tk (r := ii 2) rfl rfl rfl trivial rfl rfl ?_
      rw [if_pos h1]
     ·skip
      refine zai Tk (r := ii 0) rfl rfl rfl trivial rfl rfl ?_
      rw [h1]; rfl
   ·have := g4 hc
    subst this
    clear g1 g2 g3 g4 g5
    rcases hc with rfl | rfl | rfl
    all_goals
     repeat (first | refine gcT Tk Tryz.func171 rfl ?_ | refine gkT Tk Tryz.func171 rfl ?_ | refine skT Tk ?_ | refine gcF Tk Tryz.func171 rfl ?_ | refine gkF Tk Tryz.func171 rfl ?_ | refine skF Tk ?_)
     refine zaj Tk Tryz.func171 (k2 _ _ _ rfl) rfl rfl rfl rfl rfl ?_
     refine zae Tk Tryz.func171 rfl (fun h1 => ?_) (fun h1 => ?_)
     ·refine zai Tk (r := ii 2) rfl rfl rfl trivial rfl rfl ?_
      rw [if_pos h1]
     ·skip
      refine zai Tk (r := ii 0) rfl rfl rfl trivial rfl rfl ?_
      rw [h1]; rfl
   ·have := g5 hc
    subst this
    clear g1 g2 g3 g4 g5
    subst hc
    have h3 : l.length = 3 := by rw [hll]; have : (args.length : Int) = 3 := hb; omega
    obtain ⟨a, l, rfl⟩ : ∃ a r, l = a :: r := by cases l with | nil => simp at h3 | cons a r => exact ⟨_, _, rfl⟩
    obtain ⟨b, l, rfl⟩ : ∃ a r, l = a :: r := by cases l with | nil => simp at h3 | cons a r => exact ⟨_, _, rfl⟩
    obtain ⟨e, l, rfl⟩ : ∃ a r, l = a :: r := by cases l with | nil => simp at h3 | cons a r => exact ⟨_, _, rfl⟩
    obtain rfl : l = [] := List.eq_nil_of_length_eq_zero (by simpa using h3)
    repeat (first | refine gcT Tk Tryz.func171 rfl ?_ | refine gkT Tk Tryz.func171 rfl ?_ | refine skT Tk ?_ | refine gcF Tk Tryz.func171 rfl ?_ | refine gkF Tk Tryz.func171 rfl ?_ | refine skF Tk ?_)
    refine zaq Tk Tryz.func171 zay rfl ?_
    refine zat Tk (by simp) ?_
    refine zaA Tk (rfl) ?_
    refine zb8 Tk (fun h1 => ?_) (fun h1 => ?_)
    ·have h1 := beqT h1
     refine zat Tk (by simp) ?_
     refine zaA Tk (rfl) ?_
     refine zat Tk (by simp) ?_
     refine zaA Tk (rfl) ?_
     refine zav Tk Tryz.func171 (by kernel_rfl) ?_
     refine zae Tk Tryz.func171 rfl (fun h2 => ?_) (fun h2 => ?_)
     ·have h2 := beqT h2
      refine zak Tk Tryz.func171 (by simp) ?_
      refine zar Tk Tryz.func171 (rfl) ?_
      refine zai Tk (r := ii b) rfl rfl rfl trivial rfl rfl ?_
      simp [h1, h2]
     ·have h2 := beqF h2
      refine zai Tk (r := ii 0) rfl rfl rfl trivial rfl rfl ?_
      simp [h1, h2]
    ·have h1 := beqF h1
     refine zav Tk Tryz.func171 (by kernel_rfl) ?_
     refine gcF Tk Tryz.func171 rfl ?_
     refine zai Tk (r := ii 0) rfl rfl rfl trivial rfl rfl ?_
     simp [h1]
end Go.AI


namespace Go.AI
open Go.Proofs
set_option maxRecDepth 20000
abbrev tr (p : Prop) [Decidable p] : Int := if p then 1 else 0
def ap2 (op a b : Int) : Int :=
 if op = 2 then a + b else if op = 3 then a - b else if op = 4 then a * b else
 if op = 6 then tr (a = b) else if op = 7 then tr (a ≠ b) else if op = 8 then tr (a < b) else if op = 9 then tr (a ≤ b) else
 if op = 11 then a * b else if a = 0 then b else a
def ap1 (op a : Int) : Int := if op = 5 then -a else 1 - a
def ze4 (op : Int) : List Int → Int
 | [a] => ap1 op a
 | [a, b] => ap2 op a b
 | _ => 0
theorem mulb {a b : Int} (ha : -1073741824 ≤ a ∧ a ≤ 1073741824) (hb : -1073741824 ≤ b ∧ b ≤ 1073741824) : -1152921504606846976 ≤ a * b ∧ a * b ≤ 1152921504606846976 := by
 have h1 : (a.natAbs * b.natAbs) ≤ 1073741824 * 1073741824 := Nat.mul_le_mul (by omega) (by omega)
 have h2 : (a * b).natAbs = a.natAbs * b.natAbs := Int.natAbs_mul a b
 omega
theorem ztC (O : List Heap) (op a b : Int) (hop : op = 2 ∨ op = 3 ∨ op = 4 ∨ op = 6 ∨ op = 7 ∨ op = 8 ∨ op = 9 ∨ op = 11 ∨ op = 12) (ha : -1073741824 ≤ a ∧ a ≤ 1073741824) (hb : -1073741824 ≤ b ∧ b ≤ 1073741824)
  (hl : op = 11 ∨ op = 12 → (a = 0 ∨ a = 1) ∧ (b = 0 ∨ b = 1)) : zan Tryz.prog 206 [ii op, ints [a, b]] O (ii (ap2 op a b)) [] O := by
 have hm := mulb ha hb
 refine zac Tk Tryz.func206 rfl Tryz.call206 Tryz.ntmps206 (Nat.le_of_ble_eq_true rfl) fun E => ?_
 refine zaf Tk Tryz.func206 ?_
 rcases hop with rfl | rfl | rfl | rfl | rfl | rfl | rfl | rfl | rfl
 all_goals
  repeat (first | refine gcT Tk Tryz.func206 rfl ?_ | refine gkT Tk Tryz.func206 rfl ?_ | refine skT Tk ?_ | refine gcF Tk Tryz.func206 rfl ?_ | refine gkF Tk Tryz.func206 rfl ?_ | refine skF Tk ?_)
  refine zaq Tk Tryz.func206 zay rfl ?_
  refine zat Tk (by simp) ?_
  refine zaA Tk (rfl) ?_
  refine zat Tk (by simp) ?_
  refine zaA Tk (rfl) ?_
 ·refine zav Tk Tryz.func206 (by kernel_rfl) ?_
  refine zai Tk (r := ii _) rfl rfl rfl trivial rfl rfl ?_
  exact congrArg ii (w64 (by omega) (by omega))
 ·refine zav Tk Tryz.func206 (by kernel_rfl) ?_
  refine zai Tk (r := ii _) rfl rfl rfl trivial rfl rfl ?_
  exact congrArg ii (w64 (by omega) (by omega))
 ·refine zav Tk Tryz.func206 (by kernel_rfl) ?_
  refine zai Tk (r := ii _) rfl rfl rfl trivial rfl rfl ?_
  exact congrArg ii (w64 (by omega) (by omega))
 ·refine zik Tk (zhl _ _) rfl rfl rfl ?_
  refine zav Tk Tryz.func206 (by kernel_rfl) ?_
  refine zai Tk (r := ii _) rfl rfl rfl trivial rfl rfl ?_
  by_cases h : a = b <;> simp [ap2, tr, h]
 ·refine zik Tk (zhl _ _) rfl rfl rfl ?_
  refine zav Tk Tryz.func206 (by kernel_rfl) ?_
  refine zai Tk (r := ii _) rfl rfl rfl trivial rfl rfl ?_
  by_cases h : a = b <;> simp [ap2, tr, h]
 ·refine zik Tk (zhl _ _) rfl rfl rfl ?_
  refine zav Tk Tryz.func206 (by kernel_rfl) ?_
  refine zai Tk (r := ii _) rfl rfl rfl trivial rfl rfl ?_
  by_cases h : a < b <;> simp [ap2, tr, h]
 ·refine zik Tk (zhl _ _) rfl rfl rfl ?_
  refine zav Tk Tryz.func206 (by kernel_rfl) ?_
  refine zai Tk (r := ii _) rfl rfl rfl trivial rfl rfl ?_
  by_cases h : a ≤ b <;> simp [ap2, tr, h]
 ·refine zav Tk Tryz.func206 (by kernel_rfl) ?_
  refine zai Tk (r := ii _) rfl rfl rfl trivial rfl rfl ?_
  obtain ⟨rfl | rfl, rfl | rfl⟩ := hl (.inl rfl) <;> rfl
 ·refine zav Tk Tryz.func206 (by kernel_rfl) ?_
  refine zai Tk (r := ii _) rfl rfl rfl trivial rfl rfl ?_
  obtain ⟨rfl | rfl, rfl | rfl⟩ := hl (.inr rfl) <;> rfl
theorem ztD (O : List Heap) (op a : Int) (hop : op = 5 ∨ op = 10) (ha : -1073741824 ≤ a ∧ a ≤ 1073741824) : zan Tryz.prog 206 [ii op, ints [a]] O (ii (ap1 op a)) [] O := by
 refine zac Tk Tryz.func206 rfl Tryz.call206 Tryz.ntmps206 (Nat.le_of_ble_eq_true rfl) fun E => ?_
 refine zaf Tk Tryz.func206 ?_
 rcases hop with rfl | rfl
 all_goals
  repeat (first | refine gcT Tk Tryz.func206 rfl ?_ | refine gkT Tk Tryz.func206 rfl ?_ | refine skT Tk ?_ | refine gcF Tk Tryz.func206 rfl ?_ | refine gkF Tk Tryz.func206 rfl ?_ | refine skF Tk ?_)
  refine zak Tk Tryz.func206 (by simp) ?_
  refine zar Tk Tryz.func206 (rfl) ?_
  refine zai Tk (r := ii _) rfl rfl rfl trivial rfl rfl ?_
 ·exact congrArg ii ((w64 (by omega) (by omega)).trans (Int.zero_sub a))
 ·exact congrArg ii (w64 (by omega) (by omega))
def zbs (x : Ex) (n : Int) : Int × Int :=
 if n < 0 ∨ n > 16 then (0, 2) else if (zcg x n 1 0).1 ≠ 0 then (0, (zcg x n 1 0).1) else if zbv x = 0 then (0, 16) else (zbv x, 0)
theorem zka (O : List Heap) (x : Ex) (n : Int) (hok : exOk x) : zan Tryz.prog 126 [exD x, ii n] O (.tup [ii (zbs x n).1, ii (zbs x n).2]) [] O := by
 have hf := fun O ho => zq3 (SizeOf.sizeOf x + 1) x (by omega) hok O 0 6 n 1 0 ho (by omega) (by omega) (by omega) (by omega)
 have hk := fun hw O => ztj n (SizeOf.sizeOf x + 1) x (by omega) hw O
 generalize hR : zbs x n = R
 unfold zbs at hR
 have hwf := zhQ x n 1 0
 obtain ⟨op, v, ix, args⟩ := x
 refine zac Tk Tryz.func126 rfl Tryz.call126 Tryz.ntmps126 (Nat.le_of_ble_eq_true rfl) fun E => ?_
 refine zaf Tk Tryz.func126 ?_
 refine zaF Tk Tryz.func126 rfl (fun h1 => ?_) (fun h1 => ?_)
 ·have h1 : n < 0 := of_decide_eq_true h1
  rw [if_pos (.inl h1)] at hR
  subst hR
  refine gcT Tk Tryz.func126 rfl ?_
  refine zai Tk (r := .tup [ii 0, ii 2]) rfl rfl rfl trivial rfl rfl ?_
  rfl
 ·have h1 : ¬ n < 0 := of_decide_eq_false h1
  refine zae Tk Tryz.func126 rfl (fun h2 => ?_) (fun h2 => ?_)
  ·have h2 : 16 < n := of_decide_eq_true h2
   rw [if_pos (.inr h2)] at hR
   subst hR
   refine zai Tk (r := .tup [ii 0, ii 2]) rfl rfl rfl trivial rfl rfl ?_
   rfl
  ·have h2 : ¬ 16 < n := of_decide_eq_false h2
   rw [if_neg (by omega)] at hR
   refine zaj Tk Tryz.func126 (hf _ rfl) rfl rfl rfl (zb4 (ob := .box [ii 0]) rfl rfl) rfl ?_
   generalize zcg (.mk op v ix args) n 1 0 = Q at hR hwf
   refine zae Tk Tryz.func126 rfl (fun h3 => ?_) (fun h3 => ?_)
   ·have h3 := bneT h3
    rw [if_pos h3] at hR
    subst hR
    refine zai Tk (r := .tup [ii 0, ii _]) rfl rfl rfl trivial rfl rfl ?_
    rfl
   ·have h3 := bneF h3
    rw [if_neg (by simpa using h3)] at hR
    refine zaj Tk Tryz.func126 (hk (hwf h3) _) rfl rfl rfl rfl rfl ?_
    generalize zbv (.mk op v ix args) = k at hR
    refine zae Tk Tryz.func126 rfl (fun h4 => ?_) (fun h4 => ?_)
    ·have h4 := beqT h4
     rw [if_pos h4] at hR
     subst hR
     refine zai Tk (r := .tup [ii 0, ii 16]) rfl rfl rfl trivial rfl rfl ?_
     rfl
    ·have h4 := beqF h4
     rw [if_neg h4] at hR
     subst hR
     refine zai Tk (r := .tup [ii _, ii 0]) rfl rfl rfl trivial rfl rfl ?_
     rfl
def zbN (x : Ex) (n kind : Int) : Int := if (zbs x n).2 = 0 ∧ (zbs x n).1 ≠ kind then 16 else (zbs x n).2
theorem zj9 (O : List Heap) (x : Ex) (n k : Int) (hok : exOk x) : zan Tryz.prog 202 [exD x, ii n, ii k] O (ii (zbN x n k)) [] O := by
 have hc := fun O => zka O x n hok
 unfold zbN
 obtain ⟨op, v, ix, args⟩ := x
 generalize zbs (.mk op v ix args) n = R at *
 refine zac Tk Tryz.func202 rfl Tryz.call202 Tryz.ntmps202 (Nat.le_of_ble_eq_true rfl) fun E => ?_
 refine zaf Tk Tryz.func202 ?_
 refine zaj Tk Tryz.func202 (hc _) rfl rfl rfl rfl rfl ?_
 refine zaF Tk Tryz.func202 rfl (fun h1 => ?_) (fun h1 => ?_)
 ·have h1 := beqT h1
  refine zae Tk Tryz.func202 rfl (fun h2 => ?_) (fun h2 => ?_)
  ·have h2 := bneT h2
   rw [if_pos ⟨h1, h2⟩]
   refine zai Tk (r := ii 16) rfl rfl rfl trivial rfl rfl ?_
   rfl
  ·have h2 := bneF h2
   rw [if_neg (by simp [h1, h2])]
   refine zai Tk (r := ii _) rfl rfl rfl trivial rfl rfl ?_
   rfl
 ·have h1 := beqF h1
  rw [if_neg (by simp [h1])]
  refine gcF Tk Tryz.func202 rfl ?_
  refine zai Tk (r := ii _) rfl rfl rfl trivial rfl rfl ?_
  rfl
end Go.AI


namespace Go.AI
open Go.Proofs
set_option maxRecDepth 20000
abbrev zf2 (a b : Int) : Bool := decide (b < a) || decide (a < -b)
mutual
def zbz (vals : List Int) : Ex → Int × Bool
 | .mk op v ix args =>
  if op = 0 then (v, true) else if op = 1 then (vals.getD ix.toNat 0, true) else if op = 13 then zsw vals args else
  match za9 vals args with
  | none => (0, false)
  | some l => (ze4 op l, !zf2 (ze4 op l) 1073741824)
def zsw (vals : List Int) : List Ex → Int × Bool
 | [c, a, b] => if (zbz vals c).2 = false then (0, false) else if (zbz vals c).1 = 1 then zbz vals a else zbz vals b
 | _ => (0, false)
def za9 (vals : List Int) : List Ex → Option (List Int)
 | [] => some []
 | e :: r => if (zbz vals e).2 = false then none else (za9 vals r).map ((zbz vals e).1 :: ·)
end
def Ty2 : List Int → List Int → Prop
 | [], [] => True
 | x :: xs, k :: ks => (-1073741824 ≤ x ∧ x ≤ 1073741824) ∧ (k = 2 → x = 0 ∨ x = 1) ∧ Ty2 xs ks
 | _, _ => False
theorem tr01 (p : Prop) [Decidable p] : tr p = 0 ∨ tr p = 1 := by unfold tr; split <;> simp
theorem ziD {a b : Int} (h : (!zf2 a b) = true) : -b ≤ a ∧ a ≤ b := by
 have := orF (notT h)
 omega
theorem zqM {op : Int} {ks l : List Int} (ha : (arity op).2 = true) (h0 : op ≠ 0) (h1 : op ≠ 1) (h13 : op ≠ 13) (hlen : (ks.length : Int) = (arity op).1) (ht : Ty2 l ks) (hk : zb0 op ks = 2) : ze4 op l = 0 ∨ ze4 op l = 1 := by
 have two : ∀ {p : Nat}, (ks.length : Int) = 2 → ∃ a b k1 k2, l = [a, b] ∧ ks = [k1, k2] := by
  intro _ h
  match ks, l, ht with
  | [], _, _ => simp at h
  | [_], _, _ => simp at h
  | [k1, k2], [a, b], _ => exact ⟨a, b, k1, k2, rfl, rfl⟩
  | _ :: _ :: _ :: _, _, _ => simp at h; omega
 have one : (ks.length : Int) = 1 → ∃ a k1, l = [a] ∧ ks = [k1] := by
  intro h
  match ks, l, ht with
  | [], _, _ => simp at h
  | [k1], [a], _ => exact ⟨a, k1, rfl, rfl⟩
  | _ :: _ :: _, _, _ => simp at h; omega
 rcases zdZ ha with h | h | h | h | h
 ·omega
 ·unfold zb0 at hk
  rw [if_neg (by omega), if_pos h] at hk
  split at hk <;> cases hk
 ·obtain ⟨a, b, k1, k2, rfl, rfl⟩ := two (p := 0) (by rcases h with rfl | rfl | rfl | rfl <;> exact hlen)
  rcases h with rfl | rfl | rfl | rfl <;> exact tr01 _
 ·unfold zb0 at hk
  rw [if_neg (by omega), if_neg (by omega), if_neg (by omega), if_pos h] at hk
  split at hk
  ·rename_i hall
   rcases h with rfl | rfl | rfl
   ·obtain ⟨a, k1, rfl, rfl⟩ := one hlen
    simp only [List.all_cons, List.all_nil, Bool.and_true, decide_eq_true_eq] at hall
    obtain ⟨-, h2, -⟩ := ht
    rcases h2 hall with rfl | rfl <;> decide
   all_goals
    obtain ⟨a, b, k1, k2, rfl, rfl⟩ := two (p := 0) hlen
    simp only [List.all_cons, List.all_nil, Bool.and_true, Bool.and_eq_true, decide_eq_true_eq] at hall
    obtain ⟨-, h2, -, h3, -⟩ := ht
    rcases h2 hall.1 with rfl | rfl <;> rcases h3 hall.2 with rfl | rfl <;> decide
  ·cases hk
 ·omega
theorem zg1 {ks : List Int} (h : zb0 13 ks ≠ 0) : ks.getD 0 0 = 2 ∧ ks.getD 1 0 = ks.getD 2 0 ∧ zb0 13 ks = ks.getD 1 0 := by
 unfold zb0 at h ⊢
 rw [if_neg (by omega), if_neg (by omega), if_neg (by omega), if_neg (by omega), if_pos rfl] at h ⊢
 split at h
 ·rename_i h1
  exact ⟨h1.1, h1.2, by rw [if_pos h1]⟩
 ·exact absurd rfl h
theorem ziE {args : List Ex} {ks : List Int} (h : zaZ args = some ks) : ∀ e ∈ args, zbv e ≠ 0 := by
 induction args generalizing ks with
 | nil => simp
 | cons e r ih =>
  simp only [zaZ] at h
  split at h
  ·cases h
  ·rename_i h1
   cases hk : zaZ r with
   | none => simp [hk] at h
   | some l =>
    intro x hx
    rcases List.mem_cons.1 hx with rfl | hx
    ·exact h1
    ·exact ih hk x hx
theorem zm9 {vals : List Int} {args : List Ex} {l : List Int} (h : za9 vals args = some l) : l.length = args.length := by
 induction args generalizing l with
 | nil => simp only [za9, Option.some.injEq] at h; subst h; rfl
 | cons e r ih =>
  simp only [za9] at h
  split at h
  ·cases h
  ·cases hk : za9 vals r with
   | none => simp [hk] at h
   | some l' =>
    simp only [hk, Option.map_some, Option.some.injEq] at h
    subst h
    simp [ih hk]
section
variable {n : Int} {vals : List Int} (hn : (vals.length : Int) = n) (hv : ∀ x ∈ vals, -65536 ≤ x ∧ x ≤ 65536)
include hn hv
theorem zjW : ∀ (N : Nat) (x : Ex), SizeOf.sizeOf x < N → wfE n x → zbv x ≠ 0 → (zbz vals x).2 = true → (-1073741824 ≤ (zbz vals x).1 ∧ (zbz vals x).1 ≤ 1073741824) ∧ (zbv x = 2 → (zbz vals x).1 = 0 ∨ (zbz vals x).1 = 1) := by
 intro N
 induction N with
 | zero => intro x h; omega
 | succ N ihN =>
  intro x hs hwf hk he
  obtain ⟨op, v, ix, args⟩ := x
  simp only [wfE] at hwf
  obtain ⟨hform, hwf⟩ := hwf
  obtain ⟨ha, hb, -, hd⟩ := zcK hform
  have hch : ∀ e ∈ args, zbv e ≠ 0 → (zbz vals e).2 = true → (-1073741824 ≤ (zbz vals e).1 ∧ (zbz vals e).1 ≤ 1073741824) ∧ (zbv e = 2 → (zbz vals e).1 = 0 ∨ (zbz vals e).1 = 1) := by
   intro e hm
   have := List.sizeOf_lt_of_mem hm
   simp only [Ex.mk.sizeOf_spec] at hs
   exact ihN e (by omega) (zfc hwf e hm)
  simp only [zbv] at hk ⊢
  cases hks : zaZ args with
  | none => rw [hks] at hk; exact absurd rfl hk
  | some ks =>
   rw [hks] at hk
   simp only at hk ⊢
   have hkl := zcw hks
   simp only [zbz] at he ⊢
   by_cases h0 : op = 0
   ·subst h0
    simp only [if_pos] at he ⊢
    refine ⟨by omega, fun h => ?_⟩
    simp [zb0] at h
   rw [if_neg h0] at he ⊢
   by_cases h1 : op = 1
   ·subst h1
    simp only [if_pos] at he ⊢
    refine ⟨?_, fun h => by simp [zb0] at h⟩
    have hix : ix.toNat < vals.length := by omega
    have := hv _ (List.getElem_mem hix)
    rw [List.getD_eq_getElem?_getD, List.getElem?_eq_getElem hix]
    simp only [Option.getD_some]
    omega
   rw [if_neg h1] at he ⊢
   by_cases h13 : op = 13
   ·subst h13
    simp only [if_pos] at he ⊢
    have h3 : args.length = 3 := by have : (args.length : Int) = 3 := hb; omega
    obtain ⟨hk0, hk12, hkr⟩ := zg1 hk
    match args, h3 with
    | [c, a, b], _ =>
     have hnz := ziE hks
     have hkk : ks = [zbv c, zbv a, zbv b] := by
      simp only [zaZ, if_neg (hnz c (by simp)), if_neg (hnz a (by simp)), if_neg (hnz b (by simp)), Option.map_some, Option.some.injEq] at hks
      exact hks.symm
     subst hkk
     simp only [List.getD_cons_zero, List.getD_cons_succ] at hk0 hk12 hkr
     rw [hkr]
     simp only [zsw] at he ⊢
     by_cases hc : (zbz vals c).2 = false
     ·rw [if_pos hc] at he; cases he
     rw [if_neg hc] at he ⊢
     split at he
     ·rename_i h4
      rw [if_pos h4]
      exact hch a (by simp) (hnz a (by simp)) he
     ·rename_i h4
      rw [if_neg h4, hk12]
      exact hch b (by simp) (hnz b (by simp)) he
   rw [if_neg h13] at he ⊢
   cases hl : za9 vals args with
   | none => rw [hl] at he; cases he
   | some l =>
    rw [hl] at he
    simp only at he ⊢
    have hty : Ty2 l ks := by
     clear hb hform hk hd he hs hkl
     induction args generalizing l ks with
     | nil =>
      simp only [za9, Option.some.injEq] at hl
      simp only [zaZ, Option.some.injEq] at hks
      subst hl; subst hks
      trivial
     | cons e r ih =>
      simp only [za9] at hl
      simp only [zaZ] at hks
      split at hl
      ·cases hl
      rename_i e1
      split at hks
      ·cases hks
      rename_i e2
      cases hk1 : zaZ r with
      | none => simp [hk1] at hks
      | some ks' =>
       cases hl1 : za9 vals r with
       | none => simp [hl1] at hl
       | some l' =>
        simp only [hk1, Option.map_some, Option.some.injEq] at hks
        simp only [hl1, Option.map_some, Option.some.injEq] at hl
        subst hks; subst hl
        have := hch e (by simp) e2 (by simpa using e1)
        exact ⟨this.1, this.2, ih (by simp only [wfEs] at hwf; exact hwf.2) (fun x hx => hch x (by simp [hx])) ks' hk1 l' hl1⟩
    exact ⟨ziD he, zqM ha h0 h1 h13 (by rw [hkl]; exact hb) hty⟩
end
end Go.AI


namespace Go.AI
open Go.Proofs
set_option maxRecDepth 20000
theorem zjX {vals : List Int} {args : List Ex} {i : Nat} {l : List Int} (h : i < args.length) (hl : za9 vals (args.take i) = some l) : za9 vals (args.take (i + 1)) = if (zbz vals args[i]).2 = false then none else some (l ++ [(zbz vals args[i]).1]) := by
 induction args generalizing i l with
 | nil => simp at h
 | cons e r ih =>
  cases i with
  | zero =>
   simp only [List.take_zero, za9, Option.some.injEq] at hl
   subst hl
   simp [za9]
  | succ i =>
   simp only [List.take_succ_cons, za9] at hl ⊢
   split at hl
   ·cases hl
   ·rename_i h1
    rw [if_neg h1]
    cases hk : za9 vals (r.take i) with
    | none => simp [hk] at hl
    | some l' =>
     simp only [hk, Option.map_some, Option.some.injEq] at hl
     subst hl
     rw [ih (by simpa using h) hk]
     simp only [List.getElem_cons_succ]
     split <;> simp
theorem zjY {vals : List Int} {args : List Ex} {i : Nat} (hl : za9 vals (args.take i) = none) : za9 vals args = none := by
 induction args generalizing i with
 | nil => simpa using hl
 | cons e r ih =>
  cases i with
  | zero => simp [za9] at hl
  | succ i =>
   simp only [List.take_succ_cons, za9] at hl ⊢
   split at hl
   ·rename_i h1; rw [if_pos h1]
   ·rename_i h1
    rw [if_neg h1]
    cases hk : za9 vals (r.take i) with
    | none => rw [ih hk]; rfl
    | some l => simp [hk] at hl
theorem ztR (O : List Heap) {op : Int} {l ks : List Int} (ha : (arity op).2 = true) (h0 : op ≠ 0) (h1 : op ≠ 1) (h13 : op ≠ 13) (hlen : (ks.length : Int) = (arity op).1) (ht : Ty2 l ks) (hk : zb0 op ks ≠ 0) : zan Tryz.prog 206 [ii op, ints l] O (ii (ze4 op l)) [] O := by
 have two : (ks.length : Int) = 2 → ∃ a b k1 k2, l = [a, b] ∧ ks = [k1, k2] := by
  intro h
  match ks, l, ht with
  | [], _, _ => simp at h
  | [_], _, _ => simp at h
  | [k1, k2], [a, b], _ => exact ⟨a, b, k1, k2, rfl, rfl⟩
  | _ :: _ :: _ :: _, _, _ => simp at h; omega
 have one : (ks.length : Int) = 1 → ∃ a k1, l = [a] ∧ ks = [k1] := by
  intro h
  match ks, l, ht with
  | [], _, _ => simp at h
  | [k1], [a], _ => exact ⟨a, k1, rfl, rfl⟩
  | _ :: _ :: _, _, _ => simp at h; omega
 have c2 : (op = 2 ∨ op = 3 ∨ op = 4 ∨ op = 6 ∨ op = 7 ∨ op = 8 ∨ op = 9 ∨ op = 11 ∨ op = 12) → zan Tryz.prog 206 [ii op, ints l] O (ii (ze4 op l)) [] O := by
  intro h
  have h2 : (arity op).1 = 2 := by rcases h with rfl | rfl | rfl | rfl | rfl | rfl | rfl | rfl | rfl <;> rfl
  obtain ⟨a, b, k1, k2, rfl, rfl⟩ := two (by rw [hlen, h2])
  obtain ⟨a1, a2, b1, b2, -⟩ := ht
  refine ztC O op a b h a1 b1 fun hop => ?_
  unfold zb0 at hk
  rw [if_neg (by omega), if_neg (by omega), if_neg (by omega), if_pos (by omega)] at hk
  split at hk
  ·rename_i hall
   simp only [List.all_cons, List.all_nil, Bool.and_true, Bool.and_eq_true, decide_eq_true_eq] at hall
   exact ⟨a2 hall.1, b2 hall.2⟩
  ·exact absurd rfl hk
 have c1 : (op = 5 ∨ op = 10) → zan Tryz.prog 206 [ii op, ints l] O (ii (ze4 op l)) [] O := by
  intro h
  have h2 : (arity op).1 = 1 := by rcases h with rfl | rfl <;> rfl
  obtain ⟨a, k1, rfl, rfl⟩ := one (by rw [hlen, h2])
  exact ztD O op a h ht.1
 rcases zdZ ha with h | h | h | h | h
 ·omega
 ·rcases h with h | h | h | h
  ·exact c2 (by omega)
  ·exact c2 (by omega)
  ·exact c2 (by omega)
  ·exact c1 (by omega)
 ·exact c2 (by omega)
 ·rcases h with h | h | h
  ·exact c1 (by omega)
  ·exact c2 (by omega)
  ·exact c2 (by omega)
 ·omega
theorem zrs {n : Int} {vals : List Int} (hn : (vals.length : Int) = n) (hv : ∀ x ∈ vals, -65536 ≤ x ∧ x ≤ 65536) : ∀ (args : List Ex) (l ks : List Int), wfEs n args → za9 vals args = some l → zaZ args = some ks → Ty2 l ks
 | [], l, ks, _, hl, hks => by
  simp only [za9, Option.some.injEq] at hl
  simp only [zaZ, Option.some.injEq] at hks
  subst hl; subst hks
  trivial
 | e :: r, l, ks, hwf, hl, hks => by
  simp only [za9] at hl
  simp only [zaZ] at hks
  split at hl
  ·cases hl
  rename_i e1
  split at hks
  ·cases hks
  rename_i e2
  cases hk1 : zaZ r with
  | none => simp [hk1] at hks
  | some ks' =>
   cases hl1 : za9 vals r with
   | none => simp [hl1] at hl
   | some l' =>
    simp only [hk1, Option.map_some, Option.some.injEq] at hks
    simp only [hl1, Option.map_some, Option.some.injEq] at hl
    subst hks; subst hl
    simp only [wfEs] at hwf
    have := zjW hn hv _ e (Nat.lt_succ_self _) hwf.1 e2 (by simpa using e1)
    exact ⟨this.1, this.2, zrs hn hv r l' ks' hwf.2 hl1 hk1⟩
theorem zm7 {n : Int} {vals : List Int} (hn : (vals.length : Int) = n) (hv : ∀ x ∈ vals, -65536 ≤ x ∧ x ≤ 65536) : ∀ (N : Nat) (x : Ex), SizeOf.sizeOf x < N → wfE n x → zbv x ≠ 0 → ∀ O,
  zan Tryz.prog 174 [exD x, ints vals] O (.tup [ii (zbz vals x).1, bb (zbz vals x).2]) [] O := by
 intro N
 induction N with
 | zero => intro x h; omega
 | succ N ihN =>
  intro x hs hwf hk O
  have hty := zjW hn hv _ x (Nat.lt_succ_self _) hwf hk
  obtain ⟨op, v, ix, args⟩ := x
  simp only [wfE] at hwf
  obtain ⟨hform, hwf⟩ := hwf
  obtain ⟨ha, hb, -, hd⟩ := zcK hform
  have hch : ∀ e ∈ args, zbv e ≠ 0 → ∀ O, zan Tryz.prog 174 [exD e, ints vals] O (.tup [ii (zbz vals e).1, bb (zbz vals e).2]) [] O := by
   intro e hm hke O
   have := List.sizeOf_lt_of_mem hm
   simp only [Ex.mk.sizeOf_spec] at hs
   exact ihN e (by omega) (zfc hwf e hm) hke O
  have hlen3 : args.length ≤ 3 := by have := zlI op; omega
  have hlen : args.length ≤ zam := by simp only [zam]; omega
  clear ihN hs hform
  simp only [zbv] at hk
  cases hks : zaZ args with
  | none => rw [hks] at hk; exact absurd rfl hk
  | some ks =>
   rw [hks] at hk
   simp only at hk
   have hkl := zcw hks
   have hnz := ziE hks
   simp only [zbz] at *
   refine zaC [20] Tk Tryz.func174 rfl Tryz.call174 Tryz.ntmps174 (Nat.le_of_ble_eq_true rfl) fun E => ?_
   refine zaf Tk Tryz.func174 ?_
   refine zae Tk Tryz.func174 rfl (fun h0 => ?_) (fun h0 => ?_)
   ·have h0 := beqT h0
    subst h0
    rw [if_pos rfl]
    refine zai Tk (r := .tup [ii v, bb true]) rfl rfl rfl trivial rfl rfl ?_
    rfl
   have h0 := beqF h0
   rw [if_neg h0] at *
   refine zae Tk Tryz.func174 rfl (fun h1 => ?_) (fun h1 => ?_)
   ·have h1 := beqT h1
    subst h1
    rw [if_pos rfl]
    have hix : ix.toNat < vals.length := by omega
    refine zak Tk Tryz.func174 (by omega) ?_
    refine zar Tk Tryz.func174 (zq0 (f := fun x => [vi x]) (i := ix.toNat) (by omega) hix) ?_
    refine zai Tk (r := .tup [ii _, bb true]) rfl rfl rfl trivial rfl rfl ?_
    rw [List.getD_eq_getElem?_getD, List.getElem?_eq_getElem hix]
    rfl
   have h1 := beqF h1
   rw [if_neg h1] at *
   refine zae Tk Tryz.func174 rfl (fun h13 => ?_) (fun h13 => ?_)
   ·have h13 := beqT h13
    subst h13
    rw [if_pos rfl] at *
    have h3 : args.length = 3 := by have : (args.length : Int) = 3 := hb; omega
    obtain ⟨hk0, hk12, hkr⟩ := zg1 hk
    match args, h3 with
    | [c, a, b], _ =>
     have hkk : ks = [zbv c, zbv a, zbv b] := by
      simp only [zaZ, if_neg (hnz c (by simp)), if_neg (hnz a (by simp)), if_neg (hnz b (by simp)), Option.map_some, Option.some.injEq] at hks
      exact hks.symm
     subst hkk
     simp only [List.getD_cons_zero, List.getD_cons_succ] at hk0 hk12 hkr
     simp only [zsw]
     have hc1 := zjW hn hv _ c (Nat.lt_succ_self _) (by simp only [wfEs] at hwf; exact hwf.1) (hnz c (by simp))
     have sc := hch c (by simp) (hnz c (by simp))
     have sa := hch a (by simp) (hnz a (by simp))
     have sb := hch b (by simp) (hnz b (by simp))
     clear hch hty hwf hnz
     obtain ⟨co, cv, ci, ca⟩ := c
     obtain ⟨ao, av, ai, aa⟩ := a
     obtain ⟨bo, bv, bi, ba⟩ := b
     generalize zbz vals (.mk co cv ci ca) = rc at *
     obtain ⟨r1, r2⟩ := rc
     refine zak Tk Tryz.func174 (by simp) ?_
     refine zar Tk Tryz.func174 (rfl) ?_
     refine zaj Tk Tryz.func174 (sc _) rfl rfl rfl rfl rfl ?_
     refine zae Tk Tryz.func174 rfl (fun h2 => ?_) (fun h2 => ?_)
     ·have h2 : r2 = false := notT h2
      subst h2
      rw [if_pos rfl]
      refine zai Tk (r := .tup [ii 0, bb false]) rfl rfl rfl trivial rfl rfl ?_
      rfl
     ·have h2 : r2 = true := notF h2
      subst h2
      rw [if_neg (by simp)]
      rcases (hc1 rfl).2 hk0 with h4 | h4
      ·simp only at h4
       subst h4
       rw [if_neg (by simp)]
       refine zak Tk Tryz.func174 (by exact ⟨by decide, by simp [w64]⟩) ?_
       refine zar Tk Tryz.func174 (rfl) ?_
       refine zaj Tk Tryz.func174 (sb _) rfl rfl rfl rfl rfl ?_
       refine zai Tk (r := .tup [ii _, bb _]) rfl rfl rfl trivial rfl rfl ?_
       rfl
      ·simp only at h4
       subst h4
       rw [if_pos rfl]
       refine zak Tk Tryz.func174 (by exact ⟨by decide, by simp [w64]⟩) ?_
       refine zar Tk Tryz.func174 (rfl) ?_
       refine zaj Tk Tryz.func174 (sa _) rfl rfl rfl rfl rfl ?_
       refine zai Tk (r := .tup [ii _, bb _]) rfl rfl rfl trivial rfl rfl ?_
       rfl
   have h13 := beqF h13
   rw [if_neg h13] at *
   apply zrE (P := fun l => za9 vals args = some l) (s6 := fun l => { σ := [(2, .own 0 2 0 0), (8, ints l)], S := [(2, .box [ii op, ii v, ii ix, exs args])] :: O, n := 78 })
   ·intro J
    refine zad ?_
    refine zaw (zcT 8 68 3 1 rfl rfl rfl) ?_
    refine zag (fun x : Nat × List Int => [(1, ints vals), (2, .own 0 2 0 0), (8, .osl 0 68), (51, exs args), (52, ii args.length), (53, ii x.1)]) (fun x => [(68, zaK x.2), (2, .box [ii op, ii v, ii ix, exs args])]) (fun _ => O) 78
     (fun x => x.1 ≤ args.length ∧ za9 vals (args.take x.1) = some x.2) (fun x => args.length - x.1) (0, []) ⟨Nat.zero_le _, rfl⟩ ⟨rfl, rfl, rfl, rfl, rfl, rfl, trivial⟩ rfl ⟨rfl, rfl, trivial⟩ rfl rfl ?_
    rintro ⟨i, l⟩ ⟨hi, hno⟩ ih
    simp only at hi hno
    refine zaf Tk Tryz.func174 ?_
    refine zae Tk Tryz.func174 rfl (fun h5 => ?_) (fun h5 => ?_)
    ·have h5 : i < args.length := by simpa using h5
     have hm := List.getElem_mem h5
     have hg := zhY h5
     have ht := zjX h5 hno
     have hll := zm9 hno
     simp only [List.length_take, Nat.min_eq_left hi] at hll
     generalize args[i] = e at hm hg ht
     have hce := fun O => hch e hm (hnz e hm) O
     obtain ⟨eo, ev, ei, ea⟩ := e
     simp only [exI] at hg
     refine zak Tk Tryz.func174 (by omega) ?_
     refine zar Tk Tryz.func174 (hg) ?_
     refine zaj Tk Tryz.func174 (hce _) rfl rfl rfl rfl rfl ?_
     generalize zbz vals (.mk eo ev ei ea) = k at ht
     refine zae Tk Tryz.func174 rfl (fun h6 => ?_) (fun h6 => ?_)
     ·have h6 := notT h6
      rw [if_pos h6] at ht
      rw [zjY ht]
      refine zai Tk (r := .tup [ii 0, bb false]) rfl rfl rfl trivial rfl rfl ?_
      rfl
     ·have h6 := notF h6
      rw [if_neg (by rw [h6]; simp)] at ht
      refine zak Tk Tryz.func174 (by exact ⟨by show (l.length + 1) * 8 ≤ 140737488355328; omega, by show l.length + 1 ≤ 9223372036854775807; omega⟩) ?_
      refine zad ?_
      refine ih (i + 1, l ++ [k.1]) _ _ ⟨h5, ht⟩ (by simp only; omega) ⟨rfl, rfl, rfl, rfl, rfl, congrArg ii (zaB h5 hlen), trivial⟩ rfl ⟨congrArg some (zaR l k.1), rfl, trivial⟩ rfl rfl
    ·have h5 : args.length ≤ i := by simpa using h5
     rw [List.take_of_length_le h5] at hno
     refine zax ?_
     refine zaw (zap 68 rfl rfl) ?_
     refine zcF (l := [(2, .own 0 2 0 0), (8, ints l)]) (Hv := [(2, .box [ii op, ii v, ii ix, exs args])]) ⟨rfl, rfl, trivial⟩ rfl ⟨rfl, trivial⟩ rfl rfl (J l hno)
   ·intro l hl
    have ht := zrs hn hv args l ks hwf hl hks
    rw [hl]
    refine zaf Tk Tryz.func174 ?_
    refine g_go Tk Tryz.func174 ?_
    refine zaj Tk Tryz.func174 (ztR _ ha h0 h1 h13 (by rw [hkl]; exact hb) ht hk) rfl rfl rfl rfl rfl ?_
    refine zaj Tk Tryz.func174 (zhJ _ (ze4 op l) 1073741824 (by decide) (by decide)) rfl rfl rfl rfl rfl ?_
    refine zai Tk (r := .tup [ii _, bb _]) rfl rfl rfl trivial rfl rfl ?_
    rfl
def zbh (x : Ex) (vals : List Int) : Int × Int :=
 if (zbs x vals.length).2 ≠ 0 then (0, (zbs x vals.length).2) else
 if vals.any (fun n => zf2 n 65536) then (0, 2) else
 if (zbz vals x).2 = false then (0, 17) else ((zbz vals x).1, 0)
theorem ztB (O : List Heap) (a : Int) : zan Tryz.prog 172 [ii a] O (bb (zf2 a 65536)) [] O := by
 refine zac Tk Tryz.func172 rfl Tryz.call172 Tryz.ntmps172 (Nat.le_of_ble_eq_true rfl) fun E => ?_
 refine zaf Tk Tryz.func172 ?_
 refine zaj Tk Tryz.func172 (zhJ _ a 65536 (by decide) (by decide)) rfl rfl rfl rfl rfl ?_
 refine zai Tk (r := bb _) rfl rfl rfl trivial rfl rfl ?_
 rfl
theorem ziI (O : List Heap) (l : List Int) (f : Nat) (p : Int → Bool) (hl : l.length ≤ zam) (hp : ∀ x ∈ l, ∀ O, zan Tryz.prog f [ii x] O (bb (p x)) [] O) :
  zan Tryz.prog 104 [ints l, .fn (.func f) [] []] O (ii (zbq p l 0)) [] O := by
 refine zac Tk Tryz.func104 rfl Tryz.call104 Tryz.ntmps104 (Nat.le_of_ble_eq_true rfl) fun E => ?_
 refine zaf Tk Tryz.func104 ?_
 refine zad ?_
 refine zbO (fun i : Nat => [(0, ints l), (1, .fn (.func f) [] []), (6, ints l), (7, ii l.length), (8, ii i)]) (fun _ => [] :: O) 19 (fun i => i ≤ l.length ∧ zbq p l 0 = zbq p (l.drop i) i) (fun i => l.length - i) 0 ⟨Nat.zero_le _, rfl⟩ ⟨rfl, rfl, rfl, rfl, rfl, trivial⟩ rfl rfl ?_
 intro i ⟨hi, hno⟩ ih
 rw [hno]
 rw [hno] at ih
 refine zaf Tk Tryz.func104 ?_
 refine zae Tk Tryz.func104 rfl (fun h1 => ?_) (fun h1 => ?_)
 ·have h1 : i < l.length := by simpa using h1
  have hd : l.drop i = l[i] :: l.drop (i + 1) := (List.drop_eq_getElem_cons h1)
  refine zak Tk Tryz.func104 (by omega) ?_
  refine zar Tk Tryz.func104 (zah h1) ?_
  refine zaj Tk Tryz.func104 (hp l[i] (List.getElem_mem h1) _) rfl rfl rfl rfl rfl ?_
  refine zae Tk Tryz.func104 rfl (fun h2 => ?_) (fun h2 => ?_)
  ·refine zai Tk (r := ii _) rfl rfl rfl trivial rfl rfl ?_
   rw [hd]
   simp only [zbq]
   rw [if_pos h2]
  ·refine zad ?_
   refine ih (i + 1) _ ⟨h1, ?_⟩ (by omega) ⟨rfl, rfl, rfl, rfl, congrArg ii (zaB h1 hl), trivial⟩ rfl rfl
   rw [hd]
   simp only [zbq]
   rw [if_neg (by rw [h2]; simp)]
 ·have h1 : l.length ≤ i := by simpa using h1
  refine zai Tk (r := ii _) rfl rfl rfl trivial rfl rfl ?_
  rw [List.drop_eq_nil_of_le h1]
  rfl
theorem zgi (O : List Heap) (l : List Int) (f : Nat) (p : Int → Bool) (hl : l.length ≤ zam) (hp : ∀ x ∈ l, ∀ O, zan Tryz.prog f [ii x] O (bb (p x)) [] O) :
  zan Tryz.prog 47 [ints l, .fn (.func f) [] []] O (bb (l.any p)) [] O := by
 refine zac Tk Tryz.func47 rfl Tryz.call47 Tryz.ntmps47 (Nat.le_of_ble_eq_true rfl) fun E => ?_
 refine zaf Tk Tryz.func47 ?_
 refine zaj Tk Tryz.func47 (ziI _ l f p hl hp) rfl rfl rfl rfl rfl ?_
 refine zai Tk (r := bb _) rfl rfl rfl trivial rfl rfl ?_
 exact congrArg bb (zdr p l 0)
theorem zpn {x : Ex} {n : Int} (h : (zbs x n).2 = 0) : (zcg x n 1 0).1 = 0 ∧ zbv x ≠ 0 ∧ 0 ≤ n ∧ n ≤ 16 ∧ (zbs x n).1 = zbv x := by
 unfold zbs at h ⊢
 by_cases h1 : n < 0 ∨ n > 16
 ·rw [if_pos h1] at h; cases h
 rw [if_neg h1] at h ⊢
 by_cases h2 : (zcg x n 1 0).1 ≠ 0
 ·rw [if_pos h2] at h; exact absurd h h2
 rw [if_neg h2] at h ⊢
 by_cases h3 : zbv x = 0
 ·rw [if_pos h3] at h; cases h
 rw [if_neg h3]
 exact ⟨by simpa using h2, h3, by omega, by omega, rfl⟩
theorem zpA {vals : List Int} (h : vals.any (fun n => zf2 n 65536) = false) : ∀ x ∈ vals, -65536 ≤ x ∧ x ≤ 65536 := by
 intro x hx
 rw [List.any_eq_false] at h
 have := h x hx
 simp [zf2] at this
 omega
theorem zm8 (O : List Heap) (x : Ex) (vals : List Int) (hok : exOk x) (hl : vals.length ≤ zam) : zan Tryz.prog 127 [exD x, ints vals] O (.tup [ii (zbh x vals).1, ii (zbh x vals).2]) [] O := by
 have hc := fun O => zka O x vals.length hok
 have hco := @zpn x vals.length
 have hwf := zhQ x vals.length 1 0
 have hev := fun hv hw hk O => zm7 (n := vals.length) (vals := vals) rfl hv _ x (Nat.lt_succ_self _) hw hk O
 unfold zbh
 obtain ⟨op, v, ix, args⟩ := x
 generalize zbs (.mk op v ix args) vals.length = R at *
 refine zac Tk Tryz.func127 rfl Tryz.call127 Tryz.ntmps127 (Nat.le_of_ble_eq_true rfl) fun E => ?_
 refine zaf Tk Tryz.func127 ?_
 refine zaj Tk Tryz.func127 (hc _) rfl rfl rfl rfl rfl ?_
 refine zae Tk Tryz.func127 rfl (fun h1 => ?_) (fun h1 => ?_)
 ·have h1 := bneT h1
  rw [if_pos h1]
  refine zai Tk (r := .tup [ii 0, ii _]) rfl rfl rfl trivial rfl rfl ?_
  rfl
 ·have h1 := bneF h1
  obtain ⟨c1, c2, -, -, -⟩ := hco h1
  rw [if_neg (by simpa using h1)]
  refine zaj Tk Tryz.func127 (zgi _ vals 172 (fun n => zf2 n 65536) hl (fun x _ O => ztB O x)) rfl rfl rfl rfl rfl ?_
  refine zae Tk Tryz.func127 rfl (fun h2 => ?_) (fun h2 => ?_)
  ·rw [if_pos h2]
   refine zai Tk (r := .tup [ii 0, ii 2]) rfl rfl rfl trivial rfl rfl ?_
   rfl
  ·rw [if_neg (by rw [h2]; simp)]
   refine zaj Tk Tryz.func127 (hev (zpA h2) (hwf c1) c2 _) rfl rfl rfl rfl rfl ?_
   refine zae Tk Tryz.func127 rfl (fun h3 => ?_) (fun h3 => ?_)
   ·have h3 := notT h3
    rw [if_pos h3]
    refine zai Tk (r := .tup [ii 0, ii 17]) rfl rfl rfl trivial rfl rfl ?_
    rfl
   ·have h3 := notF h3
    rw [if_neg (by rw [h3]; simp)]
    refine zai Tk (r := .tup [ii _, ii 0]) rfl rfl rfl trivial rfl rfl ?_
    rfl
end Go.AI


namespace Go.AI
open Go.Proofs
set_option maxRecDepth 20000
def Ex.op : Ex → Int | .mk o _ _ _ => o
def Ex.vl : Ex → Int | .mk _ v _ _ => v
def Ex.ix : Ex → Int | .mk _ _ i _ => i
def Ex.args : Ex → List Ex | .mk _ _ _ a => a
abbrev exA (x : Ex) : D := .agg [ii x.op, ii x.vl, ii x.ix, exs x.args]
theorem zo8 (x : Ex) : exD x = exA x := by cases x; rfl
structure Upd where
 v : Int
 x : Ex
abbrev updI (u : Upd) : List I := [vi u.v, vi u.x.op, vi u.x.vl, vi u.x.ix, .sl 4 u.x.args.length (exIs u.x.args)]
abbrev upds (l : List Upd) : D := .i (.sl 5 l.length (l.map updI))
structure Mv where
 frm : Int
 ev : Int
 to : Int
 g : Ex
 us : List Upd
abbrev mvI (m : Mv) : List I := [vi m.frm, vi m.ev, vi m.to, vi m.g.op, vi m.g.vl, vi m.g.ix, .sl 4 m.g.args.length (exIs m.g.args), .sl 5 m.us.length (m.us.map updI)]
abbrev mvs (l : List Mv) : D := .i (.sl 8 l.length (l.map mvI))
structure Ext where
 alpha : List Int
 locs : Int
 init : Int
 marked : List Int
 vars : List Vr
 moves : List Mv
abbrev extD (m : Ext) : D := .agg [ints m.alpha, ii m.locs, ii m.init, ints m.marked, vrs m.vars, mvs m.moves]
abbrev extC (m : Ext) : List D := [ints m.alpha, ii m.locs, ii m.init, ints m.marked, vrs m.vars, mvs m.moves]
structure Sta where
 loc : Int
 vals : List Int
abbrev staD (s : Sta) : D := .agg [ii s.loc, ints s.vals]
abbrev staI (s : Sta) : List I := [vi s.loc, zb2 s.vals]
def mvOk (x : Mv) : Prop := exOk x.g ∧ x.us.length ≤ zam ∧ ∀ u ∈ x.us, exOk u.x
structure extOk (m : Ext) : Prop where
 al : m.alpha.length ≤ zam
 ma : m.marked.length ≤ zam
 va : m.vars.length ≤ zam
 na : ∀ v ∈ m.vars, v.name.size ≤ zam
 mo : m.moves.length ≤ zam
 mv : ∀ x ∈ m.moves, mvOk x
theorem zrl (O : List Heap) (x : Ex) (n : Int) (hok : exOk x) : zan Tryz.prog 126 [exA x, ii n] O (.tup [ii (zbs x n).1, ii (zbs x n).2]) [] O := by rw [← zo8]; exact zka O x n hok
theorem ze2 (O : List Heap) (x : Ex) (n k : Int) (hok : exOk x) : zan Tryz.prog 202 [exA x, ii n, ii k] O (ii (zbN x n k)) [] O := by rw [← zo8]; exact zj9 O x n k hok
theorem zbJ (O : List Heap) (x : Ex) (vals : List Int) (hok : exOk x) (hl : vals.length ≤ zam) : zan Tryz.prog 127 [exA x, ints vals] O (.tup [ii (zbh x vals).1, ii (zbh x vals).2]) [] O := by rw [← zo8]; exact zm8 O x vals hok hl
def zdC (n : Int) : Option Int → List Upd → Int
 | _, [] => 0
 | prev, u :: r => if u.v < 0 ∨ u.v ≥ n then 2 else if prev.any (u.v ≤ ·) then 5 else if zbN u.x n 1 ≠ 0 then zbN u.x n 1 else zdC n (some u.v) r
def zgy (m : Ext) (prev : Option Mv) (x : Mv) : Int :=
 if x.frm < 0 ∨ x.frm ≥ m.locs ∨ x.to < 0 ∨ x.to ≥ m.locs then 2 else
 if x.ev ∉ m.alpha then 9 else
 if prev.any (fun p => decide (x.frm < p.frm ∨ (x.frm = p.frm ∧ x.ev < p.ev))) then 5 else
 if zbN x.g m.vars.length 2 ≠ 0 then zbN x.g m.vars.length 2 else zdC m.vars.length none x.us
def zdx {α : Type} (l : List α) (i : Nat) : Option α := if i = 0 then none else l[i - 1]?
theorem zp5 {i n : Nat} (h0 : 0 < i) (h : i < n) (hn : n ≤ zam) : IntKind.i64.wrap ((i : Int) - 1) = ((i - 1 : Nat) : Int) := by
 simp only [zam] at hn
 rw [w64 (by omega) (by omega)]
 omega
theorem ziu {α : Type} {l : List α} {i : Nat} (h0 : 0 < i) (h : i < l.length) : zdx l i = some (l[i - 1]'(by omega)) := by
 unfold zdx
 rw [if_neg (by omega), List.getElem?_eq_getElem]
theorem zj8 (O : List Heap) (m : Ext) (i : Nat) (hi : i < m.moves.length) (hs : m.alpha.Pairwise (· < ·)) (hok : extOk m) : zan Tryz.prog 168 [extD m, ii i] O (ii (zgy m (zdx m.moves i) m.moves[i])) [] O := by
 have hx := hok.mv _ (List.getElem_mem hi)
 have hg : (m.moves.map mvI)[(i : Int).toNat]? = some (mvI m.moves[i]) := zah hi
 generalize hR : zgy m (zdx m.moves i) m.moves[i] = R
 have hp0 : 0 < i → zdx m.moves i = some (m.moves[i - 1]'(by omega)) := fun h => ziu h hi
 have hgp : ∀ h : 0 < i, (m.moves.map mvI)[(IntKind.i64.wrap ((i : Int) - 1)).toNat]? = some (mvI (m.moves[i - 1]'(by omega))) := fun h => by
  rw [zp5 h hi hok.mo]
  exact zah (by omega)
 have hpn : i = 0 → zdx m.moves i = none := fun h => by unfold zdx; rw [if_pos h]
 generalize m.moves[i] = x at *
 obtain ⟨xf, xe, xt, xg, xu⟩ := x
 obtain ⟨hx1, hx2, hx3⟩ := hx
 simp only at hx1 hx2 hx3
 have hmo := hok.mo
 unfold zgy at hR
 simp only at hR
 refine zaC [4, 6, 8, 18] Tk Tryz.func168 rfl Tryz.call168 Tryz.ntmps168 (Nat.le_of_ble_eq_true rfl) fun E => ?_
 refine zaf Tk Tryz.func168 ?_
 refine zak Tk Tryz.func168 (by omega) ?_
 refine zar Tk Tryz.func168 (hg) ?_
 apply zbP (P := ¬ (xf < 0 ∨ xf ≥ m.locs ∨ xt < 0 ∨ xt ≥ m.locs)) (s6 := { σ := [(1, ii i), (2, .own 0 2 0 0), (5, .own 0 5 0 0)], S := [(5, .box [ii xf, ii xe, ii xt, ii xg.op, ii xg.vl, ii xg.ix, exs xg.args, upds xu]), (2, .box (extC m))] :: O, n := 138 })
 ·intro J
  have bad : (xf < 0 ∨ xf ≥ m.locs ∨ xt < 0 ∨ xt ≥ m.locs) → R = 2 := fun h => by rw [← hR, if_pos h]
  refine zaF Tk Tryz.func168 rfl (fun h1 => ?_) (fun h1 => ?_)
  ·have := bad (.inl (of_decide_eq_true h1))
   subst this
   repeat (first | refine gcT Tk Tryz.func168 rfl ?_ | refine gkT Tk Tryz.func168 rfl ?_ | refine skT Tk ?_ | refine gcF Tk Tryz.func168 rfl ?_ | refine gkF Tk Tryz.func168 rfl ?_ | refine skF Tk ?_)
   refine zai Tk (r := ii 2) rfl rfl rfl trivial rfl rfl ?_
   rfl
  have h1 : ¬ xf < 0 := of_decide_eq_false h1
  refine zaF Tk Tryz.func168 rfl (fun h2 => ?_) (fun h2 => ?_)
  ·have := bad (.inr (.inl (of_decide_eq_true h2)))
   subst this
   repeat (first | refine gcT Tk Tryz.func168 rfl ?_ | refine gkT Tk Tryz.func168 rfl ?_ | refine skT Tk ?_ | refine gcF Tk Tryz.func168 rfl ?_ | refine gkF Tk Tryz.func168 rfl ?_ | refine skF Tk ?_)
   refine zai Tk (r := ii 2) rfl rfl rfl trivial rfl rfl ?_
   rfl
  have h2 : ¬ xf ≥ m.locs := of_decide_eq_false h2
  refine zaF Tk Tryz.func168 rfl (fun h3 => ?_) (fun h3 => ?_)
  ·have := bad (.inr (.inr (.inl (of_decide_eq_true h3))))
   subst this
   refine gcT Tk Tryz.func168 rfl ?_
   refine zai Tk (r := ii 2) rfl rfl rfl trivial rfl rfl ?_
   rfl
  have h3 : ¬ xt < 0 := of_decide_eq_false h3
  refine zae Tk Tryz.func168 rfl (fun h4 => ?_) (fun h4 => ?_)
  ·have := bad (.inr (.inr (.inr (of_decide_eq_true h4))))
   subst this
   refine zai Tk (r := ii 2) rfl rfl rfl trivial rfl rfl ?_
   rfl
  have h4 : ¬ xt ≥ m.locs := of_decide_eq_false h4
  refine zax ?_
  refine zaJ (J (by omega)) ⟨rfl, rfl, rfl, trivial⟩ rfl ⟨rfl, rfl, trivial⟩ rfl rfl
 ·intro hP
  rw [if_neg hP] at hR
  refine zaf Tk Tryz.func168 ?_
  refine g_go Tk Tryz.func168 ?_
  refine zaj Tk Tryz.func168 (zdu _ m.alpha xe hok.al hs) rfl rfl rfl rfl rfl ?_
  refine zae Tk Tryz.func168 rfl (fun h1 => ?_) (fun h1 => ?_)
  ·have h1 : xe ∉ m.alpha := by simpa using h1
   rw [if_pos h1] at hR
   subst hR
   refine zai Tk (r := ii 9) rfl rfl rfl trivial rfl rfl ?_
   rfl
  have h1 : xe ∈ m.alpha := by simpa using h1
  rw [if_neg (by simpa using h1)] at hR
  apply zbP (P := R = if zbN xg m.vars.length 2 ≠ 0 then zbN xg m.vars.length 2 else zdC m.vars.length none xu) (s6 := { σ := [(1, ii i), (2, .own 0 2 0 0), (5, .own 0 5 0 0)], S := [(5, .box [ii xf, ii xe, ii xt, ii xg.op, ii xg.vl, ii xg.ix, exs xg.args, upds xu]), (2, .box (extC m))] :: O, n := 138 })
  ·intro J
   refine zax ?_
   refine zaf Tk Tryz.func168 ?_
   refine g_go Tk Tryz.func168 ?_
   refine zaq Tk Tryz.func168 zay rfl ?_
   refine zb8 Tk (fun h2 => ?_) (fun h2 => ?_)
   ·have h2 : 0 < i := by have := of_decide_eq_true h2; omega
    have hgp := hgp h2
    have hp0 := hp0 h2
    have hw := zp5 h2 hi hmo
    generalize m.moves[i - 1] = y at hgp hp0
    obtain ⟨yf, ye, yt, yg, yu⟩ := y
    rw [hp0] at hR
    simp only [Option.any_some] at hR
    refine zat Tk (by rw [hw]; omega) ?_
    refine zaA Tk (hgp) ?_
    refine zb8 Tk (fun h3 => ?_) (fun h3 => ?_)
    ·have h3 : xf < yf := of_decide_eq_true h3
     refine zav Tk Tryz.func168 (by kernel_rfl) ?_
     refine gcT Tk Tryz.func168 rfl ?_
     rw [if_pos (by simp [h3])] at hR
     subst hR
     refine zai Tk (r := ii 5) rfl rfl rfl trivial rfl rfl ?_
     rfl
    ·have h3 : ¬ xf < yf := of_decide_eq_false h3
     refine zat Tk (by rw [hw]; omega) ?_
     refine zaA Tk (hgp) ?_
     refine zb8 Tk (fun h4 => ?_) (fun h4 => ?_)
     ·have h4 : xf = yf := beqT h4
      refine zat Tk (by rw [hw]; omega) ?_
      refine zaA Tk (hgp) ?_
      refine zav Tk Tryz.func168 (by kernel_rfl) ?_
      refine zae Tk Tryz.func168 rfl (fun h5 => ?_) (fun h5 => ?_)
      ·have h5 : xe < ye := of_decide_eq_true h5
       rw [if_pos (by simp [h4, h5])] at hR
       subst hR
       refine zai Tk (r := ii 5) rfl rfl rfl trivial rfl rfl ?_
       rfl
      ·have h5 : ¬ xe < ye := of_decide_eq_false h5
       rw [if_neg (by simp; omega)] at hR
       refine zax ?_
       refine zaJ (J hR.symm) ⟨rfl, rfl, rfl, trivial⟩ rfl ⟨rfl, rfl, trivial⟩ rfl rfl
     ·have h4 : xf ≠ yf := beqF h4
      refine zav Tk Tryz.func168 (by kernel_rfl) ?_
      refine gcF Tk Tryz.func168 rfl ?_
      rw [if_neg (by simp; omega)] at hR
      refine zax ?_
      refine zaJ (J hR.symm) ⟨rfl, rfl, rfl, trivial⟩ rfl ⟨rfl, rfl, trivial⟩ rfl rfl
   ·have h2 : i = 0 := by have := of_decide_eq_false h2; omega
    refine zav Tk Tryz.func168 (by kernel_rfl) ?_
    refine gcF Tk Tryz.func168 rfl ?_
    rw [hpn h2] at hR
    rw [if_neg (by simp)] at hR
    refine zax ?_
    refine zaJ (J hR.symm) ⟨rfl, rfl, rfl, trivial⟩ rfl ⟨rfl, rfl, trivial⟩ rfl rfl
  ·intro hR
   refine zaf Tk Tryz.func168 ?_
   refine g_go Tk Tryz.func168 ?_
   refine zaj Tk Tryz.func168 (ze2 _ xg m.vars.length 2 hx1) rfl rfl rfl rfl rfl ?_
   refine zae Tk Tryz.func168 rfl (fun h2 => ?_) (fun h2 => ?_)
   ·have h2 := bneT h2
    rw [if_pos h2] at hR
    subst hR
    refine zai Tk (r := ii _) rfl rfl rfl trivial rfl rfl ?_
    rfl
   have h2 := bneF h2
   rw [if_neg (by simpa using h2)] at hR
   refine zad ?_
   refine zag (fun j : Nat => [(2, .own 0 2 0 0), (5, .own 0 5 0 0), (94, upds xu), (95, ii xu.length), (96, ii j)]) (fun _ => [(5, .box [ii xf, ii xe, ii xt, ii xg.op, ii xg.vl, ii xg.ix, exs xg.args, upds xu]), (2, .box (extC m))]) (fun _ => O) 138
    (fun j => j ≤ xu.length ∧ R = zdC m.vars.length ((zdx xu j).map (·.v)) (xu.drop j)) (fun j => xu.length - j) 0 ⟨Nat.zero_le _, hR⟩ ⟨rfl, rfl, rfl, rfl, rfl, trivial⟩ rfl ⟨rfl, rfl, trivial⟩ rfl rfl ?_
   rintro j ⟨hj, hno⟩ ih
   clear hR
   refine zaf Tk Tryz.func168 ?_
   refine zae Tk Tryz.func168 rfl (fun h3 => ?_) (fun h3 => ?_)
   ·have h3 : j < xu.length := by simpa using h3
    have hd : xu.drop j = xu[j] :: xu.drop (j + 1) := List.drop_eq_getElem_cons h3
    have hm := List.getElem_mem h3
    have hgj : (xu.map updI)[(j : Int).toNat]? = some (updI xu[j]) := zah h3
    have hpj0 : 0 < j → zdx xu j = some (xu[j - 1]'(by omega)) := fun h => ziu h h3
    have hgpj : ∀ h : 0 < j, (xu.map updI)[(IntKind.i64.wrap ((j : Int) - 1)).toNat]? = some (updI (xu[j - 1]'(by omega))) := fun h => by
     rw [zp5 h h3 hx2]
     exact zah (by omega)
    have hpjn : j = 0 → zdx xu j = none := fun h => by unfold zdx; rw [if_pos h]
    have hpj1 : zdx xu (j + 1) = some xu[j] := by rw [zdx, if_neg (by omega)]; simp [h3]
    generalize xu[j] = u at *
    have hux := hx3 u hm
    obtain ⟨uv, ux⟩ := u
    simp only at hux
    rw [hd] at hno
    simp only [zdC] at hno
    refine zak Tk Tryz.func168 (by omega) ?_
    refine zar Tk Tryz.func168 (hgj) ?_
    apply zbP (P := R = if zbN ux m.vars.length 1 ≠ 0 then zbN ux m.vars.length 1 else zdC m.vars.length (some uv) (xu.drop (j + 1))) (s6 := { σ := [(2, .own 0 2 0 0), (5, .own 0 5 0 0), (8, .own 0 8 0 0), (94, upds xu), (95, ii xu.length), (96, ii j)], S := [(8, .box [ii uv, ii ux.op, ii ux.vl, ii ux.ix, exs ux.args]), (5, .box [ii xf, ii xe, ii xt, ii xg.op, ii xg.vl, ii xg.ix, exs xg.args, upds xu]), (2, .box (extC m))] :: O, n := 138 })
    ·intro J
     refine zaF Tk Tryz.func168 rfl (fun h4 => ?_) (fun h4 => ?_)
     ·have h4 : uv < 0 := of_decide_eq_true h4
      rw [if_pos (.inl h4)] at hno
      subst hno
      refine gcT Tk Tryz.func168 rfl ?_
      refine zai Tk (r := ii 2) rfl rfl rfl trivial rfl rfl ?_
      rfl
     have h4 : ¬ uv < 0 := of_decide_eq_false h4
     refine zae Tk Tryz.func168 rfl (fun h5 => ?_) (fun h5 => ?_)
     ·have h5 : uv ≥ m.vars.length := of_decide_eq_true h5
      rw [if_pos (.inr h5)] at hno
      subst hno
      refine zai Tk (r := ii 2) rfl rfl rfl trivial rfl rfl ?_
      rfl
     have h5 : ¬ uv ≥ m.vars.length := of_decide_eq_false h5
     rw [if_neg (by omega)] at hno
     refine zaq Tk Tryz.func168 zay rfl ?_
     refine zb8 Tk (fun h6 => ?_) (fun h6 => ?_)
     ·have h6 : 0 < j := by have := of_decide_eq_true h6; omega
      have hgpj := hgpj h6
      have hw := zp5 h6 h3 hx2
      rw [hpj0 h6] at hno
      generalize xu[j - 1] = y at hgpj hno
      obtain ⟨yv, yx⟩ := y
      simp only [Option.map_some, Option.any_some] at hno
      refine zat Tk (by rw [hw]; omega) ?_
      refine zaA Tk (hgpj) ?_
      refine zav Tk Tryz.func168 (by kernel_rfl) ?_
      refine zae Tk Tryz.func168 rfl (fun h7 => ?_) (fun h7 => ?_)
      ·have h7 : uv ≤ yv := of_decide_eq_true h7
       rw [if_pos (decide_eq_true h7)] at hno
       subst hno
       refine zai Tk (r := ii 5) rfl rfl rfl trivial rfl rfl ?_
       rfl
      ·have h7 : ¬ uv ≤ yv := of_decide_eq_false h7
       rw [if_neg (by simpa using h7)] at hno
       refine zax ?_
       refine zaJ (J hno) ⟨rfl, rfl, rfl, rfl, rfl, rfl, trivial⟩ rfl ⟨rfl, rfl, rfl, trivial⟩ rfl rfl
     ·have h6 : j = 0 := by have := of_decide_eq_false h6; omega
      refine zav Tk Tryz.func168 (by kernel_rfl) ?_
      refine gcF Tk Tryz.func168 rfl ?_
      rw [hpjn h6] at hno
      simp only [Option.map_none, Option.any_none] at hno
      rw [if_neg (by simp)] at hno
      refine zax ?_
      refine zaJ (J hno) ⟨rfl, rfl, rfl, rfl, rfl, rfl, trivial⟩ rfl ⟨rfl, rfl, rfl, trivial⟩ rfl rfl
    ·intro hno
     refine zaf Tk Tryz.func168 ?_
     refine g_go Tk Tryz.func168 ?_
     refine zaj Tk Tryz.func168 (ze2 _ ux m.vars.length 1 hux) rfl rfl rfl rfl rfl ?_
     refine zae Tk Tryz.func168 rfl (fun h7 => ?_) (fun h7 => ?_)
     ·have h7 := bneT h7
      rw [if_pos h7] at hno
      subst hno
      refine zai Tk (r := ii _) rfl rfl rfl trivial rfl rfl ?_
      rfl
     have h7 := bneF h7
     rw [if_neg (by simpa using h7)] at hno
     refine zad ?_
     refine ih (j + 1) _ _ ⟨h3, by rw [hpj1]; exact hno⟩ (by omega) ⟨rfl, rfl, rfl, rfl, congrArg ii (zaB h3 hx2), trivial⟩ rfl ⟨rfl, rfl, trivial⟩ rfl rfl
   ·have h3 : xu.length ≤ j := by simpa using h3
    rw [List.drop_eq_nil_of_le h3] at hno
    simp only [zdC] at hno
    subst hno
    refine zai Tk (r := ii 0) rfl rfl rfl trivial rfl rfl ?_
    rfl
end Go.AI


namespace Go.AI
open Go.Proofs
set_option maxRecDepth 20000
theorem zaD {n : Int} : ∀ {l : List Int} {p : Option Int}, zal n l p = 0 → l.Pairwise (· < ·) ∧ (∀ x ∈ l, 0 ≤ x ∧ x < n) ∧ ∀ y, p = some y → ∀ x ∈ l, y < x
 | [], p, _ => ⟨.nil, by simp, by simp⟩
 | x :: r, p, h => by
  simp only [zal] at h
  by_cases h1 : x < 0 ∨ x ≥ n
  ·rw [if_pos h1] at h; cases h
  rw [if_neg h1] at h
  by_cases h2 : p.any (x ≤ ·) = true
  ·rw [if_pos h2] at h; cases h
  rw [if_neg h2] at h
  obtain ⟨a, b, c⟩ := zaD h
  refine ⟨List.pairwise_cons.2 ⟨c x rfl, a⟩, fun y hy => ?_, fun y hp z hz => ?_⟩
  ·rcases List.mem_cons.1 hy with rfl | hy
   ·omega
   ·exact b y hy
  ·subst hp
   have hyx : y < x := by simpa using h2
   rcases List.mem_cons.1 hz with rfl | hz
   ·exact hyx
   ·have := c x rfl z hz; omega
def zbT (l : List Vr) : Int := if l.length > 16 then 3 else zbf l l 0
theorem zi5 (O : List Heap) (l : List Vr) (hl : l.length ≤ zam) (hn : ∀ v ∈ l, v.name.size ≤ zam) : zan Tryz.prog 167 [vrs l] O (ii (zbT l)) [] O := zj7 O l hl hn
def zdI (m : Ext) : Option Mv → List Mv → Int
 | _, [] => 0
 | prev, x :: r => if zgy m prev x ≠ 0 then zgy m prev x else zdI m (some x) r
def chk (m : Ext) : Int :=
 if zal 32 m.alpha none ≠ 0 then zal 32 m.alpha none else
 if m.locs < 1 ∨ m.locs > 64 ∨ m.init < 0 ∨ m.init ≥ m.locs then 2 else
 if zal m.locs m.marked none ≠ 0 then zal m.locs m.marked none else
 if zbT m.vars ≠ 0 then zbT m.vars else
 if m.moves.length > 256 then 3 else zdI m none m.moves
theorem zh6 (O : List Heap) (m : Ext) (hok : extOk m) : zan Tryz.prog 124 [extD m] O (ii (chk m)) [] O := by
 have hal := hok.al
 have hma := hok.ma
 have hmo := hok.mo
 generalize hR : chk m = R
 unfold chk at hR
 refine zaC [] Tk Tryz.func124 rfl Tryz.call124 Tryz.ntmps124 (Nat.le_of_ble_eq_true rfl) fun E => ?_
 refine zaf Tk Tryz.func124 ?_
 refine zaj Tk Tryz.func124 (zhf _ m.alpha 32 hal) rfl rfl rfl rfl rfl ?_
 refine zae Tk Tryz.func124 rfl (fun h1 => ?_) (fun h1 => ?_)
 ·have h1 := bneT h1
  rw [if_pos h1] at hR
  subst hR
  refine zai Tk (r := ii _) rfl rfl rfl trivial rfl rfl ?_
  rfl
 have h1 := bneF h1
 rw [if_neg (by simpa using h1)] at hR
 have hs := (zaD h1).1
 have bad : (m.locs < 1 ∨ m.locs > 64 ∨ m.init < 0 ∨ m.init ≥ m.locs) → R = 2 := fun h => by rw [← hR, if_pos h]
 refine zaF Tk Tryz.func124 rfl (fun h2 => ?_) (fun h2 => ?_)
 ·have := bad (.inl (of_decide_eq_true h2))
  subst this
  repeat (first | refine gcT Tk Tryz.func124 rfl ?_ | refine gkT Tk Tryz.func124 rfl ?_ | refine skT Tk ?_ | refine gcF Tk Tryz.func124 rfl ?_ | refine gkF Tk Tryz.func124 rfl ?_ | refine skF Tk ?_)
  refine zai Tk (r := ii 2) rfl rfl rfl trivial rfl rfl ?_
  rfl
 have h2 : ¬ m.locs < 1 := of_decide_eq_false h2
 refine zaF Tk Tryz.func124 rfl (fun h3 => ?_) (fun h3 => ?_)
 ·have := bad (.inr (.inl (of_decide_eq_true h3)))
  subst this
  repeat (first | refine gcT Tk Tryz.func124 rfl ?_ | refine gkT Tk Tryz.func124 rfl ?_ | refine skT Tk ?_ | refine gcF Tk Tryz.func124 rfl ?_ | refine gkF Tk Tryz.func124 rfl ?_ | refine skF Tk ?_)
  refine zai Tk (r := ii 2) rfl rfl rfl trivial rfl rfl ?_
  rfl
 have h3 : ¬ m.locs > 64 := of_decide_eq_false h3
 refine zaF Tk Tryz.func124 rfl (fun h4 => ?_) (fun h4 => ?_)
 ·have := bad (.inr (.inr (.inl (of_decide_eq_true h4))))
  subst this
  refine gcT Tk Tryz.func124 rfl ?_
  refine zai Tk (r := ii 2) rfl rfl rfl trivial rfl rfl ?_
  rfl
 have h4 : ¬ m.init < 0 := of_decide_eq_false h4
 refine zae Tk Tryz.func124 rfl (fun h5 => ?_) (fun h5 => ?_)
 ·have := bad (.inr (.inr (.inr (of_decide_eq_true h5))))
  subst this
  refine zai Tk (r := ii 2) rfl rfl rfl trivial rfl rfl ?_
  rfl
 have h5 : ¬ m.init ≥ m.locs := of_decide_eq_false h5
 rw [if_neg (by omega)] at hR
 refine zaj Tk Tryz.func124 (zhf _ m.marked m.locs hma) rfl rfl rfl rfl rfl ?_
 refine zae Tk Tryz.func124 rfl (fun h6 => ?_) (fun h6 => ?_)
 ·have h6 := bneT h6
  rw [if_pos h6] at hR
  subst hR
  refine zai Tk (r := ii _) rfl rfl rfl trivial rfl rfl ?_
  rfl
 have h6 := bneF h6
 rw [if_neg (by simpa using h6)] at hR
 refine zaj Tk Tryz.func124 (zi5 _ m.vars hok.va hok.na) rfl rfl rfl rfl rfl ?_
 refine zae Tk Tryz.func124 rfl (fun h7 => ?_) (fun h7 => ?_)
 ·have h7 := bneT h7
  rw [if_pos h7] at hR
  subst hR
  refine zai Tk (r := ii _) rfl rfl rfl trivial rfl rfl ?_
  rfl
 have h7 := bneF h7
 rw [if_neg (by simpa using h7)] at hR
 refine zae Tk Tryz.func124 rfl (fun h8 => ?_) (fun h8 => ?_)
 ·have h8 : m.moves.length > 256 := by have := of_decide_eq_true h8; omega
  rw [if_pos h8] at hR
  subst hR
  refine zai Tk (r := ii _) rfl rfl rfl trivial rfl rfl ?_
  rfl
 have h8 : ¬ m.moves.length > 256 := by have := of_decide_eq_false h8; omega
 rw [if_neg h8] at hR
 refine zad ?_
 refine zag (fun j : Nat => [(1, .own 0 1 0 0), (54, ii m.moves.length), (55, ii j)]) (fun _ => [(1, .box (extC m))]) (fun _ => O) 65
  (fun j => j ≤ m.moves.length ∧ R = zdI m (zdx m.moves j) (m.moves.drop j)) (fun j => m.moves.length - j) 0 ⟨Nat.zero_le _, hR.symm⟩ ⟨rfl, rfl, rfl, trivial⟩ rfl ⟨rfl, trivial⟩ rfl rfl ?_
 rintro j ⟨hj, hno⟩ ih
 clear hR bad
 refine zaf Tk Tryz.func124 ?_
 refine zae Tk Tryz.func124 rfl (fun h9 => ?_) (fun h9 => ?_)
 ·have h9 : j < m.moves.length := by simpa using h9
  have hd : m.moves.drop j = m.moves[j] :: m.moves.drop (j + 1) := List.drop_eq_getElem_cons h9
  have hpj1 : zdx m.moves (j + 1) = some m.moves[j] := by rw [zdx, if_neg (by omega)]; simp [h9]
  rw [hd] at hno
  simp only [zdI] at hno
  refine zaj Tk Tryz.func124 (zj8 _ m j h9 hs hok) rfl rfl rfl rfl rfl ?_
  refine zae Tk Tryz.func124 rfl (fun h10 => ?_) (fun h10 => ?_)
  ·have h10 := bneT h10
   rw [if_pos h10] at hno
   subst hno
   refine zai Tk (r := ii _) rfl rfl rfl trivial rfl rfl ?_
   rfl
  have h10 := bneF h10
  rw [if_neg (by simpa using h10)] at hno
  refine zad ?_
  refine ih (j + 1) _ _ ⟨h9, by rw [hpj1]; exact hno⟩ (by omega) ⟨rfl, rfl, congrArg ii (zaB h9 hmo), trivial⟩ rfl ⟨rfl, trivial⟩ rfl rfl
 ·have h9 : m.moves.length ≤ j := by simpa using h9
  rw [List.drop_eq_nil_of_le h9] at hno
  simp only [zdI] at hno
  subst hno
  refine zai Tk (r := ii 0) rfl rfl rfl trivial rfl rfl ?_
  rfl
end Go.AI


namespace Go.AI
abbrev Edg := Int × Int × Int
structure Aut where
 alpha : List Int
 states : Int
 marked : List Int
 edges : List Edg
abbrev edgI (e : Edg) : List I := [vi e.1, vi e.2.1, vi e.2.2]
abbrev edgs (l : List Edg) : D := .i (.sl 3 l.length (l.map edgI))
abbrev autD (a : Aut) : D := .agg [ints a.alpha, ii a.states, ints a.marked, edgs a.edges]
def zcd (alpha : List Int) (n : Int) : Option Edg → List Edg → Int
 | _, [] => 0
 | prev, x :: r => if x.1 < 0 ∨ x.1 ≥ n ∨ x.2.2 < 0 ∨ x.2.2 ≥ n then 2 else if x.2.1 ∉ alpha then 9 else
  if prev.any (fun y => decide (x.1 < y.1 ∨ x.1 = y.1 ∧ x.2.1 ≤ y.2.1)) = true then 5 else zcd alpha n (some x) r
def chkA (a : Aut) : Int := if zal 32 a.alpha none ≠ 0 then zal 32 a.alpha none else if a.states < 0 then 2 else if a.states > 4096 then 3 else
 if zal a.states a.marked none ≠ 0 then zal a.states a.marked none else zcd a.alpha a.states none a.edges
def ltE (x y : Edg) : Prop := x.1 < y.1 ∨ x.1 = y.1 ∧ x.2.1 < y.2.1
theorem zoF {x y z : Edg} (h : ltE x y) (h' : ltE y z) : ltE x z := by
 unfold ltE at *
 omega
theorem zgl {alpha : List Int} {n : Int} : ∀ {l : List Edg} {p : Option Edg}, l.Pairwise ltE → (∀ x ∈ l, (0 ≤ x.1 ∧ x.1 < n) ∧ (0 ≤ x.2.2 ∧ x.2.2 < n) ∧ x.2.1 ∈ alpha) → (∀ y, p = some y → ∀ x ∈ l, ltE y x) → zcd alpha n p l = 0
 | [], _, _, _, _ => rfl
 | x :: r, p, hp, hb, hy => by
  rw [List.pairwise_cons] at hp
  have hx := hb x (by simp)
  simp only [zcd]
  rw [if_neg (by omega), if_neg (by simpa using hx.2.2), if_neg]
  ·exact zgl hp.2 (fun z hz => hb z (by simp [hz])) (fun y e z hz => by cases e; exact hp.1 z hz)
  ·cases p with
   | none => simp
   | some y =>
    have := hy y rfl x (by simp)
    unfold ltE at this
    simp only [Option.any_some, decide_eq_true_eq]
    omega
theorem za8 {alpha : List Int} {n : Int} : ∀ {l : List Edg} {p : Option Edg}, zcd alpha n p l = 0 → l.Pairwise ltE ∧ (∀ x ∈ l, (0 ≤ x.1 ∧ x.1 < n) ∧ (0 ≤ x.2.2 ∧ x.2.2 < n) ∧ x.2.1 ∈ alpha) ∧ ∀ y, p = some y → ∀ x ∈ l, ltE y x
 | [], p, _ => ⟨.nil, by simp, by simp⟩
 | x :: r, p, h => by
  simp only [zcd] at h
  split at h
  ·cases h
  rename_i h1
  split at h
  ·cases h
  rename_i h2
  split at h
  ·cases h
  rename_i h3
  obtain ⟨i1, i2, i3⟩ := za8 h
  refine ⟨List.pairwise_cons.2 ⟨fun z hz => i3 x rfl z hz, i1⟩, ?_, ?_⟩
  ·intro z hz
   rcases List.mem_cons.1 hz with rfl | hz
   ·exact ⟨by omega, by omega, by simpa using h2⟩
   ·exact i2 z hz
  ·rintro y rfl z hz
   simp only [Option.any_some, decide_eq_true_eq] at h3
   have hxy : ltE y x := by unfold ltE; omega
   rcases List.mem_cons.1 hz with rfl | hz
   ·exact hxy
   ·exact zoF hxy (i3 x rfl z hz)
end Go.AI


namespace Go.AI
def mrgR (k : Bool → Bool → Bool) (a b : List Int) : List Int := match a, b with
 | [], [] => []
 | x :: a, [] => (if k true false = true then [x] else []) ++ mrgR k a []
 | [], y :: b => (if k false true = true then [y] else []) ++ mrgR k [] b
 | x :: a, y :: b => if x < y then (if k true false = true then [x] else []) ++ mrgR k a (y :: b) else if y < x then (if k false true = true then [y] else []) ++ mrgR k (x :: a) b else (if k true true = true then [x] else []) ++ mrgR k a b
termination_by a.length + b.length
theorem zci (k : Bool → Bool → Bool) : ∀ (n : Nat) (a b : List Int), a.length + b.length ≤ n → a.Pairwise (· < ·) → b.Pairwise (· < ·) →
  (∀ x, x ∈ mrgR k a b ↔ (x ∈ a ∨ x ∈ b) ∧ k (decide (x ∈ a)) (decide (x ∈ b)) = true) ∧ (mrgR k a b).Pairwise (· < ·) ∧ (mrgR k a b).length ≤ a.length + b.length
 | n, [], [], _, _, _ => by rw [mrgR]; simp
 | 0, _ :: _, _, h, _, _ => by simp at h
 | 0, [], _ :: _, h, _, _ => by simp at h
 | n + 1, x :: a, [], h, ha, hb => by
  rw [List.pairwise_cons] at ha
  obtain ⟨h1, h2, h3⟩ := zci k n a [] (by simp at h ⊢; omega) ha.2 hb
  have hx : x ∉ a := fun hx => by have := ha.1 x hx; omega
  rw [mrgR]
  refine ⟨fun z => ?_, ?_, ?_⟩
  ·rw [List.mem_append, h1]
   by_cases e : z = x
   ·subst e; cases hk : k true false <;> simp [hx, hk]
   ·have : ¬ z ∈ (if k true false = true then [x] else []) := by split <;> simp [e]
    simp [this, e]
  ·rw [List.pairwise_append]
   refine ⟨by split <;> simp, h2, fun p hp q hq => ?_⟩
   have hp : p = x := by split at hp <;> simp at hp; exact hp
   subst hp
   exact ha.1 q (by have := ((h1 q).1 hq).1; simpa using this)
  ·rw [List.length_append]
   have : (if k true false = true then [x] else []).length ≤ 1 := by split <;> simp
   simp at h3 ⊢
   omega
 | n + 1, [], y :: b, h, ha, hb => by
  rw [List.pairwise_cons] at hb
  obtain ⟨h1, h2, h3⟩ := zci k n [] b (by simp at h ⊢; omega) ha hb.2
  have hx : y ∉ b := fun hx => by have := hb.1 y hx; omega
  rw [mrgR]
  refine ⟨fun z => ?_, ?_, ?_⟩
  ·rw [List.mem_append, h1]
   by_cases e : z = y
   ·subst e; cases hk : k false true <;> simp [hx, hk]
   ·have : ¬ z ∈ (if k false true = true then [y] else []) := by split <;> simp [e]
    simp [this, e]
  ·rw [List.pairwise_append]
   refine ⟨by split <;> simp, h2, fun p hp q hq => ?_⟩
   have hp : p = y := by split at hp <;> simp at hp; exact hp
   subst hp
   exact hb.1 q (by have := ((h1 q).1 hq).1; simpa using this)
  ·rw [List.length_append]
   have : (if k false true = true then [y] else []).length ≤ 1 := by split <;> simp
   simp at h3 ⊢
   omega
 | n + 1, x :: a, y :: b, h, ha', hb' => by
  have ha := List.pairwise_cons.1 ha'
  have hb := List.pairwise_cons.1 hb'
  have hxa : x ∉ a := fun hx => by have := ha.1 x hx; omega
  have hyb : y ∉ b := fun hx => by have := hb.1 y hx; omega
  rw [mrgR]
  by_cases c1 : x < y
  ·rw [if_pos c1]
   obtain ⟨h1, h2, h3⟩ := zci k n a (y :: b) (by simp at h ⊢; omega) ha.2 hb'
   have hxb : x ∉ y :: b := fun hx => by
    rcases List.mem_cons.1 hx with rfl | hx
    ·omega
    ·have := hb.1 x hx; omega
   refine ⟨fun z => ?_, ?_, ?_⟩
   ·rw [List.mem_append, h1]
    by_cases e : z = x
    ·subst e; cases hk : k true false <;> simp [hxa, hxb, hk]
    ·have : ¬ z ∈ (if k true false = true then [x] else []) := by split <;> simp [e]
     simp [this, e]
   ·rw [List.pairwise_append]
    refine ⟨by split <;> simp, h2, fun p hp q hq => ?_⟩
    have hp : p = x := by split at hp <;> simp at hp; exact hp
    subst hp
    rcases ((h1 q).1 hq).1 with hq | hq
    ·exact ha.1 q hq
    ·rcases List.mem_cons.1 hq with rfl | hq
     ·exact c1
     ·have := hb.1 q hq; omega
   ·rw [List.length_append]
    have : (if k true false = true then [x] else []).length ≤ 1 := by split <;> simp
    simp at h3 ⊢
    omega
  ·rw [if_neg c1]
   by_cases c2 : y < x
   ·rw [if_pos c2]
    obtain ⟨h1, h2, h3⟩ := zci k n (x :: a) b (by simp at h ⊢; omega) ha' hb.2
    have hya : y ∉ x :: a := fun hx => by
     rcases List.mem_cons.1 hx with rfl | hx
     ·omega
     ·have := ha.1 y hx; omega
    refine ⟨fun z => ?_, ?_, ?_⟩
    ·rw [List.mem_append, h1]
     by_cases e : z = y
     ·subst e; cases hk : k false true <;> simp [hya, hyb, hk]
     ·have : ¬ z ∈ (if k false true = true then [y] else []) := by split <;> simp [e]
      simp [this, e]
    ·rw [List.pairwise_append]
     refine ⟨by split <;> simp, h2, fun p hp q hq => ?_⟩
     have hp : p = y := by split at hp <;> simp at hp; exact hp
     subst hp
     rcases ((h1 q).1 hq).1 with hq | hq
     ·rcases List.mem_cons.1 hq with rfl | hq
      ·exact c2
      ·have := ha.1 q hq; omega
     ·exact hb.1 q hq
    ·rw [List.length_append]
     have : (if k false true = true then [y] else []).length ≤ 1 := by split <;> simp
     simp at h3 ⊢
     omega
   ·rw [if_neg c2]
    have e : x = y := by omega
    subst e
    obtain ⟨h1, h2, h3⟩ := zci k n a b (by simp at h ⊢; omega) ha.2 hb.2
    refine ⟨fun z => ?_, ?_, ?_⟩
    ·rw [List.mem_append, h1]
     by_cases e : z = x
     ·subst e; cases hk : k true true <;> simp [hxa, hyb, hk]
     ·have : ¬ z ∈ (if k true true = true then [x] else []) := by split <;> simp [e]
      simp [this, e]
    ·rw [List.pairwise_append]
     refine ⟨by split <;> simp, h2, fun p hp q hq => ?_⟩
     have hp : p = x := by split at hp <;> simp at hp; exact hp
     subst hp
     rcases ((h1 q).1 hq).1 with hq | hq
     ·exact ha.1 q hq
     ·exact hb.1 q hq
    ·rw [List.length_append]
     have : (if k true true = true then [x] else []).length ≤ 1 := by split <;> simp
     simp at h3 ⊢
     omega
theorem zgK : ∀ {a b : List Int}, a.Pairwise (· < ·) → b.Pairwise (· < ·) → (∀ x, x ∈ a ↔ x ∈ b) → a = b
 | [], [], _, _, _ => rfl
 | [], y :: b, _, _, h => absurd ((h y).2 (by simp)) (by simp)
 | x :: a, [], _, _, h => absurd ((h x).1 (by simp)) (by simp)
 | x :: a, y :: b, ha, hb, h => by
  rw [List.pairwise_cons] at ha hb
  have hxy : x = y := by
   have h1 := (h x).1 (by simp)
   have h2 := (h y).2 (by simp)
   rcases List.mem_cons.1 h1 with e | e1
   ·exact e
   rcases List.mem_cons.1 h2 with e | e2
   ·exact e.symm
   have := hb.1 x e1
   have := ha.1 y e2
   omega
  subst hxy
  rw [zgK ha.2 hb.2 fun z => ?_]
  have hz := h z
  simp only [List.mem_cons] at hz
  constructor
  ·intro m
   rcases hz.1 (.inr m) with e | e
   ·have := ha.1 z m; omega
   ·exact e
  ·intro m
   rcases hz.2 (.inr m) with e | e
   ·have := hb.1 z m; omega
   ·exact e
abbrev orK (p q : Bool) : Bool := p || q
theorem ztc {a b : List Int} (ha : a.Pairwise (· < ·)) (hb : b.Pairwise (· < ·)) (x : Int) : x ∈ mrgR orK a b ↔ x ∈ a ∨ x ∈ b := by
 rw [(zci orK _ a b (Nat.le_refl _) ha hb).1]
 simp [orK]
end Go.AI
