/- The layer of abstract runs, part 45. -/
import Derived.Test.YtdehnnadfbildaaGreatDoorStpZR
set_option linter.unusedSimpArgs false
set_option linter.unusedVariables false
set_option linter.all false

/- FlattenSteps. -/
namespace Go.AI
open Go.Proofs
set_option maxRecDepth 20000
theorem stepO_zero {l : List Ext} {o : Org} {ev : Int} (h : (stepO l o ev).2.1 = false) : (stepO l o ev).1 = zeroO := by
  unfold stepO at h ⊢
  generalize pickO o ev l 0 [] = P at *
  cases P with
  | error e => rfl
  | ok ps =>
    simp only at h ⊢
    by_cases hc : canO ps = false
    · rw [if_pos hc]
    · rw [if_neg hc] at h ⊢
      generalize asgM (l.getD 0 ⟨[], 0, 0, [], [], []⟩).vars o.vals (mvsO l ps) o.vals [] = A at *
      cases A with
      | error e => rfl
      | ok p => cases h
theorem stepO_len {l : List Ext} (hj : jMade l) {o : Org} (ho : okO l o) (ev : Int) : (stepO l o ev).1.locs.length ≤ max63 ∧ (stepO l o ev).1.vals.length ≤ max63 := by
  cases hp : (stepO l o ev).2.1 with
  | false => rw [stepO_zero hp]; exact ⟨Nat.zero_le _, Nat.zero_le _⟩
  | true =>
    have h := stepO_ok hj.jn.right ho hp
    have h1 := jnt_vals hj.jn h
    have h2 := jnt_v16 hj.jn
    have h3 := hj.jn.len
    simp only [max63]
    omega
theorem zeroSame (O : List Heap) : ASpec Tryz.prog 14 [orgD zeroO, .agg [.i (.v (.slice none 0 0)), .i (.v (.slice none 0 0))]] O (bb true) [] O := by
  refine (sameO_refl O zeroO (Nat.zero_le _) (Nat.zero_le _)).co (.cons (CoD.refl _) (.cons ?_ .nil))
  show CoD _ (.agg [.i (.sl 1 0 []), .i (.sl 1 0 [])])
  repeat' (first | refine coD_tup ?_ | refine coD_agg ?_ | refine coD_i ?_ | refine CoDL.cons ?_ ?_ | exact CoDL.nil | exact coI_nil | refine coI_sl ?_ | refine CoLL.cons ?_ ?_ | exact CoLL.nil | refine CoL.cons ?_ ?_ | exact CoL.nil | exact CoI.refl _ | exact CoL.refl _ | exact CoLL.refl _ | exact CoDL.refl _ | exact CoD.refl _)
set_option maxHeartbeats 8000000 in
theorem steps6 {g : Nat} (hg : IsTab g) {ty : TypeId} {fr : Nat × Nat} (O : List Heap) (a b : Sk) (o : Org) (ev : Int) (ha : skOk a) (hb : skOk b) (h1 : o.locs.length ≤ max63) (h2 : o.vals.length ≤ max63) : ASpecT g (ptab ty fr) Tryz.prog 6 [pairD a b, orgD o, ii ev] O (bb true) [] O := by
  have hkn := fun O => known48 hg (ty := ty) (fr := fr) O
  have hli := fun O => list9 O a b 1 ha hb (by decide)
  have hj : jMade [makeR a, keptM (makeR ⟨b.locs, b.marks, a.rngs, b.lines⟩)] := pair_made ha hb 1
  have hpl : pairL a b 1 = [makeR a, keptM (makeR ⟨b.locs, b.marks, a.rngs, b.lines⟩)] := rfl
  rw [hpl] at hli
  clear hpl
  generalize keptM (makeR ⟨b.locs, b.marks, a.rngs, b.lines⟩) = m2 at *
  generalize makeR a = m1 at *
  obtain ⟨al, am, ar, an⟩ := a
  obtain ⟨bl, bm, br, bn⟩ := b
  have hcJ := chkJ_made hj
  have hev := (events_made hj).1
  have hck := fun O => checkOrigin23 O [m1, m2] o hj.jn.ok (by simp [max63])
  have hsp := fun O => Step26 O [m1, m2] o ev hj.jn.ok (by simp [max63]) (fun _ => (events_made hj).2)
  have hsr := fun O => start25 O [m1, m2] (by simp) (by simp) (jnt_v16 hj.jn)
  have heo : ∀ O, ASpec Tryz.prog 24 [orgD o, orgD o] O (bb true) [] O := fun O => by
    have h := equalOrigins24 O o o h1 h2
    rwa [decide_eq_true rfl] at h
  have hes := fun O => equalOrigins24 O o (startO [m1, m2]) h1 h2
  have hso := fun O => sameOrigin14 O o (startO [m1, m2]) h1 h2
  have hz := fun O => zeroSame O
  have hwi := fun O => within52 O m1.vars o.vals (by have := jnt_v16 hj.jn; simp only [max63]; show m1.vars.length ≤ _; have e : vars0 [m1, m2] = m1.vars := rfl; rw [e] at this; omega)
  have hSR : StepR [m1, m2] o ev = if chkO [m1, m2] o ≠ 0 then (zeroO, false, chkO [m1, m2] o) else if ev ∉ ([0, 1, 2] : List Int) then (zeroO, false, 9) else stepO [m1, m2] o ev := by
    unfold StepR; rw [hev]
  have hok0 := @chkO_ok [m1, m2] o
  have hsl := fun ho O => stepL27 O [m1, m2] o ev hj ho
  have hln := fun (ho : okO [m1, m2] o) => stepO_len hj ho ev
  have hW : chkO [m1, m2] o = if o.locs.length ≠ 2 ∨ o.vals.length ≠ m1.vars.length then 4 else if rngL [m1, m2] o.locs = false then 2 else if within m1.vars o.vals = false then 2 else 0 := by
    unfold chkO
    rw [hcJ, if_neg (by simp)]
    rfl
  generalize chkO [m1, m2] o = W at *
  generalize StepR [m1, m2] o ev = N at *
  generalize hD : decide (o = startO [m1, m2]) = D1 at *
  generalize startO [m1, m2] = st at *
  generalize stepO [m1, m2] o ev = Q at *
  obtain ⟨sl, sv⟩ := st
  obtain ⟨⟨ql, qv⟩, qp, qe⟩ := Q
  obtain ⟨xl, xv⟩ := o
  simp only at hW h1 h2 hwi hsl hln
  refine aspecT_stop [9, 14] Tk Tryz.func6 rfl Tryz.call6 Tryz.ntmps6 (Nat.le_of_ble_eq_true rfl) fun E hE => ?_
  refine g_run Tk Tryz.func6 ?_
  refine g_callT Tk Tryz.func6 hE (hkn _) rfl rfl rfl rfl rfl rfl ?_
  repeat (first | refine g_cnd Tk Tryz.func6 rfl (fun _ => ?_) (fun h => absurd h (by decide)) | refine g_know Tk Tryz.func6 rfl (fun _ => ?_) (fun h => absurd h (by decide)) | refine s_know Tk (fun _ => ?_) (fun h => absurd h (by decide)) | refine g_cnd Tk Tryz.func6 rfl (fun h => absurd h (by decide)) (fun _ => ?_) | refine g_know Tk Tryz.func6 rfl (fun h => absurd h (by decide)) (fun _ => ?_) | refine s_know Tk (fun h => absurd h (by decide)) (fun _ => ?_) | refine g_cnd Tk Tryz.func6 rfl (fun _ => ?_) (fun h => absurd (show true = false from h) (by decide)) | refine g_know Tk Tryz.func6 rfl (fun _ => ?_) (fun h => absurd (show true = false from h) (by decide)) | refine s_know Tk (fun _ => ?_) (fun h => absurd (show true = false from h) (by decide)) | refine g_cnd Tk Tryz.func6 rfl (fun h => absurd (show false = true from h) (by decide)) (fun _ => ?_) | refine g_know Tk Tryz.func6 rfl (fun h => absurd (show false = true from h) (by decide)) (fun _ => ?_) | refine s_know Tk (fun h => absurd (show false = true from h) (by decide)) (fun _ => ?_))
  first | refine g_cnd Tk Tryz.func6 rfl (fun g1 => ?_) (fun g1 => ?_) | refine g_know Tk Tryz.func6 rfl (fun g1 => ?_) (fun g1 => ?_) | refine s_know Tk (fun g1 => ?_) (fun g1 => ?_)
  · repeat (first | refine g_cnd Tk Tryz.func6 rfl (fun _ => ?_) (fun h => absurd h (by decide)) | refine g_know Tk Tryz.func6 rfl (fun _ => ?_) (fun h => absurd h (by decide)) | refine s_know Tk (fun _ => ?_) (fun h => absurd h (by decide)) | refine g_cnd Tk Tryz.func6 rfl (fun h => absurd h (by decide)) (fun _ => ?_) | refine g_know Tk Tryz.func6 rfl (fun h => absurd h (by decide)) (fun _ => ?_) | refine s_know Tk (fun h => absurd h (by decide)) (fun _ => ?_) | refine g_cnd Tk Tryz.func6 rfl (fun _ => ?_) (fun h => absurd (show true = false from h) (by decide)) | refine g_know Tk Tryz.func6 rfl (fun _ => ?_) (fun h => absurd (show true = false from h) (by decide)) | refine s_know Tk (fun _ => ?_) (fun h => absurd (show true = false from h) (by decide)) | refine g_cnd Tk Tryz.func6 rfl (fun h => absurd (show false = true from h) (by decide)) (fun _ => ?_) | refine g_know Tk Tryz.func6 rfl (fun h => absurd (show false = true from h) (by decide)) (fun _ => ?_) | refine s_know Tk (fun h => absurd (show false = true from h) (by decide)) (fun _ => ?_))
    refine g_callT Tk Tryz.func6 hE (hkn _) rfl rfl rfl rfl rfl rfl ?_
    refine g_ret Tk (r := bb true) rfl rfl rfl trivial rfl rfl ?_
    rfl
  first | refine g_cnd Tk Tryz.func6 rfl (fun g2 => ?_) (fun g2 => ?_) | refine g_know Tk Tryz.func6 rfl (fun g2 => ?_) (fun g2 => ?_) | refine s_know Tk (fun g2 => ?_) (fun g2 => ?_)
  · refine g_callT Tk Tryz.func6 hE (hkn _) rfl rfl rfl rfl rfl rfl ?_
    refine g_ret Tk (r := bb true) rfl rfl rfl trivial rfl rfl ?_
    rfl
  clear g1 g2
  first | refine g_call Tk Tryz.func6 (hli _) rfl rfl rfl rfl rfl ?_ | refine s_callq Tk (fun _ => hli _) rfl rfl rfl ?_
  have n0 : 0 ≤ (0 : Int) ∧ (0 : Int) < (([m1, m2] : List Ext).length : Int) := ⟨by decide, by show (0 : Int) < 2; decide⟩
  have n1 : 0 ≤ (1 : Int) ∧ (1 : Int) < (([m1, m2] : List Ext).length : Int) := ⟨by decide, by show (1 : Int) < 2; decide⟩
  have g0 : (([m1, m2] : List Ext).map extI)[(0 : Int).toNat]? = some (extI m1) := rfl
  have g1 : (([m1, m2] : List Ext).map extI)[(1 : Int).toNat]? = some (extI m2) := rfl
  apply join_p (P := True) (s6 := { σ := [(2, ii ev), (4, .own 0 4 0 0), (7, exts [m1, m2]), (8, ii W)], S := [(4, .box [ints xl, ints xv])] :: O, n := 168 })
  · intro J
    refine g_drawn Tk Tryz.func6 mixedT rfl ?_
    first | refine g_cnd Tk Tryz.func6 rfl (fun c1 => ?_) (fun c1 => ?_) | refine g_know Tk Tryz.func6 rfl (fun c1 => ?_) (fun c1 => ?_) | refine s_know Tk (fun c1 => ?_) (fun c1 => ?_)
    · have c1 : xl.length ≠ 2 := by have : (xl.length : Int) ≠ 2 := bneT c1; omega
      rw [if_pos (.inl c1)] at hW
      refine e_done Tk Tryz.func6 (by kernel_rfl) ?_
      repeat (first | refine g_cnd Tk Tryz.func6 rfl (fun _ => ?_) (fun h => absurd h (by decide)) | refine g_know Tk Tryz.func6 rfl (fun _ => ?_) (fun h => absurd h (by decide)) | refine s_know Tk (fun _ => ?_) (fun h => absurd h (by decide)) | refine g_cnd Tk Tryz.func6 rfl (fun h => absurd h (by decide)) (fun _ => ?_) | refine g_know Tk Tryz.func6 rfl (fun h => absurd h (by decide)) (fun _ => ?_) | refine s_know Tk (fun h => absurd h (by decide)) (fun _ => ?_) | refine g_cnd Tk Tryz.func6 rfl (fun _ => ?_) (fun h => absurd (show true = false from h) (by decide)) | refine g_know Tk Tryz.func6 rfl (fun _ => ?_) (fun h => absurd (show true = false from h) (by decide)) | refine s_know Tk (fun _ => ?_) (fun h => absurd (show true = false from h) (by decide)) | refine g_cnd Tk Tryz.func6 rfl (fun h => absurd (show false = true from h) (by decide)) (fun _ => ?_) | refine g_know Tk Tryz.func6 rfl (fun h => absurd (show false = true from h) (by decide)) (fun _ => ?_) | refine s_know Tk (fun h => absurd (show false = true from h) (by decide)) (fun _ => ?_))
      refine g_stop ?_
      refine rch_meet (J trivial) ⟨rfl, rfl, rfl, congrArg ii hW.symm, trivial⟩ rfl ⟨rfl, trivial⟩ rfl rfl
    have c1 : xl.length = 2 := by have : (xl.length : Int) = 2 := bneF c1; omega
    first | refine g_need Tk Tryz.func6 (n0) ?_ | refine s_need Tk (n0) ?_
    first | refine g_elem Tk Tryz.func6 (g0) ?_ | refine s_elem Tk (g0) ?_
    refine e_done Tk Tryz.func6 (by kernel_rfl) ?_
    first | refine g_cnd Tk Tryz.func6 rfl (fun c2 => ?_) (fun c2 => ?_) | refine g_know Tk Tryz.func6 rfl (fun c2 => ?_) (fun c2 => ?_) | refine s_know Tk (fun c2 => ?_) (fun c2 => ?_)
    · have c2 : xv.length ≠ m1.vars.length := by have : (xv.length : Int) ≠ m1.vars.length := bneT c2; omega
      rw [if_pos (.inr c2)] at hW
      refine g_stop ?_
      refine rch_meet (J trivial) ⟨rfl, rfl, rfl, congrArg ii hW.symm, trivial⟩ rfl ⟨rfl, trivial⟩ rfl rfl
    have c2 : xv.length = m1.vars.length := by have : (xv.length : Int) = m1.vars.length := bneF c2; omega
    rw [if_neg (by omega)] at hW
    obtain ⟨x, y, hxl⟩ : ∃ x y, xl = [x, y] := by
      match xl, c1 with
      | [x, y], _ => exact ⟨x, y, rfl⟩
    have hR : rngL [m1, m2] xl = (!(decide (x < 0) || decide (x ≥ m1.locs)) && (!(decide (y < 0) || decide (y ≥ m2.locs)) && true)) := by rw [hxl]; rfl
    rw [hR] at hW
    clear hR
    have p0 : 0 ≤ (0 : Int) ∧ (0 : Int) < (xl.length : Int) := by omega
    have p1 : 0 ≤ (1 : Int) ∧ (1 : Int) < (xl.length : Int) := by omega
    have e0 : (xl.map fun x => [vi x])[(0 : Int).toNat]? = some [vi x] := by rw [hxl]; rfl
    have e1 : (xl.map fun x => [vi x])[(1 : Int).toNat]? = some [vi y] := by rw [hxl]; rfl
    have bad : (!(decide (x < 0) || decide (x ≥ m1.locs)) && (!(decide (y < 0) || decide (y ≥ m2.locs)) && true)) = false → W = 2 := fun h => by rw [hW, if_pos h]
    refine g_drawn Tk Tryz.func6 mixedT rfl ?_
    first | refine g_need Tk Tryz.func6 (p0) ?_ | refine s_need Tk (p0) ?_
    first | refine g_elem Tk Tryz.func6 (e0) ?_ | refine s_elem Tk (e0) ?_
    first | refine g_cnd Tk Tryz.func6 rfl (fun c3 => ?_) (fun c3 => ?_) | refine g_know Tk Tryz.func6 rfl (fun c3 => ?_) (fun c3 => ?_) | refine s_know Tk (fun c3 => ?_) (fun c3 => ?_)
    · have := bad (by rw [c3]; rfl)
      repeat (first | refine g_cnd Tk Tryz.func6 rfl (fun _ => ?_) (fun h => absurd h (by decide)) | refine g_know Tk Tryz.func6 rfl (fun _ => ?_) (fun h => absurd h (by decide)) | refine s_know Tk (fun _ => ?_) (fun h => absurd h (by decide)) | refine g_cnd Tk Tryz.func6 rfl (fun h => absurd h (by decide)) (fun _ => ?_) | refine g_know Tk Tryz.func6 rfl (fun h => absurd h (by decide)) (fun _ => ?_) | refine s_know Tk (fun h => absurd h (by decide)) (fun _ => ?_) | refine g_cnd Tk Tryz.func6 rfl (fun _ => ?_) (fun h => absurd (show true = false from h) (by decide)) | refine g_know Tk Tryz.func6 rfl (fun _ => ?_) (fun h => absurd (show true = false from h) (by decide)) | refine s_know Tk (fun _ => ?_) (fun h => absurd (show true = false from h) (by decide)) | refine g_cnd Tk Tryz.func6 rfl (fun h => absurd (show false = true from h) (by decide)) (fun _ => ?_) | refine g_know Tk Tryz.func6 rfl (fun h => absurd (show false = true from h) (by decide)) (fun _ => ?_) | refine s_know Tk (fun h => absurd (show false = true from h) (by decide)) (fun _ => ?_))
      refine e_done Tk Tryz.func6 (by kernel_rfl) ?_
      repeat (first | refine g_cnd Tk Tryz.func6 rfl (fun _ => ?_) (fun h => absurd h (by decide)) | refine g_know Tk Tryz.func6 rfl (fun _ => ?_) (fun h => absurd h (by decide)) | refine s_know Tk (fun _ => ?_) (fun h => absurd h (by decide)) | refine g_cnd Tk Tryz.func6 rfl (fun h => absurd h (by decide)) (fun _ => ?_) | refine g_know Tk Tryz.func6 rfl (fun h => absurd h (by decide)) (fun _ => ?_) | refine s_know Tk (fun h => absurd h (by decide)) (fun _ => ?_) | refine g_cnd Tk Tryz.func6 rfl (fun _ => ?_) (fun h => absurd (show true = false from h) (by decide)) | refine g_know Tk Tryz.func6 rfl (fun _ => ?_) (fun h => absurd (show true = false from h) (by decide)) | refine s_know Tk (fun _ => ?_) (fun h => absurd (show true = false from h) (by decide)) | refine g_cnd Tk Tryz.func6 rfl (fun h => absurd (show false = true from h) (by decide)) (fun _ => ?_) | refine g_know Tk Tryz.func6 rfl (fun h => absurd (show false = true from h) (by decide)) (fun _ => ?_) | refine s_know Tk (fun h => absurd (show false = true from h) (by decide)) (fun _ => ?_))
      refine g_stop ?_
      refine rch_meet (J trivial) ⟨rfl, rfl, rfl, congrArg ii this.symm, trivial⟩ rfl ⟨rfl, trivial⟩ rfl rfl
    first | refine g_need Tk Tryz.func6 (p0) ?_ | refine s_need Tk (p0) ?_
    first | refine g_elem Tk Tryz.func6 (e0) ?_ | refine s_elem Tk (e0) ?_
    first | refine g_need Tk Tryz.func6 (n0) ?_ | refine s_need Tk (n0) ?_
    first | refine g_elem Tk Tryz.func6 (g0) ?_ | refine s_elem Tk (g0) ?_
    first | refine g_cnd Tk Tryz.func6 rfl (fun c4 => ?_) (fun c4 => ?_) | refine g_know Tk Tryz.func6 rfl (fun c4 => ?_) (fun c4 => ?_) | refine s_know Tk (fun c4 => ?_) (fun c4 => ?_)
    · have := bad (by rw [c4]; simp)
      repeat (first | refine g_cnd Tk Tryz.func6 rfl (fun _ => ?_) (fun h => absurd h (by decide)) | refine g_know Tk Tryz.func6 rfl (fun _ => ?_) (fun h => absurd h (by decide)) | refine s_know Tk (fun _ => ?_) (fun h => absurd h (by decide)) | refine g_cnd Tk Tryz.func6 rfl (fun h => absurd h (by decide)) (fun _ => ?_) | refine g_know Tk Tryz.func6 rfl (fun h => absurd h (by decide)) (fun _ => ?_) | refine s_know Tk (fun h => absurd h (by decide)) (fun _ => ?_) | refine g_cnd Tk Tryz.func6 rfl (fun _ => ?_) (fun h => absurd (show true = false from h) (by decide)) | refine g_know Tk Tryz.func6 rfl (fun _ => ?_) (fun h => absurd (show true = false from h) (by decide)) | refine s_know Tk (fun _ => ?_) (fun h => absurd (show true = false from h) (by decide)) | refine g_cnd Tk Tryz.func6 rfl (fun h => absurd (show false = true from h) (by decide)) (fun _ => ?_) | refine g_know Tk Tryz.func6 rfl (fun h => absurd (show false = true from h) (by decide)) (fun _ => ?_) | refine s_know Tk (fun h => absurd (show false = true from h) (by decide)) (fun _ => ?_))
      refine e_done Tk Tryz.func6 (by kernel_rfl) ?_
      repeat (first | refine g_cnd Tk Tryz.func6 rfl (fun _ => ?_) (fun h => absurd h (by decide)) | refine g_know Tk Tryz.func6 rfl (fun _ => ?_) (fun h => absurd h (by decide)) | refine s_know Tk (fun _ => ?_) (fun h => absurd h (by decide)) | refine g_cnd Tk Tryz.func6 rfl (fun h => absurd h (by decide)) (fun _ => ?_) | refine g_know Tk Tryz.func6 rfl (fun h => absurd h (by decide)) (fun _ => ?_) | refine s_know Tk (fun h => absurd h (by decide)) (fun _ => ?_) | refine g_cnd Tk Tryz.func6 rfl (fun _ => ?_) (fun h => absurd (show true = false from h) (by decide)) | refine g_know Tk Tryz.func6 rfl (fun _ => ?_) (fun h => absurd (show true = false from h) (by decide)) | refine s_know Tk (fun _ => ?_) (fun h => absurd (show true = false from h) (by decide)) | refine g_cnd Tk Tryz.func6 rfl (fun h => absurd (show false = true from h) (by decide)) (fun _ => ?_) | refine g_know Tk Tryz.func6 rfl (fun h => absurd (show false = true from h) (by decide)) (fun _ => ?_) | refine s_know Tk (fun h => absurd (show false = true from h) (by decide)) (fun _ => ?_))
      refine g_stop ?_
      refine rch_meet (J trivial) ⟨rfl, rfl, rfl, congrArg ii this.symm, trivial⟩ rfl ⟨rfl, trivial⟩ rfl rfl
    first | refine g_need Tk Tryz.func6 (p1) ?_ | refine s_need Tk (p1) ?_
    first | refine g_elem Tk Tryz.func6 (e1) ?_ | refine s_elem Tk (e1) ?_
    first | refine g_cnd Tk Tryz.func6 rfl (fun c5 => ?_) (fun c5 => ?_) | refine g_know Tk Tryz.func6 rfl (fun c5 => ?_) (fun c5 => ?_) | refine s_know Tk (fun c5 => ?_) (fun c5 => ?_)
    · have := bad (by rw [c5]; simp)
      repeat (first | refine g_cnd Tk Tryz.func6 rfl (fun _ => ?_) (fun h => absurd h (by decide)) | refine g_know Tk Tryz.func6 rfl (fun _ => ?_) (fun h => absurd h (by decide)) | refine s_know Tk (fun _ => ?_) (fun h => absurd h (by decide)) | refine g_cnd Tk Tryz.func6 rfl (fun h => absurd h (by decide)) (fun _ => ?_) | refine g_know Tk Tryz.func6 rfl (fun h => absurd h (by decide)) (fun _ => ?_) | refine s_know Tk (fun h => absurd h (by decide)) (fun _ => ?_) | refine g_cnd Tk Tryz.func6 rfl (fun _ => ?_) (fun h => absurd (show true = false from h) (by decide)) | refine g_know Tk Tryz.func6 rfl (fun _ => ?_) (fun h => absurd (show true = false from h) (by decide)) | refine s_know Tk (fun _ => ?_) (fun h => absurd (show true = false from h) (by decide)) | refine g_cnd Tk Tryz.func6 rfl (fun h => absurd (show false = true from h) (by decide)) (fun _ => ?_) | refine g_know Tk Tryz.func6 rfl (fun h => absurd (show false = true from h) (by decide)) (fun _ => ?_) | refine s_know Tk (fun h => absurd (show false = true from h) (by decide)) (fun _ => ?_))
      refine e_done Tk Tryz.func6 (by kernel_rfl) ?_
      repeat (first | refine g_cnd Tk Tryz.func6 rfl (fun _ => ?_) (fun h => absurd h (by decide)) | refine g_know Tk Tryz.func6 rfl (fun _ => ?_) (fun h => absurd h (by decide)) | refine s_know Tk (fun _ => ?_) (fun h => absurd h (by decide)) | refine g_cnd Tk Tryz.func6 rfl (fun h => absurd h (by decide)) (fun _ => ?_) | refine g_know Tk Tryz.func6 rfl (fun h => absurd h (by decide)) (fun _ => ?_) | refine s_know Tk (fun h => absurd h (by decide)) (fun _ => ?_) | refine g_cnd Tk Tryz.func6 rfl (fun _ => ?_) (fun h => absurd (show true = false from h) (by decide)) | refine g_know Tk Tryz.func6 rfl (fun _ => ?_) (fun h => absurd (show true = false from h) (by decide)) | refine s_know Tk (fun _ => ?_) (fun h => absurd (show true = false from h) (by decide)) | refine g_cnd Tk Tryz.func6 rfl (fun h => absurd (show false = true from h) (by decide)) (fun _ => ?_) | refine g_know Tk Tryz.func6 rfl (fun h => absurd (show false = true from h) (by decide)) (fun _ => ?_) | refine s_know Tk (fun h => absurd (show false = true from h) (by decide)) (fun _ => ?_))
      refine g_stop ?_
      refine rch_meet (J trivial) ⟨rfl, rfl, rfl, congrArg ii this.symm, trivial⟩ rfl ⟨rfl, trivial⟩ rfl rfl
    first | refine g_need Tk Tryz.func6 (p1) ?_ | refine s_need Tk (p1) ?_
    first | refine g_elem Tk Tryz.func6 (e1) ?_ | refine s_elem Tk (e1) ?_
    first | refine g_need Tk Tryz.func6 (n1) ?_ | refine s_need Tk (n1) ?_
    first | refine g_elem Tk Tryz.func6 (g1) ?_ | refine s_elem Tk (g1) ?_
    first | refine g_cnd Tk Tryz.func6 rfl (fun c6 => ?_) (fun c6 => ?_) | refine g_know Tk Tryz.func6 rfl (fun c6 => ?_) (fun c6 => ?_) | refine s_know Tk (fun c6 => ?_) (fun c6 => ?_)
    · have := bad (by rw [c6]; simp)
      repeat (first | refine g_cnd Tk Tryz.func6 rfl (fun _ => ?_) (fun h => absurd h (by decide)) | refine g_know Tk Tryz.func6 rfl (fun _ => ?_) (fun h => absurd h (by decide)) | refine s_know Tk (fun _ => ?_) (fun h => absurd h (by decide)) | refine g_cnd Tk Tryz.func6 rfl (fun h => absurd h (by decide)) (fun _ => ?_) | refine g_know Tk Tryz.func6 rfl (fun h => absurd h (by decide)) (fun _ => ?_) | refine s_know Tk (fun h => absurd h (by decide)) (fun _ => ?_) | refine g_cnd Tk Tryz.func6 rfl (fun _ => ?_) (fun h => absurd (show true = false from h) (by decide)) | refine g_know Tk Tryz.func6 rfl (fun _ => ?_) (fun h => absurd (show true = false from h) (by decide)) | refine s_know Tk (fun _ => ?_) (fun h => absurd (show true = false from h) (by decide)) | refine g_cnd Tk Tryz.func6 rfl (fun h => absurd (show false = true from h) (by decide)) (fun _ => ?_) | refine g_know Tk Tryz.func6 rfl (fun h => absurd (show false = true from h) (by decide)) (fun _ => ?_) | refine s_know Tk (fun h => absurd (show false = true from h) (by decide)) (fun _ => ?_))
      refine e_done Tk Tryz.func6 (by kernel_rfl) ?_
      repeat (first | refine g_cnd Tk Tryz.func6 rfl (fun _ => ?_) (fun h => absurd h (by decide)) | refine g_know Tk Tryz.func6 rfl (fun _ => ?_) (fun h => absurd h (by decide)) | refine s_know Tk (fun _ => ?_) (fun h => absurd h (by decide)) | refine g_cnd Tk Tryz.func6 rfl (fun h => absurd h (by decide)) (fun _ => ?_) | refine g_know Tk Tryz.func6 rfl (fun h => absurd h (by decide)) (fun _ => ?_) | refine s_know Tk (fun h => absurd h (by decide)) (fun _ => ?_) | refine g_cnd Tk Tryz.func6 rfl (fun _ => ?_) (fun h => absurd (show true = false from h) (by decide)) | refine g_know Tk Tryz.func6 rfl (fun _ => ?_) (fun h => absurd (show true = false from h) (by decide)) | refine s_know Tk (fun _ => ?_) (fun h => absurd (show true = false from h) (by decide)) | refine g_cnd Tk Tryz.func6 rfl (fun h => absurd (show false = true from h) (by decide)) (fun _ => ?_) | refine g_know Tk Tryz.func6 rfl (fun h => absurd (show false = true from h) (by decide)) (fun _ => ?_) | refine s_know Tk (fun h => absurd (show false = true from h) (by decide)) (fun _ => ?_))
      refine g_stop ?_
      refine rch_meet (J trivial) ⟨rfl, rfl, rfl, congrArg ii this.symm, trivial⟩ rfl ⟨rfl, trivial⟩ rfl rfl
    first | refine g_need Tk Tryz.func6 (n0) ?_ | refine s_need Tk (n0) ?_
    first | refine g_elem Tk Tryz.func6 (g0) ?_ | refine s_elem Tk (g0) ?_
    first | refine g_call Tk Tryz.func6 (hwi _) rfl rfl rfl rfl rfl ?_ | refine s_callq Tk (fun _ => hwi _) rfl rfl rfl ?_
    refine e_done Tk Tryz.func6 (by kernel_rfl) ?_
    rw [if_neg (by rw [c3, c4, c5, c6]; simp)] at hW
    cases hw : within m1.vars xv with
    | false =>
      rw [hw, if_pos rfl] at hW
      repeat (first | refine g_cnd Tk Tryz.func6 rfl (fun _ => ?_) (fun h => absurd h (by decide)) | refine g_know Tk Tryz.func6 rfl (fun _ => ?_) (fun h => absurd h (by decide)) | refine s_know Tk (fun _ => ?_) (fun h => absurd h (by decide)) | refine g_cnd Tk Tryz.func6 rfl (fun h => absurd h (by decide)) (fun _ => ?_) | refine g_know Tk Tryz.func6 rfl (fun h => absurd h (by decide)) (fun _ => ?_) | refine s_know Tk (fun h => absurd h (by decide)) (fun _ => ?_) | refine g_cnd Tk Tryz.func6 rfl (fun _ => ?_) (fun h => absurd (show true = false from h) (by decide)) | refine g_know Tk Tryz.func6 rfl (fun _ => ?_) (fun h => absurd (show true = false from h) (by decide)) | refine s_know Tk (fun _ => ?_) (fun h => absurd (show true = false from h) (by decide)) | refine g_cnd Tk Tryz.func6 rfl (fun h => absurd (show false = true from h) (by decide)) (fun _ => ?_) | refine g_know Tk Tryz.func6 rfl (fun h => absurd (show false = true from h) (by decide)) (fun _ => ?_) | refine s_know Tk (fun h => absurd (show false = true from h) (by decide)) (fun _ => ?_))
      refine g_stop ?_
      refine rch_meet (J trivial) ⟨rfl, rfl, rfl, congrArg ii hW.symm, trivial⟩ rfl ⟨rfl, trivial⟩ rfl rfl
    | true =>
      rw [hw, if_neg (by simp)] at hW
      repeat (first | refine g_cnd Tk Tryz.func6 rfl (fun _ => ?_) (fun h => absurd h (by decide)) | refine g_know Tk Tryz.func6 rfl (fun _ => ?_) (fun h => absurd h (by decide)) | refine s_know Tk (fun _ => ?_) (fun h => absurd h (by decide)) | refine g_cnd Tk Tryz.func6 rfl (fun h => absurd h (by decide)) (fun _ => ?_) | refine g_know Tk Tryz.func6 rfl (fun h => absurd h (by decide)) (fun _ => ?_) | refine s_know Tk (fun h => absurd h (by decide)) (fun _ => ?_) | refine g_cnd Tk Tryz.func6 rfl (fun _ => ?_) (fun h => absurd (show true = false from h) (by decide)) | refine g_know Tk Tryz.func6 rfl (fun _ => ?_) (fun h => absurd (show true = false from h) (by decide)) | refine s_know Tk (fun _ => ?_) (fun h => absurd (show true = false from h) (by decide)) | refine g_cnd Tk Tryz.func6 rfl (fun h => absurd (show false = true from h) (by decide)) (fun _ => ?_) | refine g_know Tk Tryz.func6 rfl (fun h => absurd (show false = true from h) (by decide)) (fun _ => ?_) | refine s_know Tk (fun h => absurd (show false = true from h) (by decide)) (fun _ => ?_))
      refine g_stop ?_
      refine rch_meet (J trivial) ⟨rfl, rfl, rfl, congrArg ii hW.symm, trivial⟩ rfl ⟨rfl, trivial⟩ rfl rfl
  intro _
  refine g_run Tk Tryz.func6 ?_
  refine g_go Tk Tryz.func6 ?_
  refine g_drawn Tk Tryz.func6 mixedT rfl ?_
  first | refine g_call Tk Tryz.func6 (hck _) rfl rfl rfl rfl rfl ?_ | refine s_callq Tk (fun _ => hck _) rfl rfl rfl ?_
  first | refine g_cnd Tk Tryz.func6 rfl (fun d1 => ?_) (fun d1 => ?_) | refine g_know Tk Tryz.func6 rfl (fun d1 => ?_) (fun d1 => ?_) | refine s_know Tk (fun d1 => ?_) (fun d1 => ?_)
  · exact absurd rfl (bneT d1)
  first | refine g_call Tk Tryz.func6 (heo _) rfl rfl rfl rfl rfl ?_ | refine s_callq Tk (fun _ => heo _) rfl rfl rfl ?_
  repeat (first | refine g_cnd Tk Tryz.func6 rfl (fun _ => ?_) (fun h => absurd h (by decide)) | refine g_know Tk Tryz.func6 rfl (fun _ => ?_) (fun h => absurd h (by decide)) | refine s_know Tk (fun _ => ?_) (fun h => absurd h (by decide)) | refine g_cnd Tk Tryz.func6 rfl (fun h => absurd h (by decide)) (fun _ => ?_) | refine g_know Tk Tryz.func6 rfl (fun h => absurd h (by decide)) (fun _ => ?_) | refine s_know Tk (fun h => absurd h (by decide)) (fun _ => ?_) | refine g_cnd Tk Tryz.func6 rfl (fun _ => ?_) (fun h => absurd (show true = false from h) (by decide)) | refine g_know Tk Tryz.func6 rfl (fun _ => ?_) (fun h => absurd (show true = false from h) (by decide)) | refine s_know Tk (fun _ => ?_) (fun h => absurd (show true = false from h) (by decide)) | refine g_cnd Tk Tryz.func6 rfl (fun h => absurd (show false = true from h) (by decide)) (fun _ => ?_) | refine g_know Tk Tryz.func6 rfl (fun h => absurd (show false = true from h) (by decide)) (fun _ => ?_) | refine s_know Tk (fun h => absurd (show false = true from h) (by decide)) (fun _ => ?_))
  first | refine g_call Tk Tryz.func6 (hsr _) rfl rfl rfl rfl rfl ?_ | refine s_callq Tk (fun _ => hsr _) rfl rfl rfl ?_
  first | refine g_call Tk Tryz.func6 (hes _) rfl rfl rfl rfl rfl ?_ | refine s_callq Tk (fun _ => hes _) rfl rfl rfl ?_
  first | refine g_call Tk Tryz.func6 (hsr _) rfl rfl rfl rfl rfl ?_ | refine s_callq Tk (fun _ => hsr _) rfl rfl rfl ?_
  first | refine g_call Tk Tryz.func6 (hso _) rfl rfl rfl rfl rfl ?_ | refine s_callq Tk (fun _ => hso _) rfl rfl rfl ?_
  refine e_done Tk Tryz.func6 (by kernel_rfl) ?_
  first | refine g_cnd Tk Tryz.func6 rfl (fun d2 => ?_) (fun d2 => ?_) | refine g_know Tk Tryz.func6 rfl (fun d2 => ?_) (fun d2 => ?_) | refine s_know Tk (fun d2 => ?_) (fun d2 => ?_)
  · exfalso
    revert d2
    cases D1 <;> simp
  clear d1 d2
  obtain ⟨⟨nl, nv⟩, np, ne⟩ := N
  simp only at hsp
  first | refine g_call Tk Tryz.func6 (hsp _) rfl rfl rfl rfl rfl ?_ | refine s_callq Tk (fun _ => hsp _) rfl rfl rfl ?_
  first | refine g_cnd Tk Tryz.func6 rfl (fun c1 => ?_) (fun c1 => ?_) | refine g_know Tk Tryz.func6 rfl (fun c1 => ?_) (fun c1 => ?_) | refine s_know Tk (fun c1 => ?_) (fun c1 => ?_)
  rotate_left
  · have c1 : W ≠ 0 := beqF c1
    rw [if_pos c1] at hSR
    simp only [Prod.mk.injEq] at hSR
    obtain ⟨hz1, rfl, rfl⟩ := hSR
    have hz := fun O => hz O
    rw [← hz1] at hz
    repeat (first | refine g_cnd Tk Tryz.func6 rfl (fun _ => ?_) (fun h => absurd h (by decide)) | refine g_know Tk Tryz.func6 rfl (fun _ => ?_) (fun h => absurd h (by decide)) | refine s_know Tk (fun _ => ?_) (fun h => absurd h (by decide)) | refine g_cnd Tk Tryz.func6 rfl (fun h => absurd h (by decide)) (fun _ => ?_) | refine g_know Tk Tryz.func6 rfl (fun h => absurd h (by decide)) (fun _ => ?_) | refine s_know Tk (fun h => absurd h (by decide)) (fun _ => ?_) | refine g_cnd Tk Tryz.func6 rfl (fun _ => ?_) (fun h => absurd (show true = false from h) (by decide)) | refine g_know Tk Tryz.func6 rfl (fun _ => ?_) (fun h => absurd (show true = false from h) (by decide)) | refine s_know Tk (fun _ => ?_) (fun h => absurd (show true = false from h) (by decide)) | refine g_cnd Tk Tryz.func6 rfl (fun h => absurd (show false = true from h) (by decide)) (fun _ => ?_) | refine g_know Tk Tryz.func6 rfl (fun h => absurd (show false = true from h) (by decide)) (fun _ => ?_) | refine s_know Tk (fun h => absurd (show false = true from h) (by decide)) (fun _ => ?_))
    refine g_go Tk Tryz.func6 ?_
    first | refine g_cnd Tk Tryz.func6 rfl (fun c2 => ?_) (fun c2 => ?_) | refine g_know Tk Tryz.func6 rfl (fun c2 => ?_) (fun c2 => ?_) | refine s_know Tk (fun c2 => ?_) (fun c2 => ?_)
    rotate_left
    · exact absurd (bneF c2) c1
    first | refine g_call Tk Tryz.func6 (hz _) rfl rfl rfl rfl rfl ?_ | refine s_callq Tk (fun _ => hz _) rfl rfl rfl ?_
    repeat (first | refine g_cnd Tk Tryz.func6 rfl (fun _ => ?_) (fun h => absurd h (by decide)) | refine g_know Tk Tryz.func6 rfl (fun _ => ?_) (fun h => absurd h (by decide)) | refine s_know Tk (fun _ => ?_) (fun h => absurd h (by decide)) | refine g_cnd Tk Tryz.func6 rfl (fun h => absurd h (by decide)) (fun _ => ?_) | refine g_know Tk Tryz.func6 rfl (fun h => absurd h (by decide)) (fun _ => ?_) | refine s_know Tk (fun h => absurd h (by decide)) (fun _ => ?_) | refine g_cnd Tk Tryz.func6 rfl (fun _ => ?_) (fun h => absurd (show true = false from h) (by decide)) | refine g_know Tk Tryz.func6 rfl (fun _ => ?_) (fun h => absurd (show true = false from h) (by decide)) | refine s_know Tk (fun _ => ?_) (fun h => absurd (show true = false from h) (by decide)) | refine g_cnd Tk Tryz.func6 rfl (fun h => absurd (show false = true from h) (by decide)) (fun _ => ?_) | refine g_know Tk Tryz.func6 rfl (fun h => absurd (show false = true from h) (by decide)) (fun _ => ?_) | refine s_know Tk (fun h => absurd (show false = true from h) (by decide)) (fun _ => ?_))
    refine g_ret Tk (r := bb (ne == ne)) rfl rfl rfl trivial rfl rfl ?_
    simp
  have c1 : W = 0 := beqT c1
  subst c1
  simp only [ne_eq, not_true_eq_false, if_false] at hSR
  by_cases hm : ev ∉ ([0, 1, 2] : List Int)
  · rw [if_pos hm] at hSR
    simp only [Prod.mk.injEq] at hSR
    obtain ⟨hz1, rfl, rfl⟩ := hSR
    rw [← hz1] at hz
    simp only [List.mem_cons, List.mem_nil_iff, or_false, not_or] at hm
    first | refine g_cnd Tk Tryz.func6 rfl (fun c2 => ?_) (fun c2 => ?_) | refine g_know Tk Tryz.func6 rfl (fun c2 => ?_) (fun c2 => ?_) | refine s_know Tk (fun c2 => ?_) (fun c2 => ?_)
    · repeat (first | refine g_cnd Tk Tryz.func6 rfl (fun _ => ?_) (fun h => absurd h (by decide)) | refine g_know Tk Tryz.func6 rfl (fun _ => ?_) (fun h => absurd h (by decide)) | refine s_know Tk (fun _ => ?_) (fun h => absurd h (by decide)) | refine g_cnd Tk Tryz.func6 rfl (fun h => absurd h (by decide)) (fun _ => ?_) | refine g_know Tk Tryz.func6 rfl (fun h => absurd h (by decide)) (fun _ => ?_) | refine s_know Tk (fun h => absurd h (by decide)) (fun _ => ?_) | refine g_cnd Tk Tryz.func6 rfl (fun _ => ?_) (fun h => absurd (show true = false from h) (by decide)) | refine g_know Tk Tryz.func6 rfl (fun _ => ?_) (fun h => absurd (show true = false from h) (by decide)) | refine s_know Tk (fun _ => ?_) (fun h => absurd (show true = false from h) (by decide)) | refine g_cnd Tk Tryz.func6 rfl (fun h => absurd (show false = true from h) (by decide)) (fun _ => ?_) | refine g_know Tk Tryz.func6 rfl (fun h => absurd (show false = true from h) (by decide)) (fun _ => ?_) | refine s_know Tk (fun h => absurd (show false = true from h) (by decide)) (fun _ => ?_))
      refine g_go Tk Tryz.func6 ?_
      repeat (first | refine g_cnd Tk Tryz.func6 rfl (fun _ => ?_) (fun h => absurd h (by decide)) | refine g_know Tk Tryz.func6 rfl (fun _ => ?_) (fun h => absurd h (by decide)) | refine s_know Tk (fun _ => ?_) (fun h => absurd h (by decide)) | refine g_cnd Tk Tryz.func6 rfl (fun h => absurd h (by decide)) (fun _ => ?_) | refine g_know Tk Tryz.func6 rfl (fun h => absurd h (by decide)) (fun _ => ?_) | refine s_know Tk (fun h => absurd h (by decide)) (fun _ => ?_) | refine g_cnd Tk Tryz.func6 rfl (fun _ => ?_) (fun h => absurd (show true = false from h) (by decide)) | refine g_know Tk Tryz.func6 rfl (fun _ => ?_) (fun h => absurd (show true = false from h) (by decide)) | refine s_know Tk (fun _ => ?_) (fun h => absurd (show true = false from h) (by decide)) | refine g_cnd Tk Tryz.func6 rfl (fun h => absurd (show false = true from h) (by decide)) (fun _ => ?_) | refine g_know Tk Tryz.func6 rfl (fun h => absurd (show false = true from h) (by decide)) (fun _ => ?_) | refine s_know Tk (fun h => absurd (show false = true from h) (by decide)) (fun _ => ?_))
      first | refine g_call Tk Tryz.func6 (hz _) rfl rfl rfl rfl rfl ?_ | refine s_callq Tk (fun _ => hz _) rfl rfl rfl ?_
      repeat (first | refine g_cnd Tk Tryz.func6 rfl (fun _ => ?_) (fun h => absurd h (by decide)) | refine g_know Tk Tryz.func6 rfl (fun _ => ?_) (fun h => absurd h (by decide)) | refine s_know Tk (fun _ => ?_) (fun h => absurd h (by decide)) | refine g_cnd Tk Tryz.func6 rfl (fun h => absurd h (by decide)) (fun _ => ?_) | refine g_know Tk Tryz.func6 rfl (fun h => absurd h (by decide)) (fun _ => ?_) | refine s_know Tk (fun h => absurd h (by decide)) (fun _ => ?_) | refine g_cnd Tk Tryz.func6 rfl (fun _ => ?_) (fun h => absurd (show true = false from h) (by decide)) | refine g_know Tk Tryz.func6 rfl (fun _ => ?_) (fun h => absurd (show true = false from h) (by decide)) | refine s_know Tk (fun _ => ?_) (fun h => absurd (show true = false from h) (by decide)) | refine g_cnd Tk Tryz.func6 rfl (fun h => absurd (show false = true from h) (by decide)) (fun _ => ?_) | refine g_know Tk Tryz.func6 rfl (fun h => absurd (show false = true from h) (by decide)) (fun _ => ?_) | refine s_know Tk (fun h => absurd (show false = true from h) (by decide)) (fun _ => ?_))
      refine g_ret Tk (r := bb true) rfl rfl rfl trivial rfl rfl ?_
      rfl
    · first | refine g_cnd Tk Tryz.func6 rfl (fun c3 => ?_) (fun c3 => ?_) | refine g_know Tk Tryz.func6 rfl (fun c3 => ?_) (fun c3 => ?_) | refine s_know Tk (fun c3 => ?_) (fun c3 => ?_)
      · refine g_go Tk Tryz.func6 ?_
        repeat (first | refine g_cnd Tk Tryz.func6 rfl (fun _ => ?_) (fun h => absurd h (by decide)) | refine g_know Tk Tryz.func6 rfl (fun _ => ?_) (fun h => absurd h (by decide)) | refine s_know Tk (fun _ => ?_) (fun h => absurd h (by decide)) | refine g_cnd Tk Tryz.func6 rfl (fun h => absurd h (by decide)) (fun _ => ?_) | refine g_know Tk Tryz.func6 rfl (fun h => absurd h (by decide)) (fun _ => ?_) | refine s_know Tk (fun h => absurd h (by decide)) (fun _ => ?_) | refine g_cnd Tk Tryz.func6 rfl (fun _ => ?_) (fun h => absurd (show true = false from h) (by decide)) | refine g_know Tk Tryz.func6 rfl (fun _ => ?_) (fun h => absurd (show true = false from h) (by decide)) | refine s_know Tk (fun _ => ?_) (fun h => absurd (show true = false from h) (by decide)) | refine g_cnd Tk Tryz.func6 rfl (fun h => absurd (show false = true from h) (by decide)) (fun _ => ?_) | refine g_know Tk Tryz.func6 rfl (fun h => absurd (show false = true from h) (by decide)) (fun _ => ?_) | refine s_know Tk (fun h => absurd (show false = true from h) (by decide)) (fun _ => ?_))
        first | refine g_call Tk Tryz.func6 (hz _) rfl rfl rfl rfl rfl ?_ | refine s_callq Tk (fun _ => hz _) rfl rfl rfl ?_
        repeat (first | refine g_cnd Tk Tryz.func6 rfl (fun _ => ?_) (fun h => absurd h (by decide)) | refine g_know Tk Tryz.func6 rfl (fun _ => ?_) (fun h => absurd h (by decide)) | refine s_know Tk (fun _ => ?_) (fun h => absurd h (by decide)) | refine g_cnd Tk Tryz.func6 rfl (fun h => absurd h (by decide)) (fun _ => ?_) | refine g_know Tk Tryz.func6 rfl (fun h => absurd h (by decide)) (fun _ => ?_) | refine s_know Tk (fun h => absurd h (by decide)) (fun _ => ?_) | refine g_cnd Tk Tryz.func6 rfl (fun _ => ?_) (fun h => absurd (show true = false from h) (by decide)) | refine g_know Tk Tryz.func6 rfl (fun _ => ?_) (fun h => absurd (show true = false from h) (by decide)) | refine s_know Tk (fun _ => ?_) (fun h => absurd (show true = false from h) (by decide)) | refine g_cnd Tk Tryz.func6 rfl (fun h => absurd (show false = true from h) (by decide)) (fun _ => ?_) | refine g_know Tk Tryz.func6 rfl (fun h => absurd (show false = true from h) (by decide)) (fun _ => ?_) | refine s_know Tk (fun h => absurd (show false = true from h) (by decide)) (fun _ => ?_))
        refine g_ret Tk (r := bb true) rfl rfl rfl trivial rfl rfl ?_
        rfl
      · exfalso
        have c2 : ¬ ev < 0 := of_decide_eq_false c2
        have c3 : ¬ ev > 2 := of_decide_eq_false c3
        omega
  rw [if_neg hm] at hSR
  simp only [Prod.mk.injEq, Org.mk.injEq] at hSR
  obtain ⟨⟨rfl, rfl⟩, rfl, rfl⟩ := hSR
  have ho := hok0 rfl
  have hsl := hsl ho
  have hln := hln ho
  have hse := fun O => sameO_refl O ⟨nl, nv⟩ hln.1 hln.2
  have hm : ev = 0 ∨ ev = 1 ∨ ev = 2 := by
    have := Classical.not_not.1 hm
    simpa using this
  first | refine g_cnd Tk Tryz.func6 rfl (fun c2 => ?_) (fun c2 => ?_) | refine g_know Tk Tryz.func6 rfl (fun c2 => ?_) (fun c2 => ?_) | refine s_know Tk (fun c2 => ?_) (fun c2 => ?_)
  · have c2 : ev < 0 := of_decide_eq_true c2
    exfalso
    omega
  first | refine g_cnd Tk Tryz.func6 rfl (fun c3 => ?_) (fun c3 => ?_) | refine g_know Tk Tryz.func6 rfl (fun c3 => ?_) (fun c3 => ?_) | refine s_know Tk (fun c3 => ?_) (fun c3 => ?_)
  · have c3 : ev > 2 := of_decide_eq_true c3
    exfalso
    omega
  refine g_go Tk Tryz.func6 ?_
  repeat (first | refine g_cnd Tk Tryz.func6 rfl (fun _ => ?_) (fun h => absurd h (by decide)) | refine g_know Tk Tryz.func6 rfl (fun _ => ?_) (fun h => absurd h (by decide)) | refine s_know Tk (fun _ => ?_) (fun h => absurd h (by decide)) | refine g_cnd Tk Tryz.func6 rfl (fun h => absurd h (by decide)) (fun _ => ?_) | refine g_know Tk Tryz.func6 rfl (fun h => absurd h (by decide)) (fun _ => ?_) | refine s_know Tk (fun h => absurd h (by decide)) (fun _ => ?_) | refine g_cnd Tk Tryz.func6 rfl (fun _ => ?_) (fun h => absurd (show true = false from h) (by decide)) | refine g_know Tk Tryz.func6 rfl (fun _ => ?_) (fun h => absurd (show true = false from h) (by decide)) | refine s_know Tk (fun _ => ?_) (fun h => absurd (show true = false from h) (by decide)) | refine g_cnd Tk Tryz.func6 rfl (fun h => absurd (show false = true from h) (by decide)) (fun _ => ?_) | refine g_know Tk Tryz.func6 rfl (fun h => absurd (show false = true from h) (by decide)) (fun _ => ?_) | refine s_know Tk (fun h => absurd (show false = true from h) (by decide)) (fun _ => ?_))
  first | refine g_call Tk Tryz.func6 (hsl _) rfl rfl rfl rfl rfl ?_ | refine s_callq Tk (fun _ => hsl _) rfl rfl rfl ?_
  first | refine g_call Tk Tryz.func6 (hse _) rfl rfl rfl rfl rfl ?_ | refine s_callq Tk (fun _ => hse _) rfl rfl rfl ?_
  repeat (first | refine g_cnd Tk Tryz.func6 rfl (fun _ => ?_) (fun h => absurd h (by decide)) | refine g_know Tk Tryz.func6 rfl (fun _ => ?_) (fun h => absurd h (by decide)) | refine s_know Tk (fun _ => ?_) (fun h => absurd h (by decide)) | refine g_cnd Tk Tryz.func6 rfl (fun h => absurd h (by decide)) (fun _ => ?_) | refine g_know Tk Tryz.func6 rfl (fun h => absurd h (by decide)) (fun _ => ?_) | refine s_know Tk (fun h => absurd h (by decide)) (fun _ => ?_) | refine g_cnd Tk Tryz.func6 rfl (fun _ => ?_) (fun h => absurd (show true = false from h) (by decide)) | refine g_know Tk Tryz.func6 rfl (fun _ => ?_) (fun h => absurd (show true = false from h) (by decide)) | refine s_know Tk (fun _ => ?_) (fun h => absurd (show true = false from h) (by decide)) | refine g_cnd Tk Tryz.func6 rfl (fun h => absurd (show false = true from h) (by decide)) (fun _ => ?_) | refine g_know Tk Tryz.func6 rfl (fun h => absurd (show false = true from h) (by decide)) (fun _ => ?_) | refine s_know Tk (fun h => absurd (show false = true from h) (by decide)) (fun _ => ?_))
  first | refine g_cnd Tk Tryz.func6 rfl (fun d3 => ?_) (fun d3 => ?_) | refine g_know Tk Tryz.func6 rfl (fun d3 => ?_) (fun d3 => ?_) | refine s_know Tk (fun d3 => ?_) (fun d3 => ?_)
  · refine g_ret Tk (r := bb (ne == ne)) rfl rfl rfl trivial rfl rfl ?_
    simp
  · exfalso
    revert d3
    cases np <;> simp
end Go.AI


namespace Go.AI
open Go.Proofs
set_option maxRecDepth 20000
mutual
/-- Whether an expression is small, and what is left of the count. -/
def fewR : Ex → Int → Int → Bool × Int
  | .mk _ _ _ args, lvl, c => if c = 0 ∨ lvl > 10 ∨ args.length > 4 then (false, c) else fewRs args (lvl + 1) (c - 1)
def fewRs : List Ex → Int → Int → Bool × Int
  | [], _, c => (true, c)
  | e :: r, lvl, c => if (fewR e lvl c).1 = false then (false, (fewR e lvl c).2) else fewRs r lvl (fewR e lvl c).2
end
mutual
theorem fewR_cnt : ∀ (x : Ex) (lvl c : Int), 0 ≤ c → c ≤ 80 → 0 ≤ (fewR x lvl c).2 ∧ (fewR x lvl c).2 ≤ 80
  | .mk _ _ _ args, lvl, c, h0, h1 => by
    simp only [fewR]
    split
    · exact ⟨h0, h1⟩
    · exact fewRs_cnt args (lvl + 1) (c - 1) (by omega) (by omega)
theorem fewRs_cnt : ∀ (l : List Ex) (lvl c : Int), 0 ≤ c → c ≤ 80 → 0 ≤ (fewRs l lvl c).2 ∧ (fewRs l lvl c).2 ≤ 80
  | [], lvl, c, h0, h1 => ⟨h0, h1⟩
  | e :: r, lvl, c, h0, h1 => by
    have := fewR_cnt e lvl c h0 h1
    simp only [fewRs]
    split
    · exact this
    · exact fewRs_cnt r lvl _ this.1 this.2
end
theorem few89 : ∀ (N : Nat) (x : Ex), SizeOf.sizeOf x < N → exOk x → ∀ (O : List Heap) (d nm : Nat) (lvl c : Int), objAt O d nm = some (.box [ii c]) → 0 ≤ c → c ≤ 80 → 0 ≤ lvl → lvl ≤ 11 →
    ASpec Tryz.prog 109 [exD x, ii lvl, .own d nm 0 0] O (bb (fewR x lvl c).1) [] (setAt O d nm (.box [ii (fewR x lvl c).2])) := by
  intro N
  induction N with
  | zero => intro x h; omega
  | succ N ihN =>
    intro x hs hok O d nm lvl c ho hc0 hc1 hl0 hl1
    obtain ⟨op, v, ix, args⟩ := x
    simp only [exOk] at hok
    have hch : ∀ e ∈ args, ∀ (O : List Heap) (d nm : Nat) (lvl c : Int), objAt O d nm = some (.box [ii c]) → 0 ≤ c → c ≤ 80 → 0 ≤ lvl → lvl ≤ 11 →
        ASpec Tryz.prog 109 [exD e, ii lvl, .own d nm 0 0] O (bb (fewR e lvl c).1) [] (setAt O d nm (.box [ii (fewR e lvl c).2])) := by
      intro e he
      refine ihN e ?_ (exOks_mem hok.2 e he)
      have := List.sizeOf_lt_of_mem he
      simp only [Ex.mk.sizeOf_spec] at hs
      omega
    have hlen : args.length ≤ max63 := hok.1
    generalize hR : fewR (.mk op v ix args) lvl c = R
    have hO1 : ∀ H, objAt (H :: O) (d + 1) nm = some (.box [ii c]) := fun H => by simpa [objAt] using ho
    have hw : c ≠ 0 → IntKind.i64.wrap (c - 1) = c - 1 := fun h => w64 (by omega) (by omega)
    have hwl : IntKind.i64.wrap (lvl + 1) = lvl + 1 := w64 (by omega) (by omega)
    have early : c = 0 ∨ lvl > 10 ∨ args.length > 4 → R = (false, c) := fun h => by rw [← hR]; simp only [fewR]; rw [if_pos h]
    have body : ¬(c = 0 ∨ lvl > 10 ∨ args.length > 4) → R = fewRs args (lvl + 1) (c - 1) := fun h => by rw [← hR]; simp only [fewR]; rw [if_neg h]
    refine aspec_stop [] Tk Tryz.func109 rfl Tryz.call109 Tryz.ntmps109 (Nat.le_of_ble_eq_true rfl) fun E => ?_
    refine g_run Tk Tryz.func109 ?_
    first | refine g_obj Tk Tryz.func109 (hO1 _) ?_ | refine s_obj Tk (hO1 _) ?_
    first | refine g_cnd Tk Tryz.func109 rfl (fun h1 => ?_) (fun h1 => ?_) | refine g_know Tk Tryz.func109 rfl (fun h1 => ?_) (fun h1 => ?_) | refine s_know Tk (fun h1 => ?_) (fun h1 => ?_)
    · have := early (.inl (beqT h1))
      subst this
      repeat (first | refine g_cnd Tk Tryz.func109 rfl (fun _ => ?_) (fun h => absurd h (by decide)) | refine g_cnd Tk Tryz.func109 rfl (fun h => absurd h (by decide)) (fun _ => ?_) | refine g_know Tk Tryz.func109 rfl (fun _ => ?_) (fun h => absurd h (by decide)) | refine g_know Tk Tryz.func109 rfl (fun h => absurd h (by decide)) (fun _ => ?_) | refine s_know Tk (fun _ => ?_) (fun h => absurd h (by decide)) | refine s_know Tk (fun h => absurd h (by decide)) (fun _ => ?_))
      refine g_rwk (wk_S (S' := _ :: setAt O d nm (.box [ii c])) (objAt_cons (objAt_set_id ho))) ?_
      refine g_ret Tk (r := bb false) rfl rfl rfl trivial rfl rfl ?_
      rfl
    have h1 := beqF h1
    first | refine g_cnd Tk Tryz.func109 rfl (fun h2 => ?_) (fun h2 => ?_) | refine g_know Tk Tryz.func109 rfl (fun h2 => ?_) (fun h2 => ?_) | refine s_know Tk (fun h2 => ?_) (fun h2 => ?_)
    · have := early (.inr (.inl (by have := of_decide_eq_true h2; omega)))
      subst this
      repeat (first | refine g_cnd Tk Tryz.func109 rfl (fun _ => ?_) (fun h => absurd h (by decide)) | refine g_cnd Tk Tryz.func109 rfl (fun h => absurd h (by decide)) (fun _ => ?_) | refine g_know Tk Tryz.func109 rfl (fun _ => ?_) (fun h => absurd h (by decide)) | refine g_know Tk Tryz.func109 rfl (fun h => absurd h (by decide)) (fun _ => ?_) | refine s_know Tk (fun _ => ?_) (fun h => absurd h (by decide)) | refine s_know Tk (fun h => absurd h (by decide)) (fun _ => ?_))
      refine g_rwk (wk_S (S' := _ :: setAt O d nm (.box [ii c])) (objAt_cons (objAt_set_id ho))) ?_
      refine g_ret Tk (r := bb false) rfl rfl rfl trivial rfl rfl ?_
      rfl
    have h2 : ¬ lvl > 10 := by have := of_decide_eq_false h2; omega
    first | refine g_cnd Tk Tryz.func109 rfl (fun h3 => ?_) (fun h3 => ?_) | refine g_know Tk Tryz.func109 rfl (fun h3 => ?_) (fun h3 => ?_) | refine s_know Tk (fun h3 => ?_) (fun h3 => ?_)
    · have := early (.inr (.inr (by have := of_decide_eq_true h3; omega)))
      subst this
      refine g_rwk (wk_S (S' := _ :: setAt O d nm (.box [ii c])) (objAt_cons (objAt_set_id ho))) ?_
      refine g_ret Tk (r := bb false) rfl rfl rfl trivial rfl rfl ?_
      rfl
    have h3 : ¬ args.length > 4 := by have := of_decide_eq_false h3; omega
    have hw := hw h1
    have body := body (by omega)
    clear early hR
    first | refine g_obj Tk Tryz.func109 (hO1 _) ?_ | refine s_obj Tk (hO1 _) ?_
    first | refine g_obj Tk Tryz.func109 (hO1 _) ?_ | refine s_obj Tk (hO1 _) ?_
    refine g_loop ?_
    refine rch_loop2 (fun x : Nat × Int => [(1, ii lvl), (2, .own (d + 1) nm 0 0), (3, .own 0 3 0 0), (7, ii x.1)]) (fun _ => [(3, .box [ii op, ii v, ii ix, exs args])]) (fun x => setAt O d nm (.box [ii x.2])) 44
      (fun x => x.1 ≤ args.length ∧ 0 ≤ x.2 ∧ x.2 ≤ 80 ∧ R = fewRs (args.drop x.1) (lvl + 1) x.2) (fun x => args.length - x.1) (0, IntKind.i64.wrap (c - 1)) ⟨Nat.zero_le _, by simp only [hw]; omega, by simp only [hw]; omega, by simp only [hw]; exact body⟩ ⟨rfl, rfl, rfl, rfl, trivial⟩ rfl ⟨rfl, trivial⟩ rfl rfl ?_
    rintro ⟨i, c'⟩ ⟨hi, hc0', hc1', hno⟩ ih
    simp only at hi hc0' hc1' hno
    refine g_run Tk Tryz.func109 ?_
    first | refine g_cnd Tk Tryz.func109 rfl (fun h5 => ?_) (fun h5 => ?_) | refine g_know Tk Tryz.func109 rfl (fun h5 => ?_) (fun h5 => ?_) | refine s_know Tk (fun h5 => ?_) (fun h5 => ?_)
    · have h5 : i < args.length := by simpa using h5
      have hd : args.drop i = args[i] :: args.drop (i + 1) := (List.drop_eq_getElem_cons h5)
      have hm := List.getElem_mem h5
      have hg := exIs_get h5
      generalize args[i] = e at hd hm hg
      have hce := fun O ho => hch e hm O (d + 1) nm (IntKind.i64.wrap (lvl + 1)) c' ho hc0' hc1' (by omega) (by omega)
      have hcnt := fewR_cnt e (IntKind.i64.wrap (lvl + 1)) c' hc0' hc1'
      obtain ⟨eo, ev, ei, ea⟩ := e
      simp only [exI] at hg
      rw [hd] at hno
      simp only [fewRs] at hno
      rw [← hwl] at hno
      first | refine g_need Tk Tryz.func109 (by exact ⟨by omega, by show (i : Int) < (args.length : Int); omega⟩) ?_ | refine s_need Tk (by exact ⟨by omega, by show (i : Int) < (args.length : Int); omega⟩) ?_
      first | refine g_elem Tk Tryz.func109 (hg) ?_ | refine s_elem Tk (hg) ?_
      refine g_call Tk Tryz.func109 (hce _ (by exact up_obj (objAt_set_same ho))) rfl rfl rfl (shape_cons (shape_set (objAt_set_same ho) rfl)) rfl ?_
      generalize fewR (.mk eo ev ei ea) (IntKind.i64.wrap (lvl + 1)) c' = Q at hno hcnt
      obtain ⟨qe, qc⟩ := Q
      simp only at hno hcnt
      first | refine g_cnd Tk Tryz.func109 rfl (fun h6 => ?_) (fun h6 => ?_) | refine g_know Tk Tryz.func109 rfl (fun h6 => ?_) (fun h6 => ?_) | refine s_know Tk (fun h6 => ?_) (fun h6 => ?_)
      · have h6 := notT h6
        rw [if_pos h6] at hno
        subst hno
        refine g_rwk (wk_S (S' := _ :: setAt O d nm (.box [ii qc])) (objAt_cons fun d n => objAt_set2 d n)) ?_
        refine g_ret Tk (r := bb false) rfl rfl rfl trivial rfl rfl ?_
        rfl
      · have h6 := notF h6
        rw [if_neg (fun h => by rw [show qe = true from h6] at h; cases h), hwl] at hno
        refine g_wk (wk_S (S' := _ :: setAt O d nm (.box [ii qc])) (objAt_cons fun d n => objAt_set2 d n)) ?_
        refine g_loop ?_
        refine ih (i + 1, qc) _ _ ⟨h5, hcnt.1, hcnt.2, hno⟩ (by simp only; omega) ⟨rfl, rfl, rfl, congrArg ii (wsucc h5 hlen), trivial⟩ rfl ⟨rfl, trivial⟩ rfl rfl
    · have h5 : args.length ≤ i := by simpa using h5
      rw [List.drop_eq_nil_of_le h5] at hno
      subst hno
      refine g_ret Tk (r := bb true) rfl rfl rfl trivial rfl rfl ?_
      rfl
def smallX (x : Ex) : Bool := (fewR x 1 80).1
theorem small76 (O : List Heap) (x : Ex) (hok : exOk x) : ASpec Tryz.prog 83 [exD x] O (bb (smallX x)) [] O := by
  have hf := fun O ho => few89 _ x (Nat.lt_succ_self _) hok O 0 3 1 80 ho (by decide) (by decide) (by decide) (by decide)
  unfold smallX
  obtain ⟨op, v, ix, args⟩ := x
  refine aspec_intro Tk Tryz.func83 rfl Tryz.call83 Tryz.ntmps83 (Nat.le_of_ble_eq_true rfl) fun E => ?_
  refine g_run Tk Tryz.func83 ?_
  refine g_call Tk Tryz.func83 (hf _ rfl) rfl rfl rfl (shape_over (ob := .box [ii 80]) rfl rfl) rfl ?_
  refine g_ret Tk (r := bb _) rfl rfl rfl trivial rfl rfl ?_
  rfl
theorem small58 (O : List Heap) (x : Ex) (hok : exOk x) : ASpec Tryz.prog 46 [exD x] O (bb (smallX x)) [] O := by
  have hf := fun O => small76 O x hok
  generalize smallX x = R at *
  obtain ⟨op, v, ix, args⟩ := x
  refine aspec_intro Tk Tryz.func46 rfl Tryz.call46 Tryz.ntmps46 (Nat.le_of_ble_eq_true rfl) fun E => ?_
  refine g_run Tk Tryz.func46 ?_
  first | refine g_call Tk Tryz.func46 (hf _) rfl rfl rfl rfl rfl ?_ | refine s_callq Tk (fun _ => hf _) rfl rfl rfl ?_
  refine g_ret Tk (r := bb _) rfl rfl rfl trivial rfl rfl ?_
  rfl
theorem small58A (O : List Heap) (x : Ex) (hok : exOk x) : ASpec Tryz.prog 46 [exA x] O (bb (smallX x)) [] O := by rw [← exD_eq]; exact small58 O x hok
end Go.AI


/- Small moves; equal variables. -/
namespace Go.AI
open Go.Proofs
set_option maxRecDepth 20000
def smV : List Vr → Bool
  | [] => true
  | v :: r => if (v.name.size : Int) > 40 then false else if v.high > 100 ∨ v.low < -100 then false else smV r
def smU : List Upd → Bool
  | [] => true
  | u :: r => if smallX u.x = false then false else smU r
def smM : List Mv → Bool
  | [] => true
  | x :: r => if smallX x.g = false ∨ (x.us.length : Int) > 4 then false else if smU x.us = false then false else smM r
def smR (m : Ext) : Bool := if smV m.vars = false then false else if smM m.moves = false then false else decide ((m.vars.length : Int) ≤ 2)
set_option maxHeartbeats 4000000 in
theorem smallMoves15 (O : List Heap) (m : Ext) (hok : extOk m) : ASpec Tryz.prog 15 [extD m] O (bb (smR m)) [] O := by
  have hva := hok.va
  have hmo := hok.mo
  generalize hR : smR m = R
  unfold smR at hR
  have hV0 : smV m.vars = smV (m.vars.drop 0) := rfl
  have hM0 : smM m.moves = smM (m.moves.drop 0) := rfl
  generalize smV m.vars = V at *
  generalize smM m.moves = M at *
  refine aspec_intro Tk Tryz.func15 rfl Tryz.call15 Tryz.ntmps15 (Nat.le_of_ble_eq_true rfl) fun E => ?_
  refine g_run Tk Tryz.func15 ?_
  refine g_loop ?_
  refine rch_loop2 (fun i : Nat => [(1, .own 0 1 0 0), (3, ii i)]) (fun _ => [(1, .box (extC m))]) (fun _ => O) 89
    (fun i => i ≤ m.vars.length ∧ V = smV (m.vars.drop i)) (fun i => m.vars.length - i) 0 ⟨Nat.zero_le _, hV0⟩ ⟨rfl, rfl, trivial⟩ rfl ⟨rfl, trivial⟩ rfl rfl ?_
  clear hV0
  rintro i ⟨hi, hno⟩ ih
  refine g_run Tk Tryz.func15 ?_
  first | refine g_cnd Tk Tryz.func15 rfl (fun g1 => ?_) (fun g1 => ?_) | refine g_know Tk Tryz.func15 rfl (fun g1 => ?_) (fun g1 => ?_) | refine s_know Tk (fun g1 => ?_) (fun g1 => ?_)
  · have h1 : i < m.vars.length := by simpa using g1
    clear g1
    have gv : (m.vars.map vrI)[(i : Int).toNat]? = some (vrI m.vars[i]) := get_mapZ h1
    rw [List.drop_eq_getElem_cons h1] at hno
    simp only [smV] at hno
    generalize m.vars[i] = v at *
    obtain ⟨vn, vl, vh, vj⟩ := v
    simp only at hno
    have n1 : 0 ≤ (i : Int) ∧ (i : Int) < (m.vars.length : Int) := by omega
    have no : V = false → R = false := fun h => by rw [← hR, if_pos h]
    first | refine g_need Tk Tryz.func15 (n1) ?_ | refine s_need Tk (n1) ?_
    first | refine g_elem Tk Tryz.func15 (gv) ?_ | refine s_elem Tk (gv) ?_
    first | refine g_cnd Tk Tryz.func15 rfl (fun g2 => ?_) (fun g2 => ?_) | refine g_know Tk Tryz.func15 rfl (fun g2 => ?_) (fun g2 => ?_) | refine s_know Tk (fun g2 => ?_) (fun g2 => ?_)
    · have g2 : (vn.size : Int) > 40 := of_decide_eq_true g2
      rw [if_pos g2] at hno
      rw [no hno]
      refine g_ret Tk (r := bb false) rfl rfl rfl trivial rfl rfl ?_
      rfl
    have g2 : ¬ (vn.size : Int) > 40 := of_decide_eq_false g2
    rw [if_neg g2] at hno
    first | refine g_need Tk Tryz.func15 (n1) ?_ | refine s_need Tk (n1) ?_
    first | refine g_elem Tk Tryz.func15 (gv) ?_ | refine s_elem Tk (gv) ?_
    first | refine g_cnd Tk Tryz.func15 rfl (fun g3 => ?_) (fun g3 => ?_) | refine g_know Tk Tryz.func15 rfl (fun g3 => ?_) (fun g3 => ?_) | refine s_know Tk (fun g3 => ?_) (fun g3 => ?_)
    · have g3 : vh > 100 := of_decide_eq_true g3
      rw [if_pos (.inl g3)] at hno
      rw [no hno]
      repeat (first | refine g_cnd Tk Tryz.func15 rfl (fun _ => ?_) (fun h => absurd h (by decide)) | refine g_know Tk Tryz.func15 rfl (fun _ => ?_) (fun h => absurd h (by decide)) | refine s_know Tk (fun _ => ?_) (fun h => absurd h (by decide)) | refine g_cnd Tk Tryz.func15 rfl (fun h => absurd h (by decide)) (fun _ => ?_) | refine g_know Tk Tryz.func15 rfl (fun h => absurd h (by decide)) (fun _ => ?_) | refine s_know Tk (fun h => absurd h (by decide)) (fun _ => ?_) | refine g_cnd Tk Tryz.func15 rfl (fun _ => ?_) (fun h => absurd (show true = false from h) (by decide)) | refine g_know Tk Tryz.func15 rfl (fun _ => ?_) (fun h => absurd (show true = false from h) (by decide)) | refine s_know Tk (fun _ => ?_) (fun h => absurd (show true = false from h) (by decide)) | refine g_cnd Tk Tryz.func15 rfl (fun h => absurd (show false = true from h) (by decide)) (fun _ => ?_) | refine g_know Tk Tryz.func15 rfl (fun h => absurd (show false = true from h) (by decide)) (fun _ => ?_) | refine s_know Tk (fun h => absurd (show false = true from h) (by decide)) (fun _ => ?_))
      refine g_ret Tk (r := bb false) rfl rfl rfl trivial rfl rfl ?_
      rfl
    have g3 : ¬ vh > 100 := of_decide_eq_false g3
    first | refine g_need Tk Tryz.func15 (n1) ?_ | refine s_need Tk (n1) ?_
    first | refine g_elem Tk Tryz.func15 (gv) ?_ | refine s_elem Tk (gv) ?_
    first | refine g_cnd Tk Tryz.func15 rfl (fun g4 => ?_) (fun g4 => ?_) | refine g_know Tk Tryz.func15 rfl (fun g4 => ?_) (fun g4 => ?_) | refine s_know Tk (fun g4 => ?_) (fun g4 => ?_)
    · have g4 : vl < -100 := of_decide_eq_true g4
      rw [if_pos (.inr g4)] at hno
      rw [no hno]
      refine g_ret Tk (r := bb false) rfl rfl rfl trivial rfl rfl ?_
      rfl
    have g4 : ¬ vl < -100 := of_decide_eq_false g4
    rw [if_neg (by omega)] at hno
    refine g_loop ?_
    exact ih (i + 1) _ _ ⟨h1, hno⟩ (by omega) ⟨rfl, congrArg ii (wsucc h1 hva), trivial⟩ rfl ⟨rfl, trivial⟩ rfl rfl
  have h1 : m.vars.length ≤ i := by simpa using g1
  rw [List.drop_eq_nil_of_le h1] at hno
  simp only [smV] at hno
  subst hno
  rw [if_neg (by simp)] at hR
  clear ih g1
  have no : M = false → R = false := fun h => by rw [← hR, if_pos h]
  refine g_loop ?_
  refine rch_loop2 (fun i : Nat => [(1, .own 0 1 0 0), (4, ii i)]) (fun _ => [(1, .box (extC m))]) (fun _ => O) 89
    (fun i => i ≤ m.moves.length ∧ M = smM (m.moves.drop i)) (fun i => m.moves.length - i) 0 ⟨Nat.zero_le _, hM0⟩ ⟨rfl, rfl, trivial⟩ rfl ⟨rfl, trivial⟩ rfl rfl ?_
  clear hM0
  rintro j ⟨hj, hno⟩ ih
  refine g_run Tk Tryz.func15 ?_
  first | refine g_cnd Tk Tryz.func15 rfl (fun g1 => ?_) (fun g1 => ?_) | refine g_know Tk Tryz.func15 rfl (fun g1 => ?_) (fun g1 => ?_) | refine s_know Tk (fun g1 => ?_) (fun g1 => ?_)
  · have h2 : j < m.moves.length := by simpa using g1
    clear g1
    have gx : (m.moves.map mvI)[(j : Int).toNat]? = some (mvI m.moves[j]) := get_mapZ h2
    have hx := hok.mv _ (List.getElem_mem h2)
    rw [List.drop_eq_getElem_cons h2] at hno
    simp only [smM] at hno
    generalize m.moves[j] = x at *
    obtain ⟨xf, xe, xt, xg, us⟩ := x
    obtain ⟨hx1, hul, huo⟩ := hx
    simp only at hno hx1 hul huo
    have n2 : 0 ≤ (j : Int) ∧ (j : Int) < (m.moves.length : Int) := by omega
    have hsg := fun O => small58A O xg hx1
    generalize smallX xg = S at *
    first | refine g_need Tk Tryz.func15 (n2) ?_ | refine s_need Tk (n2) ?_
    first | refine g_elem Tk Tryz.func15 (gx) ?_ | refine s_elem Tk (gx) ?_
    first | refine g_call Tk Tryz.func15 (hsg _) rfl rfl rfl rfl rfl ?_ | refine s_callq Tk (fun _ => hsg _) rfl rfl rfl ?_
    cases S with
    | false =>
      rw [if_pos (.inl rfl)] at hno
      rw [no hno]
      repeat (first | refine g_cnd Tk Tryz.func15 rfl (fun _ => ?_) (fun h => absurd h (by decide)) | refine g_know Tk Tryz.func15 rfl (fun _ => ?_) (fun h => absurd h (by decide)) | refine s_know Tk (fun _ => ?_) (fun h => absurd h (by decide)) | refine g_cnd Tk Tryz.func15 rfl (fun h => absurd h (by decide)) (fun _ => ?_) | refine g_know Tk Tryz.func15 rfl (fun h => absurd h (by decide)) (fun _ => ?_) | refine s_know Tk (fun h => absurd h (by decide)) (fun _ => ?_) | refine g_cnd Tk Tryz.func15 rfl (fun _ => ?_) (fun h => absurd (show true = false from h) (by decide)) | refine g_know Tk Tryz.func15 rfl (fun _ => ?_) (fun h => absurd (show true = false from h) (by decide)) | refine s_know Tk (fun _ => ?_) (fun h => absurd (show true = false from h) (by decide)) | refine g_cnd Tk Tryz.func15 rfl (fun h => absurd (show false = true from h) (by decide)) (fun _ => ?_) | refine g_know Tk Tryz.func15 rfl (fun h => absurd (show false = true from h) (by decide)) (fun _ => ?_) | refine s_know Tk (fun h => absurd (show false = true from h) (by decide)) (fun _ => ?_))
      refine g_ret Tk (r := bb false) rfl rfl rfl trivial rfl rfl ?_
      rfl
    | true =>
      repeat (first | refine g_cnd Tk Tryz.func15 rfl (fun _ => ?_) (fun h => absurd h (by decide)) | refine g_know Tk Tryz.func15 rfl (fun _ => ?_) (fun h => absurd h (by decide)) | refine s_know Tk (fun _ => ?_) (fun h => absurd h (by decide)) | refine g_cnd Tk Tryz.func15 rfl (fun h => absurd h (by decide)) (fun _ => ?_) | refine g_know Tk Tryz.func15 rfl (fun h => absurd h (by decide)) (fun _ => ?_) | refine s_know Tk (fun h => absurd h (by decide)) (fun _ => ?_) | refine g_cnd Tk Tryz.func15 rfl (fun _ => ?_) (fun h => absurd (show true = false from h) (by decide)) | refine g_know Tk Tryz.func15 rfl (fun _ => ?_) (fun h => absurd (show true = false from h) (by decide)) | refine s_know Tk (fun _ => ?_) (fun h => absurd (show true = false from h) (by decide)) | refine g_cnd Tk Tryz.func15 rfl (fun h => absurd (show false = true from h) (by decide)) (fun _ => ?_) | refine g_know Tk Tryz.func15 rfl (fun h => absurd (show false = true from h) (by decide)) (fun _ => ?_) | refine s_know Tk (fun h => absurd (show false = true from h) (by decide)) (fun _ => ?_))
      first | refine g_need Tk Tryz.func15 (n2) ?_ | refine s_need Tk (n2) ?_
      first | refine g_elem Tk Tryz.func15 (gx) ?_ | refine s_elem Tk (gx) ?_
      first | refine g_cnd Tk Tryz.func15 rfl (fun g4 => ?_) (fun g4 => ?_) | refine g_know Tk Tryz.func15 rfl (fun g4 => ?_) (fun g4 => ?_) | refine s_know Tk (fun g4 => ?_) (fun g4 => ?_)
      · have g4 : (us.length : Int) > 4 := of_decide_eq_true g4
        rw [if_pos (.inr g4)] at hno
        rw [no hno]
        refine g_ret Tk (r := bb false) rfl rfl rfl trivial rfl rfl ?_
        rfl
      have g4 : ¬ (us.length : Int) > 4 := of_decide_eq_false g4
      rw [if_neg (by simp; omega)] at hno
      have hU0 : smU us = smU (us.drop 0) := rfl
      generalize smU us = U at *
      refine g_loop ?_
      refine rch_loop2 (fun k : Nat => [(1, .own 0 1 0 0), (4, ii j), (5, ii k)]) (fun _ => [(1, .box (extC m))]) (fun _ => O) 89
        (fun k => k ≤ us.length ∧ U = smU (us.drop k)) (fun k => us.length - k) 0 ⟨Nat.zero_le _, hU0⟩ ⟨rfl, rfl, rfl, trivial⟩ rfl ⟨rfl, trivial⟩ rfl rfl ?_
      clear hU0
      rintro k ⟨hk, hU⟩ ih2
      refine g_run Tk Tryz.func15 ?_
      first | refine g_need Tk Tryz.func15 (n2) ?_ | refine s_need Tk (n2) ?_
      first | refine g_elem Tk Tryz.func15 (gx) ?_ | refine s_elem Tk (gx) ?_
      first | refine g_cnd Tk Tryz.func15 rfl (fun g5 => ?_) (fun g5 => ?_) | refine g_know Tk Tryz.func15 rfl (fun g5 => ?_) (fun g5 => ?_) | refine s_know Tk (fun g5 => ?_) (fun g5 => ?_)
      · have h3 : k < us.length := by simpa using g5
        clear g5
        have gu : (us.map updI)[(k : Int).toNat]? = some (updI us[k]) := get_mapZ h3
        have hu := huo _ (List.getElem_mem h3)
        rw [List.drop_eq_getElem_cons h3] at hU
        simp only [smU] at hU
        generalize us[k] = u at *
        obtain ⟨uv, ux⟩ := u
        simp only at hU hu
        have hsu := fun O => small58A O ux hu
        generalize smallX ux = Q at *
        first | refine g_need Tk Tryz.func15 (n2) ?_ | refine s_need Tk (n2) ?_
        first | refine g_elem Tk Tryz.func15 (gx) ?_ | refine s_elem Tk (gx) ?_
        first | refine g_need Tk Tryz.func15 (by exact ⟨by omega, by show (k : Int) < (us.length : Int); omega⟩) ?_ | refine s_need Tk (by exact ⟨by omega, by show (k : Int) < (us.length : Int); omega⟩) ?_
        first | refine g_elem Tk Tryz.func15 (gu) ?_ | refine s_elem Tk (gu) ?_
        first | refine g_call Tk Tryz.func15 (hsu _) rfl rfl rfl rfl rfl ?_ | refine s_callq Tk (fun _ => hsu _) rfl rfl rfl ?_
        cases Q with
        | false =>
          rw [if_pos rfl] at hU
          rw [hU, if_pos rfl] at hno
          rw [no hno]
          repeat (first | refine g_cnd Tk Tryz.func15 rfl (fun _ => ?_) (fun h => absurd h (by decide)) | refine g_know Tk Tryz.func15 rfl (fun _ => ?_) (fun h => absurd h (by decide)) | refine s_know Tk (fun _ => ?_) (fun h => absurd h (by decide)) | refine g_cnd Tk Tryz.func15 rfl (fun h => absurd h (by decide)) (fun _ => ?_) | refine g_know Tk Tryz.func15 rfl (fun h => absurd h (by decide)) (fun _ => ?_) | refine s_know Tk (fun h => absurd h (by decide)) (fun _ => ?_) | refine g_cnd Tk Tryz.func15 rfl (fun _ => ?_) (fun h => absurd (show true = false from h) (by decide)) | refine g_know Tk Tryz.func15 rfl (fun _ => ?_) (fun h => absurd (show true = false from h) (by decide)) | refine s_know Tk (fun _ => ?_) (fun h => absurd (show true = false from h) (by decide)) | refine g_cnd Tk Tryz.func15 rfl (fun h => absurd (show false = true from h) (by decide)) (fun _ => ?_) | refine g_know Tk Tryz.func15 rfl (fun h => absurd (show false = true from h) (by decide)) (fun _ => ?_) | refine s_know Tk (fun h => absurd (show false = true from h) (by decide)) (fun _ => ?_))
          refine g_ret Tk (r := bb false) rfl rfl rfl trivial rfl rfl ?_
          rfl
        | true =>
          rw [if_neg (by simp)] at hU
          repeat (first | refine g_cnd Tk Tryz.func15 rfl (fun _ => ?_) (fun h => absurd h (by decide)) | refine g_know Tk Tryz.func15 rfl (fun _ => ?_) (fun h => absurd h (by decide)) | refine s_know Tk (fun _ => ?_) (fun h => absurd h (by decide)) | refine g_cnd Tk Tryz.func15 rfl (fun h => absurd h (by decide)) (fun _ => ?_) | refine g_know Tk Tryz.func15 rfl (fun h => absurd h (by decide)) (fun _ => ?_) | refine s_know Tk (fun h => absurd h (by decide)) (fun _ => ?_) | refine g_cnd Tk Tryz.func15 rfl (fun _ => ?_) (fun h => absurd (show true = false from h) (by decide)) | refine g_know Tk Tryz.func15 rfl (fun _ => ?_) (fun h => absurd (show true = false from h) (by decide)) | refine s_know Tk (fun _ => ?_) (fun h => absurd (show true = false from h) (by decide)) | refine g_cnd Tk Tryz.func15 rfl (fun h => absurd (show false = true from h) (by decide)) (fun _ => ?_) | refine g_know Tk Tryz.func15 rfl (fun h => absurd (show false = true from h) (by decide)) (fun _ => ?_) | refine s_know Tk (fun h => absurd (show false = true from h) (by decide)) (fun _ => ?_))
          refine g_loop ?_
          exact ih2 (k + 1) _ _ ⟨h3, hU⟩ (by omega) ⟨rfl, rfl, congrArg ii (wsucc h3 hul), trivial⟩ rfl ⟨rfl, trivial⟩ rfl rfl
      · have h3 : us.length ≤ k := by simpa using g5
        rw [List.drop_eq_nil_of_le h3] at hU
        simp only [smU] at hU
        subst hU
        rw [if_neg (by simp)] at hno
        refine g_loop ?_
        exact ih (j + 1) _ _ ⟨h2, hno⟩ (by omega) ⟨rfl, congrArg ii (wsucc h2 hmo), trivial⟩ rfl ⟨rfl, trivial⟩ rfl rfl
  · have h2 : m.moves.length ≤ j := by simpa using g1
    rw [List.drop_eq_nil_of_le h2] at hno
    simp only [smM] at hno
    subst hno
    rw [if_neg (by simp)] at hR
    subst hR
    refine g_ret Tk (r := bb (decide ((m.vars.length : Int) ≤ 2))) rfl rfl rfl trivial rfl rfl ?_
    rfl
set_option maxHeartbeats 1000000 in
theorem sameVars19 (O : List Heap) (a b : List Vr) (ha : a.length ≤ max63) : ASpec Tryz.prog 19 [vrs a, vrs b] O (bb (decide (a = b))) [] O := by
  by_cases hl : a.length = b.length
  · have hR : decide (a = b) = decide (a.drop 0 = b.drop 0) := rfl
    generalize decide (a = b) = R at *
    refine aspec_intro Tk Tryz.func19 rfl Tryz.call19 Tryz.ntmps19 (Nat.le_of_ble_eq_true rfl) fun E => ?_
    refine g_run Tk Tryz.func19 ?_
    first | refine g_cnd Tk Tryz.func19 rfl (fun g0 => ?_) (fun g0 => ?_) | refine g_know Tk Tryz.func19 rfl (fun g0 => ?_) (fun g0 => ?_) | refine s_know Tk (fun g0 => ?_) (fun g0 => ?_)
    · exact absurd (bneT g0) (by omega)
    clear g0
    refine g_loop ?_
    refine rch_loop2 (fun i : Nat => [(0, vrs a), (1, vrs b), (5, ii i)]) (fun _ => []) (fun _ => O) 26
      (fun i => i ≤ a.length ∧ R = decide (a.drop i = b.drop i)) (fun i => a.length - i) 0 ⟨Nat.zero_le _, hR⟩ ⟨rfl, rfl, rfl, trivial⟩ rfl trivial rfl rfl ?_
    clear hR
    rintro i ⟨hi, hno⟩ ih
    refine g_run Tk Tryz.func19 ?_
    first | refine g_cnd Tk Tryz.func19 rfl (fun g1 => ?_) (fun g1 => ?_) | refine g_know Tk Tryz.func19 rfl (fun g1 => ?_) (fun g1 => ?_) | refine s_know Tk (fun g1 => ?_) (fun g1 => ?_)
    · have h1 : i < a.length := by simpa using g1
      clear g1
      have gx : (a.map vrI)[(i : Int).toNat]? = some (vrI a[i]) := get_mapZ h1
      have gy : (b.map vrI)[(i : Int).toNat]? = some (vrI (b[i]'(by omega))) := get_mapZ (by omega)
      have dx : a.drop i = a[i] :: a.drop (i + 1) := List.drop_eq_getElem_cons h1
      have dy : b.drop i = (b[i]'(by omega)) :: b.drop (i + 1) := List.drop_eq_getElem_cons (by omega)
      rw [dx, dy] at hno
      clear dx dy
      generalize a[i] = x at *
      generalize b[i]'(by omega) = y at *
      have hxy := vr_eqB x y
      refine g_drawn Tk Tryz.func19 mixedT rfl ?_
      first | refine g_need Tk Tryz.func19 (by exact ⟨by omega, by show (i : Int) < (a.length : Int); omega⟩) ?_ | refine s_need Tk (by exact ⟨by omega, by show (i : Int) < (a.length : Int); omega⟩) ?_
      first | refine g_elem Tk Tryz.func19 (gx) ?_ | refine s_elem Tk (gx) ?_
      first | refine g_need Tk Tryz.func19 (by exact ⟨by omega, by show (i : Int) < (b.length : Int); omega⟩) ?_ | refine s_need Tk (by exact ⟨by omega, by show (i : Int) < (b.length : Int); omega⟩) ?_
      first | refine g_elem Tk Tryz.func19 (gy) ?_ | refine s_elem Tk (gy) ?_
      refine e_done Tk Tryz.func19 (by kernel_rfl) ?_
      first | refine g_cnd Tk Tryz.func19 rfl (fun g2 => ?_) (fun g2 => ?_) | refine g_know Tk Tryz.func19 rfl (fun g2 => ?_) (fun g2 => ?_) | refine s_know Tk (fun g2 => ?_) (fun g2 => ?_)
      · have g2 : decide (x = y) = false := hxy.symm.trans (notT g2)
        have g2 := of_decide_eq_false g2
        have hno : R = false := by rw [hno]; simp [g2]
        subst hno
        refine g_ret Tk (r := bb false) rfl rfl rfl trivial rfl rfl ?_
        rfl
      · have g2 : decide (x = y) = true := hxy.symm.trans (notF g2)
        have g2 := of_decide_eq_true g2
        have hno : R = decide (a.drop (i + 1) = b.drop (i + 1)) := by rw [hno]; simp [g2]
        refine g_loop ?_
        exact ih (i + 1) _ _ ⟨h1, hno⟩ (by omega) ⟨rfl, rfl, congrArg ii (wsucc h1 ha), trivial⟩ rfl trivial rfl rfl
    · have h1 : a.length ≤ i := by simpa using g1
      have hno : R = true := by rw [hno, List.drop_eq_nil_of_le h1, List.drop_eq_nil_of_le (by omega)]; simp
      subst hno
      refine g_ret Tk (r := bb true) rfl rfl rfl trivial rfl rfl ?_
      rfl
  · have hR : decide (a = b) = false := by
      apply decide_eq_false
      rintro rfl
      exact hl rfl
    rw [hR]
    refine aspec_intro Tk Tryz.func19 rfl Tryz.call19 Tryz.ntmps19 (Nat.le_of_ble_eq_true rfl) fun E => ?_
    refine g_run Tk Tryz.func19 ?_
    first | refine g_cnd Tk Tryz.func19 rfl (fun g0 => ?_) (fun g0 => ?_) | refine g_know Tk Tryz.func19 rfl (fun g0 => ?_) (fun g0 => ?_) | refine s_know Tk (fun g0 => ?_) (fun g0 => ?_)
    · refine g_ret Tk (r := bb false) rfl rfl rfl trivial rfl rfl ?_
      rfl
    · exact absurd (bneF g0) (by omega)
end Go.AI


/- FlattenRefuses. -/
namespace Go.AI
open Go.Proofs
set_option maxRecDepth 20000
abbrev oexts (l : List Ext) : Ob := .arr 48 6 l.length (l.map extI) true
theorem oexts_app (l : List Ext) (m : Ext) : Ob.arr 48 6 (l.length + 1) (l.map extI ++ [extI m]) true = oexts (l ++ [m]) := by simp
theorem chkJ_two {a m : Ext} (ha : chk a = 0) : chkJ [a, m] = if chk m ≠ 0 then chk m else if decide (a.vars = m.vars) = false then 13 else 0 := by
  have e : chkAllE [a, m] = chk m := by
    simp only [chkAllE, ha, ne_eq, not_true_eq_false, if_false]
    split
    · rfl
    · rename_i h; exact (Classical.not_not.1 h).symm
  unfold chkJ
  rw [e, if_neg (by simp), if_neg (by simp)]
  by_cases h : chk m ≠ 0
  · rw [if_pos h, if_pos h]
  · rw [if_neg h, if_neg h]
    have e0 : vars0 [a, m] = a.vars := rfl
    rw [e0]
    by_cases hv : a.vars = m.vars
    · rw [if_neg (by simp [hv]), if_neg (by simp [hv])]
    · rw [if_pos (by simpa using fun h : m.vars = a.vars => hv h.symm), if_pos (by simp [hv])]
theorem chkJ_many {a : Ext} (ha : chk a = 0) (k : Nat) : chkJ (List.replicate k a) = if k = 0 then 12 else if k > 12 then 3 else 0 := by
  have e : ∀ k, chkAllE (List.replicate k a) = 0 := by
    intro k
    induction k with
    | zero => rfl
    | succ k ih => simp only [List.replicate_succ, chkAllE, ha, ne_eq, not_true_eq_false, if_false]; exact ih
  unfold chkJ
  rw [List.length_replicate, e k]
  by_cases h0 : k = 0
  · rw [if_pos h0, if_pos h0]
  rw [if_neg h0, if_neg h0]
  by_cases h1 : k > 12
  · rw [if_pos h1, if_pos h1]
  rw [if_neg h1, if_neg h1, if_neg (by simp), if_neg]
  obtain ⟨j, rfl⟩ : ∃ j, k = j + 1 := ⟨k - 1, by omega⟩
  rw [List.replicate_succ, List.tail_cons]
  simp only [List.any_eq_true, decide_eq_true_eq, not_exists, not_and]
  intro m hm hc
  rw [(List.mem_replicate.1 hm).2] at hc
  exact hc rfl
theorem checkNil (O : List Heap) : ASpec Tryz.prog 20 [.i (.v (.slice none 0 0))] O (ii 12) [] O :=
  (checkJoint20 O [] (by simp) (by simp [max63])).co (.cons (coD_i coI_nil) .nil)
set_option maxHeartbeats 8000000 in
theorem refuses4 {g : Nat} (hg : IsTab g) {ty : TypeId} {fr : Nat × Nat} (O : List Heap) (k : Sk) (m : Ext) (n : Int) (hk : skOk k) (hok : extOk m) (hn : 0 ≤ n ∧ n ≤ 255) : ASpecT g (ptab ty fr) Tryz.prog 4 [skD k, extD m, u8D n] O (bb true) [] O := by
  have hkn := fun O => known48 hg (ty := ty) (fr := fr) O
  have hsm := fun O => smallMoves15 O m hok
  have hmk := fun O => make16 O k hk
  have ha := make_made hk
  have hac := made_chk ha
  have hao := made_ok ha
  have hun := fun O => Unfold50 hg (ty := ty) (fr := fr) O m hok
  have hck := fun O => check40 O m hok
  generalize makeR k = a at *
  have hsv := fun O => sameVars19 O a.vars m.vars hao.va
  have hok2 : ∀ x ∈ [a, m], extOk x := by
    intro x hx
    simp only [List.mem_cons, List.mem_nil_iff, or_false] at hx
    rcases hx with rfl | rfl
    · exact hao
    · exact hok
  have hcj := fun O => checkJoint20 O [a, m] hok2 (by simp [max63])
  have hjo := fun hW O => Joint10 hg (ty := ty) (fr := fr) O [a, m] hok2 (by simp [max63]) (fun h => absurd h hW)
  have hW := chkJ_two (m := m) hac
  have hnil := fun O => checkNil O
  have hz := fun O => none60 O
  have hmod : n.tmod 16 = n % 16 := Int.tmod_eq_emod_of_nonneg hn.1
  unfold jointR at hjo
  unfold unfoldR at hun
  generalize chkJ [a, m] = W at *
  generalize smR m = S at *
  generalize unfX m m.alpha (startR m) = U at *
  generalize chk m = C at *
  obtain ⟨kl, km, kr, kn⟩ := k
  refine aspecT_stop [10, 16, 26] Tk Tryz.func4 rfl Tryz.call4 Tryz.ntmps4 (Nat.le_of_ble_eq_true rfl) fun E hE => ?_
  refine g_run Tk Tryz.func4 ?_
  refine g_callT Tk Tryz.func4 hE (hkn _) rfl rfl rfl rfl rfl rfl ?_
  repeat (first | refine g_cnd Tk Tryz.func4 rfl (fun _ => ?_) (fun h => absurd h (by decide)) | refine g_know Tk Tryz.func4 rfl (fun _ => ?_) (fun h => absurd h (by decide)) | refine s_know Tk (fun _ => ?_) (fun h => absurd h (by decide)) | refine g_cnd Tk Tryz.func4 rfl (fun h => absurd h (by decide)) (fun _ => ?_) | refine g_know Tk Tryz.func4 rfl (fun h => absurd h (by decide)) (fun _ => ?_) | refine s_know Tk (fun h => absurd h (by decide)) (fun _ => ?_) | refine g_cnd Tk Tryz.func4 rfl (fun _ => ?_) (fun h => absurd (show true = false from h) (by decide)) | refine g_know Tk Tryz.func4 rfl (fun _ => ?_) (fun h => absurd (show true = false from h) (by decide)) | refine s_know Tk (fun _ => ?_) (fun h => absurd (show true = false from h) (by decide)) | refine g_cnd Tk Tryz.func4 rfl (fun h => absurd (show false = true from h) (by decide)) (fun _ => ?_) | refine g_know Tk Tryz.func4 rfl (fun h => absurd (show false = true from h) (by decide)) (fun _ => ?_) | refine s_know Tk (fun h => absurd (show false = true from h) (by decide)) (fun _ => ?_))
  first | refine g_cnd Tk Tryz.func4 rfl (fun g1 => ?_) (fun g1 => ?_) | refine g_know Tk Tryz.func4 rfl (fun g1 => ?_) (fun g1 => ?_) | refine s_know Tk (fun g1 => ?_) (fun g1 => ?_)
  · repeat (first | refine g_cnd Tk Tryz.func4 rfl (fun _ => ?_) (fun h => absurd h (by decide)) | refine g_know Tk Tryz.func4 rfl (fun _ => ?_) (fun h => absurd h (by decide)) | refine s_know Tk (fun _ => ?_) (fun h => absurd h (by decide)) | refine g_cnd Tk Tryz.func4 rfl (fun h => absurd h (by decide)) (fun _ => ?_) | refine g_know Tk Tryz.func4 rfl (fun h => absurd h (by decide)) (fun _ => ?_) | refine s_know Tk (fun h => absurd h (by decide)) (fun _ => ?_) | refine g_cnd Tk Tryz.func4 rfl (fun _ => ?_) (fun h => absurd (show true = false from h) (by decide)) | refine g_know Tk Tryz.func4 rfl (fun _ => ?_) (fun h => absurd (show true = false from h) (by decide)) | refine s_know Tk (fun _ => ?_) (fun h => absurd (show true = false from h) (by decide)) | refine g_cnd Tk Tryz.func4 rfl (fun h => absurd (show false = true from h) (by decide)) (fun _ => ?_) | refine g_know Tk Tryz.func4 rfl (fun h => absurd (show false = true from h) (by decide)) (fun _ => ?_) | refine s_know Tk (fun h => absurd (show false = true from h) (by decide)) (fun _ => ?_))
    refine g_callT Tk Tryz.func4 hE (hkn _) rfl rfl rfl rfl rfl rfl ?_
    refine g_ret Tk (r := bb true) rfl rfl rfl trivial rfl rfl ?_
    rfl
  first | refine g_cnd Tk Tryz.func4 rfl (fun g2 => ?_) (fun g2 => ?_) | refine g_know Tk Tryz.func4 rfl (fun g2 => ?_) (fun g2 => ?_) | refine s_know Tk (fun g2 => ?_) (fun g2 => ?_)
  · repeat (first | refine g_cnd Tk Tryz.func4 rfl (fun _ => ?_) (fun h => absurd h (by decide)) | refine g_know Tk Tryz.func4 rfl (fun _ => ?_) (fun h => absurd h (by decide)) | refine s_know Tk (fun _ => ?_) (fun h => absurd h (by decide)) | refine g_cnd Tk Tryz.func4 rfl (fun h => absurd h (by decide)) (fun _ => ?_) | refine g_know Tk Tryz.func4 rfl (fun h => absurd h (by decide)) (fun _ => ?_) | refine s_know Tk (fun h => absurd h (by decide)) (fun _ => ?_) | refine g_cnd Tk Tryz.func4 rfl (fun _ => ?_) (fun h => absurd (show true = false from h) (by decide)) | refine g_know Tk Tryz.func4 rfl (fun _ => ?_) (fun h => absurd (show true = false from h) (by decide)) | refine s_know Tk (fun _ => ?_) (fun h => absurd (show true = false from h) (by decide)) | refine g_cnd Tk Tryz.func4 rfl (fun h => absurd (show false = true from h) (by decide)) (fun _ => ?_) | refine g_know Tk Tryz.func4 rfl (fun h => absurd (show false = true from h) (by decide)) (fun _ => ?_) | refine s_know Tk (fun h => absurd (show false = true from h) (by decide)) (fun _ => ?_))
    refine g_callT Tk Tryz.func4 hE (hkn _) rfl rfl rfl rfl rfl rfl ?_
    refine g_ret Tk (r := bb true) rfl rfl rfl trivial rfl rfl ?_
    rfl
  first | refine g_cnd Tk Tryz.func4 rfl (fun g3 => ?_) (fun g3 => ?_) | refine g_know Tk Tryz.func4 rfl (fun g3 => ?_) (fun g3 => ?_) | refine s_know Tk (fun g3 => ?_) (fun g3 => ?_)
  · repeat (first | refine g_cnd Tk Tryz.func4 rfl (fun _ => ?_) (fun h => absurd h (by decide)) | refine g_know Tk Tryz.func4 rfl (fun _ => ?_) (fun h => absurd h (by decide)) | refine s_know Tk (fun _ => ?_) (fun h => absurd h (by decide)) | refine g_cnd Tk Tryz.func4 rfl (fun h => absurd h (by decide)) (fun _ => ?_) | refine g_know Tk Tryz.func4 rfl (fun h => absurd h (by decide)) (fun _ => ?_) | refine s_know Tk (fun h => absurd h (by decide)) (fun _ => ?_) | refine g_cnd Tk Tryz.func4 rfl (fun _ => ?_) (fun h => absurd (show true = false from h) (by decide)) | refine g_know Tk Tryz.func4 rfl (fun _ => ?_) (fun h => absurd (show true = false from h) (by decide)) | refine s_know Tk (fun _ => ?_) (fun h => absurd (show true = false from h) (by decide)) | refine g_cnd Tk Tryz.func4 rfl (fun h => absurd (show false = true from h) (by decide)) (fun _ => ?_) | refine g_know Tk Tryz.func4 rfl (fun h => absurd (show false = true from h) (by decide)) (fun _ => ?_) | refine s_know Tk (fun h => absurd (show false = true from h) (by decide)) (fun _ => ?_))
    refine g_callT Tk Tryz.func4 hE (hkn _) rfl rfl rfl rfl rfl rfl ?_
    refine g_ret Tk (r := bb true) rfl rfl rfl trivial rfl rfl ?_
    rfl
  first | refine g_cnd Tk Tryz.func4 rfl (fun g4 => ?_) (fun g4 => ?_) | refine g_know Tk Tryz.func4 rfl (fun g4 => ?_) (fun g4 => ?_) | refine s_know Tk (fun g4 => ?_) (fun g4 => ?_)
  · repeat (first | refine g_cnd Tk Tryz.func4 rfl (fun _ => ?_) (fun h => absurd h (by decide)) | refine g_know Tk Tryz.func4 rfl (fun _ => ?_) (fun h => absurd h (by decide)) | refine s_know Tk (fun _ => ?_) (fun h => absurd h (by decide)) | refine g_cnd Tk Tryz.func4 rfl (fun h => absurd h (by decide)) (fun _ => ?_) | refine g_know Tk Tryz.func4 rfl (fun h => absurd h (by decide)) (fun _ => ?_) | refine s_know Tk (fun h => absurd h (by decide)) (fun _ => ?_) | refine g_cnd Tk Tryz.func4 rfl (fun _ => ?_) (fun h => absurd (show true = false from h) (by decide)) | refine g_know Tk Tryz.func4 rfl (fun _ => ?_) (fun h => absurd (show true = false from h) (by decide)) | refine s_know Tk (fun _ => ?_) (fun h => absurd (show true = false from h) (by decide)) | refine g_cnd Tk Tryz.func4 rfl (fun h => absurd (show false = true from h) (by decide)) (fun _ => ?_) | refine g_know Tk Tryz.func4 rfl (fun h => absurd (show false = true from h) (by decide)) (fun _ => ?_) | refine s_know Tk (fun h => absurd (show false = true from h) (by decide)) (fun _ => ?_))
    refine g_callT Tk Tryz.func4 hE (hkn _) rfl rfl rfl rfl rfl rfl ?_
    refine g_ret Tk (r := bb true) rfl rfl rfl trivial rfl rfl ?_
    rfl
  clear g1 g2 g3 g4
  first | refine g_call Tk Tryz.func4 (hsm _) rfl rfl rfl rfl rfl ?_ | refine s_callq Tk (fun _ => hsm _) rfl rfl rfl ?_
  cases S with
  | false =>
    repeat (first | refine g_cnd Tk Tryz.func4 rfl (fun _ => ?_) (fun h => absurd h (by decide)) | refine g_know Tk Tryz.func4 rfl (fun _ => ?_) (fun h => absurd h (by decide)) | refine s_know Tk (fun _ => ?_) (fun h => absurd h (by decide)) | refine g_cnd Tk Tryz.func4 rfl (fun h => absurd h (by decide)) (fun _ => ?_) | refine g_know Tk Tryz.func4 rfl (fun h => absurd h (by decide)) (fun _ => ?_) | refine s_know Tk (fun h => absurd h (by decide)) (fun _ => ?_) | refine g_cnd Tk Tryz.func4 rfl (fun _ => ?_) (fun h => absurd (show true = false from h) (by decide)) | refine g_know Tk Tryz.func4 rfl (fun _ => ?_) (fun h => absurd (show true = false from h) (by decide)) | refine s_know Tk (fun _ => ?_) (fun h => absurd (show true = false from h) (by decide)) | refine g_cnd Tk Tryz.func4 rfl (fun h => absurd (show false = true from h) (by decide)) (fun _ => ?_) | refine g_know Tk Tryz.func4 rfl (fun h => absurd (show false = true from h) (by decide)) (fun _ => ?_) | refine s_know Tk (fun h => absurd (show false = true from h) (by decide)) (fun _ => ?_))
    refine g_callT Tk Tryz.func4 hE (hkn _) rfl rfl rfl rfl rfl rfl ?_
    refine g_ret Tk (r := bb true) rfl rfl rfl trivial rfl rfl ?_
    rfl
  | true =>
  repeat (first | refine g_cnd Tk Tryz.func4 rfl (fun _ => ?_) (fun h => absurd h (by decide)) | refine g_know Tk Tryz.func4 rfl (fun _ => ?_) (fun h => absurd h (by decide)) | refine s_know Tk (fun _ => ?_) (fun h => absurd h (by decide)) | refine g_cnd Tk Tryz.func4 rfl (fun h => absurd h (by decide)) (fun _ => ?_) | refine g_know Tk Tryz.func4 rfl (fun h => absurd h (by decide)) (fun _ => ?_) | refine s_know Tk (fun h => absurd h (by decide)) (fun _ => ?_) | refine g_cnd Tk Tryz.func4 rfl (fun _ => ?_) (fun h => absurd (show true = false from h) (by decide)) | refine g_know Tk Tryz.func4 rfl (fun _ => ?_) (fun h => absurd (show true = false from h) (by decide)) | refine s_know Tk (fun _ => ?_) (fun h => absurd (show true = false from h) (by decide)) | refine g_cnd Tk Tryz.func4 rfl (fun h => absurd (show false = true from h) (by decide)) (fun _ => ?_) | refine g_know Tk Tryz.func4 rfl (fun h => absurd (show false = true from h) (by decide)) (fun _ => ?_) | refine s_know Tk (fun h => absurd (show false = true from h) (by decide)) (fun _ => ?_))
  first | refine g_call Tk Tryz.func4 (hmk _) rfl rfl rfl rfl rfl ?_ | refine s_callq Tk (fun _ => hmk _) rfl rfl rfl ?_
  apply join_p (P := True) (s6 := { σ := [(2, u8D n), (4, .own 0 4 0 0), (7, .own 0 7 0 0), (11, ii W)], S := [(4, .box (extC m)), (7, .box (extC a))] :: O, n := 140 })
  · intro J
    by_cases hC : C ≠ 0
    · simp only [if_pos hC] at hun hW
      refine g_callT Tk Tryz.func4 hE (hun _) rfl rfl rfl rfl rfl rfl ?_
      first | refine g_call Tk Tryz.func4 (hck _) rfl rfl rfl rfl rfl ?_ | refine s_callq Tk (fun _ => hck _) rfl rfl rfl ?_
      first | refine g_cnd Tk Tryz.func4 rfl (fun g1 => ?_) (fun g1 => ?_) | refine g_know Tk Tryz.func4 rfl (fun g1 => ?_) (fun g1 => ?_) | refine s_know Tk (fun g1 => ?_) (fun g1 => ?_)
      rotate_left
      · exact absurd (bneF g1) hC
      first | refine g_call Tk Tryz.func4 (hz _) rfl rfl rfl rfl rfl ?_ | refine s_callq Tk (fun _ => hz _) rfl rfl rfl ?_
      repeat (first | refine g_cnd Tk Tryz.func4 rfl (fun _ => ?_) (fun h => absurd h (by decide)) | refine g_know Tk Tryz.func4 rfl (fun _ => ?_) (fun h => absurd h (by decide)) | refine s_know Tk (fun _ => ?_) (fun h => absurd h (by decide)) | refine g_cnd Tk Tryz.func4 rfl (fun h => absurd h (by decide)) (fun _ => ?_) | refine g_know Tk Tryz.func4 rfl (fun h => absurd h (by decide)) (fun _ => ?_) | refine s_know Tk (fun h => absurd h (by decide)) (fun _ => ?_) | refine g_cnd Tk Tryz.func4 rfl (fun _ => ?_) (fun h => absurd (show true = false from h) (by decide)) | refine g_know Tk Tryz.func4 rfl (fun _ => ?_) (fun h => absurd (show true = false from h) (by decide)) | refine s_know Tk (fun _ => ?_) (fun h => absurd (show true = false from h) (by decide)) | refine g_cnd Tk Tryz.func4 rfl (fun h => absurd (show false = true from h) (by decide)) (fun _ => ?_) | refine g_know Tk Tryz.func4 rfl (fun h => absurd (show false = true from h) (by decide)) (fun _ => ?_) | refine s_know Tk (fun h => absurd (show false = true from h) (by decide)) (fun _ => ?_))
      first | refine g_cnd Tk Tryz.func4 rfl (fun g2 => ?_) (fun g2 => ?_) | refine g_know Tk Tryz.func4 rfl (fun g2 => ?_) (fun g2 => ?_) | refine s_know Tk (fun g2 => ?_) (fun g2 => ?_)
      · exact absurd rfl (bneT g2)
      first | refine g_cnd Tk Tryz.func4 rfl (fun g3 => ?_) (fun g3 => ?_) | refine g_know Tk Tryz.func4 rfl (fun g3 => ?_) (fun g3 => ?_) | refine s_know Tk (fun g3 => ?_) (fun g3 => ?_)
      · exact absurd (beqT g3) hC
      repeat (first | refine g_cnd Tk Tryz.func4 rfl (fun _ => ?_) (fun h => absurd h (by decide)) | refine g_know Tk Tryz.func4 rfl (fun _ => ?_) (fun h => absurd h (by decide)) | refine s_know Tk (fun _ => ?_) (fun h => absurd h (by decide)) | refine g_cnd Tk Tryz.func4 rfl (fun h => absurd h (by decide)) (fun _ => ?_) | refine g_know Tk Tryz.func4 rfl (fun h => absurd h (by decide)) (fun _ => ?_) | refine s_know Tk (fun h => absurd h (by decide)) (fun _ => ?_) | refine g_cnd Tk Tryz.func4 rfl (fun _ => ?_) (fun h => absurd (show true = false from h) (by decide)) | refine g_know Tk Tryz.func4 rfl (fun _ => ?_) (fun h => absurd (show true = false from h) (by decide)) | refine s_know Tk (fun _ => ?_) (fun h => absurd (show true = false from h) (by decide)) | refine g_cnd Tk Tryz.func4 rfl (fun h => absurd (show false = true from h) (by decide)) (fun _ => ?_) | refine g_know Tk Tryz.func4 rfl (fun h => absurd (show false = true from h) (by decide)) (fun _ => ?_) | refine s_know Tk (fun h => absurd (show false = true from h) (by decide)) (fun _ => ?_))
      refine g_stop ?_
      refine rch_meet (J trivial) ⟨rfl, rfl, rfl, congrArg ii hW.symm, trivial⟩ rfl ⟨rfl, rfl, trivial⟩ rfl rfl
    · have hC : C = 0 := Classical.byContradiction hC
      subst hC
      simp only [ne_eq, not_true_eq_false, if_false] at hun hW
      have fin : ∀ U, (∀ O, ASpecT g (ptab ty fr) Tryz.prog 17 [extD m] O (unfD m.alpha U) [] O) → True := fun _ _ => trivial
      cases U with
      | error e =>
        refine g_callT Tk Tryz.func4 hE (hun _) rfl rfl rfl rfl rfl rfl ?_
        first | refine g_call Tk Tryz.func4 (hck _) rfl rfl rfl rfl rfl ?_ | refine s_callq Tk (fun _ => hck _) rfl rfl rfl ?_
        repeat (first | refine g_cnd Tk Tryz.func4 rfl (fun _ => ?_) (fun h => absurd h (by decide)) | refine g_know Tk Tryz.func4 rfl (fun _ => ?_) (fun h => absurd h (by decide)) | refine s_know Tk (fun _ => ?_) (fun h => absurd h (by decide)) | refine g_cnd Tk Tryz.func4 rfl (fun h => absurd h (by decide)) (fun _ => ?_) | refine g_know Tk Tryz.func4 rfl (fun h => absurd h (by decide)) (fun _ => ?_) | refine s_know Tk (fun h => absurd h (by decide)) (fun _ => ?_) | refine g_cnd Tk Tryz.func4 rfl (fun _ => ?_) (fun h => absurd (show true = false from h) (by decide)) | refine g_know Tk Tryz.func4 rfl (fun _ => ?_) (fun h => absurd (show true = false from h) (by decide)) | refine s_know Tk (fun _ => ?_) (fun h => absurd (show true = false from h) (by decide)) | refine g_cnd Tk Tryz.func4 rfl (fun h => absurd (show false = true from h) (by decide)) (fun _ => ?_) | refine g_know Tk Tryz.func4 rfl (fun h => absurd (show false = true from h) (by decide)) (fun _ => ?_) | refine s_know Tk (fun h => absurd (show false = true from h) (by decide)) (fun _ => ?_))
        first | refine g_call Tk Tryz.func4 (hsv _) rfl rfl rfl rfl rfl ?_ | refine s_callq Tk (fun _ => hsv _) rfl rfl rfl ?_
        first | refine g_cnd Tk Tryz.func4 rfl (fun g3 => ?_) (fun g3 => ?_) | refine g_know Tk Tryz.func4 rfl (fun g3 => ?_) (fun g3 => ?_) | refine s_know Tk (fun g3 => ?_) (fun g3 => ?_)
        · rw [if_pos (notT g3)] at hW
          refine g_stop ?_
          refine rch_meet (J trivial) ⟨rfl, rfl, rfl, congrArg ii hW.symm, trivial⟩ rfl ⟨rfl, rfl, trivial⟩ rfl rfl
        · rw [if_neg (by rw [notF g3]; simp)] at hW
          refine g_stop ?_
          refine rch_meet (J trivial) ⟨rfl, rfl, rfl, congrArg ii hW.symm, trivial⟩ rfl ⟨rfl, rfl, trivial⟩ rfl rfl
      | ok V =>
        obtain ⟨us, um, ue⟩ := V
        refine g_callT Tk Tryz.func4 hE (hun _) rfl rfl rfl rfl rfl rfl ?_
        first | refine g_call Tk Tryz.func4 (hck _) rfl rfl rfl rfl rfl ?_ | refine s_callq Tk (fun _ => hck _) rfl rfl rfl ?_
        repeat (first | refine g_cnd Tk Tryz.func4 rfl (fun _ => ?_) (fun h => absurd h (by decide)) | refine g_know Tk Tryz.func4 rfl (fun _ => ?_) (fun h => absurd h (by decide)) | refine s_know Tk (fun _ => ?_) (fun h => absurd h (by decide)) | refine g_cnd Tk Tryz.func4 rfl (fun h => absurd h (by decide)) (fun _ => ?_) | refine g_know Tk Tryz.func4 rfl (fun h => absurd h (by decide)) (fun _ => ?_) | refine s_know Tk (fun h => absurd h (by decide)) (fun _ => ?_) | refine g_cnd Tk Tryz.func4 rfl (fun _ => ?_) (fun h => absurd (show true = false from h) (by decide)) | refine g_know Tk Tryz.func4 rfl (fun _ => ?_) (fun h => absurd (show true = false from h) (by decide)) | refine s_know Tk (fun _ => ?_) (fun h => absurd (show true = false from h) (by decide)) | refine g_cnd Tk Tryz.func4 rfl (fun h => absurd (show false = true from h) (by decide)) (fun _ => ?_) | refine g_know Tk Tryz.func4 rfl (fun h => absurd (show false = true from h) (by decide)) (fun _ => ?_) | refine s_know Tk (fun h => absurd (show false = true from h) (by decide)) (fun _ => ?_))
        first | refine g_call Tk Tryz.func4 (hsv _) rfl rfl rfl rfl rfl ?_ | refine s_callq Tk (fun _ => hsv _) rfl rfl rfl ?_
        first | refine g_cnd Tk Tryz.func4 rfl (fun g3 => ?_) (fun g3 => ?_) | refine g_know Tk Tryz.func4 rfl (fun g3 => ?_) (fun g3 => ?_) | refine s_know Tk (fun g3 => ?_) (fun g3 => ?_)
        · rw [if_pos (notT g3)] at hW
          refine g_stop ?_
          refine rch_meet (J trivial) ⟨rfl, rfl, rfl, congrArg ii hW.symm, trivial⟩ rfl ⟨rfl, rfl, trivial⟩ rfl rfl
        · rw [if_neg (by rw [notF g3]; simp)] at hW
          refine g_stop ?_
          refine rch_meet (J trivial) ⟨rfl, rfl, rfl, congrArg ii hW.symm, trivial⟩ rfl ⟨rfl, rfl, trivial⟩ rfl rfl
  intro _
  refine g_run Tk Tryz.func4 ?_
  refine g_go Tk Tryz.func4 ?_
  first | refine g_call Tk Tryz.func4 (hcj _) rfl rfl rfl rfl rfl ?_ | refine s_callq Tk (fun _ => hcj _) rfl rfl rfl ?_
  first | refine g_cnd Tk Tryz.func4 rfl (fun g1 => ?_) (fun g1 => ?_) | refine g_know Tk Tryz.func4 rfl (fun g1 => ?_) (fun g1 => ?_) | refine s_know Tk (fun g1 => ?_) (fun g1 => ?_)
  · exact absurd rfl (bneT g1)
  clear g1
  first | refine g_call Tk Tryz.func4 (hnil _) rfl rfl rfl rfl rfl ?_ | refine s_callq Tk (fun _ => hnil _) rfl rfl rfl ?_
  repeat (first | refine g_cnd Tk Tryz.func4 rfl (fun _ => ?_) (fun h => absurd h (by decide)) | refine g_know Tk Tryz.func4 rfl (fun _ => ?_) (fun h => absurd h (by decide)) | refine s_know Tk (fun _ => ?_) (fun h => absurd h (by decide)) | refine g_cnd Tk Tryz.func4 rfl (fun h => absurd h (by decide)) (fun _ => ?_) | refine g_know Tk Tryz.func4 rfl (fun h => absurd h (by decide)) (fun _ => ?_) | refine s_know Tk (fun h => absurd h (by decide)) (fun _ => ?_) | refine g_cnd Tk Tryz.func4 rfl (fun _ => ?_) (fun h => absurd (show true = false from h) (by decide)) | refine g_know Tk Tryz.func4 rfl (fun _ => ?_) (fun h => absurd (show true = false from h) (by decide)) | refine s_know Tk (fun _ => ?_) (fun h => absurd (show true = false from h) (by decide)) | refine g_cnd Tk Tryz.func4 rfl (fun h => absurd (show false = true from h) (by decide)) (fun _ => ?_) | refine g_know Tk Tryz.func4 rfl (fun h => absurd (show false = true from h) (by decide)) (fun _ => ?_) | refine s_know Tk (fun h => absurd (show false = true from h) (by decide)) (fun _ => ?_))
  apply join_p (P := True) (s6 := { σ := [(2, u8D n), (7, .own 0 7 0 0)], S := [(7, .box (extC a))] :: O, n := 140 })
  · intro J
    first | refine g_cnd Tk Tryz.func4 rfl (fun g1 => ?_) (fun g1 => ?_) | refine g_know Tk Tryz.func4 rfl (fun g1 => ?_) (fun g1 => ?_) | refine s_know Tk (fun g1 => ?_) (fun g1 => ?_)
    · have g1 : W ≠ 0 := bneT g1
      have hjo := hjo g1
      simp only [if_pos g1] at hjo
      refine g_callT Tk Tryz.func4 hE (hjo _) rfl rfl rfl rfl rfl rfl ?_
      first | refine g_call Tk Tryz.func4 (hz _) rfl rfl rfl rfl rfl ?_ | refine s_callq Tk (fun _ => hz _) rfl rfl rfl ?_
      repeat (first | refine g_cnd Tk Tryz.func4 rfl (fun _ => ?_) (fun h => absurd h (by decide)) | refine g_know Tk Tryz.func4 rfl (fun _ => ?_) (fun h => absurd h (by decide)) | refine s_know Tk (fun _ => ?_) (fun h => absurd h (by decide)) | refine g_cnd Tk Tryz.func4 rfl (fun h => absurd h (by decide)) (fun _ => ?_) | refine g_know Tk Tryz.func4 rfl (fun h => absurd h (by decide)) (fun _ => ?_) | refine s_know Tk (fun h => absurd h (by decide)) (fun _ => ?_) | refine g_cnd Tk Tryz.func4 rfl (fun _ => ?_) (fun h => absurd (show true = false from h) (by decide)) | refine g_know Tk Tryz.func4 rfl (fun _ => ?_) (fun h => absurd (show true = false from h) (by decide)) | refine s_know Tk (fun _ => ?_) (fun h => absurd (show true = false from h) (by decide)) | refine g_cnd Tk Tryz.func4 rfl (fun h => absurd (show false = true from h) (by decide)) (fun _ => ?_) | refine g_know Tk Tryz.func4 rfl (fun h => absurd (show false = true from h) (by decide)) (fun _ => ?_) | refine s_know Tk (fun h => absurd (show false = true from h) (by decide)) (fun _ => ?_))
      first | refine g_cnd Tk Tryz.func4 rfl (fun g2 => ?_) (fun g2 => ?_) | refine g_know Tk Tryz.func4 rfl (fun g2 => ?_) (fun g2 => ?_) | refine s_know Tk (fun g2 => ?_) (fun g2 => ?_)
      · exact absurd rfl (bneT g2)
      refine g_stop ?_
      refine rch_meet (J trivial) ⟨rfl, rfl, trivial⟩ rfl ⟨rfl, trivial⟩ rfl rfl
    · refine g_stop ?_
      refine rch_meet (J trivial) ⟨rfl, rfl, trivial⟩ rfl ⟨rfl, trivial⟩ rfl rfl
  intro _
  have hmd : 0 ≤ n % 16 ∧ n % 16 < 16 := ⟨Int.emod_nonneg _ (by decide), Int.emod_lt_of_pos _ (by decide)⟩
  have h16 : (16 : Int) ≠ 0 := by decide
  refine g_run Tk Tryz.func4 ?_
  refine g_go Tk Tryz.func4 ?_
  refine g_loop ?_
  refine rch_wk (wk_nil 15 129 48 6 rfl rfl rfl) ?_
  refine rch_loop2 (fun i : Nat => [(2, u8D n), (7, .own 0 7 0 0), (15, .osl 0 129), (16, ii i)]) (fun i => [(7, .box (extC a)), (129, oexts (List.replicate i a))]) (fun _ => O) 140
    (fun i => (i : Int) ≤ n % 16) (fun i => 16 - i) 0 (by omega) ⟨rfl, rfl, rfl, rfl, trivial⟩ rfl ⟨rfl, rfl, trivial⟩ rfl rfl ?_
  rintro i hi ih
  refine g_run Tk Tryz.func4 ?_
  first | refine g_need Tk Tryz.func4 (h16) ?_ | refine s_need Tk (h16) ?_
  have hw : IntKind.i64.wrap (n.tmod 16) = n % 16 := by rw [hmod, w64 (by omega) (by omega)]
  have hil : (List.replicate i a).length = i := List.length_replicate
  first | refine g_cnd Tk Tryz.func4 rfl (fun g1 => ?_) (fun g1 => ?_) | refine g_know Tk Tryz.func4 rfl (fun g1 => ?_) (fun g1 => ?_) | refine s_know Tk (fun g1 => ?_) (fun g1 => ?_)
  · have g1 : (i : Int) < n % 16 := by rw [← hw]; exact of_decide_eq_true g1
    first | refine g_need Tk Tryz.func4 (by exact ⟨by show ((List.replicate i a).length + 1) * 112 ≤ 140737488355328; omega, by show (List.replicate i a).length + 1 ≤ 9223372036854775807; omega⟩) ?_ | refine s_need Tk (by exact ⟨by show ((List.replicate i a).length + 1) * 112 ≤ 140737488355328; omega, by show (List.replicate i a).length + 1 ≤ 9223372036854775807; omega⟩) ?_
    refine g_loop ?_
    refine ih (i + 1) _ _ (by omega) (by omega) ⟨rfl, rfl, rfl, congrArg ii (wsucc (n := 4096) (by omega) (by decide)), trivial⟩ rfl ⟨rfl, ?_, trivial⟩ rfl rfl
    rw [List.replicate_succ']
    exact congrArg some (oexts_app (List.replicate i a) a)
  have g1 : ¬ (i : Int) < n % 16 := by rw [← hw]; exact of_decide_eq_false g1
  have hcm := fun O => checkJoint20 O (List.replicate i a) (fun x hx => by rw [(List.mem_replicate.1 hx).2]; exact hao) (by simp only [max63]; omega)
  rw [chkJ_many hac i] at hcm
  first | refine g_cnd Tk Tryz.func4 rfl (fun g2 => ?_) (fun g2 => ?_) | refine g_know Tk Tryz.func4 rfl (fun g2 => ?_) (fun g2 => ?_) | refine s_know Tk (fun g2 => ?_) (fun g2 => ?_)
  · have g2 : i = 0 := by have : ((List.replicate i a).length : Int) = 0 := beqT g2; omega
    rw [if_pos g2] at hcm
    refine g_stop ?_
    refine rch_wk (wk_freeze 129 rfl rfl) ?_
    refine g_run Tk Tryz.func4 ?_
    refine g_go Tk Tryz.func4 ?_
    first | refine g_call Tk Tryz.func4 (hcm _) rfl rfl rfl rfl rfl ?_ | refine s_callq Tk (fun _ => hcm _) rfl rfl rfl ?_
    refine g_ret Tk (r := bb true) rfl rfl rfl trivial rfl rfl ?_
    rfl
  have g2 : i ≠ 0 := by have : ((List.replicate i a).length : Int) ≠ 0 := beqF g2; omega
  rw [if_neg g2] at hcm
  first | refine g_cnd Tk Tryz.func4 rfl (fun g3 => ?_) (fun g3 => ?_) | refine g_know Tk Tryz.func4 rfl (fun g3 => ?_) (fun g3 => ?_) | refine s_know Tk (fun g3 => ?_) (fun g3 => ?_)
  · have g3 : i > 12 := by have : ((List.replicate i a).length : Int) > 12 := of_decide_eq_true g3; omega
    rw [if_pos g3] at hcm
    refine g_stop ?_
    refine rch_wk (wk_freeze 129 rfl rfl) ?_
    refine g_run Tk Tryz.func4 ?_
    refine g_go Tk Tryz.func4 ?_
    first | refine g_call Tk Tryz.func4 (hcm _) rfl rfl rfl rfl rfl ?_ | refine s_callq Tk (fun _ => hcm _) rfl rfl rfl ?_
    refine g_ret Tk (r := bb true) rfl rfl rfl trivial rfl rfl ?_
    rfl
  have g3 : ¬ i > 12 := by have : ¬ ((List.replicate i a).length : Int) > 12 := of_decide_eq_false g3; omega
  rw [if_neg g3] at hcm
  refine g_stop ?_
  refine rch_wk (wk_freeze 129 rfl rfl) ?_
  refine g_run Tk Tryz.func4 ?_
  refine g_go Tk Tryz.func4 ?_
  first | refine g_call Tk Tryz.func4 (hcm _) rfl rfl rfl rfl rfl ?_ | refine s_callq Tk (fun _ => hcm _) rfl rfl rfl ?_
  refine g_ret Tk (r := bb true) rfl rfl rfl trivial rfl rfl ?_
  rfl
end Go.AI
