/- The layer of abstract runs, part 38. -/
import Derived.Test.YtmhllkmceipdcaaGreatDoorYewZK
set_option linter.unusedSimpArgs false
set_option linter.unusedVariables false
set_option linter.all false

namespace Go.AI
open Go.Proofs
set_option maxRecDepth 20000
section
variable {E : Env} {K : Kn} {ρ : Nat → Nat → Loc} {w w' : World}
theorem app_of_row {sh : Nat → Nat → Option Sh} {w3 : World} {l : Loc} {ty n m : Nat} {xs ys : List (List I)} {olds news : List Value} {v' : Value} (h : OwnAt K ρ sh w l (.arr ty 1 n xs true)) (ho : RepL K olds xs.flatten) (hn : RepL K news ys.flatten)
    (hy : ∀ d ∈ ys, d.length = 1) (hm : ys.length = m) (hrow : w3.ownsRow 0 ty 1 v' (n + m) (olds ++ news)) (hg : w.grownBy w3 (Value.slice l.base n l.cap).ownBlock) (hat : RowAt w (.slice l.base n l.cap) v')
    (hfresh : ∀ b o, w.heap.size ≤ b → K b o = none) :
    ∃ l' : Loc, v' = .slice l'.base (n + m) l'.cap ∧ (∀ (ρ' : Nat → Nat → Loc) (sh' : Nat → Nat → Option Sh), OwnAt K ρ' sh' w3 l' (.arr ty 1 (n + m) (xs ++ ys) true)) ∧ Apnd K w w3 l l' := by
  have hel : ∀ d ∈ xs ++ ys, d.length = 1 := fun d hd => by
    rcases List.mem_append.1 hd with h1 | h1
    · exact h.1 d h1
    · exact hy d h1
  have hlen : (xs ++ ys).length = n + m := by simp [h.2.1, hm]
  have hbase : l.base = none ∨ l.base = some ⟨l.block, 0, none⟩ := by
    rcases h.2.2.2.2 with ⟨_, h1⟩ | ⟨h1, _⟩
    · exact .inl h1
    · exact .inr h1
  have hold : ∀ b, b < w.heap.size → (l.base ≠ none → b ≠ l.block) → w3.heap[b]? = w.heap[b]? := fun b hb hne => hg.block b hb fun e => by
    rcases hbase with h1 | h1
    · rw [h1] at e; simp [Value.ownBlock] at e
    · rw [h1] at e
      simp only [Value.ownBlock, Option.some.injEq] at e
      exact hne (by rw [h1]; simp) e
  rcases hrow.2 with ⟨rfl, h0⟩ | ⟨g, cap, cur, rfl, _, hg3, hnc, hcm, hcs, htake⟩
  · refine ⟨⟨0, 0, none⟩, by rw [h0], fun ρ' sh' => ⟨hel, hlen, by simp only; omega, Nat.zero_le _, .inl ⟨rfl, rfl⟩⟩, ⟨hg.size, hold, ⟨hg.tape, hg.os, hg.output⟩, fun e => absurd rfl e⟩⟩
  · have hKg : ∀ o, K g o = none := by
      rcases hat with h1 | h1
      · rcases hbase with h2 | h2
        · rw [h2] at h1; simp [Value.ownBlock] at h1
        · rw [h2] at h1
          simp only [Value.ownBlock, Option.some.injEq] at h1
          subst h1
          rcases h.2.2.2.2 with ⟨_, h3⟩ | ⟨_, c, _, _, _, h4, _⟩
          · rw [h2] at h3; cases h3
          · exact h4 rfl
      · exact fun o => hfresh g o (h1 g rfl)
    have htk : cur.toList.take ((n + m) * 1) = olds ++ news := htake
    refine ⟨⟨g, cap, some ⟨g, 0, none⟩⟩, rfl, fun ρ' sh' => ⟨hel, hlen, hnc, hcm, .inr ⟨rfl, cur, hg3, hcs, ?_, fun _ o => hKg o, fun o _ => hKg o, fun e => by cases e⟩⟩, ⟨hg.size, hold, ⟨hg.tape, hg.os, hg.output⟩, fun _ => ?_⟩⟩
    · rw [htk, List.flatten_append]
      exact ho.append hn
    · rcases hat with h1 | h1
      · rcases hbase with h2 | h2
        · rw [h2] at h1; simp [Value.ownBlock] at h1
        · rw [h2] at h1
          simp only [Value.ownBlock, Option.some.injEq] at h1
          exact .inr ⟨by rw [h2]; simp, h1⟩
      · exact .inl (h1 g rfl)
def WSpec (P : Program) (f : FuncId) (T ty : TypeId) (res x : Value) (news : List Value) : Prop := ∀ (b : Nat) (p v0 : Value) (bs : List Value) (w : World), (p = .pointer none ∨ p = .pointer (some ⟨b, 0, none⟩)) →
  w.heap[b]? = some (.cells #[p, v0] T (0, 0)) → w.ownsRow 0 ty 1 v0 bs.length bs → v0.ownBlock ≠ some b → bs.length + news.length ≤ 140737488355328 →
  Calls P f #[.pointer (some ⟨b, 0, none⟩), x] w fun e w' => e = .returned res ∧ Wrote T ty b p v0 bs news w w'
def Wp (c : Cx) (o : Oper) (s : St) (f : FuncId) (args : List D) (s' : St) : Prop := ∀ K ρ a w, Inv c.E K ρ s a w → (∃ vs, (execOp a.eval o).run c.P w = (callFunc f vs.toArray).run c.P w ∧ RepDL K ρ (shape s.S) vs args) →
  ∀ (next : Act → World → Prop) (Qe : Exit → Act → World → Prop), (∀ v w' K' ρ', Inv c.E K' ρ' s' (a.put o.dst v) w' → next (a.put o.dst v) w') → o.wp c.P a w next Qe
theorem does_write {c : Cx} {s : St} {o : Oper} {f : FuncId} {t nm nm2 n m T ty : Nat} {dp dx rd : D} {x res : Value} {news : List Value} {xs ys : List (List I)} {H : Heap} {O : List Heap}
    (hspec : WSpec c.P f T ty res x news) (hent : ∀ args w, (callFunc f args).run c.P w = .ok (.enter f args) w) (hx : ∀ K ρ sh v, RepD K ρ sh v dx → v = x) (hr : ∀ K ρ sh, RepD K ρ sh res rd)
    (hdp : dp = .i (.v (.pointer none)) ∨ dp = .own 0 nm 0 0) (ht : o.dst = some t) (hn : t < s.n) (hS : s.S = H :: O) (hb : look H nm = some (.tb T [dp, .osl 0 nm2])) (ha : look H nm2 = some (.arr ty 1 n xs true))
    (hne : nm ≠ nm2) (hnews : ∀ K, RepL K news ys.flatten) (hy : ∀ d ∈ ys, d.length = 1) (hm : ys.length = m) (hlim : n + m ≤ 140737488355328) :
    Wp c o s f [.own 0 nm 0 0, dx] { σ := (t, rd) :: killσ nm2 s.σ, S := ((nm, .tb T [.own 0 nm 0 0, .osl 0 nm2]) :: (nm2, .arr ty 1 (n + m) (xs ++ ys) true) :: killH nm2 ((nm, .tb T [.own 0 nm 0 0, .osl 0 nm2]) :: H)) :: O, n := s.n } := by
  intro K ρ a w hi ⟨vs, hrun, hrep⟩ next Qe hnext
  have hh := hi.h
  rw [hS] at hh hrep
  have hob : objAt (H :: O) 0 nm = some (.tb T [dp, .osl 0 nm2]) := by simpa [objAt] using hb
  have hoa : objAt (H :: O) 0 nm2 = some (.arr ty 1 n xs true) := by simpa [objAt] using ha
  have e0 : (fun d n => ρ (0 + d) n) = ρ := by funext d n; rw [Nat.zero_add]
  have s0 : ∀ S : List Heap, shape (S.drop 0) = shape S := fun S => by rw [List.drop_zero]
  have hwb := hh.own _ _ _ hob
  rw [e0, s0] at hwb
  obtain ⟨cur, hc, hrc, hKb⟩ := hwb
  have hwa := hh.own _ _ _ hoa
  rw [e0, s0] at hwa
  obtain ⟨olds, hro, hrow⟩ := own_row hwa
  have hol : olds.length = n := by simpa using hrow.1
  have hshb : shape (H :: O) 0 nm = some .box := by simp [shape, hob, Ob.sh]
  have hsha : shape (H :: O) 0 nm2 = some (.arr 1 n) := by simp [shape, hoa, Ob.sh]
  obtain ⟨p, v0, hcur, hp, hv0⟩ : ∃ p v0, cur = #[p, v0] ∧ RepD K ρ (shape (H :: O)) p dp ∧ RepD K ρ (shape (H :: O)) v0 (.osl 0 nm2) := by
    generalize hL : cur.toList = L at hrc
    cases hrc with
    | cons h1 h2 => cases h2 with
      | cons h3 h4 => cases h4; exact ⟨_, _, Array.ext' (by rw [hL]), h1, h3⟩
  subst hcur
  have hv0 := inv_osl hv0 hsha
  subst hv0
  have hpp : p = .pointer none ∨ p = .pointer (some ⟨(ρ 0 nm).block, 0, none⟩) := by
    rcases hdp with rfl | rfl
    · exact .inl (inv_v hp)
    · exact .inr (inv_box hp hshb)
  have hnb : (Value.slice (ρ 0 nm2).base n (ρ 0 nm2).cap).ownBlock ≠ some (ρ 0 nm).block := by
    intro e
    rcases hwa.2.2.2.2 with ⟨_, h1⟩ | ⟨h1, _⟩
    · rw [h1] at e; simp [Value.ownBlock] at e
    · rw [h1] at e
      simp only [Value.ownBlock, Option.some.injEq] at e
      exact hne (hh.inj 0 nm _ 0 nm2 _ hob hoa trivial (by show _ ≠ none; rw [h1]; simp) e.symm).2
  obtain ⟨rfl⟩ : vs = [.pointer (some ⟨(ρ 0 nm).block, 0, none⟩), x] := by
    cases hrep with
    | cons h1 h2 => cases h2 with
      | cons h3 h4 => cases h4; rw [inv_box h1 hshb, hx _ _ _ _ h3]
  rw [hent] at hrun
  simp only [Oper.wp, hrun, Oper.upon]
  have hml : news.length = m := by
    have := (hnews K).length
    rw [this, flat_len ys hy, hm]; omega
  refine (hspec _ p _ olds w hpp hc (by rw [hol]; exact hrow) hnb (by rw [hol, hml]; exact hlim)).mono ?_
  rintro e w' ⟨rfl, w1, w2, w3, v', h1, h2, hrow3, hgb, hat, rfl⟩
  rw [hol, hml] at hrow3
  have e1 : (fun d n => shape (H :: O) (0 + d) n) = shape (H :: O) := by funext d n; rw [Nat.zero_add]
  have hcells : RepDL K (fun d n => ρ (0 + d) n) (fun d n => shape (H :: O) (0 + d) n) [.pointer (some ⟨(ρ 0 nm).block, 0, none⟩), .slice (ρ 0 nm2).base n (ρ 0 nm2).cap] [.own 0 nm 0 0, .osl 0 nm2] := by
    rw [e0, e1]
    exact .cons (.box hshb) (.cons (.osl hsha) .nil)
  have hI1 : HInv c.E K ρ (setAt (H :: O) 0 nm (.tb T [.own 0 nm 0 0, .osl 0 nm2])) w1 ∧ w1.heap[(ρ 0 nm).block]? = some (.cells #[.pointer (some ⟨(ρ 0 nm).block, 0, none⟩), .slice (ρ 0 nm2).base n (ρ 0 nm2).cap] T (0, 0)) := by
    rcases h1 with ⟨rfl, rfl⟩ | ⟨rfl, rfl⟩
    · exact ⟨hh.put hob rfl trivial trivial rfl (fun _ _ => rfl) ⟨rfl, rfl, rfl⟩ (fun o' x' hx' => by rw [hKb] at hx'; cases hx') ⟨_, hc, hcells, hKb⟩, hc⟩
    · exact ⟨hh.put hob rfl trivial trivial (by simp [World.setCell]) (fun b hb => Go.Deep.blk_setCell_other w _ _ b hb) ⟨rfl, rfl, rfl⟩ (fun o' x' hx' => by rw [hKb] at hx'; cases hx') ⟨_, heap_set0 hc, hcells, hKb⟩, heap_set0 hc⟩
  obtain ⟨hI1, hc1⟩ := hI1
  have hI1 : HInv c.E K ρ (((nm, .tb T [.own 0 nm 0 0, .osl 0 nm2]) :: H) :: O) w1 := hI1
  have hlt1 : (ρ 0 nm).block < w1.heap.size := by
    rcases Nat.lt_or_ge (ρ 0 nm).block w1.heap.size with h' | h'
    · exact h'
    · simp [Array.getElem?_eq_none h'] at hc1
  have hI2 : HInv c.E K ρ (((nm, .tb T [.own 0 nm 0 0, .osl 0 nm2]) :: H) :: O) w2 ∧ w2.heap[(ρ 0 nm).block]? = some (.cells #[.pointer (some ⟨(ρ 0 nm).block, 0, none⟩), .slice (ρ 0 nm2).base n (ρ 0 nm2).cap] T (0, 0)) ∧ w1.heap.size ≤ w2.heap.size := by
    rcases h2 with rfl | ⟨o', rfl⟩
    · exact ⟨hI1, hc1, Nat.le_refl _⟩
    · exact ⟨(HInv.grow (S := ((nm, .tb T [.own 0 nm 0 0, .osl 0 nm2]) :: H) :: O) rfl hI1 (fun _ _ _ e => e) (fun _ h => by simp [look] at h) (grow_none hI1 (.inl rfl) o')).1, by rw [heap_alloc_old w1 o' hlt1]; exact hc1, by simp [World.size_alloc]⟩
  obtain ⟨hI2, hc2, hsz2⟩ := hI2
  have hc3 : w3.heap[(ρ 0 nm).block]? = some (.cells #[.pointer (some ⟨(ρ 0 nm).block, 0, none⟩), .slice (ρ 0 nm2).base n (ρ 0 nm2).cap] T (0, 0)) := by
    rw [hgb.block _ (by omega) (fun e => hnb e.symm)]
    exact hc2
  have hlk : look ((nm, Ob.tb T [.own 0 nm 0 0, .osl 0 nm2]) :: H) nm2 = some (.arr ty 1 n xs true) := by
    rw [look_cons, if_neg hne]; exact ha
  have hoa2 : objAt (((nm, Ob.tb T [.own 0 nm 0 0, .osl 0 nm2]) :: H) :: O) 0 nm2 = some (.arr ty 1 n xs true) := by simpa [objAt] using hlk
  have hob2 : objAt (((nm, Ob.tb T [.own 0 nm 0 0, .osl 0 nm2]) :: H) :: O) 0 nm = some (.tb T [.own 0 nm 0 0, .osl 0 nm2]) := by simp [objAt, look_cons]
  have hwa2 := hI2.own _ _ _ hoa2
  rw [e0, s0] at hwa2
  obtain ⟨l', rfl, hown', hap⟩ := app_of_row hwa2 hro (hnews K) hy hm hrow3 hgb hat (fun b o hb => hI2.K_fresh hb)
  have hKo : backed (ρ 0 nm2) (.arr ty 1 n xs true) → ∀ o, K (ρ 0 nm2).block o = none := by
    intro hbk
    obtain ⟨_, _, _, _, h5⟩ := hwa
    rcases h5 with ⟨_, h6⟩ | ⟨_, c, _, _, _, h9, _⟩
    · exact absurd h6 hbk
    · exact h9 rfl
  obtain ⟨hI3, hbut⟩ := hI2.renew (nm := nm2) (dst := nm2) hlk (by rw [look_killH]; simp) hap Iff.rfl (ob' := .arr ty 1 (n + m) (xs ++ ys) true) Iff.rfl hKo hown'
  generalize hS3 : (((nm2, Ob.arr ty 1 (n + m) (xs ++ ys) true) :: killH nm2 ((nm, Ob.tb T [.own 0 nm 0 0, .osl 0 nm2]) :: H)) :: O) = S3 at hI3 hbut
  have hob3 : objAt S3 0 nm = some (Ob.kill nm2 (.tb T [.own 0 nm 0 0, .osl 0 nm2])) := by
    rw [← hS3]
    simp only [objAt, List.getElem?_cons_zero, look_cons, if_neg (Ne.symm hne), look_killH, if_neg hne, if_true, Option.map_some]
  obtain ⟨hb1, hb2⟩ := hbut 0 nm .box (.inr hne) (by simp [shape, hob2, Ob.sh])
  have hsh3 : shape S3 0 nm2 = some (.arr 1 (n + m)) := by
    rw [← hS3]
    simp [shape, objAt, look_cons, Ob.sh]
  have f0 : (fun d n => upd ρ nm2 l' (0 + d) n) = upd ρ nm2 l' := by funext d n; rw [Nat.zero_add]
  have f1 : (fun d n => shape S3 (0 + d) n) = shape S3 := by funext d n; rw [Nat.zero_add]
  have hcells3 : RepDL K (fun d n => upd ρ nm2 l' (0 + d) n) (fun d n => shape S3 (0 + d) n) [.pointer (some ⟨(ρ 0 nm).block, 0, none⟩), .slice l'.base (n + m) l'.cap] [.own 0 nm 0 0, .osl 0 nm2] := by
    rw [f0, f1]
    have g1 := RepD.box (K := K) (ρ := upd ρ nm2 l') (off := 0) hb1
    rw [hb2] at g1
    have g2 := RepD.osl (K := K) (ρ := upd ρ nm2 l') hsh3
    rw [upd_same] at g2
    exact .cons g1 (.cons g2 .nil)
  have hI4 : HInv c.E K (upd ρ nm2 l') (setAt S3 0 nm (.tb T [.own 0 nm 0 0, .osl 0 nm2])) (w3.setCell ⟨(ρ 0 nm).block, 1, none⟩ (.slice l'.base (n + m) l'.cap)) := by
    refine hI3.put hob3 rfl trivial trivial (by simp [World.setCell]) (fun b hb => Go.Deep.blk_setCell_other w3 _ _ b (by rw [hb2] at hb; exact hb)) ⟨rfl, rfl, rfl⟩ (fun o' x' hx' => by rw [hb2, hKb] at hx'; cases hx') ⟨_, by rw [hb2]; exact heap_set1 hc3, hcells3, fun o => by rw [hb2]; exact hKb o⟩
  have hS4 : setAt S3 0 nm (.tb T [.own 0 nm 0 0, .osl 0 nm2]) = ((nm, .tb T [.own 0 nm 0 0, .osl 0 nm2]) :: (nm2, .arr ty 1 (n + m) (xs ++ ys) true) :: killH nm2 ((nm, .tb T [.own 0 nm 0 0, .osl 0 nm2]) :: H)) :: O := by rw [← hS3]; rfl
  have hsh4 : shape (setAt S3 0 nm (.tb T [.own 0 nm 0 0, .osl 0 nm2])) = shape S3 := shape_setAt hob3 rfl
  have hsh2 : shape (((nm, Ob.tb T [.own 0 nm 0 0, .osl 0 nm2]) :: H) :: O) = shape (H :: O) := shape_setAt (S := H :: O) hob rfl
  rw [hS4] at hI4 hsh4
  rw [hsh2] at hbut
  refine hnext _ _ K (upd ρ nm2 l') ?_
  · rw [ht]
    refine ⟨hI4, hi.defers, by simp [Act.put]; exact hi.size, fun t' d' e' => ?_⟩
    rw [tmps_put (by rw [hi.size]; exact hn)]
    simp only [look_cons] at e'
    split at e'
    · rename_i e2
      simp only [Option.some.injEq] at e'
      subst e'
      rw [if_pos e2]
      exact hr _ _ _
    · rename_i e2
      rw [if_neg e2]
      rw [look_killσ] at e'
      cases hls : look s.σ t' with
      | none => simp [hls] at e'
      | some d0 =>
        simp only [hls, Option.map_some, Option.some.injEq] at e'
        subst e'
        have hr := hi.slots _ _ hls
        rw [hS] at hr
        show RepD _ _ (shape _) _ _
        rw [hsh4]
        exact hr.kill hbut
end
section
variable {c : Cx} {s : St} {k : List Item} {ops : Array Oper} {rest : List Nat} {o : Oper}
theorem g_callP (hT : TOk c.P c.T) (hfn : c.P.funcs[c.f]? = some c.fn) {i t : Nat} {f : FuncId} {args : List D} {s' : St} (ho : ops[i]? = some o) (hg : o.guard = none) (hd : o.dst = some t) (hex : exec c.T s o = .call f args) (hw : Wp c o s f args s')
    (h : GM c (run c.T c.stop 1000 (.inRegion ops rest :: k) s')) : GM c (.pause ops i rest o s k) := by
  have hk : RG c ops rest s' k := run_sound hT hfn 1000 (.inRegion ops rest :: k) _ h.h
  refine ⟨?_⟩
  intro K ρ a w hi
  simp only [wpOps, ho, wanted_of hi (show wantedD ops s o = some true by unfold wantedD; rw [hg]), if_true]
  refine .inl (hw K ρ a w hi ?_ _ _ fun v w' K' ρ' hi' => hk K' ρ' _ w' hi')
  have := exec_snd hT hi.h (.inl hd) fun x _ => hi.ev x
  rw [hex] at this
  exact this
end
section
def u8l (l : List UInt8) : List (List I) := l.map fun b => [.v (.int .u8 b.toNat)]
theorem u8l_flat : ∀ l : List UInt8, (u8l l).flatten = l.map fun b => I.v (.int .u8 b.toNat)
  | [] => rfl
  | b :: r => by
    have := u8l_flat r
    unfold u8l at this ⊢
    rw [List.map_cons, List.flatten_cons, this]
    rfl
theorem u8l_el (l : List UInt8) : ∀ d ∈ u8l l, d.length = 1 := fun d hd => by
  unfold u8l at hd
  obtain ⟨b, _, rfl⟩ := List.mem_map.1 hd
  rfl
theorem u8l_rep (K : Kn) : ∀ l : List UInt8, RepL K (l.map fun b => Value.int .u8 b.toNat) (u8l l).flatten
  | [] => .nil
  | b :: r => by
    have := u8l_rep K r
    rw [u8l_flat] at this ⊢
    exact .cons (.v rfl) this
theorem repL_vals {K : Kn} : ∀ {vs : List Value} {l : List Value}, RepL K vs (l.map I.v) → vs = l
  | _, [], h => by cases h; rfl
  | _, x :: r, h => by
    cases h with
    | cons h1 h2 =>
      rw [repL_vals h2]
      cases h1
      rfl
theorem u8l_app (a b : List UInt8) : u8l a ++ u8l b = u8l (a ++ b) := by simp [u8l]
def SSpec (P : Program) (f : FuncId) (T ty : TypeId) : Prop := ∀ (b : Nat) (p v : Value) (l : List UInt8) (w : World), w.heap[b]? = some (.cells #[p, v] T (0, 0)) → w.ownsRow 0 ty 1 v l.length (Lib.byteCells l) → l ≠ [] →
  Calls P f #[.pointer (some ⟨b, 0, none⟩)] w fun e w' => e = .returned (.string ⟨l.toArray⟩) ∧ ∃ g, v.ownBlock = some g ∧ w' = w.drew.freeze ⟨g, 0, none⟩ l.length
theorem freeze_other (w : World) (g n k : Nat) (h : k ≠ g) : (w.freeze ⟨g, 0, none⟩ n).heap[k]? = w.heap[k]? := by
  unfold World.freeze
  split <;> simp [Array.getElem?_modify, Array.getElem?_setIfInBounds, Ne.symm h]
theorem freeze_rest (w : World) (g n : Nat) : (w.freeze ⟨g, 0, none⟩ n).tape = w.tape ∧ (w.freeze ⟨g, 0, none⟩ n).os = w.os ∧ (w.freeze ⟨g, 0, none⟩ n).output = w.output ∧ (w.freeze ⟨g, 0, none⟩ n).heap.size = w.heap.size := by
  unfold World.freeze
  split <;> simp
theorem does_bstr {c : Cx} {s : St} {o : Oper} {f : FuncId} {t nm nm2 T ty : Nat} {dp : D} {l : List UInt8} {H : Heap} {O : List Heap}
    (hspec : SSpec c.P f T ty) (hent : ∀ args w, (callFunc f args).run c.P w = .ok (.enter f args) w) (h0 : l ≠ [])
    (ht : o.dst = some t) (hn : t < s.n) (hS : s.S = H :: O) (hb : look H nm = some (.tb T [dp, .osl 0 nm2])) (ha : look H nm2 = some (.arr ty 1 l.length (u8l l) true)) :
    Wp c o s f [.own 0 nm 0 0] { σ := (t, .i (.v (.string ⟨l.toArray⟩))) :: killσ nm2 s.σ, S := ((nm2, .arr ty 1 0 [] true) :: killH nm2 H) :: O, n := s.n } := by
  intro K ρ a w hi ⟨vs, hrun, hrep⟩ next Qe hnext
  have hh := hi.h
  rw [hS] at hh hrep
  have hob : objAt (H :: O) 0 nm = some (.tb T [dp, .osl 0 nm2]) := by simpa [objAt] using hb
  have hoa : objAt (H :: O) 0 nm2 = some (.arr ty 1 l.length (u8l l) true) := by simpa [objAt] using ha
  have e0 : (fun d n => ρ (0 + d) n) = ρ := by funext d n; rw [Nat.zero_add]
  have s0 : ∀ S : List Heap, shape (S.drop 0) = shape S := fun S => by rw [List.drop_zero]
  have hwb := hh.own _ _ _ hob
  rw [e0, s0] at hwb
  obtain ⟨cur, hc, hrc, hKb⟩ := hwb
  have hwa := hh.own _ _ _ hoa
  rw [e0, s0] at hwa
  obtain ⟨olds, hro, hrow⟩ := own_row hwa
  have hold : olds = Lib.byteCells l := by
    rw [u8l_flat] at hro
    have : (l.map fun b => I.v (.int .u8 b.toNat)) = (l.map fun b => Value.int .u8 b.toNat).map I.v := by rw [List.map_map]; rfl
    rw [this] at hro
    exact repL_vals hro
  subst hold
  have hshb : shape (H :: O) 0 nm = some .box := by simp [shape, hob, Ob.sh]
  have hsha : shape (H :: O) 0 nm2 = some (.arr 1 l.length) := by simp [shape, hoa, Ob.sh]
  obtain ⟨p, v0, hcur, hv0⟩ : ∃ p v0, cur = #[p, v0] ∧ RepD K ρ (shape (H :: O)) v0 (.osl 0 nm2) := by
    generalize hL : cur.toList = L at hrc
    cases hrc with
    | cons h1 h2 => cases h2 with
      | cons h3 h4 => cases h4; exact ⟨_, _, Array.ext' (by rw [hL]), h3⟩
  subst hcur
  have hv0 := inv_osl hv0 hsha
  subst hv0
  obtain ⟨rfl⟩ : vs = [.pointer (some ⟨(ρ 0 nm).block, 0, none⟩)] := by
    cases hrep with
    | cons h1 h2 => cases h2; rw [inv_box h1 hshb]
  rw [hent] at hrun
  simp only [Oper.wp, hrun, Oper.upon]
  refine (hspec _ p _ l w hc hrow h0).mono ?_
  rintro e w' ⟨rfl, g, hgb, rfl⟩
  obtain ⟨r1, r2, r3, r4⟩ := freeze_rest w.drew g l.length
  have hbase : (ρ 0 nm2).base = some ⟨(ρ 0 nm2).block, 0, none⟩ := by
    rcases hwa.2.2.2.2 with ⟨_, h1⟩ | ⟨h1, _⟩
    · rw [h1] at hgb; simp [Value.ownBlock] at hgb
    · exact h1
  have hgb : (ρ 0 nm2).block = g := by rw [hbase] at hgb; simpa [Value.ownBlock] using hgb
  subst hgb
  have hKo : backed (ρ 0 nm2) (.arr ty 1 l.length (u8l l) true) → ∀ o, K (ρ 0 nm2).block o = none := by
    intro hbk
    obtain ⟨_, _, _, _, h5⟩ := hwa
    rcases h5 with ⟨_, h6⟩ | ⟨_, c, _, _, _, h9, _⟩
    · exact absurd h6 hbk
    · exact h9 rfl
  let l0 : Loc := ⟨0, 0, none⟩
  have hap : Apnd K w (w.drew.freeze ⟨(ρ 0 nm2).block, 0, none⟩ l.length) (ρ 0 nm2) l0 := by
    refine ⟨Nat.le_of_eq r4.symm, fun b _ hne => ?_, ⟨r1, r2, r3⟩, fun e => absurd rfl e⟩
    exact freeze_other w.drew _ _ _ (hne (by rw [hbase]; simp))
  obtain ⟨hI3, hbut⟩ := hh.renew (nm := nm2) (dst := nm2) ha (by rw [look_killH]; simp) hap Iff.rfl (ob' := .arr ty 1 0 [] true) Iff.rfl hKo (fun ρ' sh' => ⟨by simp, rfl, Nat.le_refl _, by simp [l0], .inl ⟨rfl, rfl⟩⟩)
  refine hnext _ _ K (upd ρ nm2 l0) ?_
  · rw [ht]
    refine ⟨hI3, hi.defers, by simp [Act.put]; exact hi.size, fun t' d' e' => ?_⟩
    rw [tmps_put (by rw [hi.size]; exact hn)]
    simp only [look_cons] at e'
    split at e'
    · rename_i e2
      simp only [Option.some.injEq] at e'
      subst e'
      rw [if_pos e2]
      exact .i (.v rfl)
    · rename_i e2
      rw [if_neg e2]
      rw [look_killσ] at e'
      cases hls : look s.σ t' with
      | none => simp [hls] at e'
      | some d0 =>
        simp only [hls, Option.map_some, Option.some.injEq] at e'
        subst e'
        have hr := hi.slots _ _ hls
        rw [hS] at hr
        exact hr.kill hbut
end
end Go.AI
