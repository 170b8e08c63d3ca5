/- The layer of abstract runs, part 41. -/
import Derived.Test.YtmhllkmceipdcaaGreatDoorYewZN
set_option linter.unusedSimpArgs false
set_option linter.unusedVariables false
set_option linter.all false

namespace Go.AI
open Go.Proofs
section
variable {P : Program} {T : TT} {E : Env} {K : Kn} {ρ : Nat → Nat → Loc} {S : List Heap} {w : World} {dst : Nat}
theorem new_tb (hw : HInv E K ρ S w) (hf : objAt S 0 dst = none) {cs : List Value} {ds : List D} (hr : RepDL K ρ (shape S) cs ds) (ty : TypeId) :
    ∃ l, Grow K ρ S w [(dst, .tb ty ds)] K (upd ρ dst l) (w.alloc (.cells cs.toArray ty)) ∧ RepD K (upd ρ dst l) (shape (addS S [(dst, .tb ty ds)])) (.pointer (some ⟨w.heap.size, 0, none⟩)) (.own 0 dst 0 0) := by
  have hst := stays_add (K := K) (ρ := ρ) hf (.tb ty ds) ⟨w.heap.size, 0, none⟩
  refine ⟨⟨w.heap.size, 0, none⟩, grow_alloc hw hf (.inl rfl) (fun _ => rfl) ⟨cs.toArray, heap_alloc_new w _, by simpa using hr.stays hst, fun o => hw.K_fresh (Nat.le_refl _)⟩, ?_⟩
  have hsh : shape (addS S [(dst, .tb ty ds)]) 0 dst = some .box := by
    cases S with
    | nil => simp [shape, addS, objAt, look_cons, Ob.sh]
    | cons H O => simp [shape, objAt_addS, look_cons, Ob.sh]
  have := RepD.box (K := K) (ρ := upd ρ dst ⟨w.heap.size, 0, none⟩) (off := 0) hsh
  rwa [upd_same] at this
end
section
variable {c : Cx} {s : St} {k : List Item} {ops : Array Oper} {rest : List Nat} {o : Oper}
theorem g_tb (hT : TOk c.P c.T) (hfn : c.P.funcs[c.f]? = some c.fn) {i t nm : Nat} {ti : TI} {H : Heap} {O : List Heap} (ho : ops[i]? = some o) (hop : o.op = .alloc t) (hd : o.dst = some nm) (hg : o.guard = none) (hn : Nat.ble (nm + 1) s.n = true) (hi : look c.T t = some ti)
    (hS : s.S = H :: O) (hf : look H nm = none) (h : GM c (run c.T c.stop 1000 (.inRegion ops rest :: k) { σ := (nm, .own 0 nm 0 0) :: s.σ, S := ((nm, .tb t (ti.zero.map fun v => .i (.v v))) :: H) :: O, n := s.n })) :
    GM c (.pause ops i rest o s k) := by
  refine ⟨?_⟩
  have hk : RG c ops rest { σ := (nm, .own 0 nm 0 0) :: s.σ, S := ((nm, .tb t (ti.zero.map fun v => .i (.v v))) :: H) :: O, n := s.n } k := run_sound hT hfn 1000 (.inRegion ops rest :: k) _ h.h
  refine rg_op ho (by unfold wantedD; rw [hg]) ?_
  intro K ρ a w hinv next Qe hnext
  have hok := hT _ _ hi
  have hh := hinv.h
  rw [hS] at hh
  obtain ⟨inf, h1, h2, h3, z, h4, h5, -⟩ := hok.info
  have hf' : objAt (H :: O) 0 nm = none := by simpa [objAt] using hf
  obtain ⟨l, g, r⟩ := new_tb (dst := nm) hh hf' (ones_of hok.one) t
  have hz : z.cells = ti.zero.toArray := by rw [← h5]
  have hrun : (execOp a.eval o).run c.P w = .ok (.value (.pointer (some ⟨w.heap.size, 0, none⟩))) (w.alloc (.cells ti.zero.toArray t)) := by
    simp [execOp, hop, Instr.alloc, zeroValue, typeInfo, h1, h4, newVar, newRow, hz]
  simp only [Oper.wp, hrun, Oper.upon]
  obtain ⟨hI, hst⟩ := HInv.grow (S := H :: O) rfl hh (fun _ _ _ e => e) (fun n' h => by
    cases hl : look [(nm, Ob.tb t (ti.zero.map fun v => .i (.v v)))] n' with
    | none => exact absurd hl h
    | some ob => obtain ⟨rfl, rfl⟩ := look_one hl; exact hf) g
  refine hnext _ _ _ _ _ hst.le (fun d n x _ e => ⟨hst.shp _ _ _ (by rw [hS] at e; exact e), hst.loc _ _ _ (by rw [hS] at e; exact e)⟩) ?_ hk
  rw [hd]
  refine inv_set hinv (Nat.le_of_ble_eq_true hn) hI ?_ r
  rw [hS]; exact hst
theorem wk_niltb (b nm e z : Nat) {T : Nat} {x : D} {H : Heap} {O : List Heap} (hS : s.S = H :: O) (hb : look H b = some (.tb T [x, .i (.v (.slice none 0 0))])) (hf : look H nm = none) : Wk c s { σ := s.σ, S := ((b, .tb T [x, .osl 0 nm]) :: (nm, .arr e z 0 [] true) :: H) :: O, n := s.n } := by
  intro K ρ a w hi
  have hh := hi.h
  rw [hS] at hh
  let l0 : Loc := ⟨0, 0, none⟩
  have hown : ∀ ρ' sh', OwnAt K ρ' sh' w l0 (.arr e z 0 [] true) := fun ρ' sh' => ⟨by simp, rfl, Nat.le_refl _, by simp [l0], .inl ⟨rfl, rfl⟩⟩
  have hg : Grow K ρ (H :: O) w [(nm, .arr e z 0 [] true)] K (upd ρ nm l0) w := by
    refine ⟨K.le_refl, fun _ _ _ h => .inl h, Nat.le_refl _, fun _ _ => rfl, ⟨rfl, rfl, rfl⟩, fun d n' h => ?_, hh.holds, fun n' ob e' => ?_, fun n1 o1 n2 o2 e1 e2 b1 b2 _ => ?_⟩
    · refine upd_other _ _ _ (h.imp id fun h e' => ?_)
      subst e'
      simp [look_cons] at h
    · obtain ⟨rfl, rfl⟩ := look_one e'
      rw [upd_same]
      exact ⟨hown _ _, fun hb => absurd rfl hb⟩
    · obtain ⟨rfl, rfl⟩ := look_one e1
      obtain ⟨rfl, rfl⟩ := look_one e2
      rfl
  obtain ⟨hI, hst⟩ := HInv.grow (S := H :: O) rfl hh (fun _ _ _ e => e) (fun n' h => by
    cases hl : look [(nm, Ob.arr e z 0 [] true)] n' with
    | none => exact absurd hl h
    | some ob => obtain ⟨rfl, rfl⟩ := look_one hl; exact hf) hg
  have hbn : nm ≠ b := fun e' => by subst e'; rw [hf] at hb; cases hb
  have hI : HInv c.E K (upd ρ nm l0) (((nm, .arr e z 0 [] true) :: H) :: O) w := hI
  have hob : objAt (((nm, .arr e z 0 [] true) :: H) :: O) 0 b = some (.tb T [x, .i (.v (.slice none 0 0))]) := by
    simp only [objAt, List.getElem?_cons_zero, look_cons, if_neg hbn]; exact hb
  have hwb := hI.own _ _ _ hob
  have e0 : (fun d n => upd ρ nm l0 (0 + d) n) = upd ρ nm l0 := by funext d n; rw [Nat.zero_add]
  have e1 : (fun d n => shape (((nm, Ob.arr e z 0 [] true) :: H) :: O) (0 + d) n) = shape (((nm, Ob.arr e z 0 [] true) :: H) :: O) := by funext d n; rw [Nat.zero_add]
  obtain ⟨cur, hc, hrc, hKb⟩ := hwb
  rw [e0, List.drop_zero] at hrc
  have hnew : RepDL K (fun d n => upd ρ nm l0 (0 + d) n) (fun d n => shape (((nm, Ob.arr e z 0 [] true) :: H) :: O) (0 + d) n) cur.toList [x, .osl 0 nm] := by
    rw [e0, e1]
    generalize cur.toList = L at hrc
    cases hrc with
    | cons h1 h2 => cases h2 with
      | cons h3 h4 =>
        cases h4
        rw [inv_v h3]
        have := RepD.osl (K := K) (ρ := upd ρ nm l0) (sh := shape (((nm, Ob.arr e z 0 [] true) :: H) :: O)) (dep := 0) (nm := nm) (es := z) (len := 0) (by simp [shape, objAt, look_cons, Ob.sh])
        rw [upd_same] at this
        exact .cons h1 (.cons this .nil)
  have hI2 := hI.put (ob' := .tb T [x, .osl 0 nm]) hob rfl trivial trivial (w' := w) rfl (fun _ _ => rfl) ⟨rfl, rfl, rfl⟩ (fun o' x' hx' => by rw [hKb] at hx'; cases hx') ⟨cur, hc, hnew, hKb⟩
  have hsh : shape (setAt (((nm, Ob.arr e z 0 [] true) :: H) :: O) 0 b (.tb T [x, .osl 0 nm])) = shape (((nm, Ob.arr e z 0 [] true) :: H) :: O) := shape_setAt hob rfl
  refine ⟨K, upd ρ nm l0, hI2, hi.defers, hi.size, fun t' d e' => ?_⟩
  have := hi.slots _ _ e'
  rw [hS] at this
  show RepD K _ (shape (((b, .tb T [x, .osl 0 nm]) :: (nm, .arr e z 0 [] true) :: H) :: O)) _ _
  have hsh : shape (((b, .tb T [x, .osl 0 nm]) :: (nm, .arr e z 0 [] true) :: H) :: O) = shape (((nm, Ob.arr e z 0 [] true) :: H) :: O) := hsh
  rw [hsh]
  exact this.stays hst
end
end Go.AI
