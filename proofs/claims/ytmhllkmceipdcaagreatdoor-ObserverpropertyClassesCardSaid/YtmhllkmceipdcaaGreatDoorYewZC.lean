/- The layer of abstract runs, part 29. -/
import Derived.Test.YtmhllkmceipdcaaGreatDoorYewZB
set_option linter.unusedSimpArgs false
set_option linter.unusedVariables false
set_option linter.all false

namespace Go.AI
section
variable {E : Env} {K : Kn} {ρ : Nat → Nat → Loc} {H Hv : Heap} {O : List Heap} {w : World}
theorem HInv.drop (h : HInv E K ρ (H :: O) w) (hv : ∀ nm ob, look Hv nm = some ob → look H nm = some ob) (hin : ∀ nm ob, look Hv nm = some ob → ob.within (has Hv) = true) : HInv E K ρ (Hv :: O) w := by
  refine h.restrict ⟨fun d nm ob e => ?_, fun d nm => by simp [objAt]⟩ fun d nm ob e => ?_
  · cases d with
    | zero => simpa [objAt] using hv nm ob (by simpa [objAt] using e)
    | succ d => simpa [objAt] using e
  · cases d with
    | zero =>
      have e' : look Hv nm = some ob := by simpa [objAt] using e
      have h0 := h.own 0 nm ob (by simpa [objAt] using hv _ _ e')
      have hm := shape_part (K := K) (ρ := fun d n => ρ (0 + d) n) (O := O) hv
      exact h0.move hm (hin _ _ e') (fun _ => rfl) (fun _ _ => rfl)
    | succ d => simpa using h.own (d + 1) nm ob (by simpa [objAt] using e)
theorem hasE (H : Heap) : has H = hasK H := by
  funext n
  unfold has hasK
  cases look H n <;> rfl
theorem subH_ok {H : Heap} : ∀ {l : Heap}, SubH H l → ∀ nm ob, look l nm = some ob → look H nm = some ob
  | [], _, nm, ob, e => by simp [look] at e
  | (k, x) :: r, h, nm, ob, e => by
    rw [look_cons] at e
    split at e
    · rename_i hk
      subst hk
      simp only [Option.some.injEq] at e
      subst e
      exact h.1
    · exact subH_ok h.2 nm ob e
def okCut (l : List (Nat × D)) (Hv : Heap) : Bool := allS (fun _ d => d.within (hasK Hv)) l && allH (fun _ d => d.within (hasK Hv)) Hv
theorem inv_cut {s : St} {l : List (Nat × D)} {n : Nat} {a : Act} (hi : Inv E K ρ s a w) (hs : Sub s l) (hS : s.S = H :: O) (hH : SubH H Hv) (hok : okCut l Hv = true) (hn : s.n = n) : Inv E K ρ { σ := l, S := Hv :: O, n := n } a w := by
  simp only [okCut, Bool.and_eq_true] at hok
  have hh := hi.h
  rw [hS] at hh
  have hv := subH_ok hH
  refine ⟨hh.drop hv fun nm ob e => by rw [hasE]; exact allH_look hok.2 e, hi.defers, by rw [hi.size, hn], fun t d e => ?_⟩
  have h1 := hi.get t
  rw [sub_ok hs t d e, hS] at h1
  exact h1.move (shape_part hv) (by rw [hasE]; exact allS_look hok.1 e)
end
def Wk (c : Cx) (s s' : St) : Prop := ∀ K ρ a w, Inv c.E K ρ s a w → ∃ K' ρ', Inv c.E K' ρ' s' a w
section
variable {c : Cx} {todo : List Item} {s s' s'' : St}
theorem Wk.trans (h : Wk c s s') (h' : Wk c s' s'') : Wk c s s'' := fun K ρ a w hi => let ⟨_, _, h1⟩ := h K ρ a w hi; h' _ _ a w h1
theorem rch_wk (hw : Wk c s s') (h : Rch c todo s') : Rch c todo s := fun K ρ a w b cs hi hb hk => let ⟨_, _, h1⟩ := hw K ρ a w hi; h _ _ a w b cs h1 hb hk
theorem ret_wk (hw : Wk c s s') (h : MSx c (.ret s')) : MSx c (.ret s) := fun K ρ a w hi => let ⟨_, _, h1⟩ := hw K ρ a w hi; h _ _ a w h1
theorem wk_cut {l : List (Nat × D)} {H Hv : Heap} {O : List Heap} {n : Nat} (hs : Sub s l) (hS : s.S = H :: O) (hH : SubH H Hv) (hok : okCut l Hv = true) (hn : s.n = n) : Wk c s { σ := l, S := Hv :: O, n := n } := fun K ρ a w hi => ⟨K, ρ, inv_cut hi hs hS hH hok hn⟩
theorem rch_cut2 {l : List (Nat × D)} {H Hv : Heap} {O : List Heap} {n : Nat} (hs : Sub s l) (hS : s.S = H :: O) (hH : SubH H Hv) (hok : okCut l Hv = true) (hn : s.n = n) (h : Rch c todo { σ := l, S := Hv :: O, n := n }) : Rch c todo s := by
  intro K ρ a w b cs hi hb hk
  exact h K ρ a w b cs (inv_cut hi hs hS hH hok hn) hb hk
theorem rch_loop2 {α : Type} (L : α → List (Nat × D)) (G : α → Heap) (O : α → List Heap) (n : Nat) (I : α → Prop) (m : α → Nat) (x0 : α) {H : Heap} (hI : I x0) (hs : Sub s (L x0)) (hS : s.S = H :: O x0) (hH : SubH H (G x0)) (hok : okCut (L x0) (G x0) = true) (hn : s.n = n)
    (step : ∀ x, I x → (∀ y s' H, I y → m y < m x → Sub s' (L y) → s'.S = H :: O y → SubH H (G y) → okCut (L y) (G y) = true → s'.n = n → Rch c todo s') → Rch c todo { σ := L x, S := G x :: O x, n := n }) : Rch c todo s := by
  have key : ∀ N x s H, m x ≤ N → I x → Sub s (L x) → s.S = H :: O x → SubH H (G x) → okCut (L x) (G x) = true → s.n = n → Rch c todo s := by
    intro N
    induction N with
    | zero =>
      intro x s H hm hI hs hS hH hok hn
      exact rch_cut2 hs hS hH hok hn (step x hI fun y s' _ _ hlt => by omega)
    | succ N ih =>
      intro x s H hm hI hs hS hH hok hn
      exact rch_cut2 hs hS hH hok hn (step x hI fun y s' H' hy hlt => ih y s' H' (by omega) hy)
  exact key _ x0 s H (Nat.le_refl _) hI hs hS hH hok hn
theorem wk_nil (t nm e z : Nat) {H : Heap} {O : List Heap} (ht : s.get t = .i (.v (.slice none 0 0))) (hS : s.S = H :: O) (hf : look H nm = none) : Wk c s { σ := (t, .osl 0 nm) :: s.σ, S := ((nm, .arr e z 0 [] true) :: H) :: O, n := s.n } := by
  intro K ρ a w hi
  have hh := hi.h
  rw [hS] at hh
  let l0 : Loc := ⟨0, 0, none⟩
  have hown : ∀ ρ' sh', OwnAt K ρ' sh' w l0 (.arr e z 0 [] true) := fun ρ' sh' => ⟨by simp, rfl, Nat.le_refl _, by simp [l0], .inl ⟨rfl, rfl⟩⟩
  have hg : Grow K ρ (H :: O) w [(nm, .arr e z 0 [] true)] K (upd ρ nm l0) w := by
    refine ⟨K.le_refl, fun _ _ _ h => .inl h, Nat.le_refl _, fun _ _ => rfl, ⟨rfl, rfl, rfl⟩, fun d n' h => ?_, hh.holds, fun n' ob e' => ?_, fun n1 o1 n2 o2 e1 e2 b1 b2 _ => ?_⟩
    · refine upd_other _ _ _ (h.imp id fun h e' => ?_)
      subst e'
      simp [look_cons] at h
    · obtain ⟨rfl, rfl⟩ := look_one e'
      rw [upd_same]
      exact ⟨hown _ _, fun hb => absurd rfl hb⟩
    · obtain ⟨rfl, rfl⟩ := look_one e1
      obtain ⟨rfl, rfl⟩ := look_one e2
      rfl
  obtain ⟨hI, hst⟩ := HInv.grow (S := H :: O) rfl hh (fun _ _ _ e => e) (fun n' h => by
    cases hl : look [(nm, Ob.arr e z 0 [] true)] n' with
    | none => exact absurd hl h
    | some ob => obtain ⟨rfl, rfl⟩ := look_one hl; exact hf) hg
  refine ⟨K, upd ρ nm l0, hI, hi.defers, hi.size, fun t' d e' => ?_⟩
  simp only [look_cons] at e'
  split at e'
  · rename_i htt
    subst htt
    simp only [Option.some.injEq] at e'
    subst e'
    have h1 := hi.get t
    rw [ht] at h1
    rw [inv_v h1]
    have := RepD.osl (K := K) (ρ := upd ρ nm l0) (sh := shape (addS (H :: O) [(nm, .arr e z 0 [] true)])) (dep := 0) (nm := nm) (es := z) (len := 0) (by simp [shape, addS, objAt, look_cons, Ob.sh])
    rw [upd_same] at this
    exact this
  · have := hi.slots _ _ e'
    rw [hS] at this
    exact this.stays hst
end
end Go.AI
