/- The layer of abstract runs, part 40. -/
import Derived.Test.YtmhllkmceipdcaaGreatDoorYewZM
set_option linter.unusedSimpArgs false
set_option linter.unusedVariables false
set_option linter.all false

namespace Go.AI
section
variable {c : Cx} {s : St} {E : Env} {K : Kn} {ρ : Nat → Nat → Loc} {H : Heap} {O : List Heap} {w : World}
theorem HInv.rebox {b : Nat} {cs cs' : List D} (hh : HInv E K ρ (H :: O) w) (ho : look H b = some (.box cs)) (hc : ∀ vs, RepDL K ρ (shape (H :: O)) vs cs → RepDL K ρ (shape (H :: O)) vs cs') : HInv E K ρ (((b, .box cs') :: H) :: O) w := by
  have hsh : shape (((b, .box cs') :: H) :: O) = shape (H :: O) := shape_over ho rfl
  have hcase : ∀ d n o, objAt (((b, .box cs') :: H) :: O) d n = some o → ∃ o0, objAt (H :: O) d n = some o0 ∧ (o = o0 ∨ (d = 0 ∧ n = b ∧ o = .box cs' ∧ o0 = .box cs)) ∧ (∀ l, backed l o ↔ backed l o0) := by
    intro d n o e
    rcases objAt_over (ob := .box cs) e with ⟨rfl, rfl, rfl⟩ | ⟨_, e2⟩
    · exact ⟨.box cs, by simpa [objAt] using ho, .inr ⟨rfl, rfl, rfl, rfl⟩, fun l => Iff.rfl⟩
    · exact ⟨o, e2, .inl rfl, fun _ => Iff.rfl⟩
  refine ⟨hh.holds, ?_, ?_, hh.size, ?_, ?_, hh.outer, hh.Kle, hh.Knew, hh.rest⟩
  · intro d n o e
    obtain ⟨o0, e0, h1, _⟩ := hcase d n o e
    have h0 := hh.own _ _ _ e0
    have hdr : shape ((((b, .box cs') :: H) :: O).drop d) = shape ((H :: O).drop d) := by
      cases d with
      | zero => exact hsh
      | succ d => rfl
    rw [hdr]
    rcases h1 with rfl | ⟨rfl, rfl, rfl, rfl⟩
    · exact h0
    · obtain ⟨cl, T, a1, a2, a3⟩ := h0
      have e2 : (fun d n => ρ (0 + d) n) = ρ := by funext d n; rw [Nat.zero_add]
      rw [e2] at a2 ⊢
      exact ⟨cl, T, a1, hc _ a2, a3⟩
  · intro d n o d' n' o' e e' b1 b2 hbe
    obtain ⟨o1, e1, _, h1⟩ := hcase d n o e
    obtain ⟨o2, e2, _, h2⟩ := hcase d' n' o' e'
    exact hh.inj _ _ _ _ _ _ e1 e2 ((h1 _).1 b1) ((h2 _).1 b2) hbe
  · intro b' hb hno
    exact hh.old b' hb fun d n o e => hno d n o (by simpa [objAt] using e)
  · intro n o e hb
    obtain ⟨o1, e1, _, h1⟩ := hcase 0 n o e
    exact hh.loc _ _ e1 ((h1 _).1 hb)
theorem RepDL.mid {K : Kn} {ρ : Nat → Nat → Loc} {sh : Nat → Nat → Option Sh} {d d' : D} (h : ∀ v, RepD K ρ sh v d → RepD K ρ sh v d') : ∀ {a b : List D} {vs : List Value}, RepDL K ρ sh vs (a ++ d :: b) → RepDL K ρ sh vs (a ++ d' :: b)
  | [], b, _, .cons r rs => .cons (h _ r) rs
  | _ :: a, b, _, .cons r rs => .cons r (RepDL.mid (a := a) h rs)
theorem wk_nilbox2 (b nm e z : Nat) {pre post : List D} (hS : s.S = H :: O) (hb : look H b = some (.box (pre ++ .i (.v (.slice none 0 0)) :: post))) (hf : look H nm = none) : Wk c s { σ := s.σ, S := ((b, .box (pre ++ .osl 0 nm :: post)) :: (nm, .arr e z 0 [] true) :: H) :: O, n := s.n } := by
  intro K ρ a w hi
  have hh := hi.h
  rw [hS] at hh
  let l0 : Loc := ⟨0, 0, none⟩
  have hown : ∀ ρ' sh', OwnAt K ρ' sh' w l0 (.arr e z 0 [] true) := fun ρ' sh' => ⟨by simp, rfl, Nat.le_refl _, by simp [l0], .inl ⟨rfl, rfl⟩⟩
  have hg : Grow K ρ (H :: O) w [(nm, .arr e z 0 [] true)] K (upd ρ nm l0) w := by
    refine ⟨K.le_refl, fun _ _ _ h => .inl h, Nat.le_refl _, fun _ _ => rfl, ⟨rfl, rfl, rfl⟩, fun d n' h => ?_, hh.holds, fun n' ob e' => ?_, fun n1 o1 n2 o2 e1 e2 b1 b2 _ => ?_⟩
    · refine upd_other _ _ _ (h.imp id fun h e' => ?_)
      subst e'
      simp [look_cons] at h
    · obtain ⟨rfl, rfl⟩ := look_one e'
      rw [upd_same]
      exact ⟨hown _ _, fun hb => absurd rfl hb⟩
    · obtain ⟨rfl, rfl⟩ := look_one e1
      obtain ⟨rfl, rfl⟩ := look_one e2
      rfl
  obtain ⟨hI, hst⟩ := HInv.grow (S := H :: O) rfl hh (fun _ _ _ e => e) (fun n' h => by
    cases hl : look [(nm, Ob.arr e z 0 [] true)] n' with
    | none => exact absurd hl h
    | some ob => obtain ⟨rfl, rfl⟩ := look_one hl; exact hf) hg
  have hbn : nm ≠ b := fun e' => by subst e'; rw [hf] at hb; cases hb
  have hb' : look ((nm, Ob.arr e z 0 [] true) :: H) b = some (.box (pre ++ .i (.v (.slice none 0 0)) :: post)) := by rw [look_cons, if_neg hbn]; exact hb
  have hI2 : HInv c.E K (upd ρ nm l0) (((b, .box (pre ++ .osl 0 nm :: post)) :: (nm, .arr e z 0 [] true) :: H) :: O) w := by
    refine HInv.rebox hI hb' fun vs hv => hv.mid fun v h1 => ?_
    rw [inv_v h1]
    have := RepD.osl (K := K) (ρ := upd ρ nm l0) (sh := shape (((nm, Ob.arr e z 0 [] true) :: H) :: O)) (dep := 0) (nm := nm) (es := z) (len := 0) (by simp [shape, objAt, look_cons, Ob.sh])
    rw [upd_same] at this
    exact this
  have hsh : shape (((b, .box (pre ++ .osl 0 nm :: post)) :: (nm, .arr e z 0 [] true) :: H) :: O) = shape (((nm, Ob.arr e z 0 [] true) :: H) :: O) := shape_over hb' rfl
  refine ⟨K, upd ρ nm l0, hI2, hi.defers, hi.size, fun t' d e' => ?_⟩
  have := hi.slots _ _ e'
  rw [hS] at this
  show RepD K _ (shape (((b, .box (pre ++ .osl 0 nm :: post)) :: (nm, .arr e z 0 [] true) :: H) :: O)) _ _
  rw [hsh]
  exact this.stays hst
theorem wk_nilbox (b nm e z : Nat) (hS : s.S = H :: O) (hb : look H b = some (.box [.i (.v (.slice none 0 0))])) (hf : look H nm = none) : Wk c s { σ := s.σ, S := ((b, .box [.osl 0 nm]) :: (nm, .arr e z 0 [] true) :: H) :: O, n := s.n } := wk_nilbox2 b nm e z (pre := []) (post := []) hS hb hf
end
end Go.AI
