/- The layer of abstract runs, part 22. -/
import Derived.Test.YtlcekmemdnjjbaaGreatDoorOakU
set_option linter.unusedSimpArgs false
set_option linter.unusedVariables false
set_option linter.all false

namespace Go.AI
open Go.Proofs
set_option maxRecDepth 20000
theorem zua (O : List Heap) (p q : Bool) : zao Tryz.prog 207 [bb p, bb q] O (bb (orK p q)) [] O := by
 refine zad Tk Tryz.func207 rfl Tryz.call207 Tryz.ntmps207 (Nat.le_of_ble_eq_true rfl) fun E => ?_
 refine zae Tk Tryz.func207 ?_
 refine za1 Tk Tryz.func207 rfl (fun h1 => ?_) (fun h1 => ?_)
 ·subst h1
  refine zam Tk (r := bb true) rfl rfl rfl trivial rfl rfl ?_
  rfl
 ·subst h1
  refine zam Tk (r := bb q) rfl rfl rfl trivial rfl rfl ?_
  rfl
theorem ztv (O : List Heap) (p q : Bool) : zao Tryz.prog 164 [bb p, bb q] O (bb (minK p q)) [] O := by
 refine zad Tk Tryz.func164 rfl Tryz.call164 Tryz.ntmps164 (Nat.le_of_ble_eq_true rfl) fun E => ?_
 refine zae Tk Tryz.func164 ?_
 refine za1 Tk Tryz.func164 rfl (fun h1 => ?_) (fun h1 => ?_)
 ·subst h1
  refine zam Tk (r := bb (!q)) rfl rfl rfl trivial rfl rfl ?_
  rfl
 ·subst h1
  refine zam Tk (r := bb false) rfl rfl rfl trivial rfl rfl ?_
  rfl
set_option maxHeartbeats 4000000 in
theorem zli (k : Bool → Bool → Bool) (F : Nat) (hk : ∀ O p q, zao Tryz.prog F [bb p, bb q] O (bb (k p q)) [] O) (O : List Heap) (a b : List Int) (ha : a.length ≤ 1000000) (hb : b.length ≤ 1000000) :
  zao Tryz.prog 163 [ints a, ints b, .fn (.func F) [] []] O (ints (mrgR k a b)) [] O := by
 obtain ⟨RR, hRR⟩ : ∃ RR, RR = mrgR k a b := ⟨_, rfl⟩
 rw [← hRR]
 have hno : RR = [] ++ mrgR k a b := hRR
 refine zar [12] Tk Tryz.func163 rfl Tryz.call163 Tryz.ntmps163 (Nat.le_of_ble_eq_true rfl) fun E => ?_
 refine zae Tk Tryz.func163 ?_
 refine zac ?_
 refine zaq (zcU 7 72 3 1 rfl rfl rfl) ?_
 refine zaf (fun x : List Int × List Int × List Int => [(0, ints x.1), (1, ints x.2.1), (2, .fn (.func F) [] []), (7, .osl 0 72)]) (fun x => [(72, zav x.2.2)]) (fun _ => O) 74
  (fun x => x.1.length ≤ 1000000 ∧ x.2.1.length ≤ 1000000 ∧ x.2.2.length + x.1.length + x.2.1.length ≤ 2000000 ∧ RR = x.2.2 ++ mrgR k x.1 x.2.1) (fun x => x.1.length + x.2.1.length) (a, b, [])
  ⟨ha, hb, by simp only [List.length_nil]; omega, hno⟩ ⟨rfl, rfl, rfl, rfl, trivial⟩ rfl ⟨rfl, trivial⟩ rfl rfl ?_
 clear hno ha hb hRR
 rintro ⟨a, b, out⟩ ⟨ha, hb, hl, hno⟩ ih
 simp only at ha hb hl hno
 rcases a with _ | ⟨x, a⟩ <;> rcases b with _ | ⟨y, b⟩
 ·rw [mrgR, List.append_nil] at hno
  subst hno
  refine zae Tk Tryz.func163 ?_
  repeat (first | refine gcT Tk Tryz.func163 rfl ?_ | refine gkT Tk Tryz.func163 rfl ?_ | refine skT Tk ?_ | refine gcF Tk Tryz.func163 rfl ?_ | refine gkF Tk Tryz.func163 rfl ?_ | refine skF Tk ?_)
  refine zax ?_
  refine zaq (zan 72 rfl rfl) ?_
  refine zae Tk Tryz.func163 ?_
  refine g_go Tk Tryz.func163 ?_
  refine zam Tk (r := ints RR) rfl rfl rfl trivial rfl rfl ?_
  rfl
 ·rw [mrgR] at hno
  simp only [List.length_cons, List.length_nil] at ha hb hl
  refine zae Tk Tryz.func163 ?_
  refine gkF Tk Tryz.func163 rfl ?_
  refine zaj Tk Tryz.func163 rfl (fun _ => ?_) (fun h => absurd h (by first | (simp; done) | (simp; omega)))
  refine zaz Tk Tryz.func163 zaL rfl ?_
  refine skF Tk ?_
  refine zaQ Tk Tryz.func163 (by kernel_rfl) ?_
  refine zaz Tk Tryz.func163 zaL rfl ?_
  refine zdK Tk (fun _ => ?_) (fun h => absurd h (by first | (simp; done) | (simp; omega)))
  refine skT Tk ?_
  refine zaQ Tk Tryz.func163 (by kernel_rfl) ?_
  repeat (first | refine gcT Tk Tryz.func163 rfl ?_ | refine gkT Tk Tryz.func163 rfl ?_ | refine skT Tk ?_ | refine gcF Tk Tryz.func163 rfl ?_ | refine gkF Tk Tryz.func163 rfl ?_ | refine skF Tk ?_)
  refine zaz Tk Tryz.func163 zaL rfl ?_
  refine zay Tk (by exact ⟨by decide, by first | (simp; done) | (simp; omega)⟩) ?_
  refine zaJ Tk (rfl) ?_
  refine zay Tk (by exact ⟨by decide, by first | (simp; done) | (simp; omega)⟩) ?_
  refine zaQ Tk Tryz.func163 (by kernel_rfl) ?_
  refine zah Tk Tryz.func163 (hk _ false true) rfl rfl rfl rfl rfl ?_
  refine zaj Tk Tryz.func163 rfl (fun c => ?_) (fun c => ?_)
  ·have c : k false true = true := c
   rw [if_pos c, ← List.append_assoc] at hno
   refine zag Tk Tryz.func163 (by exact ⟨by show (out.length + 1) * 8 ≤ 140737488355328; omega, by show out.length + 1 ≤ 9223372036854775807; omega⟩) ?_
   refine zac ?_
   exact ih ([], b, out ++ [y]) _ _ ⟨Nat.zero_le _, by simp only; omega, by simp only [List.length_append, List.length_singleton, List.length_nil]; omega, hno⟩ (by first | (simp; done) | (simp; omega)) ⟨rfl, rfl, rfl, rfl, trivial⟩ rfl ⟨congrArg some (zaK out y), trivial⟩ rfl rfl
  ·have c : ¬ k false true = true := by rw [show k false true = false from c]; decide
   rw [if_neg c] at hno
   refine zac ?_
   exact ih ([], b, out) _ _ ⟨Nat.zero_le _, by simp only; omega, by simp only [List.length_nil]; omega, hno⟩ (by first | (simp; done) | (simp; omega)) ⟨rfl, rfl, rfl, rfl, trivial⟩ rfl ⟨rfl, trivial⟩ rfl rfl
 ·rw [mrgR] at hno
  simp only [List.length_cons, List.length_nil] at ha hb hl
  refine zae Tk Tryz.func163 ?_
  refine za1 Tk Tryz.func163 rfl (fun _ => ?_) (fun h => absurd h (by first | (simp; done) | (simp; omega)))
  refine gcT Tk Tryz.func163 rfl ?_
  refine zaz Tk Tryz.func163 zaL rfl ?_
  refine zdK Tk (fun _ => ?_) (fun h => absurd h (by first | (simp; done) | (simp; omega)))
  refine skT Tk ?_
  refine zaQ Tk Tryz.func163 (by kernel_rfl) ?_
  refine zaz Tk Tryz.func163 zaL rfl ?_
  refine skF Tk ?_
  refine zaQ Tk Tryz.func163 (by kernel_rfl) ?_
  refine gcT Tk Tryz.func163 rfl ?_
  refine zaz Tk Tryz.func163 zaL rfl ?_
  refine zay Tk (by exact ⟨by decide, by first | (simp; done) | (simp; omega)⟩) ?_
  refine zaJ Tk (rfl) ?_
  refine zay Tk (by exact ⟨by decide, by first | (simp; done) | (simp; omega)⟩) ?_
  refine zaQ Tk Tryz.func163 (by kernel_rfl) ?_
  refine gcF Tk Tryz.func163 rfl ?_
  refine zah Tk Tryz.func163 (hk _ true false) rfl rfl rfl rfl rfl ?_
  refine zaj Tk Tryz.func163 rfl (fun c => ?_) (fun c => ?_)
  ·have c : k true false = true := c
   rw [if_pos c, ← List.append_assoc] at hno
   refine zag Tk Tryz.func163 (by exact ⟨by show (out.length + 1) * 8 ≤ 140737488355328; omega, by show out.length + 1 ≤ 9223372036854775807; omega⟩) ?_
   refine zac ?_
   exact ih (a, [], out ++ [x]) _ _ ⟨by simp only; omega, Nat.zero_le _, by simp only [List.length_append, List.length_singleton, List.length_nil]; omega, hno⟩ (by first | (simp; done) | (simp; omega)) ⟨rfl, rfl, rfl, rfl, trivial⟩ rfl ⟨congrArg some (zaK out x), trivial⟩ rfl rfl
  ·have c : ¬ k true false = true := by rw [show k true false = false from c]; decide
   rw [if_neg c] at hno
   refine zac ?_
   exact ih (a, [], out) _ _ ⟨by simp only; omega, Nat.zero_le _, by simp only [List.length_nil]; omega, hno⟩ (by first | (simp; done) | (simp; omega)) ⟨rfl, rfl, rfl, rfl, trivial⟩ rfl ⟨rfl, trivial⟩ rfl rfl
 ·rw [mrgR] at hno
  simp only [List.length_cons, List.length_nil] at ha hb hl
  refine zae Tk Tryz.func163 ?_
  refine za1 Tk Tryz.func163 rfl (fun _ => ?_) (fun h => absurd h (by first | (simp; done) | (simp; omega)))
  refine gcT Tk Tryz.func163 rfl ?_
  refine zaz Tk Tryz.func163 zaL rfl ?_
  refine zdK Tk (fun _ => ?_) (fun h => absurd h (by first | (simp; done) | (simp; omega)))
  refine zdK Tk (fun h => absurd h (by first | (simp; done) | (simp; omega))) (fun _ => ?_)
  refine zay Tk (by exact ⟨by decide, by first | (simp; done) | (simp; omega)⟩) ?_
  refine zaJ Tk (rfl) ?_
  refine zay Tk (by exact ⟨by decide, by first | (simp; done) | (simp; omega)⟩) ?_
  refine zaJ Tk (rfl) ?_
  refine zaQ Tk Tryz.func163 (by kernel_rfl) ?_
  refine zaz Tk Tryz.func163 zaL rfl ?_
  refine zdK Tk (fun _ => ?_) (fun h => absurd h (by first | (simp; done) | (simp; omega)))
  refine zdK Tk (fun h => absurd h (by first | (simp; done) | (simp; omega))) (fun _ => ?_)
  refine zay Tk (by exact ⟨by decide, by first | (simp; done) | (simp; omega)⟩) ?_
  refine zaJ Tk (rfl) ?_
  refine zay Tk (by exact ⟨by decide, by first | (simp; done) | (simp; omega)⟩) ?_
  refine zaJ Tk (rfl) ?_
  refine zaQ Tk Tryz.func163 (by kernel_rfl) ?_
  by_cases c1 : x < y
  ·rw [if_pos c1] at hno
   refine zaj Tk Tryz.func163 rfl (fun _ => ?_) (fun h => absurd h (by first | (simp; done) | (simp; omega)))
   refine zaz Tk Tryz.func163 zaL rfl ?_
   refine zay Tk (by exact ⟨by decide, by first | (simp; done) | (simp; omega)⟩) ?_
   refine zaJ Tk (rfl) ?_
   refine zay Tk (by exact ⟨by decide, by first | (simp; done) | (simp; omega)⟩) ?_
   refine zaQ Tk Tryz.func163 (by kernel_rfl) ?_
   refine zaj Tk Tryz.func163 rfl (fun h => absurd h (by first | (simp; done) | (simp; omega))) (fun _ => ?_)
   refine zah Tk Tryz.func163 (hk _ (decide (x ≤ y)) (decide (y ≤ x))) rfl rfl rfl rfl rfl ?_
   have e0 : decide (x ≤ y) = true := decide_eq_true (by omega)
   have e : decide (y ≤ x) = false := decide_eq_false (by omega)
   refine zaj Tk Tryz.func163 rfl (fun c => ?_) (fun c => ?_)
   ·have c : k (decide (x ≤ y)) (decide (y ≤ x)) = true := c
    rw [e0, e] at c
    rw [if_pos c, ← List.append_assoc] at hno
    refine zag Tk Tryz.func163 (by exact ⟨by show (out.length + 1) * 8 ≤ 140737488355328; omega, by show out.length + 1 ≤ 9223372036854775807; omega⟩) ?_
    refine zac ?_
    exact ih (a, y :: b, out ++ [x]) _ _ ⟨by simp only; omega, by simp only [List.length_cons]; omega, by simp only [List.length_append, List.length_singleton, List.length_cons, List.length_nil]; omega, hno⟩ (by first | (simp; done) | (simp; omega)) ⟨rfl, rfl, rfl, rfl, trivial⟩ rfl ⟨congrArg some (zaK out x), trivial⟩ rfl rfl
   ·have c : k (decide (x ≤ y)) (decide (y ≤ x)) = false := c
    rw [e0, e] at c
    rw [if_neg (by rw [c]; decide)] at hno
    refine zac ?_
    exact ih (a, y :: b, out) _ _ ⟨by simp only; omega, by simp only [List.length_cons]; omega, by simp only [List.length_cons]; omega, hno⟩ (by first | (simp; done) | (simp; omega)) ⟨rfl, rfl, rfl, rfl, trivial⟩ rfl ⟨rfl, trivial⟩ rfl rfl
  ·rw [if_neg c1] at hno
   by_cases c2 : y < x
   ·rw [if_pos c2] at hno
    refine zaj Tk Tryz.func163 rfl (fun h => absurd h (by first | (simp; done) | (simp; omega))) (fun _ => ?_)
    refine zaj Tk Tryz.func163 rfl (fun _ => ?_) (fun h => absurd h (by first | (simp; done) | (simp; omega)))
    refine zaz Tk Tryz.func163 zaL rfl ?_
    refine zay Tk (by exact ⟨by decide, by first | (simp; done) | (simp; omega)⟩) ?_
    refine zaJ Tk (rfl) ?_
    refine zay Tk (by exact ⟨by decide, by first | (simp; done) | (simp; omega)⟩) ?_
    refine zaQ Tk Tryz.func163 (by kernel_rfl) ?_
    refine zah Tk Tryz.func163 (hk _ (decide (x ≤ y)) (decide (y ≤ x))) rfl rfl rfl rfl rfl ?_
    have e1 : decide (x ≤ y) = false := decide_eq_false (by omega)
    have e2 : decide (y ≤ x) = true := decide_eq_true (by omega)
    refine zaj Tk Tryz.func163 rfl (fun c => ?_) (fun c => ?_)
    ·have c : k (decide (x ≤ y)) (decide (y ≤ x)) = true := c
     rw [e1, e2] at c
     rw [if_pos c, ← List.append_assoc] at hno
     refine zag Tk Tryz.func163 (by exact ⟨by show (out.length + 1) * 8 ≤ 140737488355328; omega, by show out.length + 1 ≤ 9223372036854775807; omega⟩) ?_
     refine zac ?_
     exact ih (x :: a, b, out ++ [y]) _ _ ⟨by simp only [List.length_cons]; omega, by simp only; omega, by simp only [List.length_append, List.length_singleton, List.length_cons, List.length_nil]; omega, hno⟩ (by first | (simp; done) | (simp; omega)) ⟨rfl, rfl, rfl, rfl, trivial⟩ rfl ⟨congrArg some (zaK out y), trivial⟩ rfl rfl
    ·have c : k (decide (x ≤ y)) (decide (y ≤ x)) = false := c
     rw [e1, e2] at c
     rw [if_neg (by rw [c]; decide)] at hno
     refine zac ?_
     exact ih (x :: a, b, out) _ _ ⟨by simp only [List.length_cons]; omega, by simp only; omega, by simp only [List.length_cons]; omega, hno⟩ (by first | (simp; done) | (simp; omega)) ⟨rfl, rfl, rfl, rfl, trivial⟩ rfl ⟨rfl, trivial⟩ rfl rfl
   ·rw [if_neg c2] at hno
    have exy : x = y := by omega
    subst exy
    refine zaj Tk Tryz.func163 rfl (fun _ => ?_) (fun h => absurd h (by first | (simp; done) | (simp; omega)))
    refine zaz Tk Tryz.func163 zaL rfl ?_
    refine zay Tk (by exact ⟨by decide, by first | (simp; done) | (simp; omega)⟩) ?_
    refine zaJ Tk (rfl) ?_
    refine zay Tk (by exact ⟨by decide, by first | (simp; done) | (simp; omega)⟩) ?_
    refine zaQ Tk Tryz.func163 (by kernel_rfl) ?_
    refine zaj Tk Tryz.func163 rfl (fun _ => ?_) (fun h => absurd h (by first | (simp; done) | (simp; omega)))
    refine zaz Tk Tryz.func163 zaL rfl ?_
    refine zay Tk (by exact ⟨by decide, by first | (simp; done) | (simp; omega)⟩) ?_
    refine zaJ Tk (rfl) ?_
    refine zay Tk (by exact ⟨by decide, by first | (simp; done) | (simp; omega)⟩) ?_
    refine zaQ Tk Tryz.func163 (by kernel_rfl) ?_
    refine zah Tk Tryz.func163 (hk _ (decide (x ≤ x)) (decide (x ≤ x))) rfl rfl rfl rfl rfl ?_
    have e1 : decide (x ≤ x) = true := decide_eq_true (by omega)
    refine zaj Tk Tryz.func163 rfl (fun c => ?_) (fun c => ?_)
    ·have c : k (decide (x ≤ x)) (decide (x ≤ x)) = true := c
     rw [e1] at c
     rw [if_pos c, ← List.append_assoc] at hno
     refine zag Tk Tryz.func163 (by exact ⟨by show (out.length + 1) * 8 ≤ 140737488355328; omega, by show out.length + 1 ≤ 9223372036854775807; omega⟩) ?_
     refine zac ?_
     exact ih (a, b, out ++ [x]) _ _ ⟨by simp only; omega, by simp only; omega, by simp only [List.length_append, List.length_singleton]; omega, hno⟩ (by simp; omega) ⟨rfl, rfl, rfl, rfl, trivial⟩ rfl ⟨congrArg some (zaK out x), trivial⟩ rfl rfl
    ·have c : k (decide (x ≤ x)) (decide (x ≤ x)) = false := c
     rw [e1] at c
     rw [if_neg (by rw [c]; decide)] at hno
     refine zac ?_
     exact ih (a, b, out) _ _ ⟨by simp only; omega, by simp only; omega, by simp only; omega, hno⟩ (by simp; omega) ⟨rfl, rfl, rfl, rfl, trivial⟩ rfl ⟨rfl, trivial⟩ rfl rfl
set_option maxHeartbeats 1000000 in
theorem zpX (O : List Heap) (a b : List Int) (ha : a.length ≤ 1000000) (hb : b.length ≤ 1000000) : zao Tryz.prog 175 [ints a, ints b] O (ints (mrgR orK a b)) [] O := by
 have h1 := fun O => zli orK 207 zua O a b ha hb
 generalize mrgR orK a b = R at *
 refine zad Tk Tryz.func175 rfl Tryz.call175 Tryz.ntmps175 (Nat.le_of_ble_eq_true rfl) fun E => ?_
 refine zae Tk Tryz.func175 ?_
 refine zah Tk Tryz.func175 (h1 _) rfl rfl rfl rfl rfl ?_
 refine zam Tk (r := ints R) rfl rfl rfl trivial rfl rfl ?_
 rfl
theorem zqH (O : List Heap) (a b : List Int) (ha : a.length ≤ 1000000) (hb : b.length ≤ 1000000) : zao Tryz.prog 117 [ints a, ints b] O (ints (mrgR minK a b)) [] O := by
 have h1 := fun O => zli minK 164 ztv O a b ha hb
 generalize mrgR minK a b = R at *
 refine zad Tk Tryz.func117 rfl Tryz.call117 Tryz.ntmps117 (Nat.le_of_ble_eq_true rfl) fun E => ?_
 refine zae Tk Tryz.func117 ?_
 refine zah Tk Tryz.func117 (h1 _) rfl rfl rfl rfl rfl ?_
 refine zam Tk (r := ints R) rfl rfl rfl trivial rfl rfl ?_
 rfl
theorem zkX (O : List Heap) (a b : List Int) (ha : a.length ≤ 1000000) (hb : b.length ≤ 1000000) : zao Tryz.prog 69 [ints a, ints b] O (bb (decide ((mrgR minK a b).length = 0))) [] O := by
 have h1 := fun O => zqH O a b ha hb
 generalize mrgR minK a b = R at *
 refine zad Tk Tryz.func69 rfl Tryz.call69 Tryz.ntmps69 (Nat.le_of_ble_eq_true rfl) fun E => ?_
 refine zae Tk Tryz.func69 ?_
 refine zah Tk Tryz.func69 (h1 _) rfl rfl rfl rfl rfl ?_
 refine zam Tk (r := bb (((R.length : Nat) : Int) == 0)) rfl rfl rfl trivial rfl rfl ?_
 have : (((R.length : Nat) : Int) == 0) = decide (R.length = 0) := by
  by_cases c : R.length = 0
  ·simp [c]
  ·simp [c]
 rw [this]
end Go.AI


namespace Go.AI
section
variable {c : Cx} {s : St} {k : List Item} {ops : Array Oper} {rest : List Nat} {o : Oper}
theorem zhd {c : Cx} {ops : Array Oper} {O : List Heap} {n : Nat} : ∀ {m : Nat} {l : List Oper} {qs : List Pl} {x : SH}, zdO c ops O n (l.take m) qs x → zdO c ops O n l qs x
 | 0, l, [], x, _ => by cases l <;> trivial
 | 0, l, _ :: _, x, h => by
  rw [List.take_zero] at h
  exact h.elim
 | m + 1, [], qs, x, h => by simpa using h
 | m + 1, o :: r, [], x, _ => trivial
 | m + 1, o :: r, p :: qs, x, h => by
  rw [List.take_succ_cons] at h
  exact ⟨h.1, zhd h.2⟩
end
end Go.AI


namespace Go.AI
theorem zn9 {c : Cx} (hm : c.P.follows .mixedOrders = true) {id : Nat} {ops : Array Oper} {x0 : St} {p : Nat} {k : List Item} {pre : List (List Nat)} (hpr : pre = zdL ops.toList []) (hpre : zhC ops pre = true) (htl : znE ops pre p = true) (hlen' : p ≤ ops.size)
  (J : (Nat → Bool) → Act → World → Prop) (hJ : ∀ L L' a w, (∀ k, k < ops.size → L k = L' k) → J L a w → J L' a w) (hbeg : ∀ K ρ a w, Inv c.E K ρ x0 a w → J (fun _ => false) a w)
  (hstep : ∀ (L : Nat → Bool), zbo ops L → ∀ i o, ops[i]? = some o → i < p → L i = false → (∀ j ∈ zaV o, L j = true) → (∀ j, j < ops.size → p ≤ j → L j = false) → ∀ a w, J L a w →
   ∀ (Q : Exit → Act → World → Prop) (next : Act → World → Prop), (∀ a' w', J (fun k => L k || Nat.beq k i) a' w' → next a' w') → wpOp c.P ops Q i next a w)
  (hend : ∀ a w, J (fun k => Nat.ble (k + 1) p) a w → wpOps c.P ops (fun e a' w' => e = .normal ∧ Ends c k a' w') (List.range' p (ops.size - p)) a w) : Rch c (.code (.region id ops true) :: k) x0 := by
 subst hpr
 intro K ρ a w b cs hi hb hk
 let Q : Exit → Act → World → Prop := fun e a' w' => e = .normal ∧ Ends c k a' w'
 have hgetD : ∀ (listed : Array Bool) (i : Nat), listed.size = ops.size → i < ops.size → ∀ k, (listed.setIfInBounds i true).getD k false = (listed.getD k false || Nat.beq k i) := by
  intro listed i hsz hlt k
  by_cases hki : k = i
  ·subst hki
   simp [hsz, hlt]
  ·have : Nat.beq k i = false := by
    cases hb : Nat.beq k i with
    | false => rfl
    | true => exact absurd (Nat.eq_of_beq_eq_true hb) hki
   rw [this, Bool.or_false, getD_set_ne false (Ne.symm hki)]
 have hcntlt : ∀ (listed : Array Bool) (i : Nat), listed.size = ops.size → i < ops.size → listed.getD i false = false → (List.range ops.size).countP (fun k => !(listed.setIfInBounds i true).getD k false) < (List.range ops.size).countP (fun k => !listed.getD k false) := by
  intro listed i hsz hlt hLi
  have e1 : (fun k => !(listed.setIfInBounds i true).getD k false) = fun k => !listed.getD k false && !Nat.beq k i := by
   funext k; rw [hgetD listed i hsz hlt]; simp
  rw [e1]
  obtain ⟨l1, l2, hl⟩ := List.append_of_mem (List.mem_range.2 hlt)
  rw [hl]
  simp only [List.countP_append, List.countP_cons]
  have m1 : l1.countP (fun k => !listed.getD k false && !Nat.beq k i) ≤ l1.countP (fun k => !listed.getD k false) := List.countP_mono_left fun x _ hx => by simp only [Bool.and_eq_true] at hx; exact hx.1
  have m2 : l2.countP (fun k => !listed.getD k false && !Nat.beq k i) ≤ l2.countP (fun k => !listed.getD k false) := List.countP_mono_left fun x _ hx => by simp only [Bool.and_eq_true] at hx; exact hx.1
  have e2 : (!listed.getD i false) = true := by rw [hLi]; rfl
  have e3 : Nat.beq i i = true := Nat.beq_refl i
  rw [if_pos e2, if_neg (by rw [e3]; simp)]
  omega
 have hready : ∀ (listed : Array Bool), listed.size = ops.size → ∀ i, i < ops.size → listed.getD i false = false → (∀ o, ops[i]? = some o → ∀ j ∈ zaV o, listed.getD j false = true) → i ∈ Region.ready .any ops listed := by
  intro listed hsz i hlt hLi hbe
  rw [mem_ready]
  obtain ⟨o, ho⟩ : ∃ o, ops[i]? = some o := ⟨ops[i], by rw [Array.getElem?_eq_getElem]⟩
  refine ⟨?_, o, ho, fun e he hb1 => hbe o ho e.on (zbL.2 ⟨e, he, hb1, rfl⟩)⟩
  simp only [Array.getD_eq_getD_getElem?] at hLi ⊢
  rw [Array.getElem?_eq_getElem (by omega)] at hLi ⊢
  simpa using hLi
 have hfromReady : ∀ (listed : Array Bool), listed.size = ops.size → ∀ i ∈ Region.ready .any ops listed, ∃ o, ops[i]? = some o ∧ i < ops.size ∧ listed.getD i false = false ∧ ∀ j ∈ zaV o, listed.getD j false = true := by
  intro listed hsz i hi
  obtain ⟨h1, o, ho, hbe⟩ := mem_ready.1 hi
  have hlt : i < ops.size := (Array.getElem?_eq_some_iff.1 ho).1
  refine ⟨o, ho, hlt, ?_, fun j hj => ?_⟩
  ·simp only [Array.getD_eq_getD_getElem?] at h1 ⊢
   rw [Array.getElem?_eq_getElem (by omega)] at h1 ⊢
   simpa using h1
  ·obtain ⟨e, he, hb1, rfl⟩ := zbL.1 hj
   exact hbe e he hb1
 have hclose : ∀ (listed : Array Bool) (i : Nat) (o : Oper), listed.size = ops.size → ops[i]? = some o → i < ops.size → (∀ j ∈ zaV o, listed.getD j false = true) → zbo ops (fun k => listed.getD k false) → zbo ops (fun k => (listed.setIfInBounds i true).getD k false) := by
  intro listed i o hsz ho hlt hbef hc k ok hok2 hk2 j hj
  have hk2 : (listed.setIfInBounds i true).getD k false = true := hk2
  show (listed.setIfInBounds i true).getD j false = true
  rw [hgetD listed i hsz hlt] at hk2 ⊢
  simp only [Bool.or_eq_true] at hk2
  rcases hk2 with hk2 | hk2
  ·have hcj : listed.getD j false = true := hc k ok hok2 hk2 j hj
   rw [hcj]; rfl
  ·have := Nat.eq_of_beq_eq_true hk2
   subst this
   rw [ho] at hok2
   simp only [Option.some.injEq] at hok2
   subst hok2
   rw [hbef j hj]; rfl
 have htail : ∀ (listed : Array Bool) (i : Nat) (o : Oper), ops[i]? = some o → p ≤ i → zbo ops (fun k => listed.getD k false) → (∀ j ∈ zaV o, listed.getD j false = true) → ∀ j, j < i → listed.getD j false = true := by
  intro listed i o ho hge hc hbef j hj
  have hlt : i < ops.size := (Array.getElem?_eq_some_iff.1 ho).1
  have h1 := zbh htl i hlt
  simp only [Bool.or_eq_true] at h1
  rcases h1 with h1 | h1
  ·have := Nat.le_of_ble_eq_true h1; omega
  ·exact (zbQ hpre hc (i + 1) i o (by omega) ho hbef j (zbs.1 (zbh h1 j hj))).1
 -- the tail
 have tail : ∀ (fuel m : Nat) (listed : Array Bool) (a : Act) (w : World), listed.size = ops.size → p ≤ m → m ≤ ops.size → ops.size - m ≤ fuel → (∀ j, j < ops.size → listed.getD j false = Nat.ble (j + 1) m) → zbo ops (fun k => listed.getD k false) →
   wpOps c.P ops Q (List.range' m (ops.size - m)) a w → wpAny c.P .any ops Q fuel listed a w := by
  intro fuel
  induction fuel with
  | zero =>
   intro m listed a w hsz hm1 hm2 hf hl hc hw
   have : ops.size - m = 0 := by omega
   rw [this] at hw
   refine ⟨?_, hw⟩
   cases hr : Region.ready .any ops listed with
   | nil => rfl
   | cons i r =>
    obtain ⟨o, ho, hlt, hLi, _⟩ := hfromReady listed hsz i (by rw [hr]; simp)
    rw [hl i hlt, Nat.ble_eq_true_of_le (by omega)] at hLi
    cases hLi
  | succ fuel ih =>
   intro m listed a w hsz hm1 hm2 hf hl hc hw
   refine ⟨fun hr => ?_, fun i hi => ?_⟩
   ·by_cases hms : m = ops.size
    ·have : ops.size - m = 0 := by omega
     rw [this] at hw
     exact hw
    ·exfalso
     have hmlt : m < ops.size := by omega
     have : m ∈ Region.ready .any ops listed := by
      refine hready listed hsz m hmlt ?_ fun o ho j hj => ?_
      ·rw [hl m hmlt]
       cases hb : Nat.ble (m + 1) m with
       | false => rfl
       | true => have := Nat.le_of_ble_eq_true hb; omega
      ·have hjm := (zfE hpre m o ho).1 j hj
       rw [hl j (by omega)]
       exact Nat.ble_eq_true_of_le hjm
     rw [hr] at this; cases this
   ·obtain ⟨o, ho, hlt, hLi, hbef⟩ := hfromReady listed hsz i hi
    have him : m ≤ i := by
     rw [hl i hlt] at hLi
     apply Nat.le_of_not_lt
     intro h
     rw [Nat.ble_eq_true_of_le h] at hLi; cases hLi
    have : i = m := by
     apply Classical.byContradiction
     intro hne
     have := htail listed i o ho (by omega) hc hbef m (by omega)
     rw [hl m (by omega)] at this
     have := Nat.le_of_ble_eq_true this
     omega
    subst this
    rw [show ops.size - i = (ops.size - (i + 1)) + 1 by omega, List.range'_succ, wpOps_cons] at hw
    refine wpOp_mono (fun a w h => ?_) hw
    refine ih (i + 1) _ a w (by simpa using hsz) (by omega) (by omega) (by omega) (fun j hj => ?_) (hclose listed i o hsz ho hlt hbef hc) h
    rw [hgetD listed i hsz hlt, hl j hj]
    by_cases hji : j = i
    ·subst hji
     rw [Nat.beq_refl, Bool.or_true]
     exact (Nat.ble_eq_true_of_le (Nat.le_refl _)).symm
    ·have hbn : Nat.beq j i = false := by
      cases hb : Nat.beq j i with
      | false => rfl
      | true => exact absurd (Nat.eq_of_beq_eq_true hb) hji
     rw [hbn, Bool.or_false]
     by_cases hji2 : j + 1 ≤ i
     ·rw [Nat.ble_eq_true_of_le hji2, Nat.ble_eq_true_of_le (by omega)]
     ·have e1 : Nat.ble (j + 1) i = false := by
       cases hb : Nat.ble (j + 1) i with
       | false => rfl
       | true => exact absurd (Nat.le_of_ble_eq_true hb) hji2
      have e2 : Nat.ble (j + 1) (i + 1) = false := by
       cases hb : Nat.ble (j + 1) (i + 1) with
       | false => rfl
       | true => have := Nat.le_of_ble_eq_true hb; omega
      rw [e1, e2]
 have hclosedlt : ∀ (listed : Array Bool), zbo ops (fun k => listed.getD k false) → (∃ j, j < p ∧ listed.getD j false = false) → ∀ i, i < ops.size → p ≤ i → listed.getD i false = false := by
  intro listed hc ⟨j, hj, hjf⟩ i hi hge
  cases hLi : listed.getD i false with
  | false => rfl
  | true =>
   obtain ⟨o, ho⟩ : ∃ o, ops[i]? = some o := ⟨ops[i], by rw [Array.getElem?_eq_getElem]⟩
   have := htail listed i o ho hge hc (fun k hk => hc i o ho hLi k hk) j (by omega)
   rw [hjf] at this; cases this
 have key : ∀ (fuel : Nat) (listed : Array Bool) (a : Act) (w : World), listed.size = ops.size → (List.range ops.size).countP (fun k => !listed.getD k false) ≤ fuel → zbo ops (fun k => listed.getD k false) →
   (∀ i, i < ops.size → p ≤ i → listed.getD i false = false) → J (fun k => listed.getD k false) a w → wpAny c.P .any ops Q fuel listed a w := by
  intro fuel
  induction fuel with
  | zero =>
   intro listed a w hsz hcnt hc hno hinv
   have hl : ∀ i, i < ops.size → listed.getD i false = true := by
    have h0 := List.countP_eq_zero.1 (Nat.le_zero.1 hcnt)
    intro i hi
    have := h0 i (List.mem_range.2 hi)
    simpa using this
   have hps : p = ops.size := by
    apply Classical.byContradiction
    intro hne
    have h1 := hno p (by omega) (Nat.le_refl _)
    rw [hl _ (by omega)] at h1; cases h1
   refine tail 0 ops.size listed a w hsz (by omega) (Nat.le_refl _) (by omega) (fun j hj => ?_) hc ?_
   ·rw [hl j hj, Nat.ble_eq_true_of_le (by omega)]
   ·rw [Nat.sub_self]
    have := hend a w (hJ _ _ a w (fun k hk => by rw [hl k hk, Nat.ble_eq_true_of_le (by omega)]) hinv)
    rw [hps, Nat.sub_self] at this
    exact this
  | succ fuel ih =>
   intro listed a w hsz hcnt hc hno hinv
   by_cases hall : ∀ j, j < p → listed.getD j false = true
   ·
    have hl : ∀ j, j < ops.size → listed.getD j false = Nat.ble (j + 1) p := by
     intro j hj
     by_cases hjl : j < p
     ·rw [hall j hjl, Nat.ble_eq_true_of_le hjl]
     ·rw [hno j hj (by omega)]
      cases hb : Nat.ble (j + 1) p with
      | false => rfl
      | true => have := Nat.le_of_ble_eq_true hb; omega
    refine tail (fuel + 1) p listed a w hsz (Nat.le_refl _) hlen' ?_ hl hc ?_
    ·refine Nat.le_trans ?_ hcnt
     have e : (List.range ops.size) = List.range p ++ (List.range' p (ops.size - p)) := by
      have h := List.range'_append_1 (s := 0) (m := p) (n := ops.size - p)
      rw [Nat.zero_add, Nat.add_sub_cancel' hlen'] at h
      rw [List.range_eq_range', List.range_eq_range', h]
     rw [e, List.countP_append]
     have : (List.range' p (ops.size - p)).countP (fun k => !listed.getD k false) = (List.range' p (ops.size - p)).length := by
      rw [List.countP_eq_length]
      intro k hk
      rw [List.mem_range'_1] at hk
      rw [hno k (by omega) hk.1]; rfl
     rw [this, List.length_range']
     omega
    ·exact hend a w (hJ _ _ a w (fun k hk => hl k hk) hinv)
   ·have hex : ∃ j, j < p ∧ listed.getD j false = false := by
     apply Classical.byContradiction
     intro hne
     apply hall
     intro j hj
     cases hb : listed.getD j false with
     | true => rfl
     | false => exact absurd ⟨j, hj, hb⟩ hne
    refine ⟨fun hr => ?_, fun i hi => ?_⟩
    ·
     exfalso
     obtain ⟨j, hj, hjf⟩ := hex
     have : ∀ m i, i < m → i < ops.size → listed.getD i false = true := by
      intro m
      induction m with
      | zero => intro i h; omega
      | succ m ih =>
       intro i hi1 hi2
       cases hcc : listed.getD i false with
       | true => rfl
       | false =>
        exfalso
        have : i ∈ Region.ready .any ops listed := hready listed hsz i hi2 hcc fun o ho k hk => by
         have := (zfE hpre i o ho).1 k hk
         exact ih k (by omega) (by omega)
        rw [hr] at this; cases this
     rw [this (j + 1) j (by omega) (by omega)] at hjf
     cases hjf
    ·obtain ⟨o, ho, hlt, hLi, hbef⟩ := hfromReady listed hsz i hi
     have hil : i < p := by
      apply Nat.lt_of_not_le
      intro hge
      obtain ⟨j, hj, hjf⟩ := hex
      rw [htail listed i o ho hge hc hbef j (by omega)] at hjf
      cases hjf
     refine hstep (fun k => listed.getD k false) hc i o ho hil hLi hbef hno a w hinv Q _ fun a' w' hinv' => ?_
     refine ih _ _ _ (by simpa using hsz) ?_ (hclose listed i o hsz ho hlt hbef hc) (fun k hk1 hk2 => ?_) ?_
     ·have := hcntlt listed i hsz hlt hLi
      omega
     ·rw [hgetD listed i hsz hlt, hno k hk1 hk2, Bool.false_or]
      cases hb : Nat.beq k i with
      | false => rfl
      | true => have := Nat.eq_of_beq_eq_true hb; omega
     ·exact hJ _ _ a' w' (fun k _ => (hgetD listed i hsz hlt k).symm) hinv'
 have hrep : ∀ k, (Array.replicate ops.size false).getD k false = false := by
  intro k
  simp only [Array.getD_eq_getD_getElem?, Array.getElem?_replicate]
  split <;> rfl
 obtain ⟨e, a', w', ⟨rfl, hq⟩, harr⟩ := wp_region_any (id := id) hm (key ops.size _ a { w with drawn := w.drawn + 1 } (by simp) (by
  refine Nat.le_trans (List.countP_le_length ..) ?_
  simp) (fun i o _ h => by
   have h : (Array.replicate ops.size false).getD i false = true := h
   rw [hrep] at h
   cases h) (fun i _ _ => hrep i) (hJ _ _ _ _ (fun k _ => (hrep k).symm) (hbeg K ρ _ _ (zhQ hi _)))) b k cs
 obtain ⟨v, w'', fr, hp, hst, h3⟩ := hq b cs hb hk
 exact ⟨v, w'', fr, hp, Steps.trans harr hst, h3⟩
end Go.AI


namespace Go.AI
structure Base (E0 E : Env) (O : List Heap) : Prop where
 K : E0.K0.le E.K0
 ρ : ∀ d, E.ρ0 d = E0.ρ0 d
 pr : ∀ b, E0.pr b → E.pr b
 new : ∀ b o x, E.K0 b o = some x → E0.K0 b o = some x ∨ ¬ E0.pr b
 size : E0.w0.heap.size ≤ E.w0.heap.size
 old : ∀ b, E0.pr b → (∀ dep nm ob, zaa O dep nm = some ob → zal (E0.ρ0 dep nm) ob → (E0.ρ0 dep nm).block ≠ b) → E.w0.heap[b]? = E0.w0.heap[b]?
 rest : E.w0.tape = E0.w0.tape ∧ E.w0.os = E0.w0.os ∧ E.w0.output = E0.w0.output
theorem Base.refl (E : Env) (O : List Heap) : Base E E O := ⟨Kn.le_refl _, fun _ => rfl, fun _ h => h, fun _ _ _ h => .inl h, Nat.le_refl _, fun _ _ _ => rfl, ⟨rfl, rfl, rfl⟩⟩
section
variable {E0 E : Env} {K : Kn} {ρ : Nat → Nat → Loc} {H : Heap} {O : List Heap} {w : World}
theorem HInv.outerNe (h : HInv E K ρ (H :: O) w) {b : Nat} (hb : Base E0 E O) (ho : ∀ dep nm ob, zaa O dep nm = some ob → zal (E0.ρ0 dep nm) ob → (E0.ρ0 dep nm).block ≠ b) :
  ∀ dep nm ob, zaa (H :: O) (dep + 1) nm = some ob → zal (ρ (dep + 1) nm) ob → (ρ (dep + 1) nm).block ≠ b := by
 intro dep nm ob e hbk
 have e' : zaa O dep nm = some ob := by simpa [zaa] using e
 have e2 : ρ (dep + 1) = E0.ρ0 dep := by rw [h.outer, hb.ρ]
 rw [e2] at hbk ⊢
 exact ho dep nm ob e' hbk
theorem HInv.unbase (hb : Base E0 E O) (h : HInv E K ρ (H :: O) w) : HInv E0 K ρ (H :: O) w := by
 refine ⟨h.holds, h.own, h.inj, Nat.le_trans hb.size h.size, fun b hp hne => ?_, fun nm ob e hbk hp => h.loc nm ob e hbk (hb.pr _ hp), fun d => by rw [h.outer, hb.ρ], Kn.le_trans hb.K h.Kle, fun b o x e => ?_, ?_⟩
 ·rw [h.old b (hb.pr b hp) hne]
  refine hb.old b hp fun dep nm ob e hbk => ?_
  have e' : zaa (H :: O) (dep + 1) nm = some ob := by simpa [zaa] using e
  have e2 : ρ (dep + 1) = E0.ρ0 dep := by rw [h.outer, hb.ρ]
  have := hne dep nm ob e' (by rw [e2]; exact hbk)
  rwa [e2] at this
 ·rcases h.Knew b o x e with h1 | h1
  ·exact hb.new b o x h1
  ·exact .inr fun hp => h1 (hb.pr b hp)
 ·exact ⟨h.rest.1.trans hb.rest.1, h.rest.2.1.trans hb.rest.2.1, h.rest.2.2.trans hb.rest.2.2⟩
end
inductive RowOf (E0 E : Env) (O : List Heap) (ty es : Nat) : Value → List (List I) → Prop
 | nil : RowOf E0 E O ty es (.slice none 0 0) []
 | row {b n cap : Nat} {c : Array Value} {xs : List (List I)} (hn : xs.length = n) (hd : ∀ d ∈ xs, d.length = es) (hp : E.pr b) (hp0 : ¬ E0.pr b)
   (ho : ∀ dep nm ob, zaa O dep nm = some ob → zal (E0.ρ0 dep nm) ob → (E0.ρ0 dep nm).block ≠ b)
   (hc : E.w0.heap[b]? = some (.cells c ty (0, 0))) (hs : c.size = cap * es) (hcap : n ≤ cap) (hm : cap ≤ maxLen) (hr : RepL E.K0 (c.toList.take (n * es)) xs.flatten)
   (hk : ∀ o, o < n * es → E.K0 b o = c[o]?) (hk' : ∀ o, n * es ≤ o → E.K0 b o = none) : RowOf E0 E O ty es (.slice (some ⟨b, 0, none⟩) n cap) xs
theorem RowOf.rep {E0 E : Env} {O : List Heap} {ty es : Nat} {v : Value} {xs : List (List I)} (h : RowOf E0 E O ty es v xs) {K : Kn} (hK : E.K0.le K) : Rep K v (.sl es xs.length xs) := by
 cases h with
 | nil => exact .nil
 | row hn hd hp hp0 ho hc hs hcap hm hr hk hk' =>
  subst hn
  refine .sl (RepL.mono hK hr) hd (fun j c' hc' => ?_) hcap rfl
  rw [List.getElem?_take] at hc'
  split at hc'
  ·rename_i hj
   rw [Nat.zero_add]
   refine hK _ _ _ ?_
   rw [hk j hj]
   simpa using hc'
  ·cases hc'
structure RowsO (E0 E : Env) (O : List Heap) (ty es : Nat) (vs : List Value) (xss : List (List (List I))) : Prop where
 base : Base E0 E O
 len : vs.length = xss.length
 row : ∀ (j : Nat) v xs, vs[j]? = some v → xss[j]? = some xs → RowOf E0 E O ty es v xs
 apart : ∀ (i j : Nat) v v' b, i ≠ j → vs[i]? = some v → vs[j]? = some v' → v.ownBlock = some b → v'.ownBlock ≠ some b
theorem zqh (E : Env) (O : List Heap) (ty es n : Nat) : RowsO E E O ty es (List.replicate n (.slice none 0 0)) (List.replicate n []) := by
 refine ⟨.refl _ _, by simp, fun j v xs h1 h2 => ?_, fun i j v v' b _ h1 _ h3 => ?_⟩
 ·have hv := (List.mem_replicate.1 (List.mem_of_getElem? h1)).2
  have hx := (List.mem_replicate.1 (List.mem_of_getElem? h2)).2
  subst hv; subst hx
  exact .nil
 ·rw [List.getElem?_replicate] at h1
  split at h1
  ·simp only [Option.some.injEq] at h1; subst h1; simp [Value.ownBlock] at h3
  ·cases h1
section
variable {P : Program} {K : Kn} {w : World}
theorem zs8 {t ty n m : Nat} {i : TI} (hu : P.underlying t = some (.slice ty)) (hok : TIok P ty i) {v : Value} {olds : List Value}
  (hv : (v = .slice none 0 0 ∧ n = 0 ∧ olds = []) ∨ ∃ b cap c, v = .slice (some ⟨b, 0, none⟩) n cap ∧ w.heap[b]? = some (.cells c ty (0, 0)) ∧ c.size = cap * i.size ∧ n ≤ cap ∧ cap ≤ maxLen ∧ olds = c.toList.take (n * i.size))
  {p : Option Addr} {cp : Nat} {ad : Addr} {news : List Value} (hp : p = some ad) (hly : news.length = m * i.size) (h1 : ∀ u ∈ news, u.oneCell' = true) (hadd : ∀ j c, news[j]? = some c → w.cell? (ad.add j) = some c) (hm : 0 < m)
  (hb : (n + m) * i.bytes ≤ 140737488355328) (h63 : n + m ≤ 9223372036854775807) (rty : TypeId) :
  ∃ b cap' c' w', (Builtin.append_ #[t, t] rty #[v, .slice p m cp]).run P w = .ok (.slice (some ⟨b, 0, none⟩) (n + m) cap') w' ∧ w'.heap[b]? = some (.cells c' ty (0, 0)) ∧ c'.size = cap' * i.size ∧ n + m ≤ cap' ∧ cap' ≤ maxLen ∧
   c'.toList.take ((n + m) * i.size) = olds ++ news ∧ (v.ownBlock = some b ∨ b = w.heap.size) ∧ (∀ b', b' < w.heap.size → b' ≠ b → w'.heap[b']? = w.heap[b']?) ∧ w.heap.size ≤ w'.heap.size ∧ (w'.tape = w.tape ∧ w'.os = w.os ∧ w'.output = w.output) ∧ olds.length = n * i.size := by
 subst hp
 obtain ⟨inf, hi1, hi2, hi3, z, hi4, hi5, -⟩ := hok.info
 have hzs : z.cells.size = i.size := by rw [← Array.length_toList, hi5, hok.len]
 have hgm : ∀ old, grownCap w (n + m) old ty ≤ maxLen := fun old => grownCap_le_maxLen w (n + m) old ty (by simp only [maxLen]; omega)
 have hgg : ∀ old, n + m ≤ grownCap w (n + m) old ty := fun old => grownCap_ge w (n + m) old ty
 have fresh : ∀ old, olds.length = n * i.size → ∃ c', (w.drew.alloc (.cells (olds.toArray ++ news.toArray ++ Builtin.zeroCells z.cells (grownCap w (n + m) old ty - (n + m))) ty)).heap[w.heap.size]? = some (.cells c' ty (0, 0)) ∧ c'.size = grownCap w (n + m) old ty * i.size ∧
   c'.toList.take ((n + m) * i.size) = olds ++ news ∧ (∀ b', b' < w.heap.size → b' ≠ w.heap.size → (w.drew.alloc (.cells (olds.toArray ++ news.toArray ++ Builtin.zeroCells z.cells (grownCap w (n + m) old ty - (n + m))) ty)).heap[b']? = w.heap[b']?) ∧
   w.heap.size ≤ (w.drew.alloc (.cells (olds.toArray ++ news.toArray ++ Builtin.zeroCells z.cells (grownCap w (n + m) old ty - (n + m))) ty)).heap.size := by
  intro old hlo
  refine ⟨_, heap_alloc_new w.drew _, ?_, ?_, fun b' hb' _ => by first | exact heap_alloc_old w.drew _ b' hb' | exact heap_alloc_old w.drew _ hb', by simp [World.size_alloc]⟩
  ·simp only [Array.size_append, List.size_toArray, size_zeroCells, hzs, hlo, hly, ← Nat.add_mul]
   have := hgg old
   congr 1
   omega
  ·simp only [Array.toList_append]
   have : (n + m) * i.size = (olds ++ news).length := by rw [List.length_append, hlo, hly, Nat.add_mul]
   rw [this, List.take_left]
 rcases hv with ⟨rfl, rfl, rfl⟩ | ⟨b, cap, c, rfl, hc, hcs, hcap, hcm, rfl⟩
 ·have hr := run_append_nil (P := P) w t rty ty inf z hu hi1 hi4 ad m cp news (by rw [hi2]; exact hly) hadd hm (by omega) (by rw [hi3]; simp only [Nat.zero_add] at hb; omega)
  obtain ⟨c', f1, f2, f3, f4, f5⟩ := fresh 0 (by simp)
  have hg := hgg 0
  have hgm0 := hgm 0
  simp only [Nat.zero_add, List.nil_append, Array.empty_append] at f1 f2 f3 f4 f5 hg hgm0 ⊢
  exact ⟨_, _, c', _, hr, f1, f2, hg, hgm0, f3, .inr rfl, f4, f5, ⟨rfl, rfl, rfl⟩, by simp⟩
 ·have hlo : (c.toList.take (n * i.size)).length = n * i.size := by
   rw [List.length_take, Array.length_toList, hcs]
   exact Nat.min_eq_left (Nat.mul_le_mul_right _ hcap)
  by_cases hroom : n + m ≤ cap
  ·have hfit : n * i.size + news.length ≤ c.size := by rw [hly, hcs, ← Nat.add_mul]; exact Nat.mul_le_mul_right _ hroom
   have hr := run_append_room (P := P) w t rty ty inf hu hi1 b n cap c hc ad m cp news (by rw [hi2]; exact hly) hadd h1 hroom (by rw [hi2]; exact hfit)
   rw [hi2] at hr
   refine ⟨b, cap, _, _, hr, setRow_heap _ _ _ _ _ _ hc, ?_, hroom, hcm, ?_, .inl (by simp [Value.ownBlock]), fun b' _ hne => setRow_other _ _ _ _ hne, by simp, ⟨rfl, rfl, rfl⟩, hlo⟩
   ·simp only [List.size_toArray, List.length_append, List.length_drop, Array.length_toList, hlo]
    omega
   ·simp only
    have e : (n + m) * i.size = (c.toList.take (n * i.size) ++ news).length := by rw [List.length_append, hlo, hly, Nat.add_mul]
    rw [e, List.take_left]
  ·have holds : ∀ j u, (c.toList.take (n * i.size))[j]? = some u → w.cell? ((⟨b, 0, none⟩ : Addr).add j) = some u := by
    intro j u hj
    rw [List.getElem?_take] at hj
    split at hj
    ·have hadd : (⟨b, 0, none⟩ : Addr).add j = ⟨b, j, none⟩ := by unfold Addr.add; split <;> simp_all
     rw [hadd, cell_of_heap hc]
     simpa using hj
    ·cases hj
   have hr := run_append_grow (P := P) w t rty ty inf z hu hi1 hi4 ⟨b, 0, none⟩ n cap (c.toList.take (n * i.size)) (by rw [hi2]; exact hlo) holds ad m cp news (by rw [hi2]; exact hly) hadd (by omega) (by omega) (by rw [hi3]; exact growslice_fits (by omega) hb)
   obtain ⟨c', f1, f2, f3, f4, f5⟩ := fresh cap hlo
   exact ⟨_, _, c', _, hr, f1, f2, hgg cap, hgm cap, f3, .inr rfl, f4, f5, ⟨rfl, rfl, rfl⟩, hlo⟩
end
end Go.AI


namespace Go.AI
section
variable {P : Program} {E0 E : Env} {K : Kn} {ρ : Nat → Nat → Loc} {s : St} {a : Act} {w : World} {H : Heap} {O : List Heap} {ty es : Nat} {vs : List Value} {xss : List (List (List I))}
open Classical in
noncomputable def zfF (K : Kn) (b m : Nat) (c : Array Value) : Kn := fun b' o => if b' = b ∧ o < m then c[o]? else K b' o
theorem zmu (hi : Inv E K ρ s a w) (hS : s.S = H :: O) (hR : RowsO E0 E O ty es vs xss) {j : Nat} {v : Value} {xs : List (List I)} (hv : vs[j]? = some v) (hx : xss[j]? = some xs) {t : Nat} {i : TI} (hu : P.underlying t = some (.slice ty)) (hok : TIok P ty i)
  (he : i.size = es) {vy : Value} {m : Nat} {ys : List (List I)} (hy : Rep K vy (.sl es m ys)) (hm : 0 < m) (hb : (xs.length + m) * i.bytes ≤ 140737488355328) (h63 : xs.length + m ≤ 9223372036854775807) (rty : TypeId) :
  ∃ v' w' E' K', (Builtin.append_ #[t, t] rty #[v, vy]).run P w = .ok v' w' ∧ K.le K' ∧ v'.oneCell' = true ∧ Inv E' K' ρ s a w' ∧ RowsO E0 E' O ty es (vs.set j v') (xss.set j (xs ++ ys)) := by
 subst he
 have hh := hi.h
 rw [hS] at hh
 have hrow := hR.row j v xs hv hx
 have hjl : j < vs.length := (List.getElem?_eq_some_iff.1 hv).1
 have hKlt : ∀ b o x, K b o = some x → b < w.heap.size := fun b o x e => by
  rcases Nat.lt_or_ge b w.heap.size with h' | h'
  ·exact h'
  ·rw [hh.K_fresh h'] at e; cases e
 have hsz0 : E0.w0.heap.size ≤ w.heap.size := Nat.le_trans hR.base.size hh.size
 have hEold : ∀ b, E.pr b → (∀ dep nm ob, zaa O dep nm = some ob → zal (E0.ρ0 dep nm) ob → (E0.ρ0 dep nm).block ≠ b) → w.heap[b]? = E.w0.heap[b]? := fun b hp ho => hh.old b hp (hh.outerNe hR.base ho)
 have hKE : ∀ b o, E.pr b → K b o = E.K0 b o := by
  intro b o hp
  cases hk : K b o with
  | none =>
   cases hk2 : E.K0 b o with
   | none => rfl
   | some x => rw [hh.Kle _ _ _ hk2] at hk; cases hk
  | some x =>
   rcases hh.Knew b o x hk with h1 | h1
   ·rw [h1]
   ·exact absurd hp h1
 -- the second operand
 obtain ⟨ad, cap2, news, rfl, hry, hey, hadd, hym⟩ : ∃ ad cap2 news, vy = .slice (some ad) m cap2 ∧ RepL K news ys.flatten ∧ (∀ d ∈ ys, d.length = i.size) ∧ (∀ j c, news[j]? = some c → w.cell? (ad.add j) = some c) ∧ ys.length = m := by
  cases hy with
  | nil => omega
  | sl r e k c l => exact ⟨_, _, _, rfl, r, e, fun j c hc => by rw [Addr.add_lit]; exact hh.holds _ _ _ (k j c hc), l⟩
 have hly : news.length = m * i.size := by rw [hry.length, zbg ys hey, hym]
 -- the row
 obtain ⟨olds, hvv, hro, hex, hob⟩ : ∃ olds, ((v = .slice none 0 0 ∧ xs.length = 0 ∧ olds = []) ∨ ∃ b cap c, v = .slice (some ⟨b, 0, none⟩) xs.length cap ∧ w.heap[b]? = some (.cells c ty (0, 0)) ∧ c.size = cap * i.size ∧ xs.length ≤ cap ∧ cap ≤ maxLen ∧ olds = c.toList.take (xs.length * i.size)) ∧
   RepL K olds xs.flatten ∧ (∀ d ∈ xs, d.length = i.size) ∧ (∀ b, v.ownBlock = some b → E.pr b ∧ ¬ E0.pr b ∧ (∀ dep nm ob, zaa O dep nm = some ob → zal (E0.ρ0 dep nm) ob → (E0.ρ0 dep nm).block ≠ b) ∧ ∀ o x, K b o = some x → o < xs.length * i.size ∧ olds[o]? = some x) := by
  cases hrow with
  | nil => exact ⟨[], .inl ⟨rfl, rfl, rfl⟩, .nil, by simp, fun b e => by simp [Value.ownBlock] at e⟩
  | @row b n cap c _ hn hd hp hp0 ho hc hs hcap hm hr hk hk' =>
   subst hn
   refine ⟨c.toList.take (xs.length * i.size), .inr ⟨b, cap, c, rfl, by rw [hEold b hp ho]; exact hc, hs, hcap, hm, rfl⟩, hr.mono hh.Kle, hd, fun b' e => ?_⟩
   simp only [Value.ownBlock, Option.some.injEq] at e
   subst e
   refine ⟨hp, hp0, ho, fun o x e => ?_⟩
   rw [hKE b o hp] at e
   by_cases hlt : o < xs.length * i.size
   ·refine ⟨hlt, ?_⟩
    rw [hk o hlt] at e
    rw [List.getElem?_take, if_pos hlt]
    simpa using e
   ·rw [hk' o (by omega)] at e; cases e
 obtain ⟨b, cap', c', w', hrun, hc', hcs', hcap', hcm', htk, hbb, hold, hsz, hrest, hlo⟩ := zs8 (P := P) (w := w) (n := xs.length) (m := m) hu hok hvv (p := some ad) (cp := cap2) rfl hly hry.one hadd hm hb h63 rty
 have hnb0 : ¬ E0.pr b := by
  rcases hbb with h1 | h1
  ·exact (hob b h1).2.1
  ·intro hp
   have := E0.lt b hp
   omega
 have hKb : ∀ o x, K b o = some x → o < xs.length * i.size ∧ olds[o]? = some x := by
  rcases hbb with h1 | h1
  ·exact (hob b h1).2.2.2
  ·intro o x e
   have := hKlt b o x e
   omega
 have hbO : ∀ dep nm ob, zaa s.S dep nm = some ob → zal (ρ dep nm) ob → (ρ dep nm).block ≠ b := by
  intro dep nm ob e hbk
  rw [hS] at e
  rcases hbb with h1 | h1
  ·obtain ⟨hp, _, ho, _⟩ := hob b h1
   cases dep with
   | zero => intro e2; exact hh.loc nm ob e hbk (by rw [e2]; exact hp)
   | succ dep => exact hh.outerNe hR.base ho dep nm ob e hbk
  ·have := (hh.own dep nm ob e).lt (by simpa using hbk)
   have e3 : (ρ dep nm).block < w.heap.size := this
   omega
 have hbOut : ∀ dep nm ob, zaa O dep nm = some ob → zal (E0.ρ0 dep nm) ob → (E0.ρ0 dep nm).block ≠ b := by
  intro dep nm ob e hbk
  have e2 : ρ (dep + 1) = E0.ρ0 dep := by rw [hh.outer, hR.base.ρ]
  have := hbO (dep + 1) nm ob (by rw [hS]; simpa [zaa] using e) (by rw [e2]; exact hbk)
  rwa [e2] at this
 have hlen : (olds ++ news).length = (xs.length + m) * i.size := by rw [List.length_append, hlo, hly, Nat.add_mul]
 have hci : ∀ o, o < (xs.length + m) * i.size → c'[o]? = (olds ++ news)[o]? := by
  intro o ho
  rw [← htk, List.getElem?_take, if_pos ho]
  simp
 let K' : Kn := zfF K b ((xs.length + m) * i.size) c'
 have hle : K.le K' := by
  intro b' o x e
  show zfF _ _ _ _ _ _ = _
  unfold zfF
  split
  ·rename_i h1
   obtain ⟨rfl, h2⟩ := h1
   obtain ⟨h3, h4⟩ := hKb o x e
   rw [hci o h2, List.getElem?_append_left (by omega)]
   exact h4
  ·exact e
 have hK'ne : ∀ b', b' ≠ b → ∀ o, K' b' o = K b' o := fun b' hne o => by
  show zfF _ _ _ _ _ _ = _
  unfold zfF
  rw [if_neg (fun h => hne h.1)]
 have hwne : ∀ b', b' < w.heap.size → b' ≠ b → w'.heap[b']? = w.heap[b']? := hold
 have hholds : ∀ b' o x, K' b' o = some x → w'.cell? ⟨b', o, none⟩ = some x := by
  intro b' o x e
  by_cases hbe : b' = b
  ·subst hbe
   have e : zfF K b' ((xs.length + m) * i.size) c' b' o = some x := e
   unfold zfF at e
   split at e
   ·rw [cell_of_heap hc']; exact e
   ·rename_i h1
    obtain ⟨h3, _⟩ := hKb o x e
    exact absurd ⟨rfl, by rw [Nat.add_mul]; omega⟩ h1
  ·rw [hK'ne b' hbe] at e
   have := hKlt _ _ _ e
   rw [World.cell?, hwne b' this hbe]
   exact hh.holds _ _ _ e
 have hblt : b < w'.heap.size := (Array.getElem?_eq_some_iff.1 hc').1
 have hprlt : ∀ b', (E.pr b' ∨ b' = b) → b' < w'.heap.size := by
  intro b' h1
  rcases h1 with h1 | rfl
  ·have := E.lt b' h1
   have := hh.size
   omega
  ·exact hblt
 let E' : Env := { K0 := K', ρ0 := E.ρ0, w0 := w', pr := fun b' => E.pr b' ∨ b' = b, lt := hprlt }
 have hI' : HInv E' K' ρ s.S w' := by
  rw [← hS] at hh
  refine ⟨hholds, fun dep nm ob e => ?_, hh.inj, Nat.le_refl _, fun _ _ _ => rfl, fun nm ob e hbk hp => ?_, hh.outer, Kn.le_refl _, fun _ _ _ e => .inl e, ⟨rfl, rfl, rfl⟩⟩
  ·refine (hh.own dep nm ob e).stays ⟨hle, fun _ _ _ e => e, fun _ _ _ _ => rfl⟩ (fun hbk => ?_) (fun hbk o => hK'ne _ (hbO dep nm ob e (by simpa using hbk)) o)
   exact hwne _ ((hh.own dep nm ob e).lt hbk) (hbO dep nm ob e (by simpa using hbk))
  ·rcases hp with hp | hp
   ·exact hh.loc nm ob e hbk hp
   ·exact hbO 0 nm ob e hbk hp
 refine ⟨_, w', E', K', hrun, hle, rfl, ⟨hI', hi.defers, hi.size, fun t d e => (hi.slots t d e).stays ⟨hle, fun _ _ _ e => e, fun _ _ _ _ => rfl⟩⟩, ?_⟩
 refine ⟨⟨Kn.le_trans hR.base.K (Kn.le_trans hh.Kle hle), hR.base.ρ, fun b' hp => .inl (hR.base.pr b' hp), fun b' o x e => ?_, Nat.le_trans hsz0 hsz, fun b' hp ho => ?_, ?_⟩, by simp [hR.len], fun k v2 xs2 h1 h2 => ?_, fun k1 k2 v1 v2 b1 hne h1 h2 e1 e2 => ?_⟩
 ·by_cases hbe : b' = b
  ·subst hbe; exact .inr hnb0
  ·have e : K' b' o = some x := e
   rw [hK'ne b' hbe] at e
   rcases hh.Knew _ _ _ e with h1 | h1
   ·exact hR.base.new _ _ _ h1
   ·exact .inr fun hp => h1 (hR.base.pr _ hp)
 ·have hne : b' ≠ b := fun e => hnb0 (e ▸ hp)
  have hlt : b' < w.heap.size := Nat.lt_of_lt_of_le (E0.lt b' hp) hsz0
  show w'.heap[b']? = _
  rw [hwne b' hlt hne, hEold b' (hR.base.pr b' hp) ho, hR.base.old b' hp ho]
 ·show w'.tape = _ ∧ w'.os = _ ∧ w'.output = _
  exact ⟨hrest.1.trans (hh.rest.1.trans hR.base.rest.1), hrest.2.1.trans (hh.rest.2.1.trans hR.base.rest.2.1), hrest.2.2.trans (hh.rest.2.2.trans hR.base.rest.2.2)⟩
 ·by_cases hkj : j = k
  ·subst hkj
   rw [List.getElem?_set_self (by omega)] at h1
   rw [List.getElem?_set_self (by rw [← hR.len]; omega)] at h2
   simp only [Option.some.injEq] at h1 h2
   subst h1; subst h2
   refine .row (by simp [hym]) (fun d hd => ?_) (.inr rfl) hnb0 hbOut hc' hcs' hcap' hcm' ?_ (fun o ho => ?_) fun o ho => ?_
   ·rcases List.mem_append.1 hd with h | h
    ·exact hex d h
    ·exact hey d h
   ·rw [htk, List.flatten_append]
    exact (hro.append hry).mono hle
   ·show zfF _ _ _ _ _ _ = _
    unfold zfF
    rw [if_pos ⟨rfl, ho⟩]
   ·show zfF _ _ _ _ _ _ = _
    unfold zfF
    rw [if_neg (fun h => by omega)]
    cases hk : K b o with
    | none => rfl
    | some x => have := (hKb o x hk).1; rw [Nat.add_mul] at ho; omega
  ·rw [List.getElem?_set_ne hkj] at h1 h2
   have hrk := hR.row k v2 xs2 h1 h2
   have hap := fun b1 => hR.apart k j v2 v b1 (fun e => hkj e.symm) h1 hv
   cases hrk with
   | nil => exact .nil
   | @row bk n cap c _ hn hd hp hp0 ho hc hs hcap hm hr hk hk' =>
    have hwk := hEold bk hp ho
    have hlt : bk < w.heap.size := by
     rw [← hwk] at hc
     exact (Array.getElem?_eq_some_iff.1 hc).1
    have hne : bk ≠ b := by
     rcases hbb with h3 | h3
     ·intro e; exact hap bk (by simp [Value.ownBlock]) (by rw [h3, e])
     ·omega
    refine .row hn hd (.inl hp) hp0 ho ?_ hs hcap hm (hr.mono (Kn.le_trans hh.Kle hle)) (fun o h => ?_) fun o h => ?_
    ·show w'.heap[bk]? = _
     rw [hwne bk hlt hne, hwk]; exact hc
    ·show K' bk o = _
     rw [hK'ne bk hne, hKE bk o hp]; exact hk o h
    ·show K' bk o = _
     rw [hK'ne bk hne, hKE bk o hp]; exact hk' o h
 ·have hnew : ∀ k v2, k ≠ j → vs[k]? = some v2 → v2.ownBlock ≠ some b := by
   intro k v2 hk h e
   rcases hbb with h3 | h3
   ·exact hR.apart j k v v2 b (fun e => hk e.symm) hv h h3 e
   ·have hkl : k < xss.length := by rw [← hR.len]; exact (List.getElem?_eq_some_iff.1 h).1
    have hrk := hR.row k v2 xss[k] h (List.getElem?_eq_getElem hkl)
    generalize xss[k] = xk at hrk
    cases hrk with
    | nil => simp [Value.ownBlock] at e
    | @row bk n cap c _ hn hd hp hp0 ho hc hs hcap hm hr hk hk' =>
     simp only [Value.ownBlock, Option.some.injEq] at e
     have hwk := hEold bk hp ho
     rw [← hwk] at hc
     have := (Array.getElem?_eq_some_iff.1 hc).1
     omega
  by_cases hk1 : j = k1
  ·subst hk1
   rw [List.getElem?_set_self (by omega)] at h1
   rw [List.getElem?_set_ne hne] at h2
   simp only [Option.some.injEq] at h1
   subst h1
   have e1' : some b = some b1 := by simpa [Value.ownBlock] using e1
   rw [← e1'] at e2
   exact hnew k2 v2 (fun e => hne e.symm) h2 e2
  ·rw [List.getElem?_set_ne hk1] at h1
   by_cases hk2 : j = k2
   ·subst hk2
    rw [List.getElem?_set_self (by omega)] at h2
    simp only [Option.some.injEq] at h2
    subst h2
    have e2' : some b = some b1 := by simpa [Value.ownBlock] using e2
    rw [← e2'] at e1
    exact hnew k1 v1 (fun e => hk1 e.symm) h1 e1
   ·rw [List.getElem?_set_ne hk2] at h2
    exact hR.apart k1 k2 v1 v2 b1 hne h1 h2 e1 e2
end
end Go.AI


namespace Go.AI
section
variable {E0 E : Env} {K : Kn} {ρ : Nat → Nat → Loc} {H : Heap} {O : List Heap} {w : World}
theorem HInv.reob {nm : Nat} {ob ob' : Ob} (h : HInv E K ρ (H :: O) w) (ho : look H nm = some ob) (hs : ob'.sh = ob.sh) (hbk : zal (ρ 0 nm) ob' → zal (ρ 0 nm) ob)
  (hown : OwnAt K ρ (shape (H :: O)) w (ρ 0 nm) ob → OwnAt K ρ (shape (H :: O)) w (ρ 0 nm) ob') : HInv E K ρ (((nm, ob') :: H) :: O) w := by
 have ho' : zaa (H :: O) 0 nm = some ob := by simpa [zaa] using ho
 have e0 : (fun d n => ρ (0 + d) n) = ρ := by funext d n; rw [Nat.zero_add]
 have h0 := h.own 0 nm _ ho'
 rw [e0, List.drop_zero] at h0
 have hsh : shape (((nm, ob') :: H) :: O) = shape (H :: O) := zbv ho hs
 have hdrop : ∀ d, shape ((((nm, ob') :: H) :: O).drop d) = shape ((H :: O).drop d) := by
  intro d
  cases d with
  | zero => exact hsh
  | succ d => rfl
 refine ⟨h.holds, fun d n' x e => ?_, fun d n1 o1 d' n2 o2 e1 e2 b1 b2 hbe => ?_, h.size, fun b hb hno => h.old b hb fun d n' x e => hno d n' x (by simpa [zaa] using e), fun n' x e hb => ?_, h.outer, h.Kle, h.Knew, h.rest⟩
 ·rw [hdrop]
  rcases zbK (ob := ob) e with ⟨rfl, rfl, rfl⟩ | ⟨_, e'⟩
  ·rw [e0, List.drop_zero]; exact hown h0
  ·exact h.own _ _ _ e'
 ·have old : ∀ {d n' x}, zaa (((nm, ob') :: H) :: O) d n' = some x → zal (ρ d n') x → ∃ y, zaa (H :: O) d n' = some y ∧ zal (ρ d n') y := by
   intro d n' x e hb
   rcases zbK (ob := ob) e with ⟨rfl, rfl, rfl⟩ | ⟨_, e'⟩
   ·exact ⟨_, ho', hbk hb⟩
   ·exact ⟨_, e', hb⟩
  obtain ⟨y1, a1, c1⟩ := old e1 b1
  obtain ⟨y2, a2, c2⟩ := old e2 b2
  exact h.inj _ _ _ _ _ _ a1 a2 c1 c2 hbe
 ·rcases zbK (ob := ob) e with ⟨_, rfl, rfl⟩ | ⟨_, e'⟩
  ·exact h.loc _ _ ho' (hbk hb)
  ·exact h.loc _ _ e' hb
theorem zgR : ∀ {cs vs : List Value}, RepL K cs (vs.map fun v => [I.v v]).flatten → cs = vs
 | [], [], _ => rfl
 | c :: cs, v :: vs, h => by
  simp only [List.map_cons, List.flatten_cons, List.singleton_append] at h
  cases h with
  | cons r rs => cases r with
   | v e => rw [zgR rs]
 | [], v :: vs, h => by simp only [List.map_cons, List.flatten_cons, List.singleton_append] at h; cases h
 | c :: cs, [], h => by simp only [List.map_nil, List.flatten_nil] at h; cases h
theorem ziw {ty es : Nat} (hK : E.K0.le K) : ∀ {vs : List Value} {xss : List (List (List I))}, vs.length = xss.length → (∀ (j : Nat) v xs, vs[j]? = some v → xss[j]? = some xs → RowOf E0 E O ty es v xs) → RepL K vs (xss.map fun xs => [I.sl es xs.length xs]).flatten
 | [], [], _, _ => .nil
 | v :: vs, xs :: xss, hl, h => by
  simp only [List.map_cons, List.flatten_cons, List.singleton_append]
  exact .cons ((h 0 v xs rfl rfl).rep hK) (ziw hK (by simpa using hl) fun j v xs h1 h2 => h (j + 1) v xs (by simpa using h1) (by simpa using h2))
 | [], _ :: _, hl, _ => by simp at hl
 | _ :: _, [], hl, _ => by simp at hl
end
section
variable {c : Cx} {s : St} {k : List Item} {ops : Array Oper} {rest : List Nat} {o : Oper} {E0 : Env} {H : Heap} {O : List Heap}
theorem zr1 (nm : Nat) {tya ty es n : Nat} {vs : List Value} {xss : List (List (List I))} {wr : Bool} (hR : RowsO E0 c.E O ty es vs xss) (hS : s.S = H :: O) (ho : look H nm = some (.arr tya 1 n (vs.map fun v => [.v v]) wr)) :
  Wk c s { σ := s.σ, S := ((nm, .arr tya 1 n (xss.map fun xs => [.sl es xs.length xs]) wr) :: H) :: O, n := s.n } := by
 intro K ρ a w hi
 have hh := hi.h
 rw [hS] at hh
 have hsh : shape (((nm, Ob.arr tya 1 n (xss.map fun xs => [.sl es xs.length xs]) wr) :: H) :: O) = shape (H :: O) := zbv ho rfl
 refine ⟨K, ρ, hh.reob ho rfl (fun h => h) fun h => ?_, hi.defers, hi.size, fun t d e => ?_⟩
 ·obtain ⟨h1, h2, h3, h4, h5⟩ := h
  refine ⟨by simp, by simpa [hR.len] using h2, h3, h4, ?_⟩
  rcases h5 with h5 | ⟨h5, c', h6, h7, h8, h9⟩
  ·exact .inl h5
  ·refine .inr ⟨h5, c', h6, h7, ?_, h9⟩
   have := zgR h8
   rw [this]
   exact ziw hh.Kle hR.len hR.row
 ·show RepD K ρ (shape (((nm, Ob.arr tya 1 n (xss.map fun xs => [.sl es xs.length xs]) wr) :: H) :: O)) _ _
  rw [hsh, ← hS]
  exact hi.slots t d e
theorem zgT {todo : List Item} (hb : Base E0 c.E O) (hS : s.S = H :: O) (h : Rch { c with E := E0 } todo s) : Rch c todo s := by
 intro K ρ a w b cs hi h1 h2
 have hh := hi.h
 rw [hS] at hh
 have hh' := hh.unbase hb
 rw [← hS] at hh'
 exact h K ρ a w b cs ⟨hh', hi.defers, hi.size, hi.slots⟩ h1 h2
theorem zix {α : Type} {todo : List Item} (L : α → List (Nat × D)) (G : α → Heap) (O : α → List Heap) (n : Nat) (I : Env → α → Prop) (m : α → Nat) (x0 : α) {H : Heap} (hI : I c.E x0) (hs : Sub s (L x0)) (hS : s.S = H :: O x0) (hH : SubH H (G x0)) (hok : zfL (L x0) (G x0) = true) (hn : s.n = n)
  (step : ∀ E x, I E x → (∀ E' y s' H, I E' y → m y < m x → Sub s' (L y) → s'.S = H :: O y → SubH H (G y) → zfL (L y) (G y) = true → s'.n = n → Rch { c with E := E' } todo s') → Rch { c with E := E } todo { σ := L x, S := G x :: O x, n := n }) : Rch c todo s := by
 have key : ∀ N E x s H, m x ≤ N → I E x → Sub s (L x) → s.S = H :: O x → SubH H (G x) → zfL (L x) (G x) = true → s.n = n → Rch { c with E := E } todo s := by
  intro N
  induction N with
  | zero =>
   intro E x s H hm hI hs hS hH hok hn
   exact zdv hs hS hH hok hn (step E x hI fun E' y s' _ _ hlt => by omega)
  | succ N ih =>
   intro E x s H hm hI hs hS hH hok hn
   exact zdv hs hS hH hok hn (step E x hI fun E' y s' H' hy hlt => ih E' y s' H' (by omega) hy)
 exact key _ c.E x0 s H (Nat.le_refl _) hI hs hS hH hok hn
end
end Go.AI


namespace Go.AI
section
variable {E : Env} {K : Kn} {ρ : Nat → Nat → Loc} {H : Heap} {O : List Heap} {w : World}
theorem zff (nm : Nat) : But nm ρ ρ (shape (H :: O)) (shape (zaN nm H :: O)) := by
 intro dep n x h e
 refine ⟨?_, rfl⟩
 cases dep with
 | zero =>
  have hn : n ≠ nm := by rcases h with h | h; exact absurd rfl h; exact h
  simp only [shape, zaa, List.getElem?_cons_zero, za0] at e ⊢
  rw [if_neg hn]
  cases hl : look H n with
  | none => simp [hl] at e
  | some o0 => simp only [hl, Option.map_some, Option.some.injEq] at e ⊢; rw [Ob.kill_sh]; exact e
 | succ d => simpa [shape, zaa] using e
theorem HInv.frzbox {nm : Nat} {cs : List I} (h : HInv E K ρ (H :: O) w) (ho : look H nm = some (.box (cs.map .i))) :
  ∃ K', K.le K' ∧ HInv E K' ρ (zaN nm H :: O) w ∧ ∃ c : List Value, RepL K' c cs ∧ ∀ j x, c[j]? = some x → K' (ρ 0 nm).block (0 + j) = some x := by
 have ho' : zaa (H :: O) 0 nm = some (.box (cs.map .i)) := by simpa [zaa] using ho
 have e0 : (fun d n => ρ (0 + d) n) = ρ := by funext d n; rw [Nat.zero_add]
 have h0 := h.own 0 nm _ ho'
 rw [e0, List.drop_zero] at h0
 obtain ⟨c, T, hc, hr, hK⟩ := h0
 have hr := hr.toL
 have hbk : zal (ρ 0 nm) (.box (cs.map .i)) := trivial
 have hle : K.le (frz K w (ρ 0 nm).block c.size) := by
  intro b o x e
  unfold frz
  split
  ·exact h.holds _ _ _ e
  ·exact e
 have hne : ∀ d n ob, zaa (H :: O) d n = some ob → ¬ (d = 0 ∧ n = nm) → zal (ρ d n) ob → ∀ o, frz K w (ρ 0 nm).block c.size (ρ d n).block o = K (ρ d n).block o := by
  intro d n ob e hdn hb o
  unfold frz
  rw [if_neg]
  rintro ⟨h1, _⟩
  exact hdn (h.inj _ _ _ _ _ _ e ho' hb hbk h1)
 have hcase : ∀ d n ob, zaa (zaN nm H :: O) d n = some ob → ∃ o0, zaa (H :: O) d n = some o0 ∧ ¬ (d = 0 ∧ n = nm) ∧ (∀ l, zal l ob ↔ zal l o0) ∧ (d = 0 → ob = o0.kill nm) ∧ (d ≠ 0 → ob = o0) := by
  intro d n ob e
  cases d with
  | zero =>
   simp only [zaa, List.getElem?_cons_zero, za0] at e
   split at e
   ·cases e
   ·rename_i hn
    cases hl : look H n with
    | none => simp [hl] at e
    | some o0 =>
     simp only [hl, Option.map_some, Option.some.injEq] at e
     subst e
     exact ⟨o0, by simpa [zaa] using hl, fun h => hn h.2, fun l => zea _ _ _, fun _ => rfl, fun h => absurd rfl h⟩
  | succ d => exact ⟨ob, by simpa [zaa] using e, fun h => by omega, fun _ => Iff.rfl, fun h => by omega, fun _ => rfl⟩
 refine ⟨_, hle, ⟨fun b o x e => ?_, fun d n ob e => ?_, fun d n1 o1 d' n2 o2 e1 e2 b1 b2 hbe => ?_, h.size, fun b hb hno => h.old b hb fun d n ob e => hno d n ob (by simpa [zaa] using e), fun n ob e hb => ?_, h.outer, Kn.le_trans h.Kle hle, fun b o x e => ?_, h.rest⟩, c.toList, RepL.mono hle hr, fun j x hx => ?_⟩
 ·unfold frz at e
  split at e
  ·rename_i h1; rw [h1.1] at e ⊢; exact e
  ·exact h.holds _ _ _ e
 ·obtain ⟨o0, a1, a2, a3, a4, a5⟩ := hcase d n ob e
  have hs := (h.own d n o0 a1).stays (K' := frz K w (ρ 0 nm).block c.size) (ρ' := fun d' n' => ρ (d + d') n') (sh' := shape ((H :: O).drop d)) (w' := w) ⟨hle, fun _ _ _ e => e, fun _ _ _ _ => rfl⟩ (fun _ => rfl) (hne d n o0 a1 a2)
  cases d with
  | zero =>
   rw [a4 rfl]
   rw [e0, List.drop_zero] at hs
   rw [e0, List.drop_zero]
   exact hs.kill (zff nm) (fun _ => rfl)
  | succ d =>
   rw [a5 (by omega)]
   exact hs
 ·obtain ⟨p1, a1, _, a3, _⟩ := hcase d n1 o1 e1
  obtain ⟨p2, c1, _, c3, _⟩ := hcase d' n2 o2 e2
  exact h.inj _ _ _ _ _ _ a1 c1 ((a3 _).1 b1) ((c3 _).1 b2) hbe
 ·obtain ⟨p1, a1, _, a3, _⟩ := hcase 0 n ob e
  exact h.loc _ _ a1 ((a3 _).1 hb)
 ·unfold frz at e
  split at e
  ·rename_i h1; rw [h1.1]; exact .inr (h.loc nm _ ho' hbk)
  ·exact h.Knew _ _ _ e
 ·unfold frz
  have hj : j < c.size := by have := (List.getElem?_eq_some_iff.1 hx).1; simpa using this
  rw [if_pos ⟨rfl, by omega⟩, cell_of_heap hc, Nat.zero_add]
  simpa using hx
end
def frzb (nm m : Nat) (cs : List I) : D → D
 | .own 0 k 0 off => bif Nat.beq k nm then .i (.ptr m [cs] 0 off) else .own 0 k 0 off
 | d => d.kill nm
def zoP (nm m : Nat) (cs : List I) : List (Nat × D) → List (Nat × D)
 | [] => []
 | (t, d) :: r => (t, frzb nm m cs d) :: zoP nm m cs r
theorem zg1 {nm m : Nat} {cs : List I} : ∀ {l : List (Nat × D)} {t : Nat}, look (zoP nm m cs l) t = (look l t).map (frzb nm m cs)
 | [], t => by simp [zoP, look]
 | (k, y) :: r, t => by
  simp only [zoP, zab, zg1]
  split <;> simp
theorem zns {c : Cx} {s : St} (nm : Nat) (cs : List I) {H : Heap} {O : List Heap} (hS : s.S = H :: O) (ho : look H nm = some (.box (cs.map .i))) : Wk c s { σ := zoP nm cs.length cs s.σ, S := zaN nm H :: O, n := s.n } := by
 intro K ρ a w hi
 have hh := hi.h
 rw [hS] at hh
 obtain ⟨K', hle, hI, cl, hr, hk⟩ := hh.frzbox ho
 refine ⟨K', ρ, hI, hi.defers, hi.size, fun t d e => ?_⟩
 simp only [zg1] at e
 cases hl : look s.σ t with
 | none => simp [hl] at e
 | some d0 =>
  simp only [hl, Option.map_some, Option.some.injEq] at e
  subst e
  have h1 := hi.slots t d0 hl
  rw [hS] at h1
  have h2 : RepD K' ρ (shape (H :: O)) (a.tmps.getD t undef) d0 := h1.stays ⟨hle, fun _ _ _ e => e, fun _ _ _ _ => rfl⟩
  have h3 := RepD.kill (zff (ρ := ρ) (H := H) (O := O) nm) h2
  show RepD K' ρ (shape (zaN nm H :: O)) _ _
  unfold frzb
  split
  ·rename_i k off
   cases hb : Nat.beq k nm with
   | false =>
    rw [cond_false]
    have : (D.own 0 k 0 off).kill nm = .own 0 k 0 off := by simp [D.kill, hb]
    rwa [this] at h3
   | true =>
    obtain rfl := Nat.eq_of_beq_eq_true hb
    rw [cond_true]
    have hv := zd3 h2 (by simp [shape, zaa, ho, Ob.sh])
    rw [hv]
    have hp : Rep K' (.pointer (some ⟨(ρ 0 k).block, 0 + 0 * cs.length + off, none⟩)) (.ptr cs.length [cs] 0 off) := .ptr (by simpa using hr) (by simp) hk
    simp only [Nat.zero_mul, Nat.zero_add] at hp
    exact .i hp
  ·exact h3
end Go.AI


namespace Go.AI
theorem Base.eok {E0 E : Env} {O : List Heap} (hb : Base E0 E O) : EOk E0 E O := by
 refine ⟨fun g tab O0 hO ht => ?_, hb.K⟩
 obtain ⟨⟨h1, h2⟩, h3⟩ := ht
 have hρ : E.ρ0 = E0.ρ0 := funext hb.ρ
 refine ⟨⟨?_, ?_⟩, hb.pr g h3⟩
 ·rw [hb.old g h3 fun dep nm ob e hbk => h2 dep nm ob.sh (by rw [← hO]; simp [shape, e]) (zeW.1 hbk)]
  exact h1
 ·rw [hρ]; exact h2
theorem EOk.trans {E0 E E' : Env} {O : List Heap} (h : EOk E0 E O) (h' : EOk E E' O) : EOk E0 E' O := ⟨fun g tab O0 hO ht => h'.tb g tab O0 hO (h.tb g tab O0 hO ht), Kn.le_trans h.kn h'.kn⟩
theorem zp8 {c : Cx} {E0 E : Env} {ops : Array Oper} {O : List Heap} {n : Nat} {o : Oper} {v : SH} {p : Pl} (hE : EOk E0 E O) (h : zey { c with E := E0 } ops O n o v p) : zey { c with E := E } ops O n o v p := by
 rcases h with h | ⟨h1, h2⟩
 ·exact .inl h
 ·exact .inr ⟨h1, fun E' hE' => h2 E' (hE.trans hE')⟩
theorem zeo {ps ps' : List Pl} : ∀ (l : List Nat) {x : SH}, (∀ i ∈ l, pl ps i = pl ps' i) → fold ps l x = fold ps' l x
 | [], _, _ => rfl
 | i :: r, x, h => by
  simp only [fold, List.foldl_cons]
  rw [h i (by simp)]
  exact zeo r fun j hj => h j (by simp [hj])
theorem Inv.sameX {E : Env} {K : Kn} {ρ : Nat → Nat → Loc} {O : List Heap} {n : Nat} {x y : SH} {a : Act} {w : World} (hi : Inv E K ρ (St.of O n x) a w) (h1 : ∀ t, look y.1 t = look x.1 t) (h2 : ∀ nm, look y.2 nm = look x.2 nm) : Inv E K ρ (St.of O n y) a w := by
 have hh : HInv E K ρ (x.2 :: O) w := hi.h
 refine ⟨hh.same fun nm => h2 nm, hi.defers, hi.size, fun t d e => ?_⟩
 have hsh : shape (St.of O n y).S = shape (x.2 :: O) := zds fun nm => h2 nm
 rw [hsh]
 have e' : look y.1 t = some d := e
 rw [h1] at e'
 exact hi.slots t d e'
def flR (tF : Nat) (v : Value) : Pl := ⟨[(tF, .i (.v v))], [], none⟩
set_option maxHeartbeats 2000000 in
theorem zqt {c : Cx} {E0 : Env} (hT : TOk c.P c.T) (hm : c.P.follows .mixedOrders = true) {id : Nat} {ops : Array Oper} {O : List Heap} {n : Nat} {x0 : SH} {ps : List Pl} {k : List Item} {tF t1 ty es j m tx ty2 : Nat} {oF : Oper} {cl : Call} {ti1 ti2 : TI} {v : Value} {xs ys : List (List I)} {vs : List Value} {xss : List (List (List I))}
  (hR : RowsO E0 c.E O ty es vs xss) (hv : vs[j]? = some v) (hxs : xss[j]? = some xs) (hb : (xs.length + m) * ti2.bytes ≤ 140737488355328 ∧ xs.length + m ≤ 9223372036854775807)
  (hoF : ops[ps.length]? = some oF) (hg : oF.guard = none) (hd : oF.dst = some tF) (hop : oF.op = .call cl) (hc1 : cl.callee = .builtin .append) (hc2 : cl.args = #[.tmp tx, .tmp ty2]) (hc3 : cl.argTypes = #[t1, t1])
  (h1 : look c.T t1 = some ti1) (hk1 : ti1.k = .slice ty) (h2 : look c.T ty = some ti2) (hes : ti2.size = es) (hx : look (zaD ops oF (zcj ps x0)).1 tx = some (.i (.v v))) (hy : look (zaD ops oF (zcj ps x0)).1 ty2 = some (.i (.sl es m ys))) (hm1 : Nat.ble 1 m = true) (hn : Nat.ble (tF + 1) n = true)
  (hok : ∀ v', okT ops (ps ++ [flR tF v']) x0 = true) (hch : zdO { c with E := E0 } ops O n ops.toList ps x0)
  (hend : ∀ E' v', RowsO E0 E' O ty es (vs.set j v') (xss.set j (xs ++ ys)) → RG { c with E := E' } ops (List.range' (ps.length + 1) (ops.size - (ps.length + 1))) (St.of O n (zcj (ps ++ [flR tF v']) x0)) k) : Rch c (.code (.region id ops true) :: k) (St.of O n x0) := by
 have hun : ∀ v', zhC ops (zdL ops.toList []) = true ∧ znE ops (zdL ops.toList []) (ps.length + 1) = true ∧ ps.length + 1 ≤ ops.size ∧
   ∀ i o p, ops.toList[i]? = some o → (ps ++ [flR tF v'])[i]? = some p → okI ops (zdL ops.toList []) (ps ++ [flR tF v']) x0 (0 + i) o (zcj ((ps ++ [flR tF v']).take i) x0) p = true := by
  intro v'
  have h := hok v'
  simp only [okT, Bool.and_eq_true] at h
  obtain ⟨⟨hpre, hgo⟩, htl⟩ := h
  obtain ⟨hlen, hget⟩ := zhF hgo
  refine ⟨hpre, by simpa using htl, by simpa using hlen, hget⟩
 obtain ⟨hpre, htl, hlen, -⟩ := hun undef
 have hpl : ∀ v', pl (ps ++ [flR tF v']) ps.length = flR tF v' := fun v' => by
  unfold pl
  rw [List.getElem?_append_right (Nat.le_refl _), Nat.sub_self]
  rfl
 have hplt : ∀ v' i, i < ps.length → pl (ps ++ [flR tF v']) i = ps[i]?.getD ⟨[], [], none⟩ := fun v' i h => by
  unfold pl
  rw [List.getElem?_append_left h, List.getElem?_eq_getElem h]
  rfl
 have hlF : (ps ++ [flR tF undef]).length = ps.length + 1 := by simp
 refine zn9 (p := ps.length + 1) hm rfl hpre htl hlen (fun L a w => ∃ E K ρ v', Inv E K ρ (St.of O n (fold (ps ++ [flR tF v']) (ord ops.size L) x0)) a w ∧ (L ps.length = false → E = c.E) ∧
  (L ps.length = true → RowsO E0 E O ty es (vs.set j v') (xss.set j (xs ++ ys)))) ?_ ?_ ?_ ?_
 ·rintro L L' a w hL ⟨E, K, ρ, v', hi, ha, hb⟩
  refine ⟨E, K, ρ, v', ?_, fun h => ha (by rw [hL _ (by omega)]; exact h), fun h => hb (by rw [hL _ (by omega)]; exact h)⟩
  rw [← zc7 fun k hk => hL k hk]
  exact hi
 ·intro K ρ a w hi
  refine ⟨c.E, K, ρ, undef, ?_, fun _ => rfl, fun h => by cases h⟩
  have e : ord ops.size (fun _ => false) = [] := by simp [ord]
  rw [e]
  exact hi
 ·rintro L hc i o ho hip hLi hbef hno a w ⟨E, K, ρ, v', hinv, hE0, hE1⟩ Q next hnext
  have hEE : EOk E0 E O := by
   cases hL : L ps.length with
   | false => rw [hE0 hL]; exact hR.base.eok
   | true => exact (hE1 hL).base.eok
  by_cases hie : i = ps.length
  ·subst hie
   obtain rfl := hE0 hLi
   rw [hoF] at ho
   simp only [Option.some.injEq] at ho
   subst ho
   have hget := fun v' => (hun v').2.2.2
   have key : ∀ v', Fits (fold (ps ++ [flR tF v']) (ord ops.size L) x0) (zaD ops oF (zcj ps x0)) oF (pl (ps ++ [flR tF v']) ps.length) ∧
     (∀ t, look (fold (ps ++ [flR tF v']) (ord ops.size fun k => L k || Nat.beq k ps.length) x0).1 t = look ((pl (ps ++ [flR tF v']) ps.length).ap (fold (ps ++ [flR tF v']) (ord ops.size L) x0)).1 t) ∧
     ∀ t, look (fold (ps ++ [flR tF v']) (ord ops.size fun k => L k || Nat.beq k ps.length) x0).2 t = look ((pl (ps ++ [flR tF v']) ps.length).ap (fold (ps ++ [flR tF v']) (ord ops.size L) x0)).2 t := by
    intro v'
    have hok1 := hget v' ps.length oF (flR tF v') (by simpa using hoF) (by rw [List.getElem?_append_right (Nat.le_refl _), Nat.sub_self]; rfl)
    rw [Nat.zero_add] at hok1
    have e : (ps ++ [flR tF v']).take ps.length = ps := by simp
    rw [e] at hok1
    have e2 : zcj ps x0 = fold (ps ++ [flR tF v']) (ord ops.size fun k => Nat.ble (k + 1) ps.length) x0 := by
     rw [zce (n := ops.size) (by omega), zbf _ (by simp), e]
    have hok2 : okI ops (zdL ops.toList []) (ps ++ [flR tF v']) x0 ps.length oF (zcj ps x0) (pl (ps ++ [flR tF v']) ps.length) = true := by
     rw [hpl v']
     exact hok1
    exact fits hpre hoF hok2 e2 hc hLi hbef
   have hw : zaw ops (St.of O n (fold (ps ++ [flR tF v']) (ord ops.size L) x0)) oF = some true := by unfold zaw; rw [hg]
   have hsame : ∀ v2, fold (ps ++ [flR tF v2]) (ord ops.size L) x0 = fold (ps ++ [flR tF v']) (ord ops.size L) x0 := fun v2 => by
    refine zeo _ fun i hi => ?_
    obtain ⟨hi1, hi2⟩ := zbE.1 hi
    have hne : i ≠ ps.length := fun e => by rw [e] at hi2; rw [hi2] at hLi; cases hLi
    by_cases hlt : i < ps.length
    ·rw [hplt _ _ hlt, hplt _ _ hlt]
    ·have := hno i hi1 (by omega); rw [this] at hi2; cases hi2
   obtain ⟨hf, -, -⟩ := key v'
   have hsx := hinv.slots tx _ (hf.v1 _ _ hx)
   have hvx := zaC hsx
   have hsy := hinv.slots ty2 _ (hf.v1 _ _ hy)
   have hry : Rep K (a.tmps.getD ty2 undef) (.sl es m ys) := by
    revert hsy
    generalize a.tmps.getD ty2 undef = vy
    intro h
    cases h with
    | i r => exact r
   have hok1 := hT _ _ h1
   have hu : c.P.underlying t1 = some (.slice ty) := by have := hok1.kind; rw [hk1] at this; exact this
   obtain ⟨v2, w', E', K', hrun, hle, h1c, hi', hR'⟩ := zmu hinv rfl hR hv hxs (P := c.P) hu (hT _ _ h2) hes hry (Nat.le_of_ble_eq_true hm1) hb.1 hb.2 oF.type
   have ex : a.eval (.tmp tx) = v := hvx
   have ey : a.eval (.tmp ty2) = a.tmps.getD ty2 undef := rfl
   have hexec : (execOp a.eval oF).run c.P w = .ok (.value v2) w' := by
    unfold execOp
    simp only [hop, hc1, hc2, hc3, resolve, invoke, builtin, Sem.run_bind, Sem.run_pure, Result.andThen_ok, List.map_toArray, List.map_cons, List.map_nil, ex, ey, hrun]
   unfold wpOp
   rw [hoF]
   dsimp only
   rw [za9 hinv hw, if_pos rfl]
   refine .inl ?_
   simp only [Oper.wp, hexec, Oper.upon]
   refine hnext _ _ ⟨E', K', ρ, v2, ?_, fun h => ?_, fun _ => hR'⟩
   ·obtain ⟨-, hy1, hy2⟩ := key v2
    rw [hpl, hsame] at hy1 hy2
    rw [hd]
    have hset := zbZ hi' (Nat.le_of_ble_eq_true hn) hi'.h (Stays.refl _ _ _) (.i (.v h1c) : RepD K' ρ _ v2 (.i (.v v2)))
    refine Inv.sameX (x := ((tF, .i (.v v2)) :: (fold (ps ++ [flR tF v']) (ord ops.size L) x0).1, (fold (ps ++ [flR tF v']) (ord ops.size L) x0).2)) hset (fun t => ?_) fun nm => ?_
    ·rw [hy1]; rfl
    ·rw [hy2]; rfl
   ·simp at h
  ·have hil : i < ps.length := by omega
   have hp : (ps ++ [flR tF v'])[i]? = some ps[i] := by rw [List.getElem?_append_left hil, List.getElem?_eq_getElem hil]
   have hok1 := (hun v').2.2.2 i o _ (by simpa using ho) hp
   have hst := zev hch i o _ (by simpa using ho) (List.getElem?_eq_getElem hil)
   have e : (ps ++ [flR tF v']).take i = ps.take i := by rw [List.take_append_of_le_length (by omega)]
   rw [← e] at hst
   have hpl' : pl (ps ++ [flR tF v']) i = ps[i] := by simp [pl, hp]
   rw [Nat.zero_add] at hok1
   rw [← zbf i (by simp; omega), ← zce (n := ops.size) (by omega)] at hok1 hst
   rw [← hpl'] at hok1 hst
   obtain ⟨hf, hy1, hy2⟩ := fits hpre ho hok1 rfl hc hLi hbef
   refine zeB (c := { c with E := E }) ho (zp8 hEE hst) hf hy1 hy2 hinv fun a' w' K' ρ' hinv' => ?_
   have hbq : Nat.beq ps.length i = false := by
    cases hb : Nat.beq ps.length i with
    | false => rfl
    | true => exact absurd (Nat.eq_of_beq_eq_true hb).symm hie
   exact hnext a' w' ⟨E, K', ρ', v', hinv', fun h => hE0 (by simpa [hbq] using h), fun h => hE1 (by simpa [hbq] using h)⟩
 ·rintro a w ⟨E, K, ρ, v', hinv, hE0, hE1⟩
  have hR' := hE1 (Nat.ble_eq_true_of_le (Nat.le_refl _))
  rw [zce (n := ops.size) hlen, zbf _ (by simp), List.take_of_length_le (by simp)] at hinv
  exact hend E v' hR' K ρ a w hinv
end Go.AI


namespace Go.AI
def FDR (c : Cx) (E0 : Env) (id : Nat) (ops : Array Oper) (O : List Heap) (n : Nat) (x0 : SH) (k : List Item) (x : SH) (ps : List Pl) : Prop :=
 x = zcj ps x0 → zdO { c with E := E0 } ops O n ops.toList ps x0 → Rch c (.code (.region id ops true) :: k) (St.of O n x0)
theorem zqX {c : Cx} {s : St} {k : List Item} {ops : Array Oper} (hT : TOk c.P c.T) (E0 : Env) (m : Nat) {id : Nat} {O : List Heap} {H : Heap} (hS : s.S = H :: O)
  (h : GE { c with E := E0 } ops O s.n (FDR c E0 id ops O s.n (s.σ, H) k) (runS c.T ops O s.n 0 (ops.toList.take m) (s.σ, H) [])) : GM c (.drawn id ops s k) := by
 obtain ⟨qs, h1, h2⟩ := zaY (c := { c with E := E0 }) hT _ _ _ _ h.h
 rw [List.nil_append] at h2
 have hs : s = St.of O s.n (s.σ, H) := by
  cases s
  simp only at hS
  subst hS
  rfl
 refine ⟨?_⟩
 show Rch c (.code (.region id ops true) :: k) s
 rw [hs]
 exact h2 rfl (zhd h1)
theorem ztX {c : Cx} {E0 : Env} (hT : TOk c.P c.T) (hfn : c.P.funcs[c.f]? = some c.fn) (hm : c.P.follows .mixedOrders = true) {id : Nat} {ops : Array Oper} {O : List Heap} {n : Nat} {x0 x : SH} {acc : List Pl} {k : List Item} {tF t1 ty es j m tx ty2 : Nat} {oF : Oper} {cl : Call} {ti1 ti2 : TI} {v : Value} {xs ys : List (List I)} {vs : List Value} {xss : List (List (List I))}
  (hR : RowsO E0 c.E O ty es vs xss) (hv : vs[j]? = some v) (hxs : xss[j]? = some xs) (hb : (xs.length + m) * ti2.bytes ≤ 140737488355328 ∧ xs.length + m ≤ 9223372036854775807) (l : List Nat)
  (hoF : ops[acc.length]? = some oF) (hg : oF.guard = none) (hd : oF.dst = some tF) (hop : oF.op = .call cl) (hc1 : cl.callee = .builtin .append) (hc2 : cl.args = #[.tmp tx, .tmp ty2]) (hc3 : cl.argTypes = #[t1, t1])
  (h1 : look c.T t1 = some ti1) (hk1 : ti1.k = .slice ty) (h2 : look c.T ty = some ti2) (hes : ti2.size = es) (hx : look (zaD ops oF x).1 tx = some (.i (.v v))) (hy : look (zaD ops oF x).1 ty2 = some (.i (.sl es m ys))) (hm1 : Nat.ble 1 m = true) (hn : Nat.ble (tF + 1) n = true)
  (hok : ∀ v', okT ops (acc ++ [flR tF v']) x0 = true) (hl : List.range' (acc.length + 1) (ops.size - (acc.length + 1)) = l)
  (hend : ∀ E' v', RowsO E0 E' O ty es (vs.set j v') (xss.set j (xs ++ ys)) → GM { c with E := E' } (zg4 x fun x => run c.T c.stop 1000 (.inRegion ops l :: k) (St.of O n ((tF, .i (.v v')) :: x.1, x.2)))) :
  GE { c with E := E0 } ops O n (FDR c E0 id ops O n x0 k) (.done x acc) := by
 subst hl
 refine ⟨?_⟩
 show FDR c E0 id ops O n x0 k x acc
 intro hx0 hch
 subst hx0
 refine zqt hT hm hR hv hxs hb hoF hg hd hop hc1 hc2 hc3 h1 hk1 h2 hes hx hy hm1 hn hok hch fun E' v' hR' => ?_
 have h := (hend E' v' hR').h
 rw [zf8] at h
 have e : zcj (acc ++ [flR tF v']) x0 = ((tF, .i (.v v')) :: (zcj acc x0).1, (zcj acc x0).2) := by
  unfold zcj
  rw [List.foldl_append]
  simp [flR, Pl.ap, rmv]
 rw [e]
 exact zaB (c := { c with E := E' }) hT hfn 1000 (.inRegion ops _ :: k) _ h
end Go.AI


namespace Go.AI
def renH (a b : Nat) : Heap → Heap
 | [] => []
 | (k, o) :: r => (renN a b k, o) :: renH a b r
theorem zfA (a b : Nat) : renN a b a = b := by simp [renN]
theorem zhz {a b n : Nat} (h : n ≠ a) : renN a b n = n := by
 unfold renN
 cases hb : Nat.beq n a with
 | false => rfl
 | true => exact absurd (Nat.eq_of_beq_eq_true hb) h
theorem ziM {a b n : Nat} {o : Ob} : ∀ {H : Heap}, look H b = none → look (renH a b H) n = some o → ∃ n0, n = renN a b n0 ∧ look H n0 = some o
 | [], _, h => by simp [renH, look] at h
 | (k, x) :: r, hb, h => by
  rw [zab] at hb
  split at hb
  ·cases hb
  ·rename_i hkb
   simp only [renH] at h
   rw [zab] at h
   split at h
   ·rename_i e
    simp only [Option.some.injEq] at h
    subst h
    exact ⟨k, e.symm, by rw [zab, if_pos rfl]⟩
   ·rename_i e
    obtain ⟨n0, h1, h2⟩ := ziM hb h
    refine ⟨n0, h1, ?_⟩
    rw [zab, if_neg]
    ·exact h2
    ·intro e2
     subst e2
     exact e h1.symm
theorem zg0 {a b n0 : Nat} {o : Ob} : ∀ {H : Heap}, look H b = none → look H n0 = some o → look (renH a b H) (renN a b n0) = some o
 | [], _, h => by simp [look] at h
 | (k, x) :: r, hb, h => by
  rw [zab] at hb
  split at hb
  ·cases hb
  ·rename_i hkb
   rw [zab] at h
   simp only [renH]
   rw [zab]
   split at h
   ·rename_i e
    subst e
    rw [if_pos rfl]; exact h
   ·rename_i e
    rw [if_neg]
    ·exact zg0 hb h
    ·intro e2
     by_cases h1 : k = a
     ·subst h1
      rw [zfA, zhz (Ne.symm e)] at e2
      subst e2
      rw [hb] at h; cases h
     ·rw [zhz h1] at e2
      by_cases h2 : n0 = a
      ·subst h2; rw [zfA] at e2; exact hkb e2
      ·rw [zhz h2] at e2; exact e e2
section
variable {c : Cx} {s : St} {H : Heap} {O : List Heap}
theorem zgG (a b : Nat) (hS : s.S = H :: O) (hb : look H b = none) (hfl : allH (fun _ o => o.flat) H = true) : Wk c s { σ := renσ a b s.σ, S := renH a b H :: O, n := s.n } := by
 intro K ρ act w hi
 have hh := hi.h
 rw [hS] at hh
 let ρ' : Nat → Nat → Loc := upd ρ b (ρ 0 a)
 have hρ : ∀ n0 o, look H n0 = some o → ρ' 0 (renN a b n0) = ρ 0 n0 := by
  intro n0 o h
  by_cases h1 : n0 = a
  ·subst h1; rw [zfA]; exact zaI _ _ _
  ·rw [zhz h1]
   exact zaA _ _ _ (.inr fun e => by subst e; rw [hb] at h; cases h)
 have r1 : ∀ d n, ρ' (d + 1) n = ρ (d + 1) n := fun d n => zaA _ _ _ (.inl (by omega))
 have hren : Ren a b ρ ρ' (shape (H :: O)) (shape (renH a b H :: O)) := by
  refine ⟨fun n x e => ?_, fun d n x e => ⟨by simpa [shape, zaa] using e, r1 d n⟩⟩
  simp only [shape, zaa, List.getElem?_cons_zero] at e ⊢
  cases hl : look H n with
  | none => simp [hl] at e
  | some o =>
   rw [zg0 hb hl]
   exact ⟨by simpa [hl] using e, hρ _ _ hl⟩
 have hmv : Moves (fun _ => false) K K ρ ρ' (shape (H :: O)) (shape (renH a b H :: O)) := ⟨K.le_refl, fun _ _ h => (by cases h), hren.s⟩
 have hcase : ∀ d n o, zaa (renH a b H :: O) d n = some o → ∃ n0, zaa (H :: O) d n0 = some o ∧ ρ' d n = ρ d n0 ∧ (d = 0 → n = renN a b n0) ∧ (d ≠ 0 → n = n0) := by
  intro d n o e
  cases d with
  | zero =>
   obtain ⟨n0, rfl, h2⟩ := ziM hb (by simpa [zaa] using e)
   exact ⟨n0, by simpa [zaa] using h2, hρ _ _ h2, fun _ => rfl, fun h => absurd rfl h⟩
  | succ d => exact ⟨n, by simpa [zaa] using e, r1 _ _, fun h => absurd h (Nat.succ_ne_zero d), fun _ => rfl⟩
 have e0 : ∀ f : Nat → Nat → Loc, (fun d n => f (0 + d) n) = f := by intro f; funext d n; rw [Nat.zero_add]
 refine ⟨K, ρ', ⟨hh.holds, ?_, ?_, hh.size, ?_, ?_, ?_, hh.Kle, hh.Knew, hh.rest⟩, hi.defers, hi.size, fun t d e => ?_⟩
 ·intro d n o e
  obtain ⟨n0, h1, h2, h3, h4⟩ := hcase d n o e
  have h0 := hh.own _ _ _ h1
  rw [h2]
  cases d with
  | zero =>
   rw [e0] at h0 ⊢
   have hf : o.flat = true := zcE hfl (by simpa [zaa] using h1)
   refine h0.move hmv ?_ (fun _ => rfl) (fun _ _ => rfl)
   cases o with
   | box cs => exact hf
   | tb _ cs => exact hf
   | arr => rfl
   | mp => rfl
  | succ d =>
   have e1 : (fun d' n => ρ' (d + 1 + d') n) = fun d' n => ρ (d + 1 + d') n := by
    funext d' n
    rw [show d + 1 + d' = (d + d') + 1 by omega, r1]
   rw [e1]
   simpa using h0
 ·intro d n o d2 n2 o2 e e2 b1 b2 hbe
  obtain ⟨m1, a1, a2, a3, a4⟩ := hcase d n o e
  obtain ⟨m2, c1, c2, c3, c4⟩ := hcase d2 n2 o2 e2
  rw [a2] at b1 hbe
  rw [c2] at b2 hbe
  obtain ⟨rfl, rfl⟩ := hh.inj _ _ _ _ _ _ a1 c1 b1 b2 hbe
  refine ⟨rfl, ?_⟩
  by_cases h : d = 0
  ·rw [a3 h, c3 h]
  ·rw [a4 h, c4 h]
 ·intro b' hb' hno
  refine hh.old b' hb' fun d n o e hbk => ?_
  have := hno d n o (by simpa [zaa] using e) (by rw [r1]; exact hbk)
  rwa [r1] at this
 ·intro n o e hbk
  obtain ⟨n0, h1, h2, _⟩ := hcase 0 n o e
  rw [h2] at hbk ⊢
  exact hh.loc _ _ h1 hbk
 ·intro d
  funext n
  rw [r1, hh.outer]
 ·simp only [zf0] at e
  cases hl : look s.σ t with
  | none => simp [hl] at e
  | some d0 =>
   simp only [hl, Option.map_some, Option.some.injEq] at e
   subst e
   have := hi.slots _ _ hl
   rw [hS] at this
   exact this.ren hren
end
end Go.AI


namespace Go.AI
open Go.Proofs
set_option maxRecDepth 20000
def za7 (n : Nat) (l : List Edg) : List (List Edg) := (List.range n).map fun (j : Nat) => l.filter fun e => e.1 == (j : Int)
theorem zcd (n : Nat) (l : List Edg) : (za7 n l).length = n := by simp [za7]
theorem zoh (n : Nat) : za7 n [] = List.replicate n [] := by
 apply List.ext_getElem <;> simp [za7]
theorem zfH {n : Nat} {l : List Edg} {j : Nat} (h : j < n) : (za7 n l)[j]? = some (l.filter fun e => e.1 == (j : Int)) := by simp [za7, h]
theorem zoi {n : Nat} {l : List Edg} {e : Edg} {j : Nat} (he : e.1 = (j : Int)) (h : j < n) : za7 n (l ++ [e]) = (za7 n l).set j ((l.filter fun e => e.1 == (j : Int)) ++ [e]) := by
 apply List.ext_getElem
 ·simp [za7]
 ·intro i h1 h2
  simp only [za7, List.getElem_map, List.getElem_range, List.filter_append, List.getElem_set]
  by_cases hij : j = i
  ·subst hij
   simp [he]
  ·rw [if_neg hij]
   have : ¬ ((j : Int) = (i : Int)) := by omega
   simp [he, this]
abbrev zcm (l : List (List Edg)) : I := .sl 1 l.length (l.map fun r => [I.sl 3 r.length (r.map edgI)])
end Go.AI


namespace Go.AI
open Go.Proofs
set_option maxRecDepth 20000
def idxI (x : Int) : List Int → Nat → Int
 | [], _ => -1
 | y :: r, i => if x = y then i else idxI x r (i + 1)
theorem zlq (x : Int) : ∀ (l : List Int) (i : Nat), idxI x l i ≥ 0 ↔ x ∈ l
 | [], _ => by simp [idxI]
 | y :: r, i => by
  simp only [idxI]
  by_cases h : x = y
  ·simp only [if_pos h, h]
   simp
  ·simp only [if_neg h]
   rw [zlq x r (i + 1)]
   simp [h]
theorem zqS (x : Int) (l : List Int) (i : Nat) : decide (idxI x l i ≥ 0) = decide (x ∈ l) := decide_eq_decide.2 (zlq x l i)
theorem zqP (O : List Heap) (l : List Int) (x : Int) (hl : l.length ≤ zap) : zao Tryz.prog 56 [ints l, ii x] O (ii (idxI x l 0)) [] O := by
 generalize hR : idxI x l 0 = R
 refine zad Tk Tryz.func56 rfl Tryz.call56 Tryz.ntmps56 (Nat.le_of_ble_eq_true rfl) fun E => ?_
 refine zae Tk Tryz.func56 ?_
 refine zac ?_
 refine zaf (fun i : Nat => [(0, ints l), (1, ii x), (7, ii l.length), (8, ii i)]) (fun _ => []) (fun _ => O) 19
  (fun i => i ≤ l.length ∧ idxI x (l.drop i) i = R) (fun i => l.length - i) 0 ⟨Nat.zero_le _, hR⟩ ⟨rfl, rfl, rfl, rfl, trivial⟩ rfl trivial rfl rfl ?_
 rintro i ⟨hi, hno⟩ ih
 clear hR
 refine zae Tk Tryz.func56 ?_
 refine zaj Tk Tryz.func56 rfl (fun g1 => ?_) (fun g1 => ?_)
 ·have h1 : i < l.length := by simpa using g1
  have gl : (l.map fun x => [vi x])[(i : Int).toNat]? = some [vi l[i]] := zak (f := fun x => [vi x]) h1
  have dl : l.drop i = l[i] :: l.drop (i + 1) := List.drop_eq_getElem_cons h1
  rw [dl] at hno
  simp only [idxI] at hno
  clear dl
  generalize l[i] = y at *
  refine zag Tk Tryz.func56 (by exact ⟨by omega, by show (i : Int) < (l.length : Int); omega⟩) ?_
  refine zat Tk Tryz.func56 (gl) ?_
  refine zaj Tk Tryz.func56 rfl (fun g2 => ?_) (fun g2 => ?_)
  ·have g2 : x = y := beqT g2
   rw [if_pos g2] at hno
   subst hno
   refine zam Tk (r := ii (i : Int)) rfl rfl rfl trivial rfl rfl ?_
   rfl
  ·have g2 : x ≠ y := beqF g2
   rw [if_neg g2] at hno
   refine zac ?_
   exact ih (i + 1) _ _ ⟨h1, hno⟩ (by omega) ⟨rfl, rfl, rfl, congrArg ii (zaH h1 hl), trivial⟩ rfl trivial rfl rfl
 ·have h1 : l.length ≤ i := by simpa using g1
  rw [List.drop_eq_nil_of_le h1] at hno
  simp only [idxI] at hno
  subst hno
  refine zam Tk (r := ii (-1)) rfl rfl rfl trivial rfl rfl ?_
  rfl
theorem zbl (O : List Heap) (l : List Int) (x : Int) (hl : l.length ≤ zap) : zao Tryz.prog 17 [ints l, ii x] O (bb (decide (x ∈ l))) [] O := by
 rw [← zqS x l 0]
 have h := fun O => zqP O l x hl
 refine zad Tk Tryz.func17 rfl Tryz.call17 Tryz.ntmps17 (Nat.le_of_ble_eq_true rfl) fun E => ?_
 refine zae Tk Tryz.func17 ?_
 refine zah Tk Tryz.func17 (h _) rfl rfl rfl rfl rfl ?_
 refine zam Tk (r := bb (decide (idxI x l 0 ≥ 0))) rfl rfl rfl trivial rfl rfl ?_
 rfl
end Go.AI


namespace Go.AI
open Go.Proofs
set_option maxRecDepth 20000
abbrev zmt (n : Nat) (ed : List Edg) : I := .sl 1 n (((za7 n ed).map fun r => r.map edgI).map fun xs => [I.sl 3 xs.length xs])
theorem zqi (n : Nat) (ed : List Edg) : zmt n ed = zcm (za7 n ed) := by simp [zmt, zcm, zcd, List.map_map, Function.comp_def]
abbrev obsD (a : Aut) (on : List Int) : D := .agg [.i (zcm (za7 a.states.toNat a.edges)), ints (a.alpha.filter fun x => decide (x ∈ on)), ints (a.alpha.filter fun x => !decide (x ∈ on)), ints a.marked]
set_option maxHeartbeats 4000000 in
theorem zgV (O : List Heap) (a : Aut) (on : List Int) (h0 : 0 ≤ a.states) (h1 : a.states ≤ 4096) (hf : ∀ e ∈ a.edges, 0 ≤ e.1 ∧ e.1 < a.states) (hl : a.edges.length ≤ 1000000) (hal : a.alpha.length ≤ 1000000) (hon : on.length ≤ zap) : zao Tryz.prog 151 [autD a, ints on] O (obsD a on) [] O := by
 obtain ⟨al, st, mk, ed⟩ := a
 simp only at h0 h1 hf hl hal ⊢
 obtain ⟨n, rfl⟩ : ∃ n : Nat, st = n := ⟨st.toNat, by omega⟩
 show zao Tryz.prog 151 [.agg [ints al, ii n, ints mk, edgs ed], ints on] O (.agg [.i (zcm (za7 n ed)), ints (al.filter fun x => decide (x ∈ on)), ints (al.filter fun x => !decide (x ∈ on)), ints mk]) [] O
 generalize hK : al.filter (fun x => decide (x ∈ on)) = KK
 generalize hE : al.filter (fun x => !decide (x ∈ on)) = EE
 rw [← zqi]
 refine zar [7, 14] Tk Tryz.func151 rfl Tryz.call151 Tryz.ntmps151 (Nat.le_of_ble_eq_true rfl) fun E => ?_
 refine zae Tk Tryz.func151 ?_
 refine zaz Tk Tryz.func151 zaL rfl ?_
 refine zay Tk (by exact ⟨by omega, by omega, by show (n : Int) * 24 ≤ 140737488355328; omega, by omega⟩) ?_
 refine znX Tk rfl rfl rfl ?_
 refine zaQ Tk Tryz.func151 (by kernel_rfl) ?_
 refine zac ?_
 refine zix (fun x : Nat × List Value => [(1, ints on), (2, .own 0 2 0 0), (4, .own 0 4 0 0), (5, .own 0 5 0 0), (17, edgs ed), (18, ii ed.length), (19, ii x.1)]) (fun x => [(2, .box [ints al, ii n, ints mk, edgs ed]), (4, .box [.i (.v (.slice none 0 0)), .i (.v (.slice none 0 0)), .i (.v (.slice none 0 0)), .i (.v (.slice none 0 0))]), (5, .box [.osl 0 12, .i (.v (.slice none 0 0)), .i (.v (.slice none 0 0)), ints mk]), (12, .arr 37 1 n (x.2.map fun v => [.v v]) true)]) (fun _ => O) 62
  (fun E' x => x.1 ≤ ed.length ∧ RowsO E E' O 117 3 x.2 ((za7 n (ed.take x.1)).map fun r => r.map edgI)) (fun x => ed.length - x.1) (0, List.replicate n (.slice none 0 0)) ⟨Nat.zero_le _, ?_⟩ ⟨rfl, rfl, rfl, rfl, rfl, rfl, rfl, trivial⟩ rfl ⟨rfl, rfl, rfl, ?_, trivial⟩ rfl rfl ?_
 ·have := zqh E O 117 3 n
  rw [List.take_zero, zoh, List.map_replicate]
  exact this
 ·show look _ 12 = some (Ob.arr 37 1 n ((List.replicate n (Value.slice none 0 0)).map fun v => [I.v v]) true)
  rw [List.map_replicate]
  rfl
 rintro E1 ⟨i, vs⟩ ⟨hi, hR⟩ ih
 simp only at hi hR
 refine zae Tk Tryz.func151 ?_
 refine zaj Tk Tryz.func151 rfl (fun g1 => ?_) (fun g1 => ?_)
 ·have h2 : i < ed.length := by simpa using g1
  have gm : (ed.map edgI)[(i : Int).toNat]? = some (edgI ed[i]) := zak h2
  obtain ⟨hx0, hx1⟩ := hf _ (List.getElem_mem h2)
  have hvl : vs.length = n := by rw [hR.len]; simp [za7]
  have htk : ed.take (i + 1) = ed.take i ++ [ed[i]] := by rw [List.take_add_one, List.getElem?_eq_getElem h2]; rfl
  have hlen : ∀ j : Nat, ((ed.take i).filter fun e => e.1 == (j : Int)).length ≤ 1000000 := fun j => Nat.le_trans (List.length_filter_le _ _) (by rw [List.length_take]; omega)
  generalize ed[i] = x at *
  obtain ⟨xf, xe, xt⟩ := x
  simp only at hx0 hx1
  obtain ⟨j, rfl⟩ : ∃ j : Nat, xf = j := ⟨xf.toNat, by omega⟩
  have hj : j < n := by omega
  have hv : vs[j]? = some vs[j] := List.getElem?_eq_getElem (by omega)
  have gv : (vs.map fun v => [I.v v])[(j : Int).toNat]? = some [I.v vs[j]] := by rw [Int.toNat_natCast, List.getElem?_map, hv]; rfl
  have hxs : ((za7 n (ed.take i)).map fun r => r.map edgI)[j]? = some (((ed.take i).filter fun e => e.1 == (j : Int)).map edgI) := by rw [List.getElem?_map, zfH hj]; rfl
  have hb : ((((ed.take i).filter fun e => e.1 == (j : Int)).map edgI).length + 1) * 24 ≤ 140737488355328 ∧ (((ed.take i).filter fun e => e.1 == (j : Int)).map edgI).length + 1 ≤ 9223372036854775807 := by
   rw [List.length_map]
   have := hlen j
   constructor <;> omega
  refine zag Tk Tryz.func151 (by exact ⟨by omega, by show (i : Int) < (ed.length : Int); omega⟩) ?_
  refine zat Tk Tryz.func151 (gm) ?_
  refine zqX Tk E 12 rfl ?_
  refine zay Tk (by exact ⟨show (0 : Int) ≤ (j : Int) by omega, show (j : Int) < (n : Int) by omega⟩) ?_
  refine zaJ Tk (gv) ?_
  refine ztX Tk Tryz.func151 zaL (m := 1) (ti2 := zia) hR hv hxs hb [13, 14] rfl rfl rfl rfl rfl rfl rfl rfl rfl rfl rfl rfl rfl rfl rfl (fun _ => by kernel_rfl) (by kernel_rfl) ?_
  intro E2 v2 hR2
  refine zag Tk Tryz.func151 (by exact ⟨show (0 : Int) ≤ (j : Int) by omega, show (j : Int) < (n : Int) by omega⟩) ?_
  refine zac ?_
  refine ih E2 (i + 1, vs.set j v2) _ _ ⟨h2, ?_⟩ (by simp only; omega) ⟨rfl, rfl, rfl, rfl, rfl, rfl, congrArg ii (zaH (n := 1000000) (by omega) (by decide)), trivial⟩ rfl ⟨rfl, rfl, rfl, ?_, trivial⟩ rfl rfl
  ·show RowsO E E2 O 117 3 (vs.set j v2) ((za7 n (ed.take (i + 1))).map fun r => r.map edgI)
   rw [htk, zoi (e := ((j : Int), xe, xt)) rfl hj, List.map_set, List.map_append]
   exact hR2
  ·show some (Ob.arr 37 1 n ((vs.map fun v => [I.v v]).set (j : Int).toNat [I.v v2]) true) = some (Ob.arr 37 1 n ((vs.set j v2).map fun v => [I.v v]) true)
   rw [Int.toNat_natCast, List.map_set]
 ·have h2 : ed.length ≤ i := by simpa using g1
  obtain rfl : i = ed.length := by omega
  rw [List.take_length] at hR
  refine zax ?_
  refine zaq (zr1 12 hR rfl rfl) ?_
  refine zgT hR.base rfl ?_
  refine zaq (zan 12 rfl rfl) ?_
  refine zaq (zgH rfl) ?_
  refine zaq (zaO (pre := [.i (zmt n ed)]) (post := [.i (.v (.slice none 0 0)), ints mk]) 5 52 3 1 rfl rfl rfl) ?_
  refine zaq (zaO (pre := [.i (zmt n ed), .osl 0 52]) (post := [ints mk]) 5 58 3 1 rfl rfl rfl) ?_
  refine zae Tk Tryz.func151 ?_
  refine g_go Tk Tryz.func151 ?_
  refine zac ?_
  refine zaf (fun x : Nat × List Int × List Int => [(1, ints on), (4, .own 0 4 0 0), (5, .own 0 5 0 0), (39, ints al), (40, ii al.length), (41, ii x.1)]) (fun x => [(4, .box [.i (.v (.slice none 0 0)), .i (.v (.slice none 0 0)), .i (.v (.slice none 0 0)), .i (.v (.slice none 0 0))]), (5, .box [.i (zmt n ed), .osl 0 52, .osl 0 58, ints mk]), (52, zav x.2.1), (58, zav x.2.2)]) (fun _ => O) 62
   (fun x => x.1 ≤ al.length ∧ x.2.1.length ≤ x.1 ∧ x.2.2.length ≤ x.1 ∧ x.2.1 ++ (al.drop x.1).filter (fun x => decide (x ∈ on)) = KK ∧ x.2.2 ++ (al.drop x.1).filter (fun x => !decide (x ∈ on)) = EE) (fun x => al.length - x.1) (0, [], []) ⟨Nat.zero_le _, Nat.le_refl _, Nat.le_refl _, by simpa using hK, by simpa using hE⟩ ⟨rfl, rfl, rfl, rfl, rfl, rfl, trivial⟩ rfl ⟨rfl, rfl, rfl, rfl, trivial⟩ rfl rfl ?_
  rintro ⟨i, kp, er⟩ ⟨hi, hkl, hel, hno, hno2⟩ ih
  simp only at hi hkl hel hno hno2
  refine zae Tk Tryz.func151 ?_
  refine zaj Tk Tryz.func151 rfl (fun g2 => ?_) (fun g2 => ?_)
  ·have h3 : i < al.length := by simpa using g2
   have ga : (al.map fun x => [vi x])[(i : Int).toNat]? = some [vi al[i]] := zak h3
   rw [List.drop_eq_getElem_cons h3, List.filter_cons] at hno hno2
   generalize al[i] = x at *
   refine zag Tk Tryz.func151 (by exact ⟨by omega, by show (i : Int) < (al.length : Int); omega⟩) ?_
   refine zat Tk Tryz.func151 (ga) ?_
   refine zah Tk Tryz.func151 (zbl _ on x hon) rfl rfl rfl rfl rfl ?_
   refine zaj Tk Tryz.func151 rfl (fun g3 => ?_) (fun g3 => ?_)
   ·have g3 : decide (x ∈ on) = true := g3
    rw [if_pos g3] at hno
    rw [if_neg (by rw [g3]; decide)] at hno2
    refine zag Tk Tryz.func151 (by exact ⟨by show (kp.length + 1) * 8 ≤ 140737488355328; omega, by show kp.length + 1 ≤ 9223372036854775807; omega⟩) ?_
    refine zac ?_
    refine ih (i + 1, kp ++ [x], er) _ _ ⟨h3, by simp; omega, by simp only; omega, by simpa using hno, hno2⟩ (by simp only; omega) ⟨rfl, rfl, rfl, rfl, rfl, congrArg ii (zaH (n := 1000000) (by omega) (by decide)), trivial⟩ rfl ⟨rfl, rfl, ?_, rfl, trivial⟩ rfl rfl
    show some (Ob.arr 3 1 (kp.length + 1) ((kp.map fun x => [vi x]) ++ [[vi x]]) true) = some (zav (kp ++ [x]))
    simp
   ·have g3 : decide (x ∈ on) = false := g3
    rw [if_neg (by rw [g3]; decide)] at hno
    rw [if_pos (by rw [g3]; rfl)] at hno2
    refine zag Tk Tryz.func151 (by exact ⟨by show (er.length + 1) * 8 ≤ 140737488355328; omega, by show er.length + 1 ≤ 9223372036854775807; omega⟩) ?_
    refine zac ?_
    refine ih (i + 1, kp, er ++ [x]) _ _ ⟨h3, by simp only; omega, by simp; omega, hno, by simpa using hno2⟩ (by simp only; omega) ⟨rfl, rfl, rfl, rfl, rfl, congrArg ii (zaH (n := 1000000) (by omega) (by decide)), trivial⟩ rfl ⟨rfl, rfl, rfl, ?_, trivial⟩ rfl rfl
    show some (Ob.arr 3 1 (er.length + 1) ((er.map fun x => [vi x]) ++ [[vi x]]) true) = some (zav (er ++ [x]))
    simp
  ·have h3 : al.length ≤ i := by simpa using g2
   rw [List.drop_eq_nil_of_le h3] at hno hno2
   simp only [List.filter_nil, List.append_nil] at hno hno2
   subst hno; subst hno2
   refine zax ?_
   refine zaq (zan 52 rfl rfl) ?_
   refine zaq (zan 58 rfl rfl) ?_
   refine zaq (zgH rfl) ?_
   refine zae Tk Tryz.func151 ?_
   refine g_go Tk Tryz.func151 ?_
   refine zam Tk (r := .agg [.i (zmt n ed), ints kp, ints er, ints mk]) rfl rfl rfl trivial rfl rfl ?_
   rfl
end Go.AI


namespace Go.AI
open Go.Proofs
set_option maxRecDepth 20000
abbrev obsC (R : List (List Edg)) (kp er mk : List Int) : List D := [.i (zcm R), ints kp, ints er, ints mk]
theorem zjH (O : List Heap) (x : Int) (d nm : Nat) (R : List (List Edg)) (kp er mk : List Int) (hm : mk.length ≤ zap) (ho : zaa O d nm = some (.box (obsC R kp er mk))) : zao Tryz.prog 193 [ii x, .own d nm 0 0] O (bb (decide (x ∈ mk))) [] O := by
 refine zad Tk Tryz.func193 rfl Tryz.call193 Tryz.ntmps193 (Nat.le_of_ble_eq_true rfl) fun E => ?_
 refine zae Tk Tryz.func193 ?_
 refine zb0 Tk Tryz.func193 (zca ho) ?_
 refine zah Tk Tryz.func193 (zbl _ mk x hm) rfl rfl rfl rfl rfl ?_
 refine zam Tk (r := bb (decide (x ∈ mk))) rfl rfl rfl trivial rfl rfl ?_
 rfl
theorem zjI (O : List Heap) (R : List (List Edg)) (kp er mk es : List Int) (hm : mk.length ≤ zap) (hl : es.length ≤ zap) : zao Tryz.prog 154 [.agg (obsC R kp er mk), ints es] O (bb (es.any fun x => decide (x ∈ mk))) [] O := by
 refine zad Tk Tryz.func154 rfl Tryz.call154 Tryz.ntmps154 (Nat.le_of_ble_eq_true rfl) fun E => ?_
 refine zae Tk Tryz.func154 ?_
 refine zah Tk Tryz.func154 (zgD _ es 193 0 2 (fun x => decide (x ∈ mk)) hl fun x _ => zjH _ x _ _ R kp er mk hm rfl) rfl rfl rfl rfl rfl ?_
 refine zam Tk (r := bb (es.any fun x => decide (x ∈ mk))) rfl rfl rfl trivial rfl rfl ?_
 rfl
end Go.AI


namespace Go.AI
open Go.Proofs
set_option maxRecDepth 20000
end Go.AI
