/- The layer of abstract runs, part 10. -/
import Derived.Test.YtbknncolmohdlaaDoorLayerI
import Derived.Test.YtbknncolmohdlaaDoorTie
import Derived.Test.YtbknncolmohdlaaDoorCards
import Derived.ProofKit
import Derived.LaidMore
import Derived.OpenShut
import Derived.Lay
import Derived.SevenTiedAt
import Derived.Stop.Joined
import Derived.Stop.LaidErr
import Derived.Lib.LaidTab
set_option linter.unusedSimpArgs false
set_option linter.unusedVariables false
set_option linter.all false
namespace Go.AI
open Go.Proofs
set_option maxRecDepth 20000
theorem checkSet_sorted {n : Int} : ∀ {l : List Int} {p : Option Int}, checkSet n l p = 0 → l.Pairwise (· < ·) ∧ (∀ x ∈ l, 0 ≤ x ∧ x < n) ∧ ∀ y, p = some y → ∀ x ∈ l, y < x
  | [], p, _ => ⟨.nil, by simp, by simp⟩
  | x :: r, p, h => by
    simp only [checkSet] at h
    by_cases h1 : x < 0 ∨ x ≥ n
    · rw [if_pos h1] at h; cases h
    rw [if_neg h1] at h
    by_cases h2 : p.any (x ≤ ·) = true
    · rw [if_pos h2] at h; cases h
    rw [if_neg h2] at h
    obtain ⟨a, b, c⟩ := checkSet_sorted h
    refine ⟨List.pairwise_cons.2 ⟨c x rfl, a⟩, fun y hy => ?_, fun y hp z hz => ?_⟩
    · rcases List.mem_cons.1 hy with rfl | hy
      · omega
      · exact b y hy
    · subst hp
      have hyx : y < x := by simpa using h2
      rcases List.mem_cons.1 hz with rfl | hz
      · exact hyx
      · have := c x rfl z hz; omega
def varsErr (l : List Vr) : Int := if l.length > 16 then 3 else checkVrs l l 0
theorem checkVars56' (O : List Heap) (l : List Vr) (hl : l.length ≤ max63) (hn : ∀ v ∈ l, v.name.size ≤ max63) : ASpec Tryd.prog 56 [vrs l] O (ii (varsErr l)) [] O := checkVars56 O l hl hn
def mvsErr (m : Ext) : Option Mv → List Mv → Int
  | _, [] => 0
  | prev, x :: r => if mvErr m prev x ≠ 0 then mvErr m prev x else mvsErr m (some x) r
/-- Check: the first error. -/
def chk (m : Ext) : Int :=
  if checkSet 32 m.alpha none ≠ 0 then checkSet 32 m.alpha none else
  if m.locs < 1 ∨ m.locs > 64 ∨ m.init < 0 ∨ m.init ≥ m.locs then 2 else
  if checkSet m.locs m.marked none ≠ 0 then checkSet m.locs m.marked none else
  if varsErr m.vars ≠ 0 then varsErr m.vars else
  if m.moves.length > 256 then 3 else mvsErr m none m.moves
theorem check40 (O : List Heap) (m : Ext) (hok : extOk m) : ASpec Tryd.prog 40 [extD m] O (ii (chk m)) [] O := by
  have hal := hok.al
  have hma := hok.ma
  have hmo := hok.mo
  generalize hR : chk m = R
  unfold chk at hR
  refine aspec_stop [] TrydT_ok Tryd.func40 rfl Tryd.call40 Tryd.ntmps40 (Nat.le_of_ble_eq_true rfl) fun E => ?_
  refine g_run TrydT_ok Tryd.func40 ?_
  first | refine g_call TrydT_ok Tryd.func40 (checkSet59 _ m.alpha 32 hal) rfl rfl rfl rfl rfl ?_ | refine s_call TrydT_ok (checkSet59 _ m.alpha 32 hal) rfl rfl rfl ?_
  first | refine g_cnd TrydT_ok Tryd.func40 rfl (fun h1 => ?_) (fun h1 => ?_) | refine g_know TrydT_ok Tryd.func40 rfl (fun h1 => ?_) (fun h1 => ?_) | refine s_know TrydT_ok (fun h1 => ?_) (fun h1 => ?_)
  · have h1 := bneT h1
    rw [if_pos h1] at hR
    subst hR
    refine g_ret TrydT_ok (r := ii _) rfl rfl rfl trivial rfl rfl ?_
    rfl
  have h1 := bneF h1
  rw [if_neg (by simpa using h1)] at hR
  have hs := (checkSet_sorted h1).1
  have bad : (m.locs < 1 ∨ m.locs > 64 ∨ m.init < 0 ∨ m.init ≥ m.locs) → R = 2 := fun h => by rw [← hR, if_pos h]
  first | refine g_cnd TrydT_ok Tryd.func40 rfl (fun h2 => ?_) (fun h2 => ?_) | refine g_know TrydT_ok Tryd.func40 rfl (fun h2 => ?_) (fun h2 => ?_) | refine s_know TrydT_ok (fun h2 => ?_) (fun h2 => ?_)
  · have := bad (.inl (of_decide_eq_true h2))
    subst this
    repeat (first | refine g_cnd TrydT_ok Tryd.func40 rfl (fun _ => ?_) (fun h => absurd h (by decide)) | refine g_cnd TrydT_ok Tryd.func40 rfl (fun h => absurd h (by decide)) (fun _ => ?_) | refine g_know TrydT_ok Tryd.func40 rfl (fun _ => ?_) (fun h => absurd h (by decide)) | refine g_know TrydT_ok Tryd.func40 rfl (fun h => absurd h (by decide)) (fun _ => ?_) | refine s_know TrydT_ok (fun _ => ?_) (fun h => absurd h (by decide)) | refine s_know TrydT_ok (fun h => absurd h (by decide)) (fun _ => ?_))
    refine g_ret TrydT_ok (r := ii 2) rfl rfl rfl trivial rfl rfl ?_
    rfl
  have h2 : ¬ m.locs < 1 := of_decide_eq_false h2
  first | refine g_cnd TrydT_ok Tryd.func40 rfl (fun h3 => ?_) (fun h3 => ?_) | refine g_know TrydT_ok Tryd.func40 rfl (fun h3 => ?_) (fun h3 => ?_) | refine s_know TrydT_ok (fun h3 => ?_) (fun h3 => ?_)
  · have := bad (.inr (.inl (of_decide_eq_true h3)))
    subst this
    repeat (first | refine g_cnd TrydT_ok Tryd.func40 rfl (fun _ => ?_) (fun h => absurd h (by decide)) | refine g_cnd TrydT_ok Tryd.func40 rfl (fun h => absurd h (by decide)) (fun _ => ?_) | refine g_know TrydT_ok Tryd.func40 rfl (fun _ => ?_) (fun h => absurd h (by decide)) | refine g_know TrydT_ok Tryd.func40 rfl (fun h => absurd h (by decide)) (fun _ => ?_) | refine s_know TrydT_ok (fun _ => ?_) (fun h => absurd h (by decide)) | refine s_know TrydT_ok (fun h => absurd h (by decide)) (fun _ => ?_))
    refine g_ret TrydT_ok (r := ii 2) rfl rfl rfl trivial rfl rfl ?_
    rfl
  have h3 : ¬ m.locs > 64 := of_decide_eq_false h3
  first | refine g_cnd TrydT_ok Tryd.func40 rfl (fun h4 => ?_) (fun h4 => ?_) | refine g_know TrydT_ok Tryd.func40 rfl (fun h4 => ?_) (fun h4 => ?_) | refine s_know TrydT_ok (fun h4 => ?_) (fun h4 => ?_)
  · have := bad (.inr (.inr (.inl (of_decide_eq_true h4))))
    subst this
    repeat (first | refine g_cnd TrydT_ok Tryd.func40 rfl (fun _ => ?_) (fun h => absurd h (by decide)) | refine g_cnd TrydT_ok Tryd.func40 rfl (fun h => absurd h (by decide)) (fun _ => ?_) | refine g_know TrydT_ok Tryd.func40 rfl (fun _ => ?_) (fun h => absurd h (by decide)) | refine g_know TrydT_ok Tryd.func40 rfl (fun h => absurd h (by decide)) (fun _ => ?_) | refine s_know TrydT_ok (fun _ => ?_) (fun h => absurd h (by decide)) | refine s_know TrydT_ok (fun h => absurd h (by decide)) (fun _ => ?_))
    refine g_ret TrydT_ok (r := ii 2) rfl rfl rfl trivial rfl rfl ?_
    rfl
  have h4 : ¬ m.init < 0 := of_decide_eq_false h4
  first | refine g_cnd TrydT_ok Tryd.func40 rfl (fun h5 => ?_) (fun h5 => ?_) | refine g_know TrydT_ok Tryd.func40 rfl (fun h5 => ?_) (fun h5 => ?_) | refine s_know TrydT_ok (fun h5 => ?_) (fun h5 => ?_)
  · have := bad (.inr (.inr (.inr (of_decide_eq_true h5))))
    subst this
    refine g_ret TrydT_ok (r := ii 2) rfl rfl rfl trivial rfl rfl ?_
    rfl
  have h5 : ¬ m.init ≥ m.locs := of_decide_eq_false h5
  rw [if_neg (by omega)] at hR
  first | refine g_call TrydT_ok Tryd.func40 (checkSet59 _ m.marked m.locs hma) rfl rfl rfl rfl rfl ?_ | refine s_call TrydT_ok (checkSet59 _ m.marked m.locs hma) rfl rfl rfl ?_
  first | refine g_cnd TrydT_ok Tryd.func40 rfl (fun h6 => ?_) (fun h6 => ?_) | refine g_know TrydT_ok Tryd.func40 rfl (fun h6 => ?_) (fun h6 => ?_) | refine s_know TrydT_ok (fun h6 => ?_) (fun h6 => ?_)
  · have h6 := bneT h6
    rw [if_pos h6] at hR
    subst hR
    refine g_ret TrydT_ok (r := ii _) rfl rfl rfl trivial rfl rfl ?_
    rfl
  have h6 := bneF h6
  rw [if_neg (by simpa using h6)] at hR
  first | refine g_call TrydT_ok Tryd.func40 (checkVars56' _ m.vars hok.va hok.na) rfl rfl rfl rfl rfl ?_ | refine s_call TrydT_ok (checkVars56' _ m.vars hok.va hok.na) rfl rfl rfl ?_
  first | refine g_cnd TrydT_ok Tryd.func40 rfl (fun h7 => ?_) (fun h7 => ?_) | refine g_know TrydT_ok Tryd.func40 rfl (fun h7 => ?_) (fun h7 => ?_) | refine s_know TrydT_ok (fun h7 => ?_) (fun h7 => ?_)
  · have h7 := bneT h7
    rw [if_pos h7] at hR
    subst hR
    refine g_ret TrydT_ok (r := ii _) rfl rfl rfl trivial rfl rfl ?_
    rfl
  have h7 := bneF h7
  rw [if_neg (by simpa using h7)] at hR
  first | refine g_cnd TrydT_ok Tryd.func40 rfl (fun h8 => ?_) (fun h8 => ?_) | refine g_know TrydT_ok Tryd.func40 rfl (fun h8 => ?_) (fun h8 => ?_) | refine s_know TrydT_ok (fun h8 => ?_) (fun h8 => ?_)
  · have h8 : m.moves.length > 256 := by have := of_decide_eq_true h8; omega
    rw [if_pos h8] at hR
    subst hR
    refine g_ret TrydT_ok (r := ii _) rfl rfl rfl trivial rfl rfl ?_
    rfl
  have h8 : ¬ m.moves.length > 256 := by have := of_decide_eq_false h8; omega
  rw [if_neg h8] at hR
  refine g_loop ?_
  refine rch_loop2 (fun j : Nat => [(1, .own 0 1 0 0), (54, ii m.moves.length), (55, ii j)]) (fun _ => [(1, .box (extC m))]) (fun _ => O) 65
    (fun j => j ≤ m.moves.length ∧ R = mvsErr m (prevL m.moves j) (m.moves.drop j)) (fun j => m.moves.length - j) 0 ⟨Nat.zero_le _, hR.symm⟩ ⟨rfl, rfl, rfl, trivial⟩ rfl ⟨rfl, trivial⟩ rfl rfl ?_
  rintro j ⟨hj, hno⟩ ih
  clear hR bad
  refine g_run TrydT_ok Tryd.func40 ?_
  first | refine g_cnd TrydT_ok Tryd.func40 rfl (fun h9 => ?_) (fun h9 => ?_) | refine g_know TrydT_ok Tryd.func40 rfl (fun h9 => ?_) (fun h9 => ?_) | refine s_know TrydT_ok (fun h9 => ?_) (fun h9 => ?_)
  · have h9 : j < m.moves.length := by simpa using h9
    have hd : m.moves.drop j = m.moves[j] :: m.moves.drop (j + 1) := List.drop_eq_getElem_cons h9
    have hpj1 : prevL m.moves (j + 1) = some m.moves[j] := by rw [prevL, if_neg (by omega)]; simp [h9]
    rw [hd] at hno
    simp only [mvsErr] at hno
    first | refine g_call TrydT_ok Tryd.func40 (checkMove61 _ m j h9 hs hok) rfl rfl rfl rfl rfl ?_ | refine s_call TrydT_ok (checkMove61 _ m j h9 hs hok) rfl rfl rfl ?_
    first | refine g_cnd TrydT_ok Tryd.func40 rfl (fun h10 => ?_) (fun h10 => ?_) | refine g_know TrydT_ok Tryd.func40 rfl (fun h10 => ?_) (fun h10 => ?_) | refine s_know TrydT_ok (fun h10 => ?_) (fun h10 => ?_)
    · have h10 := bneT h10
      rw [if_pos h10] at hno
      subst hno
      refine g_ret TrydT_ok (r := ii _) rfl rfl rfl trivial rfl rfl ?_
      rfl
    have h10 := bneF h10
    rw [if_neg (by simpa using h10)] at hno
    refine g_loop ?_
    refine ih (j + 1) _ _ ⟨h9, by rw [hpj1]; exact hno⟩ (by omega) ⟨rfl, rfl, congrArg ii (wsucc h9 hmo), trivial⟩ rfl ⟨rfl, trivial⟩ rfl rfl
  · have h9 : m.moves.length ≤ j := by simpa using h9
    rw [List.drop_eq_nil_of_le h9] at hno
    simp only [mvsErr] at hno
    subst hno
    refine g_ret TrydT_ok (r := ii 0) rfl rfl rfl trivial rfl rfl ?_
    rfl
end Go.AI

namespace Go.AI
open Go.Proofs
set_option maxRecDepth 20000
set_option maxHeartbeats 400000
def startR (m : Ext) : Sta := ⟨m.init, m.vars.map (·.init)⟩
theorem start48 (O : List Heap) (m : Ext) (hv : m.vars.length ≤ 16) : ASpec Tryd.prog 48 [extD m] O (staD (startR m)) [] O := by
  refine aspec_intro TrydT_ok Tryd.func48 rfl Tryd.call48 Tryd.ntmps48 (Nat.le_of_ble_eq_true rfl) fun E => ?_
  refine g_run TrydT_ok Tryd.func48 ?_
  refine g_loop ?_
  refine rch_wk (wk_nilbox2 3 21 3 1 (pre := [ii m.init]) (post := []) rfl rfl rfl) ?_
  refine rch_loop2 (fun i : Nat => [(2, .own 0 2 0 0), (3, .own 0 3 0 0), (10, vrs m.vars), (11, ii m.vars.length), (12, ii i)]) (fun i => [(3, .box [ii m.init, .osl 0 21]), (21, oints ((m.vars.take i).map (·.init))), (2, .box [ii 0, .i (.v (.slice none 0 0))])]) (fun _ => O) 25
    (fun i => i ≤ m.vars.length) (fun i => m.vars.length - i) 0 (Nat.zero_le _) ⟨rfl, rfl, rfl, rfl, rfl, trivial⟩ rfl ⟨rfl, rfl, rfl, trivial⟩ rfl rfl ?_
  rintro i hi ih
  refine g_run TrydT_ok Tryd.func48 ?_
  first | refine g_cnd TrydT_ok Tryd.func48 rfl (fun h1 => ?_) (fun h1 => ?_) | refine g_know TrydT_ok Tryd.func48 rfl (fun h1 => ?_) (fun h1 => ?_) | refine s_know TrydT_ok (fun h1 => ?_) (fun h1 => ?_)
  · have h1 : i < m.vars.length := by simpa using h1
    have hl : ((m.vars.take i).map (·.init)).length = i := by simp; omega
    have e : (m.vars.take (i + 1)).map (·.init) = (m.vars.take i).map (·.init) ++ [m.vars[i].init] := take_map_succ h1
    have hg : (m.vars.map vrI)[(i : Int).toNat]? = some (vrI m.vars[i]) := get_mapZ h1
    generalize m.vars[i] = v at e hg
    generalize (m.vars.take i).map (·.init) = l at *
    first | refine g_need TrydT_ok Tryd.func48 (by omega) ?_ | refine s_need TrydT_ok (by omega) ?_
    first | refine g_elem TrydT_ok Tryd.func48 (hg) ?_ | refine s_elem TrydT_ok (hg) ?_
    first | refine g_need TrydT_ok Tryd.func48 (by exact ⟨by show (l.length + 1) * 8 ≤ 140737488355328; omega, by show l.length + 1 ≤ 9223372036854775807; omega⟩) ?_ | refine s_need TrydT_ok (by exact ⟨by show (l.length + 1) * 8 ≤ 140737488355328; omega, by show l.length + 1 ≤ 9223372036854775807; omega⟩) ?_
    refine g_loop ?_
    refine ih (i + 1) _ _ h1 (by omega) ⟨rfl, rfl, rfl, rfl, congrArg ii (wsucc (n := 16) (by omega) (by decide)), trivial⟩ rfl ⟨rfl, by rw [e]; exact congrArg some (oints_app l v.init), rfl, trivial⟩ rfl rfl
  · have h1 : m.vars.length ≤ i := by simpa using h1
    rw [List.take_of_length_le h1]
    refine g_rwk (wk_freeze 21 rfl rfl) ?_
    refine g_rwk (wk_imm rfl) ?_
    refine g_ret TrydT_ok (r := staD (startR m)) rfl rfl rfl trivial rfl rfl ?_
    rfl
abbrev mvPtr (l : List Mv) : Option Nat → D
  | none => .i (.v (.pointer none))
  | some k => .i (.ptr 8 (l.map mvI) k 0)
/-- The move that is possible: its index. -/
def chs (s : Sta) (ev : Int) : List Mv → Nat → Option Nat → Bool → Option Nat × Int
  | [], _, out, two => if two then (none, 18) else (out, 0)
  | x :: r, i, out, two =>
    if x.frm ≠ s.loc ∨ x.ev ≠ ev then chs s ev r (i + 1) out two else
    if (evalX x.g s.vals).2 ≠ 0 then (none, 17) else
    if (evalX x.g s.vals).1 = 1 then chs s ev r (i + 1) (some i) (out.isSome || two) else chs s ev r (i + 1) out two
theorem choose66 (O : List Heap) (m : Ext) (s : Sta) (ev : Int) (hok : extOk m) (hl : s.vals.length ≤ max63) : ASpec Tryd.prog 66 [extD m, staD s, ii ev] O (.tup [mvPtr m.moves (chs s ev m.moves 0 none false).1, ii (chs s ev m.moves 0 none false).2]) [] O := by
  have hmo := hok.mo
  obtain ⟨sl, sv⟩ := s
  generalize hR : chs ⟨sl, sv⟩ ev m.moves 0 none false = R
  refine aspec_intro TrydT_ok Tryd.func66 rfl Tryd.call66 Tryd.ntmps66 (Nat.le_of_ble_eq_true rfl) fun E => ?_
  refine g_run TrydT_ok Tryd.func66 ?_
  refine g_loop ?_
  refine rch_loop2 (fun x : Nat × Option Nat × Bool => [(2, ii ev), (3, .own 0 3 0 0), (4, .own 0 4 0 0), (8, mvPtr m.moves x.2.1), (9, bb x.2.2), (16, ii m.moves.length), (17, ii x.1)]) (fun _ => [(4, .box [ii sl, ints sv]), (3, .box (extC m))]) (fun _ => O) 62
    (fun x => x.1 ≤ m.moves.length ∧ R = chs ⟨sl, sv⟩ ev (m.moves.drop x.1) x.1 x.2.1 x.2.2) (fun x => m.moves.length - x.1) (0, none, false) ⟨Nat.zero_le _, hR.symm⟩ ⟨rfl, rfl, rfl, rfl, rfl, rfl, rfl, trivial⟩ rfl ⟨rfl, rfl, trivial⟩ rfl rfl ?_
  rintro ⟨i, out, two⟩ ⟨hi, hno⟩ ih
  clear hR
  simp only at hi hno
  refine g_run TrydT_ok Tryd.func66 ?_
  first | refine g_cnd TrydT_ok Tryd.func66 rfl (fun h1 => ?_) (fun h1 => ?_) | refine g_know TrydT_ok Tryd.func66 rfl (fun h1 => ?_) (fun h1 => ?_) | refine s_know TrydT_ok (fun h1 => ?_) (fun h1 => ?_)
  · have h1 : i < m.moves.length := by simpa using h1
    have hd : m.moves.drop i = m.moves[i] :: m.moves.drop (i + 1) := List.drop_eq_getElem_cons h1
    have hg : (m.moves.map mvI)[(i : Int).toNat]? = some (mvI m.moves[i]) := get_mapZ h1
    have hx := (hok.mv _ (List.getElem_mem h1)).1
    generalize m.moves[i] = x at *
    obtain ⟨xf, xe, xt, xg, xu⟩ := x
    simp only at hx
    rw [hd] at hno
    simp only [chs] at hno
    have hev := evaluate51A
    first | refine g_need TrydT_ok Tryd.func66 (by omega) ?_ | refine s_need TrydT_ok (by omega) ?_
    refine g_drawn TrydT_ok Tryd.func66 mixedT rfl ?_
    first | refine g_elem TrydT_ok Tryd.func66 (hg) ?_ | refine s_elem TrydT_ok (hg) ?_
    first | refine g_cnd TrydT_ok Tryd.func66 rfl (fun h2 => ?_) (fun h2 => ?_) | refine g_know TrydT_ok Tryd.func66 rfl (fun h2 => ?_) (fun h2 => ?_) | refine s_know TrydT_ok (fun h2 => ?_) (fun h2 => ?_)
    · have h2 : xf ≠ sl := bneT h2
      rw [if_pos (.inl h2)] at hno
      refine e_done TrydT_ok Tryd.func66 (by kernel_rfl) ?_
      repeat (first | refine g_cnd TrydT_ok Tryd.func66 rfl (fun _ => ?_) (fun h => absurd h (by decide)) | refine g_cnd TrydT_ok Tryd.func66 rfl (fun h => absurd h (by decide)) (fun _ => ?_) | refine g_know TrydT_ok Tryd.func66 rfl (fun _ => ?_) (fun h => absurd h (by decide)) | refine g_know TrydT_ok Tryd.func66 rfl (fun h => absurd h (by decide)) (fun _ => ?_) | refine s_know TrydT_ok (fun _ => ?_) (fun h => absurd h (by decide)) | refine s_know TrydT_ok (fun h => absurd h (by decide)) (fun _ => ?_))
      refine g_loop ?_
      refine ih (i + 1, out, two) _ _ ⟨h1, hno⟩ (by simp only; omega) ⟨rfl, rfl, rfl, rfl, rfl, rfl, congrArg ii (wsucc h1 hmo), trivial⟩ rfl ⟨rfl, rfl, trivial⟩ (by cases out <;> rfl) rfl
    have h2 : xf = sl := bneF h2
    first | refine g_elem TrydT_ok Tryd.func66 (hg) ?_ | refine s_elem TrydT_ok (hg) ?_
    refine e_done TrydT_ok Tryd.func66 (by kernel_rfl) ?_
    first | refine g_cnd TrydT_ok Tryd.func66 rfl (fun h3 => ?_) (fun h3 => ?_) | refine g_know TrydT_ok Tryd.func66 rfl (fun h3 => ?_) (fun h3 => ?_) | refine s_know TrydT_ok (fun h3 => ?_) (fun h3 => ?_)
    · have h3 : xe ≠ ev := bneT h3
      rw [if_pos (.inr h3)] at hno
      refine g_loop ?_
      refine ih (i + 1, out, two) _ _ ⟨h1, hno⟩ (by simp only; omega) ⟨rfl, rfl, rfl, rfl, rfl, rfl, congrArg ii (wsucc h1 hmo), trivial⟩ rfl ⟨rfl, rfl, trivial⟩ (by cases out <;> rfl) rfl
    have h3 : xe = ev := bneF h3
    rw [if_neg (by simp [h2, h3])] at hno
    refine g_drawn TrydT_ok Tryd.func66 mixedT rfl ?_
    first | refine g_elem TrydT_ok Tryd.func66 (hg) ?_ | refine s_elem TrydT_ok (hg) ?_
    first | refine g_call TrydT_ok Tryd.func66 (evaluate51A _ xg sv hx hl) rfl rfl rfl rfl rfl ?_ | refine s_callq TrydT_ok (fun _ => evaluate51A _ xg sv hx hl) rfl rfl rfl ?_
    refine e_done TrydT_ok Tryd.func66 (by kernel_rfl) ?_
    first | refine g_cnd TrydT_ok Tryd.func66 rfl (fun h4 => ?_) (fun h4 => ?_) | refine g_know TrydT_ok Tryd.func66 rfl (fun h4 => ?_) (fun h4 => ?_) | refine s_know TrydT_ok (fun h4 => ?_) (fun h4 => ?_)
    · have h4 := bneT h4
      rw [if_pos h4] at hno
      subst hno
      refine g_ret TrydT_ok (r := .tup [.i (.v (.pointer none)), ii 17]) rfl rfl rfl trivial rfl rfl ?_
      rfl
    have h4 := bneF h4
    rw [if_neg (by simpa using h4)] at hno
    first | refine g_cnd TrydT_ok Tryd.func66 rfl (fun h5 => ?_) (fun h5 => ?_) | refine g_know TrydT_ok Tryd.func66 rfl (fun h5 => ?_) (fun h5 => ?_) | refine s_know TrydT_ok (fun h5 => ?_) (fun h5 => ?_)
    · have h5 := beqT h5
      rw [if_pos h5] at hno
      have hlt := h1
      cases out with
      | none =>
        repeat (first | refine g_cnd TrydT_ok Tryd.func66 rfl (fun _ => ?_) (fun h => absurd h (by decide)) | refine g_cnd TrydT_ok Tryd.func66 rfl (fun h => absurd h (by decide)) (fun _ => ?_) | refine g_know TrydT_ok Tryd.func66 rfl (fun _ => ?_) (fun h => absurd h (by decide)) | refine g_know TrydT_ok Tryd.func66 rfl (fun h => absurd h (by decide)) (fun _ => ?_) | refine s_know TrydT_ok (fun _ => ?_) (fun h => absurd h (by decide)) | refine s_know TrydT_ok (fun h => absurd h (by decide)) (fun _ => ?_))
        refine g_loop ?_
        refine ih (i + 1, some i, two) _ _ ⟨hlt, hno⟩ (by simp only; omega) ⟨rfl, rfl, rfl, rfl, rfl, rfl, congrArg ii (wsucc hlt hmo), trivial⟩ rfl ⟨rfl, rfl, trivial⟩ rfl rfl
      | some k =>
        repeat (first | refine g_cnd TrydT_ok Tryd.func66 rfl (fun _ => ?_) (fun h => absurd h (by decide)) | refine g_cnd TrydT_ok Tryd.func66 rfl (fun h => absurd h (by decide)) (fun _ => ?_) | refine g_know TrydT_ok Tryd.func66 rfl (fun _ => ?_) (fun h => absurd h (by decide)) | refine g_know TrydT_ok Tryd.func66 rfl (fun h => absurd h (by decide)) (fun _ => ?_) | refine s_know TrydT_ok (fun _ => ?_) (fun h => absurd h (by decide)) | refine s_know TrydT_ok (fun h => absurd h (by decide)) (fun _ => ?_))
        refine g_loop ?_
        refine ih (i + 1, some i, true) _ _ ⟨hlt, hno⟩ (by simp only; omega) ⟨rfl, rfl, rfl, rfl, rfl, rfl, congrArg ii (wsucc hlt hmo), trivial⟩ rfl ⟨rfl, rfl, trivial⟩ rfl rfl
    · have h5 := beqF h5
      rw [if_neg h5] at hno
      refine g_loop ?_
      refine ih (i + 1, out, two) _ _ ⟨h1, hno⟩ (by simp only; omega) ⟨rfl, rfl, rfl, rfl, rfl, rfl, congrArg ii (wsucc h1 hmo), trivial⟩ rfl ⟨rfl, rfl, trivial⟩ (by cases out <;> rfl) rfl
  · have h1 : m.moves.length ≤ i := by simpa using h1
    rw [List.drop_eq_nil_of_le h1] at hno
    simp only [chs] at hno
    first | refine g_cnd TrydT_ok Tryd.func66 rfl (fun h2 => ?_) (fun h2 => ?_) | refine g_know TrydT_ok Tryd.func66 rfl (fun h2 => ?_) (fun h2 => ?_) | refine s_know TrydT_ok (fun h2 => ?_) (fun h2 => ?_)
    · rw [if_pos h2] at hno
      subst hno
      refine g_ret TrydT_ok (r := .tup [.i (.v (.pointer none)), ii 18]) rfl rfl rfl trivial rfl rfl ?_
      rfl
    · have h2 : two = false := h2
      rw [if_neg (by rw [h2]; simp)] at hno
      subst hno
      cases out with
      | none =>
        refine g_ret TrydT_ok (r := .tup [.i (.v (.pointer none)), ii 0]) rfl rfl rfl trivial rfl rfl ?_
        rfl
      | some k =>
        refine g_ret TrydT_ok (r := .tup [.i (.ptr 8 (m.moves.map mvI) k 0), ii 0]) rfl rfl rfl trivial rfl rfl ?_
        rfl
end Go.AI

namespace Go.AI
open Go.Proofs
set_option maxRecDepth 20000
theorem chs_lt {s : Sta} {ev : Int} : ∀ {l : List Mv} {i : Nat} {out : Option Nat} {two : Bool} {k : Nat}, (∀ k, out = some k → k < i) → (chs s ev l i out two).1 = some k → k < i + l.length
  | [], i, out, two, k, ho, h => by
    simp only [chs] at h
    split at h
    · cases h
    · exact ho k h
  | x :: r, i, out, two, k, ho, h => by
    simp only [chs] at h
    have h1 : (∀ k, out = some k → k < i + 1) := fun k hk => by have := ho k hk; omega
    split at h
    · have := chs_lt h1 h; simp only [List.length_cons]; omega
    · split at h
      · cases h
      · split at h
        · have := chs_lt (out := some i) (fun k hk => by simp at hk; omega) h; simp only [List.length_cons]; omega
        · have := chs_lt h1 h; simp only [List.length_cons]; omega
theorem updErr_range {n : Int} : ∀ {l : List Upd} {p : Option Int}, updErr n p l = 0 → ∀ u ∈ l, 0 ≤ u.v ∧ u.v < n ∧ typedX u.x n 1 = 0
  | [], _, _, u, hu => by simp at hu
  | x :: r, p, h, u, hu => by
    simp only [updErr] at h
    by_cases h1 : x.v < 0 ∨ x.v ≥ n
    · rw [if_pos h1] at h; cases h
    rw [if_neg h1] at h
    by_cases h2 : p.any (x.v ≤ ·) = true
    · rw [if_pos h2] at h; cases h
    rw [if_neg h2] at h
    by_cases h3 : typedX x.x n 1 ≠ 0
    · rw [if_pos h3] at h; exact absurd h h3
    rw [if_neg h3] at h
    rcases List.mem_cons.1 hu with rfl | hu
    · exact ⟨by omega, by omega, by simpa using h3⟩
    · exact updErr_range h u hu
/-- What a right move is. -/
structure mvRight (m : Ext) (x : Mv) : Prop where
  frm : 0 ≤ x.frm ∧ x.frm < m.locs
  to : 0 ≤ x.to ∧ x.to < m.locs
  ev : x.ev ∈ m.alpha
  g : typedX x.g m.vars.length 2 = 0
  us : updErr m.vars.length none x.us = 0
theorem mvErr_right {m : Ext} {p : Option Mv} {x : Mv} (h : mvErr m p x = 0) : mvRight m x := by
  unfold mvErr at h
  by_cases h1 : x.frm < 0 ∨ x.frm ≥ m.locs ∨ x.to < 0 ∨ x.to ≥ m.locs
  · rw [if_pos h1] at h; cases h
  rw [if_neg h1] at h
  by_cases h2 : x.ev ∉ m.alpha
  · rw [if_pos h2] at h; cases h
  rw [if_neg h2] at h
  by_cases h3 : p.any (fun p => decide (x.frm < p.frm ∨ (x.frm = p.frm ∧ x.ev < p.ev))) = true
  · rw [if_pos h3] at h; cases h
  rw [if_neg h3] at h
  by_cases h4 : typedX x.g m.vars.length 2 ≠ 0
  · rw [if_pos h4] at h; exact absurd h h4
  rw [if_neg h4] at h
  exact ⟨by omega, by omega, by simpa using h2, by simpa using h4, h⟩
theorem mvsErr_right {m : Ext} : ∀ {l : List Mv} {p : Option Mv}, mvsErr m p l = 0 → ∀ x ∈ l, mvRight m x
  | [], _, _, x, hx => by simp at hx
  | y :: r, p, h, x, hx => by
    simp only [mvsErr] at h
    by_cases h1 : mvErr m p y ≠ 0
    · rw [if_pos h1] at h; exact absurd h h1
    rw [if_neg h1] at h
    rcases List.mem_cons.1 hx with rfl | hx
    · exact mvErr_right (by simpa using h1)
    · exact mvsErr_right h x hx
/-- What a right automaton is. -/
structure extRight (m : Ext) : Prop where
  alpha : checkSet 32 m.alpha none = 0
  locs : 1 ≤ m.locs ∧ m.locs ≤ 64
  init : 0 ≤ m.init ∧ m.init < m.locs
  marked : checkSet m.locs m.marked none = 0
  vars : varsErr m.vars = 0
  len : m.moves.length ≤ 256
  mv : ∀ x ∈ m.moves, mvRight m x
theorem chk_right {m : Ext} (h : chk m = 0) : extRight m := by
  unfold chk at h
  by_cases h1 : checkSet 32 m.alpha none ≠ 0
  · rw [if_pos h1] at h; exact absurd h h1
  rw [if_neg h1] at h
  by_cases h2 : m.locs < 1 ∨ m.locs > 64 ∨ m.init < 0 ∨ m.init ≥ m.locs
  · rw [if_pos h2] at h; cases h
  rw [if_neg h2] at h
  by_cases h3 : checkSet m.locs m.marked none ≠ 0
  · rw [if_pos h3] at h; exact absurd h h3
  rw [if_neg h3] at h
  by_cases h4 : varsErr m.vars ≠ 0
  · rw [if_pos h4] at h; exact absurd h h4
  rw [if_neg h4] at h
  by_cases h5 : m.moves.length > 256
  · rw [if_pos h5] at h; cases h
  rw [if_neg h5] at h
  exact ⟨by simpa using h1, by omega, by omega, by simpa using h3, by simpa using h4, by omega, mvsErr_right h⟩
theorem vars_len {l : List Vr} (h : varsErr l = 0) : l.length ≤ 16 := by
  unfold varsErr at h
  by_cases h1 : l.length > 16
  · rw [if_pos h1] at h; cases h
  · omega
/-- The values behind assignments. -/
def updR (m : Ext) (vals : List Int) : List Upd → List Int → Option (List Int)
  | [], acc => some acc
  | u :: r, acc => match m.vars[u.v.toNat]? with
    | none => none
    | some v => if (evalX u.x vals).2 ≠ 0 ∨ (evalX u.x vals).1 < v.low ∨ (evalX u.x vals).1 > v.high then none else updR m vals r (acc.set u.v.toNat (evalX u.x vals).1)
def zeroS : Sta := ⟨0, []⟩
def stepR (m : Ext) (s : Sta) (ev : Int) : Sta × Bool × Int :=
  match (chs s ev m.moves 0 none false).1 with
  | none => (zeroS, false, (chs s ev m.moves 0 none false).2)
  | some k => if (chs s ev m.moves 0 none false).2 ≠ 0 then (zeroS, false, (chs s ev m.moves 0 none false).2) else match m.moves[k]? with
    | none => (zeroS, false, 0)
    | some x => match updR m s.vals x.us s.vals with
      | none => (zeroS, false, 17)
      | some acc => (⟨x.to, acc⟩, true, 0)
theorem coZ {b : Bool} {e : Int} : CoD (.tup [.agg [ii 0, .i (.v (.slice none 0 0))], bb b, ii e]) (.tup [staD zeroS, bb b, ii e]) :=
  coD_tup (.cons (coD_agg (.cons (.refl _) (.cons (coD_i coI_nil) .nil))) (CoDL.refl _))
theorem step50 (O : List Heap) (m : Ext) (s : Sta) (ev : Int) (hok : extOk m) (hr : extRight m) (hl : s.vals.length = m.vars.length) : ASpec Tryd.prog 50 [extD m, staD s, ii ev] O (.tup [staD (stepR m s ev).1, bb (stepR m s ev).2.1, ii (stepR m s ev).2.2]) [] O := by
  have hv16 := vars_len hr.vars
  have hlm : s.vals.length ≤ max63 := by simp only [max63]; omega
  have hch := fun O => choose66 O m s ev hok hlm
  have hlt := @chs_lt s ev m.moves 0 none false
  generalize hR : stepR m s ev = R
  unfold stepR at hR
  generalize chs s ev m.moves 0 none false = C at *
  obtain ⟨out, e⟩ := C
  simp only at hR hch hlt
  obtain ⟨sl, sv⟩ := s
  simp only at hl hR hlm
  cases out with
  | none =>
    simp only at hR
    subst hR
    refine aspec_intro TrydT_ok Tryd.func50 rfl Tryd.call50 Tryd.ntmps50 (Nat.le_of_ble_eq_true rfl) fun E => ?_
    refine g_run TrydT_ok Tryd.func50 ?_
    first | refine g_call TrydT_ok Tryd.func50 (hch _) rfl rfl rfl rfl rfl ?_ | refine s_callq TrydT_ok (fun _ => hch _) rfl rfl rfl ?_
    first | refine g_cnd TrydT_ok Tryd.func50 rfl (fun h1 => ?_) (fun h1 => ?_) | refine g_know TrydT_ok Tryd.func50 rfl (fun h1 => ?_) (fun h1 => ?_) | refine s_know TrydT_ok (fun h1 => ?_) (fun h1 => ?_)
    · repeat (first | refine g_cnd TrydT_ok Tryd.func50 rfl (fun _ => ?_) (fun h => absurd h (by decide)) | refine g_cnd TrydT_ok Tryd.func50 rfl (fun h => absurd h (by decide)) (fun _ => ?_) | refine g_know TrydT_ok Tryd.func50 rfl (fun _ => ?_) (fun h => absurd h (by decide)) | refine g_know TrydT_ok Tryd.func50 rfl (fun h => absurd h (by decide)) (fun _ => ?_) | refine s_know TrydT_ok (fun _ => ?_) (fun h => absurd h (by decide)) | refine s_know TrydT_ok (fun h => absurd h (by decide)) (fun _ => ?_))
      refine g_ret_co TrydT_ok (r := .tup [.agg [ii 0, .i (.v (.slice none 0 0))], bb false, ii e]) rfl rfl rfl trivial rfl rfl ?_
      exact coZ
    · repeat (first | refine g_cnd TrydT_ok Tryd.func50 rfl (fun _ => ?_) (fun h => absurd h (by decide)) | refine g_cnd TrydT_ok Tryd.func50 rfl (fun h => absurd h (by decide)) (fun _ => ?_) | refine g_know TrydT_ok Tryd.func50 rfl (fun _ => ?_) (fun h => absurd h (by decide)) | refine g_know TrydT_ok Tryd.func50 rfl (fun h => absurd h (by decide)) (fun _ => ?_) | refine s_know TrydT_ok (fun _ => ?_) (fun h => absurd h (by decide)) | refine s_know TrydT_ok (fun h => absurd h (by decide)) (fun _ => ?_))
      refine g_ret_co TrydT_ok (r := .tup [.agg [ii 0, .i (.v (.slice none 0 0))], bb false, ii e]) rfl rfl rfl trivial rfl rfl ?_
      exact coZ
  | some k =>
    refine aspec_intro TrydT_ok Tryd.func50 rfl Tryd.call50 Tryd.ntmps50 (Nat.le_of_ble_eq_true rfl) fun E => ?_
    refine g_run TrydT_ok Tryd.func50 ?_
    first | refine g_call TrydT_ok Tryd.func50 (hch _) rfl rfl rfl rfl rfl ?_ | refine s_callq TrydT_ok (fun _ => hch _) rfl rfl rfl ?_
    first | refine g_cnd TrydT_ok Tryd.func50 rfl (fun h1 => ?_) (fun h1 => ?_) | refine g_know TrydT_ok Tryd.func50 rfl (fun h1 => ?_) (fun h1 => ?_) | refine s_know TrydT_ok (fun h1 => ?_) (fun h1 => ?_)
    · have h1 := bneT h1
      simp only at hR
      rw [if_pos h1] at hR
      subst hR
      repeat (first | refine g_cnd TrydT_ok Tryd.func50 rfl (fun _ => ?_) (fun h => absurd h (by decide)) | refine g_cnd TrydT_ok Tryd.func50 rfl (fun h => absurd h (by decide)) (fun _ => ?_) | refine g_know TrydT_ok Tryd.func50 rfl (fun _ => ?_) (fun h => absurd h (by decide)) | refine g_know TrydT_ok Tryd.func50 rfl (fun h => absurd h (by decide)) (fun _ => ?_) | refine s_know TrydT_ok (fun _ => ?_) (fun h => absurd h (by decide)) | refine s_know TrydT_ok (fun h => absurd h (by decide)) (fun _ => ?_))
      refine g_ret_co TrydT_ok (r := .tup [.agg [ii 0, .i (.v (.slice none 0 0))], bb false, ii e]) rfl rfl rfl trivial rfl rfl ?_
      exact coZ
    have h1 := bneF h1
    have hk : k < m.moves.length := by have := hlt (k := k) (by simp) rfl; omega
    have hg : (m.moves.map mvI)[k]? = some (mvI m.moves[k]) := by simp [hk]
    have hx := hok.mv _ (List.getElem_mem hk)
    have hxr := hr.mv _ (List.getElem_mem hk)
    simp only at hR
    rw [if_neg (by simpa using h1), List.getElem?_eq_getElem hk] at hR
    simp only at hR
    generalize m.moves[k] = x at *
    obtain ⟨xf, xe, xt, xg, xu⟩ := x
    obtain ⟨-, hx2, hx3⟩ := hx
    simp only at hx2 hx3 hR
    have hur := updErr_range hxr.us
    simp only at hur
    clear hxr hch hlt
    repeat (first | refine g_cnd TrydT_ok Tryd.func50 rfl (fun _ => ?_) (fun h => absurd h (by decide)) | refine g_cnd TrydT_ok Tryd.func50 rfl (fun h => absurd h (by decide)) (fun _ => ?_) | refine g_know TrydT_ok Tryd.func50 rfl (fun _ => ?_) (fun h => absurd h (by decide)) | refine g_know TrydT_ok Tryd.func50 rfl (fun h => absurd h (by decide)) (fun _ => ?_) | refine s_know TrydT_ok (fun _ => ?_) (fun h => absurd h (by decide)) | refine s_know TrydT_ok (fun h => absurd h (by decide)) (fun _ => ?_))
    refine g_drawn TrydT_ok Tryd.func50 mixedT rfl ?_
    first | refine g_elem TrydT_ok Tryd.func50 (hg) ?_ | refine s_elem TrydT_ok (hg) ?_
    first | refine g_call TrydT_ok Tryd.func50 (clone57 38 _ sv (by simp only [big]; omega)) rfl rfl rfl rfl rfl ?_ | refine s_callq TrydT_ok (fun _ => clone57 38 _ sv (by simp only [big]; omega)) rfl rfl rfl ?_
    refine s_old TrydT_ok ?_
    refine d_mod TrydT_ok (p := ⟨[], [(11, .box [ii xt, .osl 0 38])], none⟩) rfl rfl rfl ?_
    refine d_done TrydT_ok Tryd.func50 (by kernel_rfl) (GM.h ?_)
    first | refine g_elem TrydT_ok Tryd.func50 (hg) ?_ | refine s_elem TrydT_ok (hg) ?_
    refine g_loop ?_
    refine rch_loop2 (fun x : Nat × List Int => [(3, .own 0 3 0 0), (4, .own 0 4 0 0), (6, .own 0 6 0 0), (11, .own 0 11 0 0), (43, upds xu), (44, ii xu.length), (45, ii x.1)]) (fun x => [(11, .box [ii xt, .osl 0 38]), (38, oints x.2), (6, .box [ii 0, .i (.v (.slice none 0 0))]), (4, .box [ii sl, ints sv]), (3, .box (extC m))]) (fun _ => O) 86
      (fun x => x.1 ≤ xu.length ∧ x.2.length = m.vars.length ∧ (match updR m sv (xu.drop x.1) x.2 with | none => (zeroS, false, 17) | some acc => (⟨xt, acc⟩, true, 0)) = R) (fun x => xu.length - x.1) (0, sv) ⟨Nat.zero_le _, hl, hR⟩ ⟨rfl, rfl, rfl, rfl, rfl, rfl, rfl, trivial⟩ rfl ⟨rfl, rfl, rfl, rfl, rfl, trivial⟩ rfl rfl ?_
    rintro ⟨i, acc⟩ ⟨hi, hacc, hno⟩ ih
    clear hR
    simp only at hi hacc hno
    refine g_run TrydT_ok Tryd.func50 ?_
    first | refine g_cnd TrydT_ok Tryd.func50 rfl (fun h2 => ?_) (fun h2 => ?_) | refine g_know TrydT_ok Tryd.func50 rfl (fun h2 => ?_) (fun h2 => ?_) | refine s_know TrydT_ok (fun h2 => ?_) (fun h2 => ?_)
    · have h2 : i < xu.length := by simpa using h2
      have hd : xu.drop i = xu[i] :: xu.drop (i + 1) := List.drop_eq_getElem_cons h2
      have hgu : (xu.map updI)[(i : Int).toNat]? = some (updI xu[i]) := get_mapZ h2
      have hm := List.getElem_mem h2
      generalize xu[i] = u at *
      have hux := hx3 u hm
      have hur := hur u hm
      obtain ⟨uv, ux⟩ := u
      simp only at hux hur
      obtain ⟨hu0, hu1, -⟩ := hur
      have huv : uv.toNat < m.vars.length := by omega
      have hgv : (m.vars.map vrI)[uv.toNat]? = some (vrI m.vars[uv.toNat]) := by simp [huv]
      rw [hd] at hno
      simp only [updR] at hno
      rw [List.getElem?_eq_getElem huv] at hno
      simp only at hno
      generalize m.vars[uv.toNat] = v at *
      obtain ⟨vn, vl, vh, vi'⟩ := v
      simp only at hno
      have bad : ((evalX ux sv).2 ≠ 0 ∨ (evalX ux sv).1 < vl ∨ (evalX ux sv).1 > vh) → R = (zeroS, false, 17) := fun h => by rw [← hno, if_pos h]
      have good : ¬ ((evalX ux sv).2 ≠ 0 ∨ (evalX ux sv).1 < vl ∨ (evalX ux sv).1 > vh) → (match updR m sv (xu.drop (i + 1)) (acc.set uv.toNat (evalX ux sv).1) with | none => (zeroS, false, 17) | some acc => (⟨xt, acc⟩, true, 0)) = R := fun h => by rw [← hno, if_neg h]
      clear hno
      first | refine g_need TrydT_ok Tryd.func50 (by omega) ?_ | refine s_need TrydT_ok (by omega) ?_
      first | refine g_elem TrydT_ok Tryd.func50 (hgu) ?_ | refine s_elem TrydT_ok (hgu) ?_
      first | refine g_call TrydT_ok Tryd.func50 (evaluate51A _ ux sv hux hlm) rfl rfl rfl rfl rfl ?_ | refine s_callq TrydT_ok (fun _ => evaluate51A _ ux sv hux hlm) rfl rfl rfl ?_
      generalize evalX ux sv = V at *
      obtain ⟨w, we⟩ := V
      simp only at bad good
      first | refine g_need TrydT_ok Tryd.func50 (by exact ⟨hu0, hu1⟩) ?_ | refine s_need TrydT_ok (by exact ⟨hu0, hu1⟩) ?_
      first | refine g_elem TrydT_ok Tryd.func50 (hgv) ?_ | refine s_elem TrydT_ok (hgv) ?_
      first | refine g_cnd TrydT_ok Tryd.func50 rfl (fun h3 => ?_) (fun h3 => ?_) | refine g_know TrydT_ok Tryd.func50 rfl (fun h3 => ?_) (fun h3 => ?_) | refine s_know TrydT_ok (fun h3 => ?_) (fun h3 => ?_)
      · have := bad (.inl (bneT h3))
        subst this
        repeat (first | refine g_cnd TrydT_ok Tryd.func50 rfl (fun _ => ?_) (fun h => absurd h (by decide)) | refine g_cnd TrydT_ok Tryd.func50 rfl (fun h => absurd h (by decide)) (fun _ => ?_) | refine g_know TrydT_ok Tryd.func50 rfl (fun _ => ?_) (fun h => absurd h (by decide)) | refine g_know TrydT_ok Tryd.func50 rfl (fun h => absurd h (by decide)) (fun _ => ?_) | refine s_know TrydT_ok (fun _ => ?_) (fun h => absurd h (by decide)) | refine s_know TrydT_ok (fun h => absurd h (by decide)) (fun _ => ?_))
        refine g_ret_co TrydT_ok (r := .tup [.agg [ii 0, .i (.v (.slice none 0 0))], bb false, ii 17]) rfl rfl rfl trivial rfl rfl ?_
        exact coZ
      have h3 := bneF h3
      first | refine g_cnd TrydT_ok Tryd.func50 rfl (fun h4 => ?_) (fun h4 => ?_) | refine g_know TrydT_ok Tryd.func50 rfl (fun h4 => ?_) (fun h4 => ?_) | refine s_know TrydT_ok (fun h4 => ?_) (fun h4 => ?_)
      · have := bad (.inr (.inl (of_decide_eq_true h4)))
        subst this
        repeat (first | refine g_cnd TrydT_ok Tryd.func50 rfl (fun _ => ?_) (fun h => absurd h (by decide)) | refine g_cnd TrydT_ok Tryd.func50 rfl (fun h => absurd h (by decide)) (fun _ => ?_) | refine g_know TrydT_ok Tryd.func50 rfl (fun _ => ?_) (fun h => absurd h (by decide)) | refine g_know TrydT_ok Tryd.func50 rfl (fun h => absurd h (by decide)) (fun _ => ?_) | refine s_know TrydT_ok (fun _ => ?_) (fun h => absurd h (by decide)) | refine s_know TrydT_ok (fun h => absurd h (by decide)) (fun _ => ?_))
        refine g_ret_co TrydT_ok (r := .tup [.agg [ii 0, .i (.v (.slice none 0 0))], bb false, ii 17]) rfl rfl rfl trivial rfl rfl ?_
        exact coZ
      have h4 : ¬ w < vl := of_decide_eq_false h4
      first | refine g_cnd TrydT_ok Tryd.func50 rfl (fun h5 => ?_) (fun h5 => ?_) | refine g_know TrydT_ok Tryd.func50 rfl (fun h5 => ?_) (fun h5 => ?_) | refine s_know TrydT_ok (fun h5 => ?_) (fun h5 => ?_)
      · have := bad (.inr (.inr (of_decide_eq_true h5)))
        subst this
        refine g_ret_co TrydT_ok (r := .tup [.agg [ii 0, .i (.v (.slice none 0 0))], bb false, ii 17]) rfl rfl rfl trivial rfl rfl ?_
        exact coZ
      have h5 : ¬ w > vh := of_decide_eq_false h5
      have good := good (by omega)
      first | refine g_need TrydT_ok Tryd.func50 (by exact ⟨hu0, by rw [hacc]; exact hu1⟩) ?_ | refine s_need TrydT_ok (by exact ⟨hu0, by rw [hacc]; exact hu1⟩) ?_
      refine g_loop ?_
      refine ih (i + 1, acc.set uv.toNat w) _ _ ⟨h2, by simp only [List.length_set]; exact hacc, good⟩ (by simp only; omega) ⟨rfl, rfl, rfl, rfl, rfl, rfl, congrArg ii (wsucc h2 hx2), trivial⟩ rfl ⟨rfl, ?_, rfl, rfl, rfl, trivial⟩ rfl rfl
      show some (Ob.arr 3 1 acc.length ((acc.map fun x => [vi x]).set uv.toNat [vi w]) true) = _
      simp [List.map_set]
    · have h2 : xu.length ≤ i := by simpa using h2
      rw [List.drop_eq_nil_of_le h2] at hno
      simp only [updR] at hno
      subst hno
      refine g_rwk (wk_freeze 38 rfl rfl) ?_
      refine g_rwk (wk_imm rfl) ?_
      refine g_ret TrydT_ok (r := .tup [.agg [ii xt, ints acc], bb true, ii 0]) rfl rfl rfl trivial rfl rfl ?_
      rfl
end Go.AI

namespace Go.AI
open Go.Proofs
set_option maxRecDepth 20000
/-- The text of a number. -/
def itoaB (n : Int) : ByteArray := ⟨(Lib.itoa n).toArray⟩
/-- The table that the library keeps. -/
def ptab (ty : TypeId) (fr : Nat × Nat) : Obj := .cells (Lib.pow10Tab.map fun z => Value.int .u64 z).toArray ty fr
theorem tabIs_of {name : String} {g : Nat} {ty : TypeId} {fr : Nat × Nat} {w : World} (hg : Tryd.prog.globalNamed name = some g) (h : w.heap[g]? = some (ptab ty fr)) : Lib.TabIs Tryd.prog w name .u64 Lib.pow10Tab := by
  simp only [Lib.TabIs, World.var?, hg, Option.bind_some, h, ptab]
/-- Which block it is. -/
def IsTab (g : Nat) : Prop := ∀ ty fr w, w.heap[g]? = some (ptab ty fr) → Lib.TabIs Tryd.prog w "internal/strconv.uint64pow10" .u64 Lib.pow10Tab
theorem itoa79 {g : Nat} (hg : IsTab g) {ty : TypeId} {fr : Nat × Nat} (O : List Heap) (n : Int) (h0 : -9223372036854775808 ≤ n) (h1 : n ≤ 9223372036854775807) : ASpecT g (ptab ty fr) Tryd.prog 79 [ii n] O (.i (.v (.string (itoaB n)))) [] O := by
  intro E K ρ w vs hw htab hrep
  obtain rfl : vs = [.int .i64 n] := by
    cases hrep with
    | cons r rs => cases rs; rw [inv_v r]
  refine .inl ⟨Tryd.call79 _ _, ?_⟩
  refine (Tryd.strconv_Itoa n h0 h1 w (hg ty fr w htab.1)).mono ?_
  rintro e w' ⟨rfl, k, os, rfl⟩
  obtain ⟨ρ1, hρ1, hI⟩ := hinv_enter hw
  obtain ⟨hI2, hst⟩ := HInv.grow (S := [] :: O) rfl hI (fun _ _ _ e => e) (fun _ h => by simp [look] at h) (grow_more hI k os)
  exact ⟨_, rfl, K, ρ1, hI2, .i (.v rfl)⟩
end Go.AI

/- The way from a row to a contract. -/
namespace Go.Proofs.YtbknncolmohdlaaDoor
open Go.ChangeShapes Go.WideShapes Go.ChangeAt Go.RowKit
set_option maxRecDepth 100000
theorem Tryd.own : ownKnob Tryd.prog.godebug = none := by kernel_rfl
theorem powG : Tryd.prog.globalNamed "internal/strconv.uint64pow10" = some 0 := by kernel_rfl
theorem isTab0 : AI.IsTab 0 := fun _ _ _ h => AI.tabIs_of powG h
theorem tab_of_laid {W : World} (h : laidMetH Tryd.prog [("math/bits.deBruijn32tab", Rows.laid_math_bits_deBruijn32tab), ("math/bits.deBruijn64tab", Rows.laid_math_bits_deBruijn64tab), ("internal/strconv.uint64pow10", Rows.laid_internal_strconv_uint64pow10)] W) :
    ∃ ty fr, W.heap[0]? = some (AI.ptab ty fr) := by
  rw [MakeChecks.laidMetH_plain _ _ _ (by kernel_rfl)] at h
  have h3 := laidMet.tail (laidMet.tail h)
  have hT : Lib.TabIs Tryd.prog W "internal/strconv.uint64pow10" .u64 Lib.pow10Tab :=
    Lib.tabIs_of_head (t := 161) (e := 155) (n := 20) powG (by kernel_rfl) (by kernel_rfl) (by kernel_rfl) (by kernel_rfl) (by kernel_rfl) (rest := []) h3
  unfold Lib.TabIs World.var? at hT
  rw [powG] at hT
  simp only [Option.bind_some] at hT
  cases hc : W.heap[0]? with
  | none => rw [hc] at hT; cases hT
  | some o =>
    rw [hc] at hT
    cases o with
    | cells cs ty fr =>
      simp only [Option.some.injEq] at hT
      subst hT
      exact ⟨ty, fr, rfl⟩
    | _ => cases hT
/-- A contract with no memory of one's own, from the outside. -/
theorem calls_of {f : FuncId} {args : List AI.D} {vs : List Value} {b : Bool} {W : World} {ty : TypeId} {fr : Nat × Nat} (h0 : W.heap[0]? = some (AI.ptab ty fr))
    (hcall : ∀ a w, (callFunc f a).run Tryd.prog w = .ok (.enter f a) w) (hs : AI.ASpecT 0 (AI.ptab ty fr) Tryd.prog f args [] (AI.bb b) [] [])
    {K : AI.Kn} (hK : ∀ bl o x, K bl o = some x → W.cell? ⟨bl, o, none⟩ = some x) (hr : ∀ ρ sh, AI.RepDL K ρ sh vs args) :
    Calls Tryd.prog f vs.toArray W fun e W' => e = .returned (.bool b) ∧ (∀ i, i < W.heap.size → W'.heap[i]? = W.heap[i]?) ∧ W'.os = W.os ∧ W'.output = W.output := by
  let ρ : Nat → Nat → AI.Loc := fun _ _ => ⟨0, 0, none⟩
  have hobj : ∀ d n, AI.objAt [] d n = none := fun d n => by simp [AI.objAt]
  have hI : AI.HInv (AI.Env.of K ρ W) K ρ [] W :=
    ⟨hK, (fun d n ob e => absurd ((hobj d n).symm.trans e) (by simp)), (fun d n ob d' n' ob' e => absurd ((hobj d n).symm.trans e) (by simp)), Nat.le_refl _, fun _ _ _ => rfl, (fun n ob e => absurd ((hobj 0 n).symm.trans e) (by simp)), fun _ => rfl, fun _ _ _ h => h, fun _ _ _ h => .inl h, rfl, rfl, rfl⟩
  have ht : AI.TabQ 0 (AI.ptab ty fr) [] ρ W := ⟨h0, fun d n x e => by simp [AI.shape, hobj] at e⟩
  rcases hs _ K ρ W vs hI ht (hr _ _) with ⟨_, h⟩ | ⟨v, w', h, _⟩
  · refine h.mono fun e W' => ?_
    rintro ⟨v, rfl, K', ρ', h1, h2⟩
    obtain rfl := AI.inv_v h2
    refine ⟨rfl, fun i hi => h1.old i hi fun d n ob e => ?_, h1.rest.2.1, h1.rest.2.2⟩
    simp [AI.objAt] at e
  · rw [hcall] at h
    cases h
theorem kept_of {W W' : World} {P : MemPlace → Prop} (h : ∀ i, i < W.heap.size → W'.heap[i]? = W.heap[i]?) (h1 : W'.os = W.os) (h2 : W'.output = W.output) : W.keptBut W' P := by
  refine ⟨h1, h2, fun i hi => ?_⟩
  rw [h i hi]
  exact (World.keptBut_refl W P).2.2 i hi
end Go.Proofs.YtbknncolmohdlaaDoor

namespace Go.AI
open Go.Proofs
set_option maxRecDepth 20000
abbrev u8I (b : Int) : List I := [.v (.int .u8 b)]
abbrev byts (l : List Int) : D := .i (.sl 1 l.length (l.map u8I))
def byteOk (l : List Int) : Prop := ∀ b ∈ l, 0 ≤ b ∧ b ≤ 255
theorem byteOk_tail {l : List Int} (h : byteOk l) : byteOk l.tail := fun b hb => h b (List.mem_of_mem_tail hb)
def b0 (l : List Int) : Int := match l with
  | [] => 0
  | b :: _ => b
theorem b0_ok {l : List Int} (h : byteOk l) : 0 ≤ b0 l ∧ b0 l ≤ 255 := by
  cases l with
  | nil => exact ⟨Int.le_refl _, by decide⟩
  | cons b r => exact h b (by simp)
abbrev growOb (bs : List Int) (vars k : Int) : Ob := .box [byts bs, ii vars, ii k]
theorem next80 (O : List Heap) (d nm : Nat) (bs : List Int) (vars k : Int) (hb : byteOk bs) (hl : bs.length ≤ max63) (ho : objAt O d nm = some (growOb bs vars k)) :
    ASpec Tryd.prog 80 [.own d nm 0 0] O (ii (b0 bs)) [] (setAt O d nm (growOb bs.tail vars k)) := by
  have hO1 : ∀ H, objAt (H :: O) (d + 1) nm = some (growOb bs vars k) := fun H => by simpa [objAt] using ho
  cases bs with
  | nil =>
    refine aspec_intro TrydT_ok Tryd.func80 rfl Tryd.call80 Tryd.ntmps80 (Nat.le_of_ble_eq_true rfl) fun E => ?_
    refine g_run TrydT_ok Tryd.func80 ?_
    first | refine g_obj TrydT_ok Tryd.func80 (hO1 _) ?_ | refine s_obj TrydT_ok (hO1 _) ?_
    repeat (first | refine g_cnd TrydT_ok Tryd.func80 rfl (fun _ => ?_) (fun h => absurd h (by decide)) | refine g_cnd TrydT_ok Tryd.func80 rfl (fun h => absurd h (by decide)) (fun _ => ?_) | refine g_know TrydT_ok Tryd.func80 rfl (fun _ => ?_) (fun h => absurd h (by decide)) | refine g_know TrydT_ok Tryd.func80 rfl (fun h => absurd h (by decide)) (fun _ => ?_) | refine s_know TrydT_ok (fun _ => ?_) (fun h => absurd h (by decide)) | refine s_know TrydT_ok (fun h => absurd h (by decide)) (fun _ => ?_))
    refine g_rwk (wk_S (S' := _ :: setAt O d nm (growOb [] vars k)) (objAt_cons (objAt_set_id ho))) ?_
    refine g_ret TrydT_ok (r := ii 0) rfl rfl rfl trivial rfl rfl ?_
    rfl
  | cons b r =>
    have hb := hb b (by simp)
    simp only [max63, List.length_cons] at hl
    have hw : IntKind.i64.wrap b = b := w64 (by omega) (by omega)
    refine aspec_intro TrydT_ok Tryd.func80 rfl Tryd.call80 Tryd.ntmps80 (Nat.le_of_ble_eq_true rfl) fun E => ?_
    refine g_run TrydT_ok Tryd.func80 ?_
    first | refine g_obj TrydT_ok Tryd.func80 (hO1 _) ?_ | refine s_obj TrydT_ok (hO1 _) ?_
    first | refine g_cnd TrydT_ok Tryd.func80 rfl (fun h1 => ?_) (fun h1 => ?_) | refine g_know TrydT_ok Tryd.func80 rfl (fun h1 => ?_) (fun h1 => ?_) | refine s_know TrydT_ok (fun h1 => ?_) (fun h1 => ?_)
    · have h1 := beqT h1
      simp only [List.length_cons] at h1
      omega
    first | refine g_obj TrydT_ok Tryd.func80 (hO1 _) ?_ | refine s_obj TrydT_ok (hO1 _) ?_
    first | refine g_need TrydT_ok Tryd.func80 (by exact ⟨by decide, by show (0 : Int) < ((r.length + 1 : Nat) : Int); omega⟩) ?_ | refine s_need TrydT_ok (by exact ⟨by decide, by show (0 : Int) < ((r.length + 1 : Nat) : Int); omega⟩) ?_
    first | refine g_elem TrydT_ok Tryd.func80 (rfl) ?_ | refine s_elem TrydT_ok (rfl) ?_
    first | refine g_obj TrydT_ok Tryd.func80 (hO1 _) ?_ | refine s_obj TrydT_ok (hO1 _) ?_
    first | refine g_need TrydT_ok Tryd.func80 (by exact ⟨by decide, by show (1 : Int) ≤ ((r.length + 1 : Nat) : Int); omega⟩) ?_ | refine s_need TrydT_ok (by exact ⟨by decide, by show (1 : Int) ≤ ((r.length + 1 : Nat) : Int); omega⟩) ?_
    first | refine g_obj TrydT_ok Tryd.func80 (hO1 _) ?_ | refine s_obj TrydT_ok (hO1 _) ?_
    refine g_ret TrydT_ok (r := ii (IntKind.i64.wrap b)) rfl rfl rfl trivial rfl rfl ?_
    exact congrArg ii hw
def truthE (t : Bool) : Ex := .mk (if t then 6 else 7) 0 0 [zeroE, zeroE]
theorem truth81 (O : List Heap) (t : Bool) : ASpec Tryd.prog 81 [bb t] O (exA (truthE t)) [] O := by
  refine aspec_intro TrydT_ok Tryd.func81 rfl Tryd.call81 Tryd.ntmps81 (Nat.le_of_ble_eq_true rfl) fun E => ?_
  refine g_run TrydT_ok Tryd.func81 ?_
  first | refine g_cnd TrydT_ok Tryd.func81 rfl (fun h1 => ?_) (fun h1 => ?_) | refine g_know TrydT_ok Tryd.func81 rfl (fun h1 => ?_) (fun h1 => ?_) | refine s_know TrydT_ok (fun h1 => ?_) (fun h1 => ?_)
  · subst h1
    refine g_ret_co TrydT_ok (r := _) rfl rfl rfl trivial rfl rfl ?_
    repeat' (first | refine coD_tup ?_ | refine coD_agg ?_ | refine coD_i ?_ | refine CoDL.cons ?_ ?_ | exact CoDL.nil | exact coI_nil | refine coI_sl ?_ | refine CoLL.cons ?_ ?_ | exact CoLL.nil | refine CoL.cons ?_ ?_ | exact CoL.nil | exact CoI.refl _ | exact CoL.refl _ | exact CoLL.refl _ | exact CoDL.refl _ | exact CoD.refl _)
  · subst h1
    refine g_ret_co TrydT_ok (r := _) rfl rfl rfl trivial rfl rfl ?_
    repeat' (first | refine coD_tup ?_ | refine coD_agg ?_ | refine coD_i ?_ | refine CoDL.cons ?_ ?_ | exact CoDL.nil | exact coI_nil | refine coI_sl ?_ | refine CoLL.cons ?_ ?_ | exact CoLL.nil | refine CoL.cons ?_ ?_ | exact CoL.nil | exact CoI.refl _ | exact CoL.refl _ | exact CoLL.refl _ | exact CoDL.refl _ | exact CoD.refl _)
end Go.AI

namespace Go.AI
open Go.Proofs
set_option maxRecDepth 20000
def leafE (vars b : Int) : Ex := if b % 2 = 0 ∧ vars > 0 then .mk 1 0 (b / 8 % vars) [] else .mk 0 (b / 8 - 8) 0 []
/-- An expression that bytes describe; the bytes that are left; the count of calls. -/
def growR (vars : Int) : Nat → Bool → List Int → Nat → Ex × List Int × Nat
  | 0, true, bs, k => (leafE vars (b0 bs), bs.tail, k + 1)
  | 0, false, bs, k => (truthE (decide (b0 bs % 2 = 0)), bs.tail, k + 1)
  | lv + 1, true, bs, k =>
    if k + 1 > 12 ∨ b0 bs % 8 < 4 then (leafE vars (b0 bs), bs.tail, k + 1) else
    if b0 bs % 8 = 4 then (.mk 5 0 0 [(growR vars lv true bs.tail (k + 1)).1], (growR vars lv true bs.tail (k + 1)).2) else
    if b0 bs % 8 = 5 then
      (.mk 13 0 0 [(growR vars lv false bs.tail (k + 1)).1, (growR vars lv true (growR vars lv false bs.tail (k + 1)).2.1 (growR vars lv false bs.tail (k + 1)).2.2).1,
        (growR vars lv true (growR vars lv true (growR vars lv false bs.tail (k + 1)).2.1 (growR vars lv false bs.tail (k + 1)).2.2).2.1 (growR vars lv true (growR vars lv false bs.tail (k + 1)).2.1 (growR vars lv false bs.tail (k + 1)).2.2).2.2).1],
        (growR vars lv true (growR vars lv true (growR vars lv false bs.tail (k + 1)).2.1 (growR vars lv false bs.tail (k + 1)).2.2).2.1 (growR vars lv true (growR vars lv false bs.tail (k + 1)).2.1 (growR vars lv false bs.tail (k + 1)).2.2).2.2).2)
    else (.mk (2 + b0 bs / 8 % 3) 0 0 [(growR vars lv true bs.tail (k + 1)).1, (growR vars lv true (growR vars lv true bs.tail (k + 1)).2.1 (growR vars lv true bs.tail (k + 1)).2.2).1],
        (growR vars lv true (growR vars lv true bs.tail (k + 1)).2.1 (growR vars lv true bs.tail (k + 1)).2.2).2)
  | lv + 1, false, bs, k =>
    if lv = 0 ∨ k + 1 > 12 ∨ b0 bs % 8 < 4 then (.mk (6 + b0 bs / 8 % 4) 0 0 [(growR vars lv true bs.tail (k + 1)).1, (growR vars lv true (growR vars lv true bs.tail (k + 1)).2.1 (growR vars lv true bs.tail (k + 1)).2.2).1],
        (growR vars lv true (growR vars lv true bs.tail (k + 1)).2.1 (growR vars lv true bs.tail (k + 1)).2.2).2) else
    if b0 bs % 8 = 4 then (.mk 10 0 0 [(growR vars lv false bs.tail (k + 1)).1], (growR vars lv false bs.tail (k + 1)).2) else
    if b0 bs % 8 = 5 then
      (.mk 13 0 0 [(growR vars lv false bs.tail (k + 1)).1, (growR vars lv false (growR vars lv false bs.tail (k + 1)).2.1 (growR vars lv false bs.tail (k + 1)).2.2).1,
        (growR vars lv false (growR vars lv false (growR vars lv false bs.tail (k + 1)).2.1 (growR vars lv false bs.tail (k + 1)).2.2).2.1 (growR vars lv false (growR vars lv false bs.tail (k + 1)).2.1 (growR vars lv false bs.tail (k + 1)).2.2).2.2).1],
        (growR vars lv false (growR vars lv false (growR vars lv false bs.tail (k + 1)).2.1 (growR vars lv false bs.tail (k + 1)).2.2).2.1 (growR vars lv false (growR vars lv false bs.tail (k + 1)).2.1 (growR vars lv false bs.tail (k + 1)).2.2).2.2).2)
    else (.mk (11 + b0 bs / 8 % 2) 0 0 [(growR vars lv false bs.tail (k + 1)).1, (growR vars lv false (growR vars lv false bs.tail (k + 1)).2.1 (growR vars lv false bs.tail (k + 1)).2.2).1],
        (growR vars lv false (growR vars lv false bs.tail (k + 1)).2.1 (growR vars lv false bs.tail (k + 1)).2.2).2)
/-- Right bytes, and counts that do not grow far. -/
structure gOk (r : Ex × List Int × Nat) (n : Nat) (N : Nat) : Prop where
  b : byteOk r.2.1
  l : r.2.1.length ≤ n
  k : r.2.2 ≤ N
theorem growR_ok (vars : Int) : ∀ (lv : Nat) (t : Bool) (bs : List Int) (k : Nat), byteOk bs → gOk (growR vars lv t bs k) bs.length (k + 4 ^ (lv + 1) - 1) := by
  intro lv
  induction lv with
  | zero =>
    intro t bs k hb
    cases t <;> exact ⟨byteOk_tail hb, by simp [growR], by simp [growR]⟩
  | succ lv ih =>
    intro t bs k hb
    have hp : 4 ^ (lv + 1 + 1) = 4 * 4 ^ (lv + 1) := by rw [Nat.pow_succ]; omega
    have hq : 1 ≤ 4 ^ (lv + 1) := Nat.one_le_pow _ _ (by decide)
    have ht : bs.tail.length ≤ bs.length := by simp
    generalize hN : 4 ^ (lv + 1) = N at *
    have one : ∀ t, gOk (growR vars lv t bs.tail (k + 1)) bs.length (k + N) := fun t => by
      have h := ih t bs.tail (k + 1) (byteOk_tail hb)
      exact ⟨h.b, Nat.le_trans h.l ht, by have := h.k; omega⟩
    have two : ∀ t (r : Ex × List Int × Nat) M, gOk r bs.length (k + M) → gOk (growR vars lv t r.2.1 r.2.2) bs.length (k + M + N - 1) := fun t r M hr => by
      have h := ih t r.2.1 r.2.2 hr.b
      exact ⟨h.b, Nat.le_trans h.l hr.l, by have := h.k; have := hr.k; omega⟩
    have fit : ∀ (x : Ex) (r : Ex × List Int × Nat) M, gOk r bs.length (k + M) → M ≤ 4 * N - 1 → gOk (x, r.2) bs.length (k + 4 ^ (lv + 1 + 1) - 1) := fun x r M h hM => ⟨h.b, h.l, by have := h.k; rw [hp]; show r.2.2 ≤ _; omega⟩
    have leaf : ∀ x : Ex, gOk (x, bs.tail, k + 1) bs.length (k + 4 ^ (lv + 1 + 1) - 1) := fun x => ⟨byteOk_tail hb, ht, by rw [hp]; show k + 1 ≤ _; omega⟩
    have cast : ∀ (r : Ex × List Int × Nat) M, gOk r bs.length (k + M + N - 1) → gOk r bs.length (k + (M + N - 1)) := fun r M h => ⟨h.b, h.l, by have := h.k; omega⟩
    cases t with
    | true =>
      simp only [growR]
      split
      · exact leaf _
      split
      · exact fit _ _ _ (one true) (by omega)
      split
      · exact fit _ _ _ (cast _ _ (two true _ _ (cast _ _ (two true _ _ (one false))))) (by omega)
      · exact fit _ _ _ (cast _ _ (two true _ _ (one true))) (by omega)
    | false =>
      simp only [growR]
      split
      · exact fit _ _ _ (cast _ _ (two true _ _ (one true))) (by omega)
      split
      · exact fit _ _ _ (one false) (by omega)
      split
      · exact fit _ _ _ (cast _ _ (two false _ _ (cast _ _ (two false _ _ (one false))))) (by omega)
      · exact fit _ _ _ (cast _ _ (two false _ _ (one false))) (by omega)
end Go.AI
