/- The layer of abstract runs, part 10. -/
import Derived.Test.YtbknncolmohdlaaDoorLayerI
import Derived.Shelf.Slices.Reverse
import Derived.Shelf.Slices.Cells
import Derived.Test.YtbknncolmohdlaaDoorProg
set_option linter.unusedSimpArgs false
set_option linter.unusedVariables false
set_option linter.all false
namespace Go.AI
open Go.Proofs
set_option maxRecDepth 20000
theorem checkSet_sorted {n : Int} : ∀ {l : List Int} {p : Option Int}, checkSet n l p = 0 → l.Pairwise (· < ·) ∧ (∀ x ∈ l, 0 ≤ x ∧ x < n) ∧ ∀ y, p = some y → ∀ x ∈ l, y < x
  | [], p, _ => ⟨.nil, by simp, by simp⟩
  | x :: r, p, h => by
    simp only [checkSet] at h
    by_cases h1 : x < 0 ∨ x ≥ n
    · rw [if_pos h1] at h; cases h
    rw [if_neg h1] at h
    by_cases h2 : p.any (x ≤ ·) = true
    · rw [if_pos h2] at h; cases h
    rw [if_neg h2] at h
    obtain ⟨a, b, c⟩ := checkSet_sorted h
    refine ⟨List.pairwise_cons.2 ⟨c x rfl, a⟩, fun y hy => ?_, fun y hp z hz => ?_⟩
    · rcases List.mem_cons.1 hy with rfl | hy
      · omega
      · exact b y hy
    · subst hp
      have hyx : y < x := by simpa using h2
      rcases List.mem_cons.1 hz with rfl | hz
      · exact hyx
      · have := c x rfl z hz; omega
def varsErr (l : List Vr) : Int := if l.length > 16 then 3 else checkVrs l l 0
theorem checkVars56' (O : List Heap) (l : List Vr) (hl : l.length ≤ max63) (hn : ∀ v ∈ l, v.name.size ≤ max63) : ASpec Tryd.prog 56 [vrs l] O (ii (varsErr l)) [] O := checkVars56 O l hl hn
def mvsErr (m : Ext) : Option Mv → List Mv → Int
  | _, [] => 0
  | prev, x :: r => if mvErr m prev x ≠ 0 then mvErr m prev x else mvsErr m (some x) r
/-- Check: the first error. -/
def chk (m : Ext) : Int :=
  if checkSet 32 m.alpha none ≠ 0 then checkSet 32 m.alpha none else
  if m.locs < 1 ∨ m.locs > 64 ∨ m.init < 0 ∨ m.init ≥ m.locs then 2 else
  if checkSet m.locs m.marked none ≠ 0 then checkSet m.locs m.marked none else
  if varsErr m.vars ≠ 0 then varsErr m.vars else
  if m.moves.length > 256 then 3 else mvsErr m none m.moves
theorem check40 (O : List Heap) (m : Ext) (hok : extOk m) : ASpec Tryd.prog 40 [extD m] O (ii (chk m)) [] O := by
  have hal := hok.al
  have hma := hok.ma
  have hmo := hok.mo
  generalize hR : chk m = R
  unfold chk at hR
  refine aspec_stop [] TrydT_ok Tryd.func40 rfl Tryd.call40 Tryd.ntmps40 (Nat.le_of_ble_eq_true rfl) fun E => ?_
  refine g_run TrydT_ok Tryd.func40 ?_
  first | refine g_call TrydT_ok Tryd.func40 (checkSet59 _ m.alpha 32 hal) rfl rfl rfl rfl rfl ?_ | refine s_call TrydT_ok (checkSet59 _ m.alpha 32 hal) rfl rfl rfl ?_
  first | refine g_cnd TrydT_ok Tryd.func40 rfl (fun h1 => ?_) (fun h1 => ?_) | refine g_know TrydT_ok Tryd.func40 rfl (fun h1 => ?_) (fun h1 => ?_) | refine s_know TrydT_ok (fun h1 => ?_) (fun h1 => ?_)
  · have h1 := bneT h1
    rw [if_pos h1] at hR
    subst hR
    refine g_ret TrydT_ok (r := ii _) rfl rfl rfl trivial rfl rfl ?_
    rfl
  have h1 := bneF h1
  rw [if_neg (by simpa using h1)] at hR
  have hs := (checkSet_sorted h1).1
  have bad : (m.locs < 1 ∨ m.locs > 64 ∨ m.init < 0 ∨ m.init ≥ m.locs) → R = 2 := fun h => by rw [← hR, if_pos h]
  first | refine g_cnd TrydT_ok Tryd.func40 rfl (fun h2 => ?_) (fun h2 => ?_) | refine g_know TrydT_ok Tryd.func40 rfl (fun h2 => ?_) (fun h2 => ?_) | refine s_know TrydT_ok (fun h2 => ?_) (fun h2 => ?_)
  · have := bad (.inl (of_decide_eq_true h2))
    subst this
    repeat (first | refine g_cnd TrydT_ok Tryd.func40 rfl (fun _ => ?_) (fun h => absurd h (by decide)) | refine g_cnd TrydT_ok Tryd.func40 rfl (fun h => absurd h (by decide)) (fun _ => ?_) | refine g_know TrydT_ok Tryd.func40 rfl (fun _ => ?_) (fun h => absurd h (by decide)) | refine g_know TrydT_ok Tryd.func40 rfl (fun h => absurd h (by decide)) (fun _ => ?_) | refine s_know TrydT_ok (fun _ => ?_) (fun h => absurd h (by decide)) | refine s_know TrydT_ok (fun h => absurd h (by decide)) (fun _ => ?_))
    refine g_ret TrydT_ok (r := ii 2) rfl rfl rfl trivial rfl rfl ?_
    rfl
  have h2 : ¬ m.locs < 1 := of_decide_eq_false h2
  first | refine g_cnd TrydT_ok Tryd.func40 rfl (fun h3 => ?_) (fun h3 => ?_) | refine g_know TrydT_ok Tryd.func40 rfl (fun h3 => ?_) (fun h3 => ?_) | refine s_know TrydT_ok (fun h3 => ?_) (fun h3 => ?_)
  · have := bad (.inr (.inl (of_decide_eq_true h3)))
    subst this
    repeat (first | refine g_cnd TrydT_ok Tryd.func40 rfl (fun _ => ?_) (fun h => absurd h (by decide)) | refine g_cnd TrydT_ok Tryd.func40 rfl (fun h => absurd h (by decide)) (fun _ => ?_) | refine g_know TrydT_ok Tryd.func40 rfl (fun _ => ?_) (fun h => absurd h (by decide)) | refine g_know TrydT_ok Tryd.func40 rfl (fun h => absurd h (by decide)) (fun _ => ?_) | refine s_know TrydT_ok (fun _ => ?_) (fun h => absurd h (by decide)) | refine s_know TrydT_ok (fun h => absurd h (by decide)) (fun _ => ?_))
    refine g_ret TrydT_ok (r := ii 2) rfl rfl rfl trivial rfl rfl ?_
    rfl
  have h3 : ¬ m.locs > 64 := of_decide_eq_false h3
  first | refine g_cnd TrydT_ok Tryd.func40 rfl (fun h4 => ?_) (fun h4 => ?_) | refine g_know TrydT_ok Tryd.func40 rfl (fun h4 => ?_) (fun h4 => ?_) | refine s_know TrydT_ok (fun h4 => ?_) (fun h4 => ?_)
  · have := bad (.inr (.inr (.inl (of_decide_eq_true h4))))
    subst this
    repeat (first | refine g_cnd TrydT_ok Tryd.func40 rfl (fun _ => ?_) (fun h => absurd h (by decide)) | refine g_cnd TrydT_ok Tryd.func40 rfl (fun h => absurd h (by decide)) (fun _ => ?_) | refine g_know TrydT_ok Tryd.func40 rfl (fun _ => ?_) (fun h => absurd h (by decide)) | refine g_know TrydT_ok Tryd.func40 rfl (fun h => absurd h (by decide)) (fun _ => ?_) | refine s_know TrydT_ok (fun _ => ?_) (fun h => absurd h (by decide)) | refine s_know TrydT_ok (fun h => absurd h (by decide)) (fun _ => ?_))
    refine g_ret TrydT_ok (r := ii 2) rfl rfl rfl trivial rfl rfl ?_
    rfl
  have h4 : ¬ m.init < 0 := of_decide_eq_false h4
  first | refine g_cnd TrydT_ok Tryd.func40 rfl (fun h5 => ?_) (fun h5 => ?_) | refine g_know TrydT_ok Tryd.func40 rfl (fun h5 => ?_) (fun h5 => ?_) | refine s_know TrydT_ok (fun h5 => ?_) (fun h5 => ?_)
  · have := bad (.inr (.inr (.inr (of_decide_eq_true h5))))
    subst this
    refine g_ret TrydT_ok (r := ii 2) rfl rfl rfl trivial rfl rfl ?_
    rfl
  have h5 : ¬ m.init ≥ m.locs := of_decide_eq_false h5
  rw [if_neg (by omega)] at hR
  first | refine g_call TrydT_ok Tryd.func40 (checkSet59 _ m.marked m.locs hma) rfl rfl rfl rfl rfl ?_ | refine s_call TrydT_ok (checkSet59 _ m.marked m.locs hma) rfl rfl rfl ?_
  first | refine g_cnd TrydT_ok Tryd.func40 rfl (fun h6 => ?_) (fun h6 => ?_) | refine g_know TrydT_ok Tryd.func40 rfl (fun h6 => ?_) (fun h6 => ?_) | refine s_know TrydT_ok (fun h6 => ?_) (fun h6 => ?_)
  · have h6 := bneT h6
    rw [if_pos h6] at hR
    subst hR
    refine g_ret TrydT_ok (r := ii _) rfl rfl rfl trivial rfl rfl ?_
    rfl
  have h6 := bneF h6
  rw [if_neg (by simpa using h6)] at hR
  first | refine g_call TrydT_ok Tryd.func40 (checkVars56' _ m.vars hok.va hok.na) rfl rfl rfl rfl rfl ?_ | refine s_call TrydT_ok (checkVars56' _ m.vars hok.va hok.na) rfl rfl rfl ?_
  first | refine g_cnd TrydT_ok Tryd.func40 rfl (fun h7 => ?_) (fun h7 => ?_) | refine g_know TrydT_ok Tryd.func40 rfl (fun h7 => ?_) (fun h7 => ?_) | refine s_know TrydT_ok (fun h7 => ?_) (fun h7 => ?_)
  · have h7 := bneT h7
    rw [if_pos h7] at hR
    subst hR
    refine g_ret TrydT_ok (r := ii _) rfl rfl rfl trivial rfl rfl ?_
    rfl
  have h7 := bneF h7
  rw [if_neg (by simpa using h7)] at hR
  first | refine g_cnd TrydT_ok Tryd.func40 rfl (fun h8 => ?_) (fun h8 => ?_) | refine g_know TrydT_ok Tryd.func40 rfl (fun h8 => ?_) (fun h8 => ?_) | refine s_know TrydT_ok (fun h8 => ?_) (fun h8 => ?_)
  · have h8 : m.moves.length > 256 := by have := of_decide_eq_true h8; omega
    rw [if_pos h8] at hR
    subst hR
    refine g_ret TrydT_ok (r := ii _) rfl rfl rfl trivial rfl rfl ?_
    rfl
  have h8 : ¬ m.moves.length > 256 := by have := of_decide_eq_false h8; omega
  rw [if_neg h8] at hR
  refine g_loop ?_
  refine rch_loop2 (fun j : Nat => [(1, .own 0 1 0 0), (54, ii m.moves.length), (55, ii j)]) (fun _ => [(1, .box (extC m))]) (fun _ => O) 65
    (fun j => j ≤ m.moves.length ∧ R = mvsErr m (prevL m.moves j) (m.moves.drop j)) (fun j => m.moves.length - j) 0 ⟨Nat.zero_le _, hR.symm⟩ ⟨rfl, rfl, rfl, trivial⟩ rfl ⟨rfl, trivial⟩ rfl rfl ?_
  rintro j ⟨hj, hno⟩ ih
  clear hR bad
  refine g_run TrydT_ok Tryd.func40 ?_
  first | refine g_cnd TrydT_ok Tryd.func40 rfl (fun h9 => ?_) (fun h9 => ?_) | refine g_know TrydT_ok Tryd.func40 rfl (fun h9 => ?_) (fun h9 => ?_) | refine s_know TrydT_ok (fun h9 => ?_) (fun h9 => ?_)
  · have h9 : j < m.moves.length := by simpa using h9
    have hd : m.moves.drop j = m.moves[j] :: m.moves.drop (j + 1) := List.drop_eq_getElem_cons h9
    have hpj1 : prevL m.moves (j + 1) = some m.moves[j] := by rw [prevL, if_neg (by omega)]; simp [h9]
    rw [hd] at hno
    simp only [mvsErr] at hno
    first | refine g_call TrydT_ok Tryd.func40 (checkMove61 _ m j h9 hs hok) rfl rfl rfl rfl rfl ?_ | refine s_call TrydT_ok (checkMove61 _ m j h9 hs hok) rfl rfl rfl ?_
    first | refine g_cnd TrydT_ok Tryd.func40 rfl (fun h10 => ?_) (fun h10 => ?_) | refine g_know TrydT_ok Tryd.func40 rfl (fun h10 => ?_) (fun h10 => ?_) | refine s_know TrydT_ok (fun h10 => ?_) (fun h10 => ?_)
    · have h10 := bneT h10
      rw [if_pos h10] at hno
      subst hno
      refine g_ret TrydT_ok (r := ii _) rfl rfl rfl trivial rfl rfl ?_
      rfl
    have h10 := bneF h10
    rw [if_neg (by simpa using h10)] at hno
    refine g_loop ?_
    refine ih (j + 1) _ _ ⟨h9, by rw [hpj1]; exact hno⟩ (by omega) ⟨rfl, rfl, congrArg ii (wsucc h9 hmo), trivial⟩ rfl ⟨rfl, trivial⟩ rfl rfl
  · have h9 : m.moves.length ≤ j := by simpa using h9
    rw [List.drop_eq_nil_of_le h9] at hno
    simp only [mvsErr] at hno
    subst hno
    refine g_ret TrydT_ok (r := ii 0) rfl rfl rfl trivial rfl rfl ?_
    rfl
end Go.AI

namespace Go.AI
open Go.Proofs
set_option maxRecDepth 20000
set_option maxHeartbeats 400000
def startR (m : Ext) : Sta := ⟨m.init, m.vars.map (·.init)⟩
theorem start48 (O : List Heap) (m : Ext) (hv : m.vars.length ≤ 16) : ASpec Tryd.prog 48 [extD m] O (staD (startR m)) [] O := by
  refine aspec_intro TrydT_ok Tryd.func48 rfl Tryd.call48 Tryd.ntmps48 (Nat.le_of_ble_eq_true rfl) fun E => ?_
  refine g_run TrydT_ok Tryd.func48 ?_
  refine g_loop ?_
  refine rch_wk (wk_nilbox2 3 21 3 1 (pre := [ii m.init]) (post := []) rfl rfl rfl) ?_
  refine rch_loop2 (fun i : Nat => [(2, .own 0 2 0 0), (3, .own 0 3 0 0), (10, vrs m.vars), (11, ii m.vars.length), (12, ii i)]) (fun i => [(3, .box [ii m.init, .osl 0 21]), (21, oints ((m.vars.take i).map (·.init))), (2, .box [ii 0, .i (.v (.slice none 0 0))])]) (fun _ => O) 25
    (fun i => i ≤ m.vars.length) (fun i => m.vars.length - i) 0 (Nat.zero_le _) ⟨rfl, rfl, rfl, rfl, rfl, trivial⟩ rfl ⟨rfl, rfl, rfl, trivial⟩ rfl rfl ?_
  rintro i hi ih
  refine g_run TrydT_ok Tryd.func48 ?_
  first | refine g_cnd TrydT_ok Tryd.func48 rfl (fun h1 => ?_) (fun h1 => ?_) | refine g_know TrydT_ok Tryd.func48 rfl (fun h1 => ?_) (fun h1 => ?_) | refine s_know TrydT_ok (fun h1 => ?_) (fun h1 => ?_)
  · have h1 : i < m.vars.length := by simpa using h1
    have hl : ((m.vars.take i).map (·.init)).length = i := by simp; omega
    have e : (m.vars.take (i + 1)).map (·.init) = (m.vars.take i).map (·.init) ++ [m.vars[i].init] := take_map_succ h1
    have hg : (m.vars.map vrI)[(i : Int).toNat]? = some (vrI m.vars[i]) := get_mapZ h1
    generalize m.vars[i] = v at e hg
    generalize (m.vars.take i).map (·.init) = l at *
    first | refine g_need TrydT_ok Tryd.func48 (by omega) ?_ | refine s_need TrydT_ok (by omega) ?_
    first | refine g_elem TrydT_ok Tryd.func48 (hg) ?_ | refine s_elem TrydT_ok (hg) ?_
    first | refine g_need TrydT_ok Tryd.func48 (by exact ⟨by show (l.length + 1) * 8 ≤ 140737488355328; omega, by show l.length + 1 ≤ 9223372036854775807; omega⟩) ?_ | refine s_need TrydT_ok (by exact ⟨by show (l.length + 1) * 8 ≤ 140737488355328; omega, by show l.length + 1 ≤ 9223372036854775807; omega⟩) ?_
    refine g_loop ?_
    refine ih (i + 1) _ _ h1 (by omega) ⟨rfl, rfl, rfl, rfl, congrArg ii (wsucc (n := 16) (by omega) (by decide)), trivial⟩ rfl ⟨rfl, by rw [e]; exact congrArg some (oints_app l v.init), rfl, trivial⟩ rfl rfl
  · have h1 : m.vars.length ≤ i := by simpa using h1
    rw [List.take_of_length_le h1]
    refine g_rwk (wk_freeze 21 rfl rfl) ?_
    refine g_rwk (wk_imm rfl) ?_
    refine g_ret TrydT_ok (r := staD (startR m)) rfl rfl rfl trivial rfl rfl ?_
    rfl
abbrev mvPtr (l : List Mv) : Option Nat → D
  | none => .i (.v (.pointer none))
  | some k => .i (.ptr 8 (l.map mvI) k 0)
/-- The move that is possible: its index. -/
def chs (s : Sta) (ev : Int) : List Mv → Nat → Option Nat → Bool → Option Nat × Int
  | [], _, out, two => if two then (none, 18) else (out, 0)
  | x :: r, i, out, two =>
    if x.frm ≠ s.loc ∨ x.ev ≠ ev then chs s ev r (i + 1) out two else
    if (evalX x.g s.vals).2 ≠ 0 then (none, 17) else
    if (evalX x.g s.vals).1 = 1 then chs s ev r (i + 1) (some i) (out.isSome || two) else chs s ev r (i + 1) out two
theorem choose66 (O : List Heap) (m : Ext) (s : Sta) (ev : Int) (hok : extOk m) (hl : s.vals.length ≤ max63) : ASpec Tryd.prog 66 [extD m, staD s, ii ev] O (.tup [mvPtr m.moves (chs s ev m.moves 0 none false).1, ii (chs s ev m.moves 0 none false).2]) [] O := by
  have hmo := hok.mo
  obtain ⟨sl, sv⟩ := s
  generalize hR : chs ⟨sl, sv⟩ ev m.moves 0 none false = R
  refine aspec_intro TrydT_ok Tryd.func66 rfl Tryd.call66 Tryd.ntmps66 (Nat.le_of_ble_eq_true rfl) fun E => ?_
  refine g_run TrydT_ok Tryd.func66 ?_
  refine g_loop ?_
  refine rch_loop2 (fun x : Nat × Option Nat × Bool => [(2, ii ev), (3, .own 0 3 0 0), (4, .own 0 4 0 0), (8, mvPtr m.moves x.2.1), (9, bb x.2.2), (16, ii m.moves.length), (17, ii x.1)]) (fun _ => [(4, .box [ii sl, ints sv]), (3, .box (extC m))]) (fun _ => O) 62
    (fun x => x.1 ≤ m.moves.length ∧ R = chs ⟨sl, sv⟩ ev (m.moves.drop x.1) x.1 x.2.1 x.2.2) (fun x => m.moves.length - x.1) (0, none, false) ⟨Nat.zero_le _, hR.symm⟩ ⟨rfl, rfl, rfl, rfl, rfl, rfl, rfl, trivial⟩ rfl ⟨rfl, rfl, trivial⟩ rfl rfl ?_
  rintro ⟨i, out, two⟩ ⟨hi, hno⟩ ih
  clear hR
  simp only at hi hno
  refine g_run TrydT_ok Tryd.func66 ?_
  first | refine g_cnd TrydT_ok Tryd.func66 rfl (fun h1 => ?_) (fun h1 => ?_) | refine g_know TrydT_ok Tryd.func66 rfl (fun h1 => ?_) (fun h1 => ?_) | refine s_know TrydT_ok (fun h1 => ?_) (fun h1 => ?_)
  · have h1 : i < m.moves.length := by simpa using h1
    have hd : m.moves.drop i = m.moves[i] :: m.moves.drop (i + 1) := List.drop_eq_getElem_cons h1
    have hg : (m.moves.map mvI)[(i : Int).toNat]? = some (mvI m.moves[i]) := get_mapZ h1
    have hx := (hok.mv _ (List.getElem_mem h1)).1
    generalize m.moves[i] = x at *
    obtain ⟨xf, xe, xt, xg, xu⟩ := x
    simp only at hx
    rw [hd] at hno
    simp only [chs] at hno
    have hev := evaluate51A
    first | refine g_need TrydT_ok Tryd.func66 (by omega) ?_ | refine s_need TrydT_ok (by omega) ?_
    refine g_drawn TrydT_ok Tryd.func66 mixedT rfl ?_
    first | refine g_elem TrydT_ok Tryd.func66 (hg) ?_ | refine s_elem TrydT_ok (hg) ?_
    first | refine g_cnd TrydT_ok Tryd.func66 rfl (fun h2 => ?_) (fun h2 => ?_) | refine g_know TrydT_ok Tryd.func66 rfl (fun h2 => ?_) (fun h2 => ?_) | refine s_know TrydT_ok (fun h2 => ?_) (fun h2 => ?_)
    · have h2 : xf ≠ sl := bneT h2
      rw [if_pos (.inl h2)] at hno
      refine e_done TrydT_ok Tryd.func66 (by kernel_rfl) ?_
      repeat (first | refine g_cnd TrydT_ok Tryd.func66 rfl (fun _ => ?_) (fun h => absurd h (by decide)) | refine g_cnd TrydT_ok Tryd.func66 rfl (fun h => absurd h (by decide)) (fun _ => ?_) | refine g_know TrydT_ok Tryd.func66 rfl (fun _ => ?_) (fun h => absurd h (by decide)) | refine g_know TrydT_ok Tryd.func66 rfl (fun h => absurd h (by decide)) (fun _ => ?_) | refine s_know TrydT_ok (fun _ => ?_) (fun h => absurd h (by decide)) | refine s_know TrydT_ok (fun h => absurd h (by decide)) (fun _ => ?_))
      refine g_loop ?_
      refine ih (i + 1, out, two) _ _ ⟨h1, hno⟩ (by simp only; omega) ⟨rfl, rfl, rfl, rfl, rfl, rfl, congrArg ii (wsucc h1 hmo), trivial⟩ rfl ⟨rfl, rfl, trivial⟩ (by cases out <;> rfl) rfl
    have h2 : xf = sl := bneF h2
    first | refine g_elem TrydT_ok Tryd.func66 (hg) ?_ | refine s_elem TrydT_ok (hg) ?_
    refine e_done TrydT_ok Tryd.func66 (by kernel_rfl) ?_
    first | refine g_cnd TrydT_ok Tryd.func66 rfl (fun h3 => ?_) (fun h3 => ?_) | refine g_know TrydT_ok Tryd.func66 rfl (fun h3 => ?_) (fun h3 => ?_) | refine s_know TrydT_ok (fun h3 => ?_) (fun h3 => ?_)
    · have h3 : xe ≠ ev := bneT h3
      rw [if_pos (.inr h3)] at hno
      refine g_loop ?_
      refine ih (i + 1, out, two) _ _ ⟨h1, hno⟩ (by simp only; omega) ⟨rfl, rfl, rfl, rfl, rfl, rfl, congrArg ii (wsucc h1 hmo), trivial⟩ rfl ⟨rfl, rfl, trivial⟩ (by cases out <;> rfl) rfl
    have h3 : xe = ev := bneF h3
    rw [if_neg (by simp [h2, h3])] at hno
    refine g_drawn TrydT_ok Tryd.func66 mixedT rfl ?_
    first | refine g_elem TrydT_ok Tryd.func66 (hg) ?_ | refine s_elem TrydT_ok (hg) ?_
    first | refine g_call TrydT_ok Tryd.func66 (evaluate51A _ xg sv hx hl) rfl rfl rfl rfl rfl ?_ | refine s_callq TrydT_ok (fun _ => evaluate51A _ xg sv hx hl) rfl rfl rfl ?_
    refine e_done TrydT_ok Tryd.func66 (by kernel_rfl) ?_
    first | refine g_cnd TrydT_ok Tryd.func66 rfl (fun h4 => ?_) (fun h4 => ?_) | refine g_know TrydT_ok Tryd.func66 rfl (fun h4 => ?_) (fun h4 => ?_) | refine s_know TrydT_ok (fun h4 => ?_) (fun h4 => ?_)
    · have h4 := bneT h4
      rw [if_pos h4] at hno
      subst hno
      refine g_ret TrydT_ok (r := .tup [.i (.v (.pointer none)), ii 17]) rfl rfl rfl trivial rfl rfl ?_
      rfl
    have h4 := bneF h4
    rw [if_neg (by simpa using h4)] at hno
    first | refine g_cnd TrydT_ok Tryd.func66 rfl (fun h5 => ?_) (fun h5 => ?_) | refine g_know TrydT_ok Tryd.func66 rfl (fun h5 => ?_) (fun h5 => ?_) | refine s_know TrydT_ok (fun h5 => ?_) (fun h5 => ?_)
    · have h5 := beqT h5
      rw [if_pos h5] at hno
      have hlt := h1
      cases out with
      | none =>
        repeat (first | refine g_cnd TrydT_ok Tryd.func66 rfl (fun _ => ?_) (fun h => absurd h (by decide)) | refine g_cnd TrydT_ok Tryd.func66 rfl (fun h => absurd h (by decide)) (fun _ => ?_) | refine g_know TrydT_ok Tryd.func66 rfl (fun _ => ?_) (fun h => absurd h (by decide)) | refine g_know TrydT_ok Tryd.func66 rfl (fun h => absurd h (by decide)) (fun _ => ?_) | refine s_know TrydT_ok (fun _ => ?_) (fun h => absurd h (by decide)) | refine s_know TrydT_ok (fun h => absurd h (by decide)) (fun _ => ?_))
        refine g_loop ?_
        refine ih (i + 1, some i, two) _ _ ⟨hlt, hno⟩ (by simp only; omega) ⟨rfl, rfl, rfl, rfl, rfl, rfl, congrArg ii (wsucc hlt hmo), trivial⟩ rfl ⟨rfl, rfl, trivial⟩ rfl rfl
      | some k =>
        repeat (first | refine g_cnd TrydT_ok Tryd.func66 rfl (fun _ => ?_) (fun h => absurd h (by decide)) | refine g_cnd TrydT_ok Tryd.func66 rfl (fun h => absurd h (by decide)) (fun _ => ?_) | refine g_know TrydT_ok Tryd.func66 rfl (fun _ => ?_) (fun h => absurd h (by decide)) | refine g_know TrydT_ok Tryd.func66 rfl (fun h => absurd h (by decide)) (fun _ => ?_) | refine s_know TrydT_ok (fun _ => ?_) (fun h => absurd h (by decide)) | refine s_know TrydT_ok (fun h => absurd h (by decide)) (fun _ => ?_))
        refine g_loop ?_
        refine ih (i + 1, some i, true) _ _ ⟨hlt, hno⟩ (by simp only; omega) ⟨rfl, rfl, rfl, rfl, rfl, rfl, congrArg ii (wsucc hlt hmo), trivial⟩ rfl ⟨rfl, rfl, trivial⟩ rfl rfl
    · have h5 := beqF h5
      rw [if_neg h5] at hno
      refine g_loop ?_
      refine ih (i + 1, out, two) _ _ ⟨h1, hno⟩ (by simp only; omega) ⟨rfl, rfl, rfl, rfl, rfl, rfl, congrArg ii (wsucc h1 hmo), trivial⟩ rfl ⟨rfl, rfl, trivial⟩ (by cases out <;> rfl) rfl
  · have h1 : m.moves.length ≤ i := by simpa using h1
    rw [List.drop_eq_nil_of_le h1] at hno
    simp only [chs] at hno
    first | refine g_cnd TrydT_ok Tryd.func66 rfl (fun h2 => ?_) (fun h2 => ?_) | refine g_know TrydT_ok Tryd.func66 rfl (fun h2 => ?_) (fun h2 => ?_) | refine s_know TrydT_ok (fun h2 => ?_) (fun h2 => ?_)
    · rw [if_pos h2] at hno
      subst hno
      refine g_ret TrydT_ok (r := .tup [.i (.v (.pointer none)), ii 18]) rfl rfl rfl trivial rfl rfl ?_
      rfl
    · have h2 : two = false := h2
      rw [if_neg (by rw [h2]; simp)] at hno
      subst hno
      cases out with
      | none =>
        refine g_ret TrydT_ok (r := .tup [.i (.v (.pointer none)), ii 0]) rfl rfl rfl trivial rfl rfl ?_
        rfl
      | some k =>
        refine g_ret TrydT_ok (r := .tup [.i (.ptr 8 (m.moves.map mvI) k 0), ii 0]) rfl rfl rfl trivial rfl rfl ?_
        rfl
end Go.AI

namespace Go.AI
open Go.Proofs
set_option maxRecDepth 20000
theorem chs_lt {s : Sta} {ev : Int} : ∀ {l : List Mv} {i : Nat} {out : Option Nat} {two : Bool} {k : Nat}, (∀ k, out = some k → k < i) → (chs s ev l i out two).1 = some k → k < i + l.length
  | [], i, out, two, k, ho, h => by
    simp only [chs] at h
    split at h
    · cases h
    · exact ho k h
  | x :: r, i, out, two, k, ho, h => by
    simp only [chs] at h
    have h1 : (∀ k, out = some k → k < i + 1) := fun k hk => by have := ho k hk; omega
    split at h
    · have := chs_lt h1 h; simp only [List.length_cons]; omega
    · split at h
      · cases h
      · split at h
        · have := chs_lt (out := some i) (fun k hk => by simp at hk; omega) h; simp only [List.length_cons]; omega
        · have := chs_lt h1 h; simp only [List.length_cons]; omega
theorem updErr_range {n : Int} : ∀ {l : List Upd} {p : Option Int}, updErr n p l = 0 → ∀ u ∈ l, 0 ≤ u.v ∧ u.v < n ∧ typedX u.x n 1 = 0
  | [], _, _, u, hu => by simp at hu
  | x :: r, p, h, u, hu => by
    simp only [updErr] at h
    by_cases h1 : x.v < 0 ∨ x.v ≥ n
    · rw [if_pos h1] at h; cases h
    rw [if_neg h1] at h
    by_cases h2 : p.any (x.v ≤ ·) = true
    · rw [if_pos h2] at h; cases h
    rw [if_neg h2] at h
    by_cases h3 : typedX x.x n 1 ≠ 0
    · rw [if_pos h3] at h; exact absurd h h3
    rw [if_neg h3] at h
    rcases List.mem_cons.1 hu with rfl | hu
    · exact ⟨by omega, by omega, by simpa using h3⟩
    · exact updErr_range h u hu
/-- What a right move is. -/
structure mvRight (m : Ext) (x : Mv) : Prop where
  frm : 0 ≤ x.frm ∧ x.frm < m.locs
  to : 0 ≤ x.to ∧ x.to < m.locs
  ev : x.ev ∈ m.alpha
  g : typedX x.g m.vars.length 2 = 0
  us : updErr m.vars.length none x.us = 0
theorem mvErr_right {m : Ext} {p : Option Mv} {x : Mv} (h : mvErr m p x = 0) : mvRight m x := by
  unfold mvErr at h
  by_cases h1 : x.frm < 0 ∨ x.frm ≥ m.locs ∨ x.to < 0 ∨ x.to ≥ m.locs
  · rw [if_pos h1] at h; cases h
  rw [if_neg h1] at h
  by_cases h2 : x.ev ∉ m.alpha
  · rw [if_pos h2] at h; cases h
  rw [if_neg h2] at h
  by_cases h3 : p.any (fun p => decide (x.frm < p.frm ∨ (x.frm = p.frm ∧ x.ev < p.ev))) = true
  · rw [if_pos h3] at h; cases h
  rw [if_neg h3] at h
  by_cases h4 : typedX x.g m.vars.length 2 ≠ 0
  · rw [if_pos h4] at h; exact absurd h h4
  rw [if_neg h4] at h
  exact ⟨by omega, by omega, by simpa using h2, by simpa using h4, h⟩
theorem mvsErr_right {m : Ext} : ∀ {l : List Mv} {p : Option Mv}, mvsErr m p l = 0 → ∀ x ∈ l, mvRight m x
  | [], _, _, x, hx => by simp at hx
  | y :: r, p, h, x, hx => by
    simp only [mvsErr] at h
    by_cases h1 : mvErr m p y ≠ 0
    · rw [if_pos h1] at h; exact absurd h h1
    rw [if_neg h1] at h
    rcases List.mem_cons.1 hx with rfl | hx
    · exact mvErr_right (by simpa using h1)
    · exact mvsErr_right h x hx
/-- What a right automaton is. -/
structure extRight (m : Ext) : Prop where
  alpha : checkSet 32 m.alpha none = 0
  locs : 1 ≤ m.locs ∧ m.locs ≤ 64
  init : 0 ≤ m.init ∧ m.init < m.locs
  marked : checkSet m.locs m.marked none = 0
  vars : varsErr m.vars = 0
  len : m.moves.length ≤ 256
  mv : ∀ x ∈ m.moves, mvRight m x
theorem chk_right {m : Ext} (h : chk m = 0) : extRight m := by
  unfold chk at h
  by_cases h1 : checkSet 32 m.alpha none ≠ 0
  · rw [if_pos h1] at h; exact absurd h h1
  rw [if_neg h1] at h
  by_cases h2 : m.locs < 1 ∨ m.locs > 64 ∨ m.init < 0 ∨ m.init ≥ m.locs
  · rw [if_pos h2] at h; cases h
  rw [if_neg h2] at h
  by_cases h3 : checkSet m.locs m.marked none ≠ 0
  · rw [if_pos h3] at h; exact absurd h h3
  rw [if_neg h3] at h
  by_cases h4 : varsErr m.vars ≠ 0
  · rw [if_pos h4] at h; exact absurd h h4
  rw [if_neg h4] at h
  by_cases h5 : m.moves.length > 256
  · rw [if_pos h5] at h; cases h
  rw [if_neg h5] at h
  exact ⟨by simpa using h1, by omega, by omega, by simpa using h3, by simpa using h4, by omega, mvsErr_right h⟩
theorem vars_len {l : List Vr} (h : varsErr l = 0) : l.length ≤ 16 := by
  unfold varsErr at h
  by_cases h1 : l.length > 16
  · rw [if_pos h1] at h; cases h
  · omega
/-- The values behind assignments. -/
def updR (m : Ext) (vals : List Int) : List Upd → List Int → Option (List Int)
  | [], acc => some acc
  | u :: r, acc => match m.vars[u.v.toNat]? with
    | none => none
    | some v => if (evalX u.x vals).2 ≠ 0 ∨ (evalX u.x vals).1 < v.low ∨ (evalX u.x vals).1 > v.high then none else updR m vals r (acc.set u.v.toNat (evalX u.x vals).1)
def zeroS : Sta := ⟨0, []⟩
def stepR (m : Ext) (s : Sta) (ev : Int) : Sta × Bool × Int :=
  match (chs s ev m.moves 0 none false).1 with
  | none => (zeroS, false, (chs s ev m.moves 0 none false).2)
  | some k => if (chs s ev m.moves 0 none false).2 ≠ 0 then (zeroS, false, (chs s ev m.moves 0 none false).2) else match m.moves[k]? with
    | none => (zeroS, false, 0)
    | some x => match updR m s.vals x.us s.vals with
      | none => (zeroS, false, 17)
      | some acc => (⟨x.to, acc⟩, true, 0)
theorem coZ {b : Bool} {e : Int} : CoD (.tup [.agg [ii 0, .i (.v (.slice none 0 0))], bb b, ii e]) (.tup [staD zeroS, bb b, ii e]) :=
  coD_tup (.cons (coD_agg (.cons (.refl _) (.cons (coD_i coI_nil) .nil))) (CoDL.refl _))
theorem step50 (O : List Heap) (m : Ext) (s : Sta) (ev : Int) (hok : extOk m) (hr : extRight m) (hl : s.vals.length = m.vars.length) : ASpec Tryd.prog 50 [extD m, staD s, ii ev] O (.tup [staD (stepR m s ev).1, bb (stepR m s ev).2.1, ii (stepR m s ev).2.2]) [] O := by
  have hv16 := vars_len hr.vars
  have hlm : s.vals.length ≤ max63 := by simp only [max63]; omega
  have hch := fun O => choose66 O m s ev hok hlm
  have hlt := @chs_lt s ev m.moves 0 none false
  generalize hR : stepR m s ev = R
  unfold stepR at hR
  generalize chs s ev m.moves 0 none false = C at *
  obtain ⟨out, e⟩ := C
  simp only at hR hch hlt
  obtain ⟨sl, sv⟩ := s
  simp only at hl hR hlm
  cases out with
  | none =>
    simp only at hR
    subst hR
    refine aspec_intro TrydT_ok Tryd.func50 rfl Tryd.call50 Tryd.ntmps50 (Nat.le_of_ble_eq_true rfl) fun E => ?_
    refine g_run TrydT_ok Tryd.func50 ?_
    first | refine g_call TrydT_ok Tryd.func50 (hch _) rfl rfl rfl rfl rfl ?_ | refine s_callq TrydT_ok (fun _ => hch _) rfl rfl rfl ?_
    first | refine g_cnd TrydT_ok Tryd.func50 rfl (fun h1 => ?_) (fun h1 => ?_) | refine g_know TrydT_ok Tryd.func50 rfl (fun h1 => ?_) (fun h1 => ?_) | refine s_know TrydT_ok (fun h1 => ?_) (fun h1 => ?_)
    · repeat (first | refine g_cnd TrydT_ok Tryd.func50 rfl (fun _ => ?_) (fun h => absurd h (by decide)) | refine g_cnd TrydT_ok Tryd.func50 rfl (fun h => absurd h (by decide)) (fun _ => ?_) | refine g_know TrydT_ok Tryd.func50 rfl (fun _ => ?_) (fun h => absurd h (by decide)) | refine g_know TrydT_ok Tryd.func50 rfl (fun h => absurd h (by decide)) (fun _ => ?_) | refine s_know TrydT_ok (fun _ => ?_) (fun h => absurd h (by decide)) | refine s_know TrydT_ok (fun h => absurd h (by decide)) (fun _ => ?_))
      refine g_ret_co TrydT_ok (r := .tup [.agg [ii 0, .i (.v (.slice none 0 0))], bb false, ii e]) rfl rfl rfl trivial rfl rfl ?_
      exact coZ
    · repeat (first | refine g_cnd TrydT_ok Tryd.func50 rfl (fun _ => ?_) (fun h => absurd h (by decide)) | refine g_cnd TrydT_ok Tryd.func50 rfl (fun h => absurd h (by decide)) (fun _ => ?_) | refine g_know TrydT_ok Tryd.func50 rfl (fun _ => ?_) (fun h => absurd h (by decide)) | refine g_know TrydT_ok Tryd.func50 rfl (fun h => absurd h (by decide)) (fun _ => ?_) | refine s_know TrydT_ok (fun _ => ?_) (fun h => absurd h (by decide)) | refine s_know TrydT_ok (fun h => absurd h (by decide)) (fun _ => ?_))
      refine g_ret_co TrydT_ok (r := .tup [.agg [ii 0, .i (.v (.slice none 0 0))], bb false, ii e]) rfl rfl rfl trivial rfl rfl ?_
      exact coZ
  | some k =>
    refine aspec_intro TrydT_ok Tryd.func50 rfl Tryd.call50 Tryd.ntmps50 (Nat.le_of_ble_eq_true rfl) fun E => ?_
    refine g_run TrydT_ok Tryd.func50 ?_
    first | refine g_call TrydT_ok Tryd.func50 (hch _) rfl rfl rfl rfl rfl ?_ | refine s_callq TrydT_ok (fun _ => hch _) rfl rfl rfl ?_
    first | refine g_cnd TrydT_ok Tryd.func50 rfl (fun h1 => ?_) (fun h1 => ?_) | refine g_know TrydT_ok Tryd.func50 rfl (fun h1 => ?_) (fun h1 => ?_) | refine s_know TrydT_ok (fun h1 => ?_) (fun h1 => ?_)
    · have h1 := bneT h1
      simp only at hR
      rw [if_pos h1] at hR
      subst hR
      repeat (first | refine g_cnd TrydT_ok Tryd.func50 rfl (fun _ => ?_) (fun h => absurd h (by decide)) | refine g_cnd TrydT_ok Tryd.func50 rfl (fun h => absurd h (by decide)) (fun _ => ?_) | refine g_know TrydT_ok Tryd.func50 rfl (fun _ => ?_) (fun h => absurd h (by decide)) | refine g_know TrydT_ok Tryd.func50 rfl (fun h => absurd h (by decide)) (fun _ => ?_) | refine s_know TrydT_ok (fun _ => ?_) (fun h => absurd h (by decide)) | refine s_know TrydT_ok (fun h => absurd h (by decide)) (fun _ => ?_))
      refine g_ret_co TrydT_ok (r := .tup [.agg [ii 0, .i (.v (.slice none 0 0))], bb false, ii e]) rfl rfl rfl trivial rfl rfl ?_
      exact coZ
    have h1 := bneF h1
    have hk : k < m.moves.length := by have := hlt (k := k) (by simp) rfl; omega
    have hg : (m.moves.map mvI)[k]? = some (mvI m.moves[k]) := by simp [hk]
    have hx := hok.mv _ (List.getElem_mem hk)
    have hxr := hr.mv _ (List.getElem_mem hk)
    simp only at hR
    rw [if_neg (by simpa using h1), List.getElem?_eq_getElem hk] at hR
    simp only at hR
    generalize m.moves[k] = x at *
    obtain ⟨xf, xe, xt, xg, xu⟩ := x
    obtain ⟨-, hx2, hx3⟩ := hx
    simp only at hx2 hx3 hR
    have hur := updErr_range hxr.us
    simp only at hur
    clear hxr hch hlt
    repeat (first | refine g_cnd TrydT_ok Tryd.func50 rfl (fun _ => ?_) (fun h => absurd h (by decide)) | refine g_cnd TrydT_ok Tryd.func50 rfl (fun h => absurd h (by decide)) (fun _ => ?_) | refine g_know TrydT_ok Tryd.func50 rfl (fun _ => ?_) (fun h => absurd h (by decide)) | refine g_know TrydT_ok Tryd.func50 rfl (fun h => absurd h (by decide)) (fun _ => ?_) | refine s_know TrydT_ok (fun _ => ?_) (fun h => absurd h (by decide)) | refine s_know TrydT_ok (fun h => absurd h (by decide)) (fun _ => ?_))
    refine g_drawn TrydT_ok Tryd.func50 mixedT rfl ?_
    first | refine g_elem TrydT_ok Tryd.func50 (hg) ?_ | refine s_elem TrydT_ok (hg) ?_
    first | refine g_call TrydT_ok Tryd.func50 (clone57 38 _ sv (by simp only [big]; omega)) rfl rfl rfl rfl rfl ?_ | refine s_callq TrydT_ok (fun _ => clone57 38 _ sv (by simp only [big]; omega)) rfl rfl rfl ?_
    refine s_old TrydT_ok ?_
    refine d_mod TrydT_ok (p := ⟨[], [(11, .box [ii xt, .osl 0 38])], none⟩) rfl rfl rfl ?_
    refine d_done TrydT_ok Tryd.func50 (by kernel_rfl) (GM.h ?_)
    first | refine g_elem TrydT_ok Tryd.func50 (hg) ?_ | refine s_elem TrydT_ok (hg) ?_
    refine g_loop ?_
    refine rch_loop2 (fun x : Nat × List Int => [(3, .own 0 3 0 0), (4, .own 0 4 0 0), (6, .own 0 6 0 0), (11, .own 0 11 0 0), (43, upds xu), (44, ii xu.length), (45, ii x.1)]) (fun x => [(11, .box [ii xt, .osl 0 38]), (38, oints x.2), (6, .box [ii 0, .i (.v (.slice none 0 0))]), (4, .box [ii sl, ints sv]), (3, .box (extC m))]) (fun _ => O) 86
      (fun x => x.1 ≤ xu.length ∧ x.2.length = m.vars.length ∧ (match updR m sv (xu.drop x.1) x.2 with | none => (zeroS, false, 17) | some acc => (⟨xt, acc⟩, true, 0)) = R) (fun x => xu.length - x.1) (0, sv) ⟨Nat.zero_le _, hl, hR⟩ ⟨rfl, rfl, rfl, rfl, rfl, rfl, rfl, trivial⟩ rfl ⟨rfl, rfl, rfl, rfl, rfl, trivial⟩ rfl rfl ?_
    rintro ⟨i, acc⟩ ⟨hi, hacc, hno⟩ ih
    clear hR
    simp only at hi hacc hno
    refine g_run TrydT_ok Tryd.func50 ?_
    first | refine g_cnd TrydT_ok Tryd.func50 rfl (fun h2 => ?_) (fun h2 => ?_) | refine g_know TrydT_ok Tryd.func50 rfl (fun h2 => ?_) (fun h2 => ?_) | refine s_know TrydT_ok (fun h2 => ?_) (fun h2 => ?_)
    · have h2 : i < xu.length := by simpa using h2
      have hd : xu.drop i = xu[i] :: xu.drop (i + 1) := List.drop_eq_getElem_cons h2
      have hgu : (xu.map updI)[(i : Int).toNat]? = some (updI xu[i]) := get_mapZ h2
      have hm := List.getElem_mem h2
      generalize xu[i] = u at *
      have hux := hx3 u hm
      have hur := hur u hm
      obtain ⟨uv, ux⟩ := u
      simp only at hux hur
      obtain ⟨hu0, hu1, -⟩ := hur
      have huv : uv.toNat < m.vars.length := by omega
      have hgv : (m.vars.map vrI)[uv.toNat]? = some (vrI m.vars[uv.toNat]) := by simp [huv]
      rw [hd] at hno
      simp only [updR] at hno
      rw [List.getElem?_eq_getElem huv] at hno
      simp only at hno
      generalize m.vars[uv.toNat] = v at *
      obtain ⟨vn, vl, vh, vi'⟩ := v
      simp only at hno
      have bad : ((evalX ux sv).2 ≠ 0 ∨ (evalX ux sv).1 < vl ∨ (evalX ux sv).1 > vh) → R = (zeroS, false, 17) := fun h => by rw [← hno, if_pos h]
      have good : ¬ ((evalX ux sv).2 ≠ 0 ∨ (evalX ux sv).1 < vl ∨ (evalX ux sv).1 > vh) → (match updR m sv (xu.drop (i + 1)) (acc.set uv.toNat (evalX ux sv).1) with | none => (zeroS, false, 17) | some acc => (⟨xt, acc⟩, true, 0)) = R := fun h => by rw [← hno, if_neg h]
      clear hno
      first | refine g_need TrydT_ok Tryd.func50 (by omega) ?_ | refine s_need TrydT_ok (by omega) ?_
      first | refine g_elem TrydT_ok Tryd.func50 (hgu) ?_ | refine s_elem TrydT_ok (hgu) ?_
      first | refine g_call TrydT_ok Tryd.func50 (evaluate51A _ ux sv hux hlm) rfl rfl rfl rfl rfl ?_ | refine s_callq TrydT_ok (fun _ => evaluate51A _ ux sv hux hlm) rfl rfl rfl ?_
      generalize evalX ux sv = V at *
      obtain ⟨w, we⟩ := V
      simp only at bad good
      first | refine g_need TrydT_ok Tryd.func50 (by exact ⟨hu0, hu1⟩) ?_ | refine s_need TrydT_ok (by exact ⟨hu0, hu1⟩) ?_
      first | refine g_elem TrydT_ok Tryd.func50 (hgv) ?_ | refine s_elem TrydT_ok (hgv) ?_
      first | refine g_cnd TrydT_ok Tryd.func50 rfl (fun h3 => ?_) (fun h3 => ?_) | refine g_know TrydT_ok Tryd.func50 rfl (fun h3 => ?_) (fun h3 => ?_) | refine s_know TrydT_ok (fun h3 => ?_) (fun h3 => ?_)
      · have := bad (.inl (bneT h3))
        subst this
        repeat (first | refine g_cnd TrydT_ok Tryd.func50 rfl (fun _ => ?_) (fun h => absurd h (by decide)) | refine g_cnd TrydT_ok Tryd.func50 rfl (fun h => absurd h (by decide)) (fun _ => ?_) | refine g_know TrydT_ok Tryd.func50 rfl (fun _ => ?_) (fun h => absurd h (by decide)) | refine g_know TrydT_ok Tryd.func50 rfl (fun h => absurd h (by decide)) (fun _ => ?_) | refine s_know TrydT_ok (fun _ => ?_) (fun h => absurd h (by decide)) | refine s_know TrydT_ok (fun h => absurd h (by decide)) (fun _ => ?_))
        refine g_ret_co TrydT_ok (r := .tup [.agg [ii 0, .i (.v (.slice none 0 0))], bb false, ii 17]) rfl rfl rfl trivial rfl rfl ?_
        exact coZ
      have h3 := bneF h3
      first | refine g_cnd TrydT_ok Tryd.func50 rfl (fun h4 => ?_) (fun h4 => ?_) | refine g_know TrydT_ok Tryd.func50 rfl (fun h4 => ?_) (fun h4 => ?_) | refine s_know TrydT_ok (fun h4 => ?_) (fun h4 => ?_)
      · have := bad (.inr (.inl (of_decide_eq_true h4)))
        subst this
        repeat (first | refine g_cnd TrydT_ok Tryd.func50 rfl (fun _ => ?_) (fun h => absurd h (by decide)) | refine g_cnd TrydT_ok Tryd.func50 rfl (fun h => absurd h (by decide)) (fun _ => ?_) | refine g_know TrydT_ok Tryd.func50 rfl (fun _ => ?_) (fun h => absurd h (by decide)) | refine g_know TrydT_ok Tryd.func50 rfl (fun h => absurd h (by decide)) (fun _ => ?_) | refine s_know TrydT_ok (fun _ => ?_) (fun h => absurd h (by decide)) | refine s_know TrydT_ok (fun h => absurd h (by decide)) (fun _ => ?_))
        refine g_ret_co TrydT_ok (r := .tup [.agg [ii 0, .i (.v (.slice none 0 0))], bb false, ii 17]) rfl rfl rfl trivial rfl rfl ?_
        exact coZ
      have h4 : ¬ w < vl := of_decide_eq_false h4
      first | refine g_cnd TrydT_ok Tryd.func50 rfl (fun h5 => ?_) (fun h5 => ?_) | refine g_know TrydT_ok Tryd.func50 rfl (fun h5 => ?_) (fun h5 => ?_) | refine s_know TrydT_ok (fun h5 => ?_) (fun h5 => ?_)
      · have := bad (.inr (.inr (of_decide_eq_true h5)))
        subst this
        refine g_ret_co TrydT_ok (r := .tup [.agg [ii 0, .i (.v (.slice none 0 0))], bb false, ii 17]) rfl rfl rfl trivial rfl rfl ?_
        exact coZ
      have h5 : ¬ w > vh := of_decide_eq_false h5
      have good := good (by omega)
      first | refine g_need TrydT_ok Tryd.func50 (by exact ⟨hu0, by rw [hacc]; exact hu1⟩) ?_ | refine s_need TrydT_ok (by exact ⟨hu0, by rw [hacc]; exact hu1⟩) ?_
      refine g_loop ?_
      refine ih (i + 1, acc.set uv.toNat w) _ _ ⟨h2, by simp only [List.length_set]; exact hacc, good⟩ (by simp only; omega) ⟨rfl, rfl, rfl, rfl, rfl, rfl, congrArg ii (wsucc h2 hx2), trivial⟩ rfl ⟨rfl, ?_, rfl, rfl, rfl, trivial⟩ rfl rfl
      show some (Ob.arr 3 1 acc.length ((acc.map fun x => [vi x]).set uv.toNat [vi w]) true) = _
      simp [List.map_set]
    · have h2 : xu.length ≤ i := by simpa using h2
      rw [List.drop_eq_nil_of_le h2] at hno
      simp only [updR] at hno
      subst hno
      refine g_rwk (wk_freeze 38 rfl rfl) ?_
      refine g_rwk (wk_imm rfl) ?_
      refine g_ret TrydT_ok (r := .tup [.agg [ii xt, ints acc], bb true, ii 0]) rfl rfl rfl trivial rfl rfl ?_
      rfl
end Go.AI

namespace Go.AI
open Go.Proofs
set_option maxRecDepth 20000
/-- The text of a number. -/
def itoaB (n : Int) : ByteArray := ⟨(Lib.itoa n).toArray⟩
/-- The table that the library keeps. -/
def ptab (ty : TypeId) (fr : Nat × Nat) : Obj := .cells (Lib.pow10Tab.map fun z => Value.int .u64 z).toArray ty fr
theorem tabIs_of {name : String} {g : Nat} {ty : TypeId} {fr : Nat × Nat} {w : World} (hg : Tryd.prog.globalNamed name = some g) (h : w.heap[g]? = some (ptab ty fr)) : Lib.TabIs Tryd.prog w name .u64 Lib.pow10Tab := by
  simp only [Lib.TabIs, World.var?, hg, Option.bind_some, h, ptab]
/-- Which block it is. -/
def IsTab (g : Nat) : Prop := ∀ ty fr w, w.heap[g]? = some (ptab ty fr) → Lib.TabIs Tryd.prog w "internal/strconv.uint64pow10" .u64 Lib.pow10Tab
theorem itoa79 {g : Nat} (hg : IsTab g) {ty : TypeId} {fr : Nat × Nat} (O : List Heap) (n : Int) (h0 : -9223372036854775808 ≤ n) (h1 : n ≤ 9223372036854775807) : ASpecT g (ptab ty fr) Tryd.prog 79 [ii n] O (.i (.v (.string (itoaB n)))) [] O := by
  intro E K ρ w vs hw htab hrep
  obtain rfl : vs = [.int .i64 n] := by
    cases hrep with
    | cons r rs => cases rs; rw [inv_v r]
  refine .inl ⟨Tryd.call79 _ _, ?_⟩
  refine (Tryd.strconv_Itoa n h0 h1 w (hg ty fr w htab.1)).mono ?_
  rintro e w' ⟨rfl, k, os, rfl⟩
  obtain ⟨ρ1, hρ1, hI⟩ := hinv_enter hw
  obtain ⟨hI2, hst⟩ := HInv.grow (S := [] :: O) rfl hI (fun _ _ _ e => e) (fun _ h => by simp [look] at h) (grow_more hI k os)
  exact ⟨_, rfl, K, ρ1, hI2, .i (.v rfl)⟩
end Go.AI

namespace Go.AI
open Go.Proofs
set_option maxRecDepth 20000
theorem decDigits_len : ∀ (k u : Nat), u < 10 ^ (k + 1) → (Lib.decDigits u).length ≤ k + 1
  | 0, u, h => by
    unfold Lib.decDigits
    rw [dif_pos (by omega)]
    simp
  | k + 1, u, h => by
    unfold Lib.decDigits
    split
    · simp
    · rw [List.length_append]
      have := decDigits_len k (u / 10) (by rw [Nat.pow_succ] at h; omega)
      simp only [List.length_cons, List.length_nil]
      omega
theorem itoaB_size {n : Int} (h0 : -9223372036854775808 ≤ n) (h1 : n ≤ 9223372036854775807) : (itoaB n).size ≤ 21 := by
  show (Lib.itoa n).toArray.size ≤ 21
  simp only [List.size_toArray]
  unfold Lib.itoa
  split
  · have := decDigits_len 19 n.natAbs (by omega)
    simp only [List.length_cons]
    omega
  · have := decDigits_len 19 n.toNat (by omega)
    omega
def spaceB : ByteArray := ⟨#[32]⟩
/-- The text of a state. -/
def keyS (loc : Int) (vals : List Int) : ByteArray := vals.foldl (fun b n => b ++ (spaceB ++ itoaB n)) (itoaB loc)
abbrev i64B (n : Int) : Prop := -9223372036854775808 ≤ n ∧ n ≤ 9223372036854775807
theorem key63 {g : Nat} (hg : IsTab g) {ty : TypeId} {fr : Nat × Nat} (O : List Heap) (s : Sta) (hl : i64B s.loc) (hv : ∀ v ∈ s.vals, i64B v) (hn : s.vals.length ≤ 16) : ASpecT g (ptab ty fr) Tryd.prog 63 [staD s] O (.i (.v (.string (keyS s.loc s.vals)))) [] O := by
  obtain ⟨loc, vals⟩ := s
  simp only at hl hv hn
  refine aspecT_stop [] TrydT_ok Tryd.func63 rfl Tryd.call63 Tryd.ntmps63 (Nat.le_of_ble_eq_true rfl) fun E hE => ?_
  refine g_run TrydT_ok Tryd.func63 ?_
  refine g_callT TrydT_ok Tryd.func63 hE (itoa79 hg _ loc hl.1 hl.2) rfl rfl rfl rfl rfl rfl ?_
  refine g_loop ?_
  have hsz := itoaB_size hl.1 hl.2
  refine rch_loop2 (fun x : Nat × ByteArray => [(3, .i (.v (.string x.2))), (10, ints vals), (11, ii vals.length), (12, ii x.1)]) (fun _ => []) (fun _ => O) 23
    (fun x => x.1 ≤ vals.length ∧ x.2.size ≤ 22 * (x.1 + 1) ∧ keyS loc vals = (vals.drop x.1).foldl (fun b n => b ++ (spaceB ++ itoaB n)) x.2) (fun x => vals.length - x.1) (0, itoaB loc) ⟨Nat.zero_le _, by simp only; omega, rfl⟩ ⟨rfl, rfl, rfl, rfl, trivial⟩ rfl trivial rfl rfl ?_
  rintro ⟨i, b⟩ ⟨hi, hb, hno⟩ ih
  simp only at hi hb hno
  refine g_run TrydT_ok Tryd.func63 ?_
  first | refine g_cnd TrydT_ok Tryd.func63 rfl (fun h1 => ?_) (fun h1 => ?_) | refine g_know TrydT_ok Tryd.func63 rfl (fun h1 => ?_) (fun h1 => ?_) | refine s_know TrydT_ok (fun h1 => ?_) (fun h1 => ?_)
  · have h1 : i < vals.length := by simpa using h1
    have hd : vals.drop i = vals[i] :: vals.drop (i + 1) := List.drop_eq_getElem_cons h1
    have hm := hv _ (List.getElem_mem h1)
    have hgi : (vals.map fun x => [vi x])[(i : Int).toNat]? = some [vi vals[i]] := get_mapZ (f := fun x => [vi x]) h1
    generalize vals[i] = n at hd hm hgi
    have hs2 := itoaB_size hm.1 hm.2
    have hs3 : (spaceB ++ itoaB n).size = 1 + (itoaB n).size := ByteArray.size_append
    first | refine g_need TrydT_ok Tryd.func63 (by omega) ?_ | refine s_need TrydT_ok (by omega) ?_
    first | refine g_elem TrydT_ok Tryd.func63 (hgi) ?_ | refine s_elem TrydT_ok (hgi) ?_
    refine g_callT TrydT_ok Tryd.func63 hE (itoa79 hg _ n hm.1 hm.2) rfl rfl rfl rfl rfl rfl ?_
    first | refine g_need TrydT_ok Tryd.func63 (by show 1 + (itoaB n).size ≤ _; omega) ?_ | refine s_need TrydT_ok (by show 1 + (itoaB n).size ≤ _; omega) ?_
    first | refine g_need TrydT_ok Tryd.func63 (by show b.size + (spaceB ++ itoaB n).size ≤ _; omega) ?_ | refine s_need TrydT_ok (by show b.size + (spaceB ++ itoaB n).size ≤ _; omega) ?_
    refine g_loop ?_
    refine ih (i + 1, b ++ (spaceB ++ itoaB n)) _ _ ⟨h1, ?_, ?_⟩ (by simp only; omega) ⟨rfl, rfl, rfl, congrArg ii (wsucc (n := 16) (by omega) (by decide)), trivial⟩ rfl trivial rfl rfl
    · show (b ++ (spaceB ++ itoaB n)).size ≤ 22 * (i + 1 + 1)
      rw [ByteArray.size_append]
      omega
    · rw [hno, hd]
      rfl
  · have h1 : vals.length ≤ i := by simpa using h1
    rw [List.drop_eq_nil_of_le h1] at hno
    simp only [List.foldl_nil] at hno
    rw [hno]
    refine g_ret TrydT_ok (r := .i (.v (.string b))) rfl rfl rfl trivial rfl rfl ?_
    rfl
end Go.AI

/- Another name for one object among others. -/
namespace Go.AI
def renH (a b : Nat) : Heap → Heap
  | [] => []
  | (k, o) :: r => (renN a b k, o) :: renH a b r
theorem renN_self (a b : Nat) : renN a b a = b := by simp [renN]
theorem renN_ne {a b n : Nat} (h : n ≠ a) : renN a b n = n := by
  unfold renN
  cases hb : Nat.beq n a with
  | false => rfl
  | true => exact absurd (Nat.eq_of_beq_eq_true hb) h
theorem look_renH {a b n : Nat} {o : Ob} : ∀ {H : Heap}, look H b = none → look (renH a b H) n = some o → ∃ n0, n = renN a b n0 ∧ look H n0 = some o
  | [], _, h => by simp [renH, look] at h
  | (k, x) :: r, hb, h => by
    rw [look_cons] at hb
    split at hb
    · cases hb
    · rename_i hkb
      simp only [renH] at h
      rw [look_cons] at h
      split at h
      · rename_i e
        simp only [Option.some.injEq] at h
        subst h
        exact ⟨k, e.symm, by rw [look_cons, if_pos rfl]⟩
      · rename_i e
        obtain ⟨n0, h1, h2⟩ := look_renH hb h
        refine ⟨n0, h1, ?_⟩
        rw [look_cons, if_neg]
        · exact h2
        · intro e2
          subst e2
          exact e h1.symm
theorem look_renH' {a b n0 : Nat} {o : Ob} : ∀ {H : Heap}, look H b = none → look H n0 = some o → look (renH a b H) (renN a b n0) = some o
  | [], _, h => by simp [look] at h
  | (k, x) :: r, hb, h => by
    rw [look_cons] at hb
    split at hb
    · cases hb
    · rename_i hkb
      rw [look_cons] at h
      simp only [renH]
      rw [look_cons]
      split at h
      · rename_i e
        subst e
        rw [if_pos rfl]; exact h
      · rename_i e
        rw [if_neg]
        · exact look_renH' hb h
        · intro e2
          by_cases h1 : k = a
          · subst h1
            rw [renN_self, renN_ne (Ne.symm e)] at e2
            subst e2
            rw [hb] at h; cases h
          · rw [renN_ne h1] at e2
            by_cases h2 : n0 = a
            · subst h2; rw [renN_self] at e2; exact hkb e2
            · rw [renN_ne h2] at e2; exact e e2
section
variable {c : Cx} {s : St} {H : Heap} {O : List Heap}
theorem wk_ren (a b : Nat) (hS : s.S = H :: O) (hb : look H b = none) (hfl : allH (fun _ o => o.flat) H = true) : Wk c s { σ := renσ a b s.σ, S := renH a b H :: O, n := s.n } := by
  intro K ρ act w hi
  have hh := hi.h
  rw [hS] at hh
  let ρ' : Nat → Nat → Loc := upd ρ b (ρ 0 a)
  have hρ : ∀ n0 o, look H n0 = some o → ρ' 0 (renN a b n0) = ρ 0 n0 := by
    intro n0 o h
    by_cases h1 : n0 = a
    · subst h1; rw [renN_self]; exact upd_same _ _ _
    · rw [renN_ne h1]
      exact upd_other _ _ _ (.inr fun e => by subst e; rw [hb] at h; cases h)
  have r1 : ∀ d n, ρ' (d + 1) n = ρ (d + 1) n := fun d n => upd_other _ _ _ (.inl (by omega))
  have hren : Ren a b ρ ρ' (shape (H :: O)) (shape (renH a b H :: O)) := by
    refine ⟨fun n x e => ?_, fun d n x e => ⟨by simpa [shape, objAt] using e, r1 d n⟩⟩
    simp only [shape, objAt, List.getElem?_cons_zero] at e ⊢
    cases hl : look H n with
    | none => simp [hl] at e
    | some o =>
      rw [look_renH' hb hl]
      exact ⟨by simpa [hl] using e, hρ _ _ hl⟩
  have hmv : Moves (fun _ => false) K K ρ ρ' (shape (H :: O)) (shape (renH a b H :: O)) := ⟨K.le_refl, fun _ _ h => (by cases h), hren.s⟩
  have hcase : ∀ d n o, objAt (renH a b H :: O) d n = some o → ∃ n0, objAt (H :: O) d n0 = some o ∧ ρ' d n = ρ d n0 ∧ (d = 0 → n = renN a b n0) ∧ (d ≠ 0 → n = n0) := by
    intro d n o e
    cases d with
    | zero =>
      obtain ⟨n0, rfl, h2⟩ := look_renH hb (by simpa [objAt] using e)
      exact ⟨n0, by simpa [objAt] using h2, hρ _ _ h2, fun _ => rfl, fun h => absurd rfl h⟩
    | succ d => exact ⟨n, by simpa [objAt] using e, r1 _ _, fun h => absurd h (Nat.succ_ne_zero d), fun _ => rfl⟩
  have e0 : ∀ f : Nat → Nat → Loc, (fun d n => f (0 + d) n) = f := by intro f; funext d n; rw [Nat.zero_add]
  refine ⟨K, ρ', ⟨hh.holds, ?_, ?_, hh.size, ?_, ?_, ?_, hh.Kle, hh.Knew, hh.rest⟩, hi.defers, hi.size, fun t d e => ?_⟩
  · intro d n o e
    obtain ⟨n0, h1, h2, h3, h4⟩ := hcase d n o e
    have h0 := hh.own _ _ _ h1
    rw [h2]
    cases d with
    | zero =>
      rw [e0] at h0 ⊢
      have hf : o.flat = true := allH_look hfl (by simpa [objAt] using h1)
      refine h0.move hmv ?_ (fun _ => rfl) (fun _ _ => rfl)
      cases o with
      | box cs => exact hf
      | arr => rfl
      | mp => rfl
    | succ d =>
      have e1 : (fun d' n => ρ' (d + 1 + d') n) = fun d' n => ρ (d + 1 + d') n := by
        funext d' n
        rw [show d + 1 + d' = (d + d') + 1 by omega, r1]
      rw [e1]
      simpa using h0
  · intro d n o d2 n2 o2 e e2 b1 b2 hbe
    obtain ⟨m1, a1, a2, a3, a4⟩ := hcase d n o e
    obtain ⟨m2, c1, c2, c3, c4⟩ := hcase d2 n2 o2 e2
    rw [a2] at b1 hbe
    rw [c2] at b2 hbe
    obtain ⟨rfl, rfl⟩ := hh.inj _ _ _ _ _ _ a1 c1 b1 b2 hbe
    refine ⟨rfl, ?_⟩
    by_cases h : d = 0
    · rw [a3 h, c3 h]
    · rw [a4 h, c4 h]
  · intro b' hb' hno
    refine hh.old b' hb' fun d n o e hbk => ?_
    have := hno d n o (by simpa [objAt] using e) (by rw [r1]; exact hbk)
    rwa [r1] at this
  · intro n o e hbk
    obtain ⟨n0, h1, h2, _⟩ := hcase 0 n o e
    rw [h2] at hbk ⊢
    exact hh.loc _ _ h1 hbk
  · intro d
    funext n
    rw [r1, hh.outer]
  · simp only [look_renσ] at e
    cases hl : look s.σ t with
    | none => simp [hl] at e
    | some d0 =>
      simp only [hl, Option.map_some, Option.some.injEq] at e
      subst e
      have := hi.slots _ _ hl
      rw [hS] at this
      exact this.ren hren
end
end Go.AI

namespace Go.AI
open Go.Proofs
set_option maxRecDepth 20000
theorem within_iff : ∀ {l : List Vr} {xs : List Int}, within l xs = true ↔ xs.length = l.length ∧ ∀ i (h : i < l.length) (h' : i < xs.length), l[i].low ≤ xs[i] ∧ xs[i] ≤ l[i].high
  | [], [] => by simp [within]
  | [], _ :: _ => by simp [within]
  | _ :: _, [] => by simp [within]
  | v :: r, x :: ys => by
    simp only [within, Bool.and_eq_true, decide_eq_true_eq, within_iff (l := r) (xs := ys), List.length_cons, Nat.add_right_cancel_iff]
    constructor
    · rintro ⟨⟨h1, h2⟩, h3, h4⟩
      refine ⟨h3, fun i h h' => ?_⟩
      cases i with
      | zero => exact ⟨h1, h2⟩
      | succ i => exact h4 i (by simpa using h) (by simpa using h')
    · rintro ⟨h3, h4⟩
      exact ⟨h4 0 (by simp) (by simp), h3, fun i h h' => h4 (i + 1) (by simpa using h) (by simpa using h')⟩
theorem within_set {l : List Vr} {xs : List Int} {k : Nat} {n : Int} (h : within l xs = true) (hk : k < l.length) (hn : l[k].low ≤ n ∧ n ≤ l[k].high) : within l (xs.set k n) = true := by
  rw [within_iff] at h ⊢
  refine ⟨by simpa using h.1, fun i hi hi' => ?_⟩
  rw [List.getElem_set]
  split
  · rename_i e; subst e; exact hn
  · exact h.2 i hi (by simpa using hi')
theorem checkVrs_zero {all : List Vr} : ∀ {l : List Vr} {i : Nat}, checkVrs all l i = 0 → ∀ v ∈ l, (-65536 ≤ v.low ∧ v.high ≤ 65536) ∧ v.low ≤ v.init ∧ v.init ≤ v.high
  | [], _, _, v, hv => by simp at hv
  | x :: r, i, h, v, hv => by
    simp only [checkVrs] at h
    split at h
    · rename_i e he
      subst h
      unfold checkVr at he
      split at he; · cases he
      split at he; · cases he
      split at he; · cases he
      split at he; · cases he
      split at he <;> cases he
    · rename_i he
      rcases List.mem_cons.1 hv with rfl | hv
      · unfold checkVr at he
        split at he; · cases he
        split at he; · cases he
        split at he; · cases he
        rename_i h3
        split at he; · cases he
        split at he; · cases he
        rename_i h4 h5
        simp only [checkVr.large, Bool.or_eq_true, decide_eq_true_eq, not_or] at h3
        omega
      · exact checkVrs_zero h v hv
theorem vars_ok {l : List Vr} (h : varsErr l = 0) : ∀ v ∈ l, (-65536 ≤ v.low ∧ v.high ≤ 65536) ∧ v.low ≤ v.init ∧ v.init ≤ v.high := by
  unfold varsErr at h
  split at h
  · cases h
  · exact checkVrs_zero h
/-- A right state. -/
def okS (m : Ext) (s : Sta) : Prop := (0 ≤ s.loc ∧ s.loc < m.locs) ∧ within m.vars s.vals = true
theorem okS_bounds {m : Ext} {s : Sta} (hr : extRight m) (h : okS m s) : i64B s.loc ∧ (∀ v ∈ s.vals, i64B v) ∧ s.vals.length ≤ 16 ∧ s.vals.length = m.vars.length ∧ ∀ v ∈ s.vals, -65536 ≤ v ∧ v ≤ 65536 := by
  obtain ⟨h1, h2⟩ := h
  rw [within_iff] at h2
  have hl := hr.locs
  have hv := vars_len hr.vars
  have hb : ∀ v ∈ s.vals, -65536 ≤ v ∧ v ≤ 65536 := by
    intro v hm
    obtain ⟨i, hi, rfl⟩ := List.getElem_of_mem hm
    have a := h2.2 i (by omega) hi
    have b := vars_ok hr.vars _ (List.getElem_mem (by omega : i < m.vars.length))
    omega
  exact ⟨⟨by omega, by omega⟩, fun v hm => by have := hb v hm; exact ⟨by omega, by omega⟩, by omega, h2.1, hb⟩
theorem start_ok {m : Ext} (hr : extRight m) : okS m (startR m) := by
  refine ⟨hr.init, within_iff.2 ⟨by simp [startR], fun i h h' => ?_⟩⟩
  simp only [startR, List.getElem_map]
  exact (vars_ok hr.vars _ (List.getElem_mem h)).2
theorem updR_ok {m : Ext} {vals : List Int} : ∀ {l : List Upd} {acc out : List Int}, updR m vals l acc = some out → within m.vars acc = true → within m.vars out = true
  | [], acc, out, h, hw => by simp only [updR, Option.some.injEq] at h; subst h; exact hw
  | u :: r, acc, out, h, hw => by
    simp only [updR] at h
    cases hu : m.vars[u.v.toNat]? with
    | none => rw [hu] at h; cases h
    | some v =>
      rw [hu] at h
      simp only at h
      split at h
      · cases h
      · rename_i hc
        have hk : u.v.toNat < m.vars.length := (List.getElem?_eq_some_iff.1 hu).1
        have hkv : m.vars[u.v.toNat] = v := (List.getElem?_eq_some_iff.1 hu).2
        refine updR_ok h (within_set hw hk ?_)
        rw [hkv]
        omega
theorem step_ok {m : Ext} {s : Sta} {ev : Int} (hr : extRight m) (h : okS m s) (hp : (stepR m s ev).2.1 = true) : okS m (stepR m s ev).1 := by
  unfold stepR at hp ⊢
  cases hc : (chs s ev m.moves 0 none false).1 with
  | none => rw [hc] at hp; cases hp
  | some k =>
    rw [hc] at hp
    simp only at hp ⊢
    split at hp
    · cases hp
    · rename_i he
      rw [if_neg he]
      cases hk : m.moves[k]? with
      | none => rw [hk] at hp; cases hp
      | some x =>
        rw [hk] at hp
        simp only at hp ⊢
        cases hu : updR m s.vals x.us s.vals with
        | none => rw [hu] at hp; cases hp
        | some acc =>
          exact ⟨(hr.mv x (List.mem_of_getElem? hk)).to, updR_ok hu h.2⟩
/-- What search has found. -/
structure Srch where
  sts : List Sta
  frm : List (Int × Int)
  flt : Int × Int
  kind : Int
def keyOf (s : Sta) : ByteArray := keyS s.loc s.vals
/-- One event in state i; none where there are too many states. -/
def visit (m : Ext) (i : Nat) (s : Sta) (ev : Int) (S : Srch) : Option Srch :=
  let n := stepR m s ev
  let S1 : Srch := if n.2.2 ≠ 0 ∧ S.kind = 0 then { S with kind := n.2.2, flt := (i, ev) } else S
  if n.2.1 = false ∨ (S.sts.any fun t => keyOf n.1 == keyOf t) = true then some S1 else
  if S.sts.length = 4096 then none else some { S1 with sts := S1.sts ++ [n.1], frm := S1.frm ++ [((i : Int), ev)] }
def visits (m : Ext) (i : Nat) (s : Sta) : List Int → Srch → Option Srch
  | [], S => some S
  | ev :: r, S => match visit m i s ev S with
    | none => none
    | some S' => visits m i s r S'
def searchL (m : Ext) : Nat → Nat → Srch → Option Srch
  | 0, _, S => some S
  | fuel + 1, i, S => match S.sts[i]? with
    | none => some S
    | some s => match visits m i s m.alpha S with
      | none => none
      | some S' => searchL m fuel (i + 1) S'
def search0 (m : Ext) : Srch := ⟨[startR m], [(-1, -1)], (-1, -1), 0⟩
def searchR (m : Ext) : Option Srch := searchL m 4097 0 (search0 m)
abbrev ostas (l : List Sta) : Ob := .arr 55 2 l.length (l.map staI) true
abbrev pairI (p : Int × Int) : List I := [vi p.1, vi p.2]
abbrev opairs (l : List (Int × Int)) : Ob := .arr 95 2 l.length (l.map pairI) true
abbrev keysM (l : List Sta) : MC := .b (l.map fun s => (.string (keyOf s), true))
theorem keys_get {l : List Sta} {b : ByteArray} : mgetB (l.map fun s => (.string (keyOf s), true)) (.string b) = l.any fun s => b == keyOf s := by
  unfold mgetB
  induction l with
  | nil => rfl
  | cons s r ih =>
    simp only [List.map_cons, mlook, keyB, List.any_cons]
    cases h : b == keyOf s with
    | true => rfl
    | false => simpa using ih
theorem keys_set {l : List Sta} {s : Sta} (h : (l.any fun t => keyOf s == keyOf t) = false) : mset (l.map fun s => (Value.string (keyOf s), true)) (.string (keyOf s)) true = (l ++ [s]).map fun s => (Value.string (keyOf s), true) := by
  induction l with
  | nil => rfl
  | cons t r ih =>
    simp only [List.any_cons, Bool.or_eq_false_iff] at h
    simp only [List.map_cons, mset, keyB, h.1, cond_false, List.cons_append]
    rw [ih h.2]
end Go.AI

namespace Go.AI
open Go.Proofs
set_option maxRecDepth 20000
theorem visit_len {m : Ext} {i : Nat} {s : Sta} {ev : Int} {S S' : Srch} (h : visit m i s ev S = some S') (hl : S.sts.length ≤ 4096) : S'.sts.length ≤ 4096 ∧ S.sts.length ≤ S'.sts.length ∧ ∀ k (hk : k < S.sts.length), S'.sts[k]? = S.sts[k]? := by
  unfold visit at h
  simp only at h
  split at h
  · simp only [Option.some.injEq] at h
    subst h
    split <;> exact ⟨hl, Nat.le_refl _, fun _ _ => rfl⟩
  · split at h
    · cases h
    · simp only [Option.some.injEq] at h
      subst h
      have : (if (stepR m s ev).2.2 ≠ 0 ∧ S.kind = 0 then { S with kind := (stepR m s ev).2.2, flt := ((i : Int), ev) } else S).sts = S.sts := by split <;> rfl
      simp only [this, List.length_append, List.length_cons, List.length_nil]
      refine ⟨by omega, by omega, fun k hk => ?_⟩
      rw [List.getElem?_append_left hk]
/-- What the loops know of what was found. -/
structure Good (m : Ext) (S : Srch) : Prop where
  len : S.sts.length ≤ 4096
  ok : ∀ s ∈ S.sts, okS m s
  fl : S.frm.length = S.sts.length
theorem visit_good {m : Ext} (hr : extRight m) {i : Nat} {s : Sta} {ev : Int} {S S' : Srch} (h : visit m i s ev S = some S') (hg : Good m S) (hs : okS m s) : Good m S' := by
  have hl := visit_len h hg.len
  unfold visit at h
  simp only at h
  split at h
  · simp only [Option.some.injEq] at h
    subst h
    split <;> exact ⟨hg.len, hg.ok, hg.fl⟩
  · rename_i hc
    split at h
    · cases h
    · simp only [Option.some.injEq] at h
      subst h
      have e1 : (if (stepR m s ev).2.2 ≠ 0 ∧ S.kind = 0 then { S with kind := (stepR m s ev).2.2, flt := ((i : Int), ev) } else S).sts = S.sts := by split <;> rfl
      have e2 : (if (stepR m s ev).2.2 ≠ 0 ∧ S.kind = 0 then { S with kind := (stepR m s ev).2.2, flt := ((i : Int), ev) } else S).frm = S.frm := by split <;> rfl
      simp only [not_or] at hc
      refine ⟨hl.1, fun t ht => ?_, by simp [e1, e2, hg.fl]⟩
      simp only [e1, List.mem_append, List.mem_singleton] at ht
      rcases ht with ht | rfl
      · exact hg.ok t ht
      · exact step_ok hr hs (by simpa using hc.1)
theorem searchL_done {m : Ext} {S : Srch} {i : Nat} (h : S.sts.length ≤ i) : ∀ k, searchL m k i S = some S
  | 0 => rfl
  | k + 1 => by simp only [searchL, List.getElem?_eq_none h]
theorem ostas_app (l : List Sta) (s : Sta) : Ob.arr 55 2 (l.length + 1) (l.map staI ++ [staI s]) true = ostas (l ++ [s]) := by simp
theorem opairs_app (l : List (Int × Int)) (p : Int × Int) : Ob.arr 95 2 (l.length + 1) (l.map pairI ++ [pairI p]) true = opairs (l ++ [p]) := by simp
theorem search43 {g : Nat} (hg : IsTab g) {ty : TypeId} {fr : Nat × Nat} (O : List Heap) (m : Ext) (hok : extOk m) (hr : extRight m) {R : D} (hR : R = match searchR m with
      | none => .tup [.i (.sl 2 0 []), .i (.sl 2 0 []), .agg [ii 0, ii 0], ii 0, ii 3]
      | some S => .tup [.i (.sl 2 S.sts.length (S.sts.map staI)), .i (.sl 2 S.frm.length (S.frm.map pairI)), .agg [ii S.flt.1, ii S.flt.2], ii S.kind, ii 0]) :
    ASpecT g (ptab ty fr) Tryd.prog 43 [extD m] O R [] O := by
  have hst := start_ok hr
  have hv16 := vars_len hr.vars
  have hal := hok.al
  have hsb := okS_bounds hr hst
  refine aspecT_stop [12] TrydT_ok Tryd.func43 rfl Tryd.call43 Tryd.ntmps43 (Nat.le_of_ble_eq_true rfl) fun E hE => ?_
  refine g_run TrydT_ok Tryd.func43 ?_
  first | refine g_call TrydT_ok Tryd.func43 (start48 _ m hv16) rfl rfl rfl rfl rfl ?_ | refine s_callq TrydT_ok (fun _ => start48 _ m hv16) rfl rfl rfl ?_
  first | refine g_need TrydT_ok Tryd.func43 (by simp) ?_ | refine s_need TrydT_ok (by simp) ?_
  first | refine g_elem TrydT_ok Tryd.func43 (rfl) ?_ | refine s_elem TrydT_ok (rfl) ?_
  refine g_callT TrydT_ok Tryd.func43 hE (key63 hg _ (startR m) hsb.1 hsb.2.1 hsb.2.2.1) rfl rfl rfl rfl rfl rfl ?_
  refine g_loop ?_
  refine rch_wk (wk_ren 16 78 rfl rfl rfl) ?_
  refine rch_wk (wk_ren 18 84 rfl rfl rfl) ?_
  refine rch_loop2 (fun x : Nat × Srch => [(1, .own 0 1 0 0), (2, .osl 0 78), (3, .osl 0 84), (4, .own 0 4 0 0), (5, ii x.2.kind), (6, ii 0), (7, .osl 0 20), (8, ii x.1)])
    (fun x => [(78, ostas x.2.sts), (84, opairs x.2.frm), (20, .mp .str (keysM x.2.sts)), (4, .box [ii x.2.flt.1, ii x.2.flt.2]), (1, .box (extC m))]) (fun _ => O) 90
    (fun x => x.1 ≤ x.2.sts.length ∧ Good m x.2 ∧ searchR m = searchL m (4097 - x.1) x.1 x.2) (fun x => 4097 - x.1) (0, search0 m)
    ⟨Nat.zero_le _, ⟨by simp [search0], fun s hs => by simp only [search0, List.mem_singleton] at hs; subst hs; exact hst, rfl⟩, rfl⟩ ⟨rfl, rfl, rfl, rfl, rfl, rfl, rfl, rfl, trivial⟩ rfl ⟨rfl, rfl, rfl, rfl, rfl, trivial⟩ rfl rfl ?_
  rintro ⟨i, S⟩ ⟨hi, hgd, hno⟩ ih
  simp only at hi hgd hno
  refine g_run TrydT_ok Tryd.func43 ?_
  first | refine g_cnd TrydT_ok Tryd.func43 rfl (fun h1 => ?_) (fun h1 => ?_) | refine g_know TrydT_ok Tryd.func43 rfl (fun h1 => ?_) (fun h1 => ?_) | refine s_know TrydT_ok (fun h1 => ?_) (fun h1 => ?_)
  · have h1 : i < S.sts.length := by simpa using h1
    have hsi : S.sts[i]? = some S.sts[i] := List.getElem?_eq_getElem h1
    have hoks := hgd.ok _ (List.getElem_mem h1)
    have hle := hgd.len
    generalize S.sts[i] = si at hsi hoks
    have hno : searchR m = match visits m i si m.alpha S with
        | none => none
        | some S' => searchL m (4097 - (i + 1)) (i + 1) S' := by
      rw [hno, show 4097 - i = (4097 - (i + 1)) + 1 by omega]
      simp only [searchL, hsi]
      all_goals (cases visits m i si m.alpha S <;> rfl)
    refine g_loop ?_
    refine rch_loop2 (fun x : Nat × Srch => [(1, .own 0 1 0 0), (2, .osl 0 78), (3, .osl 0 84), (4, .own 0 4 0 0), (5, ii x.2.kind), (6, ii 0), (7, .osl 0 20), (8, ii i), (33, ints m.alpha), (34, ii m.alpha.length), (35, ii x.1)])
      (fun x => [(78, ostas x.2.sts), (84, opairs x.2.frm), (20, .mp .str (keysM x.2.sts)), (4, .box [ii x.2.flt.1, ii x.2.flt.2]), (1, .box (extC m))]) (fun _ => O) 90
      (fun x => x.1 ≤ m.alpha.length ∧ Good m x.2 ∧ S.sts.length ≤ x.2.sts.length ∧ x.2.sts[i]? = some si ∧ visits m i si m.alpha S = visits m i si (m.alpha.drop x.1) x.2) (fun x => m.alpha.length - x.1) (0, S)
      ⟨Nat.zero_le _, hgd, Nat.le_refl _, hsi, rfl⟩ ⟨rfl, rfl, rfl, rfl, rfl, rfl, rfl, rfl, rfl, rfl, rfl, trivial⟩ rfl ⟨rfl, rfl, rfl, rfl, rfl, trivial⟩ rfl rfl ?_
    rintro ⟨j, S'⟩ ⟨hj, hgd', hmon, hsi', hvis⟩ ih2
    clear hgd
    simp only at hj hgd' hmon hsi' hvis
    refine g_run TrydT_ok Tryd.func43 ?_
    first | refine g_cnd TrydT_ok Tryd.func43 rfl (fun h2 => ?_) (fun h2 => ?_) | refine g_know TrydT_ok Tryd.func43 rfl (fun h2 => ?_) (fun h2 => ?_) | refine s_know TrydT_ok (fun h2 => ?_) (fun h2 => ?_)
    · have h2 : j < m.alpha.length := by simpa using h2
      have hd : m.alpha.drop j = m.alpha[j] :: m.alpha.drop (j + 1) := List.drop_eq_getElem_cons h2
      have hgj : (m.alpha.map fun x => [vi x])[(j : Int).toNat]? = some [vi m.alpha[j]] := get_mapZ (f := fun x => [vi x]) h2
      generalize m.alpha[j] = ev at hd hgj
      have hil : i < S'.sts.length := by omega
      have hgi : (S'.sts.map staI)[(i : Int).toNat]? = some (staI si) := by simp [hsi']
      rw [hd] at hvis
      simp only [visits] at hvis
      have hstep := fun O => step50 O m si ev hok hr (okS_bounds hr hoks).2.2.2.1
      have hsok := fun h => okS_bounds hr (step_ok hr hoks (ev := ev) h)
      have hlen := fun S2 h => visit_len (m := m) (i := i) (s := si) (ev := ev) (S := S') (S' := S2) h hgd'.len
      have hgood := fun S2 h => visit_good hr (i := i) (ev := ev) (S := S') (S' := S2) h hgd' hoks
      unfold visit at hvis hlen hgood
      simp only at hvis hlen hgood
      generalize stepR m si ev = n at *
      obtain ⟨⟨nl, nv⟩, np, ne⟩ := n
      simp only at hvis hlen hgood hstep hsok
      first | refine g_need TrydT_ok Tryd.func43 (by omega) ?_ | refine s_need TrydT_ok (by omega) ?_
      first | refine g_elem TrydT_ok Tryd.func43 (hgj) ?_ | refine s_elem TrydT_ok (hgj) ?_
      refine g_drawn TrydT_ok Tryd.func43 mixedT rfl ?_
      first | refine g_need TrydT_ok Tryd.func43 (by exact ⟨by omega, by show (i : Int) < (S'.sts.length : Int); omega⟩) ?_ | refine s_need TrydT_ok (by exact ⟨by omega, by show (i : Int) < (S'.sts.length : Int); omega⟩) ?_
      first | refine g_elem TrydT_ok Tryd.func43 (hgi) ?_ | refine s_elem TrydT_ok (hgi) ?_
      first | refine g_call TrydT_ok Tryd.func43 (hstep _) rfl rfl rfl rfl rfl ?_ | refine s_callq TrydT_ok (fun _ => hstep _) rfl rfl rfl ?_
      refine s_old TrydT_ok ?_
      refine d_mod TrydT_ok (p := ⟨[], [(11, .box [ii nl, ints nv])], none⟩) rfl rfl rfl ?_
      refine d_done TrydT_ok Tryd.func43 (by kernel_rfl) (GM.h ?_)
      generalize hS1 : (if ne ≠ 0 ∧ S'.kind = 0 then { S' with kind := ne, flt := ((i : Int), ev) } else S') = S1 at hvis hlen hgood
      apply join_q (P := fun p : Int × Int × Int => S1 = ⟨S'.sts, S'.frm, p.2, p.1⟩) (s6 := fun p => { σ := [(1, .own 0 1 0 0), (2, .osl 0 78), (3, .osl 0 84), (4, .own 0 4 0 0), (5, ii p.1), (6, ii 0), (7, .osl 0 20), (8, ii i), (10, ii ev), (11, .own 0 11 0 0), (12, bb np), (33, ints m.alpha), (34, ii m.alpha.length), (35, ii j)], S := [(11, .box [ii nl, ints nv]), (78, ostas S'.sts), (84, opairs S'.frm), (20, .mp .str (keysM S'.sts)), (4, .box [ii p.2.1, ii p.2.2]), (1, .box (extC m))] :: O, n := 90 })
      · intro J
        first | refine g_cnd TrydT_ok Tryd.func43 rfl (fun h3 => ?_) (fun h3 => ?_) | refine g_know TrydT_ok Tryd.func43 rfl (fun h3 => ?_) (fun h3 => ?_) | refine s_know TrydT_ok (fun h3 => ?_) (fun h3 => ?_)
        · have h3 := bneT h3
          first | refine g_cnd TrydT_ok Tryd.func43 rfl (fun h4 => ?_) (fun h4 => ?_) | refine g_know TrydT_ok Tryd.func43 rfl (fun h4 => ?_) (fun h4 => ?_) | refine s_know TrydT_ok (fun h4 => ?_) (fun h4 => ?_)
          · have h4 : S'.kind = 0 := beqT h4
            rw [if_pos ⟨h3, h4⟩] at hS1
            refine g_stop ?_
            refine rch_meet (J (ne, i, ev) hS1.symm) ⟨rfl, rfl, rfl, rfl, rfl, rfl, rfl, rfl, rfl, rfl, rfl, rfl, rfl, rfl, trivial⟩ rfl ⟨rfl, rfl, rfl, rfl, rfl, rfl, trivial⟩ rfl rfl
          · have h4 : S'.kind ≠ 0 := beqF h4
            rw [if_neg (by simp [h4])] at hS1
            refine g_stop ?_
            refine rch_meet (J (S'.kind, S'.flt) hS1.symm) ⟨rfl, rfl, rfl, rfl, rfl, rfl, rfl, rfl, rfl, rfl, rfl, rfl, rfl, rfl, trivial⟩ rfl ⟨rfl, rfl, rfl, rfl, rfl, rfl, trivial⟩ rfl rfl
        · have h3 := bneF h3
          repeat (first | refine g_cnd TrydT_ok Tryd.func43 rfl (fun _ => ?_) (fun h => absurd h (by decide)) | refine g_cnd TrydT_ok Tryd.func43 rfl (fun h => absurd h (by decide)) (fun _ => ?_) | refine g_know TrydT_ok Tryd.func43 rfl (fun _ => ?_) (fun h => absurd h (by decide)) | refine g_know TrydT_ok Tryd.func43 rfl (fun h => absurd h (by decide)) (fun _ => ?_) | refine s_know TrydT_ok (fun _ => ?_) (fun h => absurd h (by decide)) | refine s_know TrydT_ok (fun h => absurd h (by decide)) (fun _ => ?_))
          rw [if_neg (by simp [h3])] at hS1
          refine g_stop ?_
          refine rch_meet (J (S'.kind, S'.flt) hS1.symm) ⟨rfl, rfl, rfl, rfl, rfl, rfl, rfl, rfl, rfl, rfl, rfl, rfl, rfl, rfl, trivial⟩ rfl ⟨rfl, rfl, rfl, rfl, rfl, rfl, trivial⟩ rfl rfl
      · rintro ⟨k1, f1⟩ hS1'
        simp only at hS1'
        subst hS1'
        clear hS1 hstep
        simp only at hvis hlen hgood
        refine g_run TrydT_ok Tryd.func43 ?_
        refine g_go TrydT_ok Tryd.func43 ?_
        first | refine g_cnd TrydT_ok Tryd.func43 rfl (fun h3 => ?_) (fun h3 => ?_) | refine g_know TrydT_ok Tryd.func43 rfl (fun h3 => ?_) (fun h3 => ?_) | refine s_know TrydT_ok (fun h3 => ?_) (fun h3 => ?_)
        · have h3 := notT h3
          subst h3
          rw [if_pos (.inl rfl)] at hvis hlen hgood
          simp only at hvis
          have hgd2 := hgood _ rfl
          repeat (first | refine g_cnd TrydT_ok Tryd.func43 rfl (fun _ => ?_) (fun h => absurd h (by decide)) | refine g_cnd TrydT_ok Tryd.func43 rfl (fun h => absurd h (by decide)) (fun _ => ?_) | refine g_know TrydT_ok Tryd.func43 rfl (fun _ => ?_) (fun h => absurd h (by decide)) | refine g_know TrydT_ok Tryd.func43 rfl (fun h => absurd h (by decide)) (fun _ => ?_) | refine s_know TrydT_ok (fun _ => ?_) (fun h => absurd h (by decide)) | refine s_know TrydT_ok (fun h => absurd h (by decide)) (fun _ => ?_))
          refine g_loop ?_
          refine ih2 (j + 1, ⟨S'.sts, S'.frm, f1, k1⟩) _ _ ⟨h2, hgd2, hmon, hsi', hvis⟩ (by simp only; omega) ⟨rfl, rfl, rfl, rfl, rfl, rfl, rfl, rfl, rfl, rfl, congrArg ii (wsucc h2 hal), trivial⟩ rfl ⟨rfl, rfl, rfl, rfl, rfl, trivial⟩ rfl rfl
        · have h3 := notF h3
          subst h3
          have hkb := hsok rfl
          refine g_callT TrydT_ok Tryd.func43 hE (key63 hg _ ⟨nl, nv⟩ hkb.1 hkb.2.1 hkb.2.2.1) rfl rfl rfl rfl rfl rfl ?_
          first | refine g_cnd TrydT_ok Tryd.func43 rfl (fun h4 => ?_) (fun h4 => ?_) | refine g_know TrydT_ok Tryd.func43 rfl (fun h4 => ?_) (fun h4 => ?_) | refine s_know TrydT_ok (fun h4 => ?_) (fun h4 => ?_)
          · have h4 : (S'.sts.any fun t => keyOf ⟨nl, nv⟩ == keyOf t) = true := keys_get.symm.trans h4
            rw [if_pos (.inr h4)] at hvis hlen hgood
            simp only at hvis
            have hgd2 := hgood _ rfl
            refine g_loop ?_
            refine ih2 (j + 1, ⟨S'.sts, S'.frm, f1, k1⟩) _ _ ⟨h2, hgd2, hmon, hsi', hvis⟩ (by simp only; omega) ⟨rfl, rfl, rfl, rfl, rfl, rfl, rfl, rfl, rfl, rfl, congrArg ii (wsucc h2 hal), trivial⟩ rfl ⟨rfl, rfl, rfl, rfl, rfl, trivial⟩ rfl rfl
          · have h4 : (S'.sts.any fun t => keyOf ⟨nl, nv⟩ == keyOf t) = false := keys_get.symm.trans h4
            rw [if_neg (by simp [h4])] at hvis hlen hgood
            first | refine g_cnd TrydT_ok Tryd.func43 rfl (fun h5 => ?_) (fun h5 => ?_) | refine g_know TrydT_ok Tryd.func43 rfl (fun h5 => ?_) (fun h5 => ?_) | refine s_know TrydT_ok (fun h5 => ?_) (fun h5 => ?_)
            · have h5 : S'.sts.length = 4096 := by have := beqT h5; omega
              rw [if_pos h5] at hvis
              simp only at hvis
              rw [hvis] at hno
              simp only at hno
              rw [hno] at hR
              simp only at hR
              subst hR
              refine g_ret_co TrydT_ok (r := .tup [.i (.v (.slice none 0 0)), .i (.v (.slice none 0 0)), .agg [ii 0, ii 0], ii 0, ii 3]) rfl rfl rfl trivial rfl rfl ?_
              exact coD_tup (.cons (coD_i coI_nil) (.cons (coD_i coI_nil) (CoDL.refl _)))
            · have h5 : ¬ S'.sts.length = 4096 := by have := beqF h5; omega
              rw [if_neg h5] at hvis hlen hgood
              simp only at hvis
              have hgd2 := hgood _ rfl
              have hln2 := hlen _ rfl
              refine g_callT TrydT_ok Tryd.func43 hE (key63 hg _ ⟨nl, nv⟩ hkb.1 hkb.2.1 hkb.2.2.1) rfl rfl rfl rfl rfl rfl ?_
              have hl1 := hgd'.len
              have hl2 := hgd'.fl
              first | refine g_need TrydT_ok Tryd.func43 (by exact ⟨by show (S'.sts.length + 1) * 32 ≤ 140737488355328; omega, by show S'.sts.length + 1 ≤ 9223372036854775807; omega⟩) ?_ | refine s_need TrydT_ok (by exact ⟨by show (S'.sts.length + 1) * 32 ≤ 140737488355328; omega, by show S'.sts.length + 1 ≤ 9223372036854775807; omega⟩) ?_
              first | refine g_need TrydT_ok Tryd.func43 (by exact ⟨by show (S'.frm.length + 1) * 16 ≤ 140737488355328; omega, by show S'.frm.length + 1 ≤ 9223372036854775807; omega⟩) ?_ | refine s_need TrydT_ok (by exact ⟨by show (S'.frm.length + 1) * 16 ≤ 140737488355328; omega, by show S'.frm.length + 1 ≤ 9223372036854775807; omega⟩) ?_
              refine g_loop ?_
              refine ih2 (j + 1, ⟨S'.sts ++ [(⟨nl, nv⟩ : Sta)], S'.frm ++ [((i : Int), ev)], f1, k1⟩) _ _ ⟨h2, hgd2, by have := hln2.2.1; simp only at this ⊢; omega, ?_, hvis⟩ (by simp only; omega) ⟨rfl, rfl, rfl, rfl, rfl, rfl, rfl, rfl, rfl, rfl, congrArg ii (wsucc h2 hal), trivial⟩ rfl ⟨congrArg some (ostas_app S'.sts (⟨nl, nv⟩ : Sta)), congrArg some (opairs_app S'.frm ((i : Int), ev)), congrArg (fun l => some (Ob.mp .str (.b l))) (keys_set (l := S'.sts) (s := (⟨nl, nv⟩ : Sta)) h4), rfl, rfl, trivial⟩ rfl rfl
              have := hln2.2.2 i (by omega)
              exact this.trans hsi'
    · have h2 : m.alpha.length ≤ j := by simpa using h2
      rw [List.drop_eq_nil_of_le h2] at hvis
      simp only [visits] at hvis
      rw [hvis] at hno
      simp only at hno
      refine g_loop ?_
      refine ih (i + 1, S') _ _ ⟨by simp only; omega, hgd', hno⟩ (by simp only; omega) ⟨rfl, rfl, rfl, rfl, rfl, rfl, rfl, congrArg ii (wsucc h1 (by simp only [max63]; omega)), trivial⟩ rfl ⟨rfl, rfl, rfl, rfl, rfl, trivial⟩ rfl rfl
  · have h1 : S.sts.length ≤ i := by simpa using h1
    rw [searchL_done h1] at hno
    rw [hno] at hR
    simp only at hR
    subst hR
    refine g_drawn TrydT_ok Tryd.func43 mixedT rfl ?_
    refine s_old TrydT_ok ?_
    refine d_mod TrydT_ok (p := ⟨[], [(4, .box [ii S.flt.1, ii S.flt.2])], none⟩) rfl rfl rfl ?_
    refine d_done TrydT_ok Tryd.func43 (by kernel_rfl) (GM.h ?_)
    refine g_rwk (wk_freeze 78 rfl rfl) ?_
    refine g_rwk (wk_freeze 84 rfl rfl) ?_
    refine g_ret TrydT_ok (r := .tup [.i (.sl 2 S.sts.length (S.sts.map staI)), .i (.sl 2 S.frm.length (S.frm.map pairI)), .agg [ii S.flt.1, ii S.flt.2], ii S.kind, ii 0]) rfl rfl rfl trivial rfl rfl ?_
    rfl
end Go.AI

namespace Go.AI
open Go.Proofs
set_option maxRecDepth 20000
abbrev stasD (l : List Sta) : D := .i (.sl 2 l.length (l.map staI))
/-- Reach. -/
def reachR (m : Ext) : List Sta × Int := if chk m ≠ 0 then ([], chk m) else match searchR m with
  | none => ([], 3)
  | some S => (S.sts, 0)
theorem reach14 {g : Nat} (hg : IsTab g) {ty : TypeId} {fr : Nat × Nat} (O : List Heap) (m : Ext) (hok : extOk m) : ASpecT g (ptab ty fr) Tryd.prog 14 [extD m] O (.tup [stasD (reachR m).1, ii (reachR m).2]) [] O := by
  generalize hR : reachR m = R
  unfold reachR at hR
  refine aspecT_stop [] TrydT_ok Tryd.func14 rfl Tryd.call14 Tryd.ntmps14 (Nat.le_of_ble_eq_true rfl) fun E hE => ?_
  refine g_run TrydT_ok Tryd.func14 ?_
  first | refine g_call TrydT_ok Tryd.func14 (check40 _ m hok) rfl rfl rfl rfl rfl ?_ | refine s_callq TrydT_ok (fun _ => check40 _ m hok) rfl rfl rfl ?_
  first | refine g_cnd TrydT_ok Tryd.func14 rfl (fun h1 => ?_) (fun h1 => ?_) | refine g_know TrydT_ok Tryd.func14 rfl (fun h1 => ?_) (fun h1 => ?_) | refine s_know TrydT_ok (fun h1 => ?_) (fun h1 => ?_)
  · have h1 := bneT h1
    rw [if_pos h1] at hR
    subst hR
    refine g_ret_co TrydT_ok (r := .tup [.i (.v (.slice none 0 0)), ii _]) rfl rfl rfl trivial rfl rfl ?_
    exact coD_tup (.cons (coD_i coI_nil) (CoDL.refl _))
  have h1 := bneF h1
  rw [if_neg (by simpa using h1)] at hR
  cases hs : searchR m with
  | none =>
    rw [hs] at hR
    subst hR
    have hsp := fun O => search43 hg (ty := ty) (fr := fr) O m hok (chk_right h1) (R := .tup [.i (.sl 2 0 []), .i (.sl 2 0 []), .agg [ii 0, ii 0], ii 0, ii 3]) (by rw [hs])
    refine g_callT TrydT_ok Tryd.func14 hE (hsp _) rfl rfl rfl rfl rfl rfl ?_
    refine g_ret TrydT_ok (r := .tup [.i (.sl 2 0 []), ii 3]) rfl rfl rfl trivial rfl rfl ?_
    rfl
  | some S =>
    rw [hs] at hR
    subst hR
    have hsp := fun O => search43 hg (ty := ty) (fr := fr) O m hok (chk_right h1) (R := .tup [.i (.sl 2 S.sts.length (S.sts.map staI)), .i (.sl 2 S.frm.length (S.frm.map pairI)), .agg [ii S.flt.1, ii S.flt.2], ii S.kind, ii 0]) (by rw [hs])
    refine g_callT TrydT_ok Tryd.func14 hE (hsp _) rfl rfl rfl rfl rfl rfl ?_
    refine g_ret TrydT_ok (r := .tup [.i (.sl 2 S.sts.length (S.sts.map staI)), ii 0]) rfl rfl rfl trivial rfl rfl ?_
    rfl
theorem expr13 (O : List Heap) (op : Int) (l : List Ex) : ASpec Tryd.prog 13 [ii op, exs l] O (.agg [ii op, ii 0, ii 0, exs l]) [] O := by
  refine aspec_intro TrydT_ok Tryd.func13 rfl Tryd.call13 Tryd.ntmps13 (Nat.le_of_ble_eq_true rfl) fun E => ?_
  refine g_run TrydT_ok Tryd.func13 ?_
  refine g_ret TrydT_ok (r := .agg [ii op, ii 0, ii 0, exs l]) rfl rfl rfl trivial rfl rfl ?_
  rfl
theorem expr13n (O : List Heap) (op : Int) (n : Nat) (l : List (List I)) : ASpec Tryd.prog 13 [ii op, .i (.sl 4 n l)] O (.agg [ii op, ii 0, ii 0, .i (.sl 4 n l)]) [] O := by
  refine aspec_intro TrydT_ok Tryd.func13 rfl Tryd.call13 Tryd.ntmps13 (Nat.le_of_ble_eq_true rfl) fun E => ?_
  refine g_run TrydT_ok Tryd.func13 ?_
  refine g_ret TrydT_ok (r := .agg [ii op, ii 0, ii 0, .i (.sl 4 n l)]) rfl rfl rfl trivial rfl rfl ?_
  rfl
/-- The counter of the chapter. -/
def nE : Ex := .mk 1 0 0 []
def kE (n : Int) : Ex := .mk 0 n 0 []
def upMv (guard : Bool) : Mv := ⟨0, 0, 0, if guard then .mk 8 0 0 [nE, kE 2] else trueE, [⟨0, .mk 2 0 0 [nE, kE 1]⟩]⟩
def backMv : Mv := ⟨0, 1, 0, .mk 6 0 0 [nE, kE 2], [⟨0, zeroE⟩]⟩
def nVr (high : Int) : Vr := ⟨⟨#[110]⟩, 0, high, 0⟩
def counterE (guard : Bool) : Ext := ⟨[0, 1], 1, 0, [0], [nVr 2], [upMv guard, backMv]⟩
theorem counter12t (O : List Heap) : ASpec Tryd.prog 12 [bb true] O (extD (counterE true)) [] O := by
  have ht := fun O => true42 O
  refine aspec_intro TrydT_ok Tryd.func12 rfl Tryd.call12 Tryd.ntmps12 (Nat.le_of_ble_eq_true rfl) fun E => ?_
  refine g_run TrydT_ok Tryd.func12 ?_
  refine g_drawn TrydT_ok Tryd.func12 mixedT rfl ?_
  first | refine g_call TrydT_ok Tryd.func12 (ht _) rfl rfl rfl rfl rfl ?_ | refine s_callq TrydT_ok (fun _ => ht _) rfl rfl rfl ?_
  first | refine g_call TrydT_ok Tryd.func12 (expr13n _ 2 2 _) rfl rfl rfl rfl rfl ?_ | refine s_callq TrydT_ok (fun _ => expr13n _ 2 2 _) rfl rfl rfl ?_
  refine s_put TrydT_ok rfl rfl rfl ?_
  refine e_done TrydT_ok Tryd.func12 (by kernel_rfl) ?_
  repeat (first | refine g_cnd TrydT_ok Tryd.func12 rfl (fun _ => ?_) (fun h => absurd h (by decide)) | refine g_cnd TrydT_ok Tryd.func12 rfl (fun h => absurd h (by decide)) (fun _ => ?_) | refine g_know TrydT_ok Tryd.func12 rfl (fun _ => ?_) (fun h => absurd h (by decide)) | refine g_know TrydT_ok Tryd.func12 rfl (fun h => absurd h (by decide)) (fun _ => ?_) | refine s_know TrydT_ok (fun _ => ?_) (fun h => absurd h (by decide)) | refine s_know TrydT_ok (fun h => absurd h (by decide)) (fun _ => ?_))
  first | refine g_call TrydT_ok Tryd.func12 (expr13n _ 8 2 _) rfl rfl rfl rfl rfl ?_ | refine s_callq TrydT_ok (fun _ => expr13n _ 8 2 _) rfl rfl rfl ?_
  first | refine g_call TrydT_ok Tryd.func12 (expr13n _ 6 2 _) rfl rfl rfl rfl rfl ?_ | refine s_callq TrydT_ok (fun _ => expr13n _ 6 2 _) rfl rfl rfl ?_
  refine g_ret_co TrydT_ok (r := _) rfl rfl rfl trivial rfl rfl ?_
  repeat' (first | refine coD_tup ?_ | refine coD_agg ?_ | refine coD_i ?_ | refine CoDL.cons ?_ ?_ | exact CoDL.nil | exact coI_nil | refine coI_sl ?_ | refine CoLL.cons ?_ ?_ | exact CoLL.nil | refine CoL.cons ?_ ?_ | exact CoL.nil | exact CoI.refl _ | exact CoL.refl _ | exact CoLL.refl _ | exact CoDL.refl _ | exact CoD.refl _)
theorem counter12f (O : List Heap) : ASpec Tryd.prog 12 [bb false] O (extD (counterE false)) [] O := by
  have ht := fun O => true42 O
  refine aspec_intro TrydT_ok Tryd.func12 rfl Tryd.call12 Tryd.ntmps12 (Nat.le_of_ble_eq_true rfl) fun E => ?_
  refine g_run TrydT_ok Tryd.func12 ?_
  refine g_drawn TrydT_ok Tryd.func12 mixedT rfl ?_
  first | refine g_call TrydT_ok Tryd.func12 (ht _) rfl rfl rfl rfl rfl ?_ | refine s_callq TrydT_ok (fun _ => ht _) rfl rfl rfl ?_
  first | refine g_call TrydT_ok Tryd.func12 (expr13n _ 2 2 _) rfl rfl rfl rfl rfl ?_ | refine s_callq TrydT_ok (fun _ => expr13n _ 2 2 _) rfl rfl rfl ?_
  refine s_put TrydT_ok rfl rfl rfl ?_
  refine e_done TrydT_ok Tryd.func12 (by kernel_rfl) ?_
  repeat (first | refine g_cnd TrydT_ok Tryd.func12 rfl (fun _ => ?_) (fun h => absurd h (by decide)) | refine g_cnd TrydT_ok Tryd.func12 rfl (fun h => absurd h (by decide)) (fun _ => ?_) | refine g_know TrydT_ok Tryd.func12 rfl (fun _ => ?_) (fun h => absurd h (by decide)) | refine g_know TrydT_ok Tryd.func12 rfl (fun h => absurd h (by decide)) (fun _ => ?_) | refine s_know TrydT_ok (fun _ => ?_) (fun h => absurd h (by decide)) | refine s_know TrydT_ok (fun h => absurd h (by decide)) (fun _ => ?_))
  first | refine g_call TrydT_ok Tryd.func12 (expr13n _ 6 2 _) rfl rfl rfl rfl rfl ?_ | refine s_callq TrydT_ok (fun _ => expr13n _ 6 2 _) rfl rfl rfl ?_
  refine g_ret_co TrydT_ok (r := _) rfl rfl rfl trivial rfl rfl ?_
  repeat' (first | refine coD_tup ?_ | refine coD_agg ?_ | refine coD_i ?_ | refine CoDL.cons ?_ ?_ | exact CoDL.nil | exact coI_nil | refine coI_sl ?_ | refine CoLL.cons ?_ ?_ | exact CoLL.nil | refine CoL.cons ?_ ?_ | exact CoL.nil | exact CoI.refl _ | exact CoL.refl _ | exact CoLL.refl _ | exact CoDL.refl _ | exact CoD.refl _)
end Go.AI

/- The contract of slices.Reverse, laid at this program by a tool of the kit (in plain words). -/
namespace Go.Proofs
open Go.Shelf
def Tryd.lays112_ren : Go.Shelf.Ren := ⟨fun | 112 => 44 | n => n, fun | 28 => 24 | 3 => 3 | 4 => 4 | 0 => 0 | n => n, fun | n => n⟩
theorem Tryd.lays112 : Go.Proofs.Lays.n112 Tryd.prog Tryd.lays112_ren := {
  mixed := by kernel_rfl
  f112 := Tryd.func44.trans (congrArg some (by kernel_rfl))
  t0 := Tryd.underlying0
  a0 := Tryd.isAgg0
  z0 := Tryd.sizeOf0
  v0 := Tryd.zeroValue0
  t3 := Tryd.underlying3
  a3 := Tryd.isAgg3
  z3 := Tryd.sizeOf3
  v3 := Tryd.zeroValue3
  t4 := Tryd.underlying4
  a4 := Tryd.isAgg4
  z4 := Tryd.sizeOf4
  v4 := Tryd.zeroValue4
  t28 := Tryd.underlying24
  a28 := Tryd.isAgg24
  z28 := Tryd.sizeOf24
  v28 := Tryd.zeroValue24 }
open Go.RowKit Go.Lib Go.Sort in
/-- slices.Reverse at []int, of an argument: the n cells hold the elements in reverse. (LAID: no walk: one application.) -/
theorem Tryd.slices_Reverse_int_cells (b off n c : Nat) (zs : List Int) (w : World) (hz : n ≤ zs.length) (hbig : n ≤ 9223372036854775807) (hc : ∀ j, j < zs.length → w.cell? ⟨b, off + j, none⟩ = some (.int .i64 (zs.getD j 0))) (hf : ∀ j, j < n → w.frozen? ⟨b, off + j, none⟩ = false) :
    Calls Tryd.prog 44 #[.slice (some ⟨b, off, none⟩) n c] w fun e w' => e = .returned (.tuple #[]) ∧ ∃ q, w' = (w.drewN q).setCells b off ((zs.take n).reverse.map (Value.int .i64)) := Any.slices_Reverse_int_cells Tryd.lays112 b off n c zs w hz hbig hc hf
end Go.Proofs
