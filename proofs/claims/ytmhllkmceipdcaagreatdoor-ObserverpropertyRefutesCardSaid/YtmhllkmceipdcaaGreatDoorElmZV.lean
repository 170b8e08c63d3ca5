/- The layer of abstract runs, part 48. -/
import Derived.Test.YtmhllkmceipdcaaGreatDoorElmZU
import Derived.Test.YtmhllkmceipdcaaGreatDoorTie
import Derived.Test.YtmhllkmceipdcaaGreatDoorCards
import Derived.ProofKit
import Derived.LaidMore
import Derived.OpenShut
import Derived.Lay
import Derived.SevenTiedAt
import Derived.Stop.Joined
import Derived.Stop.LaidErr
import Derived.Lib.LaidTab
import Derived.WideKeyArgs
import Derived.Lib.SmallJoins
import Derived.Deep.Slices
set_option linter.unusedSimpArgs false
set_option linter.unusedVariables false
set_option linter.all false

/- observerproperty: Consistent, reached. -/
namespace Go.AI
open Go.Proofs
set_option maxRecDepth 20000
theorem opE_chk {a : Aut} {on un : List Int} (he : opE a on un = 0) : chkA a = 0 := by
  unfold opE at he
  by_cases c : chkA a = 0
  · exact c
  · rw [if_pos c] at he; exact he
theorem opened42v (O : List Heap) (a : Aut) (on un : List Int) (n : Nat) (hst : a.states = n) (hn : n ≤ 12) (h : smallA a) (hon : on.length ≤ max63) (hun : un.length ≤ max63) (he : opE a on un = 0) : ASpec Tryz.prog 42 [autD a, ints on, ints un] O (.tup [.i (vptr a on un (outOf n a.edges)), ii 0]) [] O := by
  have e : outOf a.states.toNat a.edges = outOf n a.edges := by rw [hst]; rfl
  have := opened42 O a on un n hst hn h hon hun he
  unfold viewD viewI at this
  rw [e] at this
  exact this
set_option maxHeartbeats 4000000 in
theorem consistent18 (O : List Heap) (a : Aut) (on un : List Int) (n : Nat) (hst : a.states = n) (hn : n ≤ 12) (h : smallA a) (hon : on.length ≤ max63) (hun : un.length ≤ max63) (he : opE a on un = 0) :
    ASpec Tryz.prog 18 [autD a, ints on, ints un] O (.tup [ints (csO a on un n (csR a on un n)).1, ii (csO a on un n (csR a on un n)).2.1, bb (csO a on un n (csR a on un n)).2.2, ii 0]) [] O := by
  have h1 := fun O => opened42v O a on un n hst hn h hon hun he
  have h2 := fun O => consistent45 O a on un n hst (by omega) (opE_chk he) h hon hun
  generalize csO a on un n (csR a on un n) = R at *
  obtain ⟨rw, re, rb⟩ := R
  unfold vptr at h1 h2
  generalize [[intsI a.alpha, vi a.states, intsI a.marked, .sl 3 a.edges.length (a.edges.map edgI), intsI on, intsI un, rowsI (outOf n a.edges)]] = VP at *
  obtain ⟨al, st, mk, es⟩ := a
  refine aspec_intro Tk Tryz.func18 rfl Tryz.call18 Tryz.ntmps18 (Nat.le_of_ble_eq_true rfl) fun E => ?_
  refine g_run Tk Tryz.func18 ?_
  first | refine g_call Tk Tryz.func18 (h1 _) rfl rfl rfl rfl rfl ?_ | refine s_callq Tk (fun _ => h1 _) rfl rfl rfl ?_
  first | refine g_cnd Tk Tryz.func18 rfl (fun h => absurd h (by decide)) (fun _ => ?_) | refine g_know Tk Tryz.func18 rfl (fun h => absurd h (by decide)) (fun _ => ?_) | refine s_know Tk (fun h => absurd h (by decide)) (fun _ => ?_)
  first | refine g_call Tk Tryz.func18 (h2 _) rfl rfl rfl rfl rfl ?_ | refine s_callq Tk (fun _ => h2 _) rfl rfl rfl ?_
  refine g_ret Tk (r := .tup [ints rw, ii re, bb rb, ii 0]) rfl rfl rfl trivial rfl rfl ?_
  rfl
theorem rea96 (O : List Heap) (x : Edg) (ev : Int) (d nm : Nat) (ho : objAt O d nm = some (.box [ii ev])) : ASpec Tryz.prog 96 [edD x, .own d nm 0 0] O (bb (x.2.1 == ev)) [] O := by
  obtain ⟨xf, xe, xt⟩ := x
  refine aspec_intro Tk Tryz.func96 rfl Tryz.call96 Tryz.ntmps96 (Nat.le_of_ble_eq_true rfl) fun E => ?_
  refine g_run Tk Tryz.func96 ?_
  first | refine g_obj Tk Tryz.func96 (up_obj ho) ?_ | refine s_obj Tk (up_obj ho) ?_
  refine g_ret Tk (r := bb (xe == ev)) rfl rfl rfl trivial rfl rfl ?_
  rfl
theorem stp3_no : ∀ {es : List Edg} {s ev : Int}, (∀ e ∈ es, ¬ (e.1 = s ∧ e.2.1 = ev)) → stp3 es s ev = -1
  | [], _, _, _ => rfl
  | x :: r, s, ev, h => by
    unfold stp3
    rw [if_neg (h x (by simp))]
    exact stp3_no fun e he => h e (by simp [he])
/-- Where a word leads. -/
def runO (es : List Edg) (on un : List Int) (n : Nat) : OS → List Int → Option OS
  | x, [] => some x
  | x, ev :: w => if stp3 es x.1 ev < 0 then none else runO es on un n (nxO es on un n x ev) w
def rchR (a : Aut) (on un : List Int) (n : Nat) (w : List Int) : Option OS := if n = 0 then none else runO a.edges on un n (0, clo a.edges (lowP on un false) n [0]) w
def rchD : Option OS → D
  | none => .tup [.agg [ii 0, .i (.v (.slice none 0 0)), .i (.v (.slice none 0 0))], bb false]
  | some x => .tup [.agg [ii x.1, ints x.2, .i (.v (.slice none 0 0))], bb true]
set_option maxHeartbeats 4000000 in
theorem reached67 (O : List Heap) (a : Aut) (on un w : List Int) (n : Nat) (hst : a.states = n) (hn : n ≤ 4095) (hc : chkA a = 0) (h : smallA a) (hon : on.length ≤ max63) (hun : un.length ≤ max63) (hw : w.length ≤ 1000000) :
    ASpec Tryz.prog 67 [.i (vptr a on un (outOf n a.edges)), ints w] O (rchD (rchR a on un n w)) [] O := by
  obtain ⟨r1, r2, _⟩ := chk_rng hc
  rw [hst] at r1 r2
  obtain ⟨_, _, _, c4⟩ := chk_parts hc
  have hpw := (chkEds_sorted c4).1
  have hed := h.ed
  have hcl := fun O => closure62 O a on un [0] false n (by omega) r2 hed
  have hnext := fun x (hx : ∀ y ∈ x, 0 ≤ y ∧ y < (n : Int)) (hl : x.length ≤ n) ev O => next72 O a on un x ev n (by omega) r2 hed hx (by omega) hon hun
  have hhi := fun O x => high86 O a on un (outOf n a.edges) x hon
  unfold rchR
  refine aspec_stop [] Tk Tryz.func67 rfl Tryz.call67 Tryz.ntmps67 (Nat.le_of_ble_eq_true rfl) fun E => ?_
  refine g_run Tk Tryz.func67 ?_
  first | refine g_elem Tk Tryz.func67 (rfl) ?_ | refine s_elem Tk (rfl) ?_
  first | refine g_cnd Tk Tryz.func67 rfl (fun g1 => ?_) (fun g1 => ?_) | refine g_know Tk Tryz.func67 rfl (fun g1 => ?_) (fun g1 => ?_) | refine s_know Tk (fun g1 => ?_) (fun g1 => ?_)
  · have g1 : a.states = 0 := beqT g1
    have hn0 : n = 0 := by omega
    rw [if_pos hn0]
    refine g_ret Tk (r := .tup [.agg [ii 0, .i (.v (.slice none 0 0)), .i (.v (.slice none 0 0))], bb false]) rfl rfl rfl trivial rfl rfl ?_
    rfl
  have hn0 : n ≠ 0 := by
    have : a.states ≠ 0 := beqF g1
    omega
  rw [if_neg hn0]
  have hcl0 := fun O => hcl O (by simp; omega) (by simp) hon hun
  have hb0 : ∀ y ∈ clo a.edges (lowP on un false) n [0], 0 ≤ y ∧ y < (n : Int) := fun y hy => (mem_sortedBelow.1 hy).1
  have hl0 : (clo a.edges (lowP on un false) n [0]).length ≤ n := sortedBelow_len _ _
  generalize clo a.edges (lowP on un false) n [0] = c0 at *
  generalize hK : runO a.edges on un n (0, c0) w = KK
  first | refine g_call Tk Tryz.func67 (hcl0 _) rfl rfl rfl rfl rfl ?_ | refine s_callq Tk (fun _ => hcl0 _) rfl rfl rfl ?_
  refine g_loop ?_
  refine rch_loop2 (fun x : Nat × Int × List Int => [(0, .i (vptr a on un (outOf n a.edges))), (4, .own 0 4 0 0), (6, .own 0 6 0 0), (21, ints w), (22, ii w.length), (23, ii x.1)])
    (fun x => [(6, .box [ii x.2.1, ints x.2.2, .i (.v (.slice none 0 0))]), (4, .box [.i (.v (.int .i64 0)), .i (.v (.slice none 0 0)), .i (.v (.slice none 0 0))])]) (fun _ => O) 64
    (fun x => x.1 ≤ w.length ∧ (0 ≤ x.2.1 ∧ x.2.1 < (n : Int)) ∧ (∀ y ∈ x.2.2, 0 ≤ y ∧ y < (n : Int)) ∧ x.2.2.length ≤ n ∧ runO a.edges on un n (x.2.1, x.2.2) (w.drop x.1) = KK) (fun x => w.length - x.1) (0, 0, c0)
    ⟨Nat.zero_le _, by simp only; omega, hb0, hl0, hK⟩ ⟨rfl, rfl, rfl, rfl, rfl, rfl, trivial⟩ rfl ⟨rfl, rfl, trivial⟩ rfl rfl ?_
  clear hb0 hl0 hK
  rintro ⟨i, s, e⟩ ⟨hi, hs, hb, hl, hno⟩ ih
  simp only at hi hs hb hl hno
  refine g_run Tk Tryz.func67 ?_
  first | refine g_cnd Tk Tryz.func67 rfl (fun g2 => ?_) (fun g2 => ?_) | refine g_know Tk Tryz.func67 rfl (fun g2 => ?_) (fun g2 => ?_) | refine s_know Tk (fun g2 => ?_) (fun g2 => ?_)
  · have h1 : i < w.length := by simpa using g2
    clear g2
    have gw : (w.map fun x => [vi x])[(i : Int).toNat]? = some [vi w[i]] := get_mapZ (f := fun x => [vi x]) h1
    rw [List.drop_eq_getElem_cons h1] at hno
    simp only [runO] at hno
    generalize w[i] = ev at *
    obtain ⟨zs, rfl⟩ : ∃ k : Nat, s = k := ⟨s.toNat, by omega⟩
    have hsn' : zs < n := by omega
    have gr : ((outOf n a.edges).map fun r => [I.sl 3 r.length (r.map edgI)])[(zs : Int).toNat]? = some [I.sl 3 (a.edges.filter fun e => e.1 == (zs : Int)).length ((a.edges.filter fun e => e.1 == (zs : Int)).map edgI)] := by rw [Int.toNat_natCast, List.getElem?_map, outOf_get hsn']; rfl
    have hrm : ∀ x : Edg, x ∈ a.edges.filter (fun e => e.1 == (zs : Int)) ↔ x ∈ a.edges ∧ x.1 = (zs : Int) := fun x => by rw [List.mem_filter]; simp
    have hrl : (a.edges.filter fun e => e.1 == (zs : Int)).length ≤ max63 := Nat.le_trans (List.length_filter_le _ _) (by simp only [max63]; omega)
    generalize (a.edges.filter fun e => e.1 == (zs : Int)) = row at *
    have hix := fun O (ho : objAt O 0 8 = some (.box [ii ev])) => idx95 O row 96 0 8 (fun e => e.2.1 == ev) hrl fun x _ => rea96 _ x ev 1 8 (up_obj ho)
    have hsp := findIx_spec (fun e : Edg => e.2.1 == ev) row 0
    generalize findIx (fun e : Edg => e.2.1 == ev) row 0 = ix at *
    have hh1 := fun O => hhi O ev
    have hi1 : ii (IntKind.i64.wrap ((i : Int) + 1)) = ii ((i + 1 : Nat) : Int) := congrArg ii (wsucc (n := 1000001) (by omega) (by decide))
    first | refine g_need Tk Tryz.func67 (by exact ⟨by omega, by show (i : Int) < (w.length : Int); omega⟩) ?_ | refine s_need Tk (by exact ⟨by omega, by show (i : Int) < (w.length : Int); omega⟩) ?_
    first | refine g_elem Tk Tryz.func67 (gw) ?_ | refine s_elem Tk (gw) ?_
    refine g_drawn Tk Tryz.func67 mixedT rfl ?_
    first | refine g_elem Tk Tryz.func67 (rfl) ?_ | refine s_elem Tk (rfl) ?_
    first | refine g_need Tk Tryz.func67 (by exact ⟨by show (0 : Int) ≤ (zs : Int); omega, by show (zs : Int) < ((outOf n a.edges).length : Int); rw [outOf_len]; omega⟩) ?_ | refine s_need Tk (by exact ⟨by show (0 : Int) ≤ (zs : Int); omega, by show (zs : Int) < ((outOf n a.edges).length : Int); rw [outOf_len]; omega⟩) ?_
    first | refine g_elem Tk Tryz.func67 (gr) ?_ | refine s_elem Tk (gr) ?_
    refine s_call Tk (hix _ rfl) rfl rfl rfl ?_
    refine e_done Tk Tryz.func67 (by kernel_rfl) ?_
    first | refine g_cnd Tk Tryz.func67 rfl (fun g3 => ?_) (fun g3 => ?_) | refine g_know Tk Tryz.func67 rfl (fun g3 => ?_) (fun g3 => ?_) | refine s_know Tk (fun g3 => ?_) (fun g3 => ?_)
    · have g3 : ix < 0 := of_decide_eq_true g3
      rcases hsp with ⟨_, h2⟩ | ⟨k, hk, h2, _⟩
      · have e1 : stp3 a.edges zs ev = -1 := stp3_no fun e he hh => by
          have := h2 e ((hrm e).2 ⟨he, hh.1⟩)
          simp [hh.2] at this
        rw [e1, if_pos (by decide)] at hno
        subst hno
        refine g_ret Tk (r := .tup [.agg [ii 0, .i (.v (.slice none 0 0)), .i (.v (.slice none 0 0))], bb false]) rfl rfl rfl trivial rfl rfl ?_
        rfl
      · omega
    have g3 : ¬ ix < 0 := of_decide_eq_false g3
    rcases hsp with ⟨h2, _⟩ | ⟨k, hk, h2, h3, _⟩
    · omega
    rw [Nat.zero_add] at h2
    subst h2
    have hxm := (hrm _).1 (List.getElem_mem hk)
    have h3 : row[k].2.1 = ev := by simpa using h3
    have hte := r2 _ hxm.1
    have hse : stp3 a.edges zs ev = row[k].2.2 := by rw [← hxm.2, ← h3]; exact stp3_of hpw hxm.1
    have ge : (row.map edgI)[(k : Int).toNat]? = some (edgI row[k]) := get_mapZ hk
    rw [hse, if_neg (by omega)] at hno
    have hnx : nxO a.edges on un n ((zs : Int), e) ev = (row[k].2.2, if ev ∈ on then nxt a.edges (lowP on un false) n e ev else e) := by simp only [nxO, hse]
    rw [hnx] at hno
    clear hnx hse hix h3
    generalize row[k] = y at *
    obtain ⟨yf, ye, yt⟩ := y
    simp only at hno hte hxm
    have hn1 := hnext e hb hl ev
    clear g3
    refine g_drawn Tk Tryz.func67 mixedT rfl ?_
    first | refine g_elem Tk Tryz.func67 (rfl) ?_ | refine s_elem Tk (rfl) ?_
    first | refine g_need Tk Tryz.func67 (by exact ⟨by show (0 : Int) ≤ (zs : Int); omega, by show (zs : Int) < ((outOf n a.edges).length : Int); rw [outOf_len]; omega⟩) ?_ | refine s_need Tk (by exact ⟨by show (0 : Int) ≤ (zs : Int); omega, by show (zs : Int) < ((outOf n a.edges).length : Int); rw [outOf_len]; omega⟩) ?_
    first | refine g_elem Tk Tryz.func67 (gr) ?_ | refine s_elem Tk (gr) ?_
    first | refine g_need Tk Tryz.func67 (by exact ⟨by omega, by show (k : Int) < (row.length : Int); omega⟩) ?_ | refine s_need Tk (by exact ⟨by omega, by show (k : Int) < (row.length : Int); omega⟩) ?_
    first | refine g_elem Tk Tryz.func67 (ge) ?_ | refine s_elem Tk (ge) ?_
    refine s_put Tk rfl rfl rfl ?_
    refine e_done Tk Tryz.func67 (by kernel_rfl) ?_
    first | refine g_call Tk Tryz.func67 (hh1 _) rfl rfl rfl rfl rfl ?_ | refine s_callq Tk (fun _ => hh1 _) rfl rfl rfl ?_
    first | refine g_cnd Tk Tryz.func67 rfl (fun c1 => ?_) (fun c1 => ?_) | refine g_know Tk Tryz.func67 rfl (fun c1 => ?_) (fun c1 => ?_) | refine s_know Tk (fun c1 => ?_) (fun c1 => ?_)
    · have c1 : ev ∈ on := of_decide_eq_true c1
      rw [if_pos c1] at hno
      first | refine g_call Tk Tryz.func67 (hn1 _) rfl rfl rfl rfl rfl ?_ | refine s_callq Tk (fun _ => hn1 _) rfl rfl rfl ?_
      refine g_loop ?_
      exact ih (i + 1, yt, nxt a.edges (lowP on un false) n e ev) _ _ ⟨h1, hte, fun y hy => (mem_sortedBelow.1 hy).1, sortedBelow_len _ _, hno⟩ (by simp only; omega) ⟨rfl, rfl, rfl, rfl, rfl, hi1, trivial⟩ rfl ⟨rfl, rfl, trivial⟩ rfl rfl
    · have c1 : ev ∉ on := of_decide_eq_false c1
      rw [if_neg c1] at hno
      refine g_loop ?_
      exact ih (i + 1, yt, e) _ _ ⟨h1, hte, hb, hl, hno⟩ (by simp only; omega) ⟨rfl, rfl, rfl, rfl, rfl, hi1, trivial⟩ rfl ⟨rfl, rfl, trivial⟩ rfl rfl
  · have h1 : w.length ≤ i := by simpa using g2
    rw [List.drop_eq_nil_of_le h1] at hno
    simp only [runO] at hno
    subst hno
    refine g_ret Tk (r := .tup [.agg [ii s, ints e, .i (.v (.slice none 0 0))], bb true]) rfl rfl rfl trivial rfl rfl ?_
    rfl
end Go.AI


/- observerproperty: Refutes, Contradicts. -/
namespace Go.AI
open Go.Proofs
set_option maxRecDepth 20000
theorem ref71 (O : List Heap) (x : Int) (a : Aut) (on un : List Int) (R : List (List Edg)) (d nm : Nat) (hal : a.alpha.length ≤ 1000000) (hl : on.length ≤ max63) (ho : objAt O d nm = some (.box [.i (vptr a on un R)])) :
    ASpec Tryz.prog 71 [ii x, .own d nm 0 0] O (bb (!decide (x ∈ keptR a on))) [] O := by
  have hk := fun O => kept46 O a on un R hal hl
  have hkl : (keptR a on).length ≤ max63 := Nat.le_trans (List.length_filter_le _ _) (by simp only [max63]; omega)
  generalize keptR a on = kp at *
  have hc := fun O => contains110 O kp x hkl
  refine aspec_intro Tk Tryz.func71 rfl Tryz.call71 Tryz.ntmps71 (Nat.le_of_ble_eq_true rfl) fun E => ?_
  refine g_run Tk Tryz.func71 ?_
  first | refine g_obj Tk Tryz.func71 (up_obj ho) ?_ | refine s_obj Tk (up_obj ho) ?_
  first | refine g_call Tk Tryz.func71 (hk _) rfl rfl rfl rfl rfl ?_ | refine s_callq Tk (fun _ => hk _) rfl rfl rfl ?_
  first | refine g_call Tk Tryz.func71 (hc _) rfl rfl rfl rfl rfl ?_ | refine s_callq Tk (fun _ => hc _) rfl rfl rfl ?_
  refine g_ret Tk (r := bb (!decide (x ∈ kp))) rfl rfl rfl trivial rfl rfl ?_
  rfl
def nxtL (es : List Edg) (p : Int → Bool) (n : Nat) (l : List Int) (obs : List Int) : List Int := obs.foldl (nxt es p n) l
def rfsR (a : Aut) (on : List Int) (n : Nat) (w obs : List Int) : Bool := match rchR a on [] n w with
  | none => false
  | some x => if obs.any (fun ev => !decide (ev ∈ keptR a on)) then false else
    badM a (nxtL a.edges (lowP on [] false) n x.2 obs) (nxtL a.edges (lowP on [] false) n (clo a.edges (lowP on [] false) n [x.1]) obs)
theorem runO_in {es : List Edg} {on un : List Int} {n : Nat} (hes : ∀ x ∈ es, 0 ≤ x.2.2 ∧ x.2.2 < (n : Int)) : ∀ (w : List Int) (x y : OS), runO es on un n x w = some y → (0 ≤ x.1 ∧ x.1 < (n : Int)) ∧ x.2 ∈ subs n → (0 ≤ y.1 ∧ y.1 < (n : Int)) ∧ y.2 ∈ subs n
  | [], x, y, h, hx => by
    simp only [runO, Option.some.injEq] at h
    subst h
    exact hx
  | ev :: w, x, y, h, hx => by
    simp only [runO] at h
    split at h
    · cases h
    · rename_i h1
      refine runO_in hes w _ y h ⟨?_, ?_⟩
      · rcases stp3_b (n := (n : Int)) (es := es) (s := x.1) (ev := ev) hes with h2 | h2
        · rw [h2] at h1; exact absurd (by decide) h1
        · exact h2
      · simp only [nxO]
        split
        · exact sorted_subs _ _
        · exact hx.2
set_option maxHeartbeats 8000000 in
theorem refutes27 (O : List Heap) (a : Aut) (on w obs : List Int) (n : Nat) (hst : a.states = n) (hn : n ≤ 12) (h : smallA a) (hon : on.length ≤ max63) (hw : w.length ≤ 1000000) (hob : obs.length ≤ 1000000) (he : opE a on [] = 0) :
    ASpec Tryz.prog 27 [autD a, ints on, ints w, ints obs] O (.tup [bb (rfsR a on n w obs), ii 0]) [] O := by
  have h1 := fun O => coNil (opened42v O a on [] n hst hn h hon (by simp) he)
  have hc := opE_chk he
  have h2 := fun O => reached67 O a on [] w n hst (by omega) hc h hon (by simp) hw
  obtain ⟨r1, r2, _⟩ := chk_rng hc
  rw [hst] at r1 r2
  have hed := h.ed
  have hal := h.al
  have hmk : a.marked.length ≤ max63 := by have := h.mkd; simp only [max63]; omega
  have hnext := fun O x (hx : ∀ y ∈ x, 0 ≤ y ∧ y < (n : Int)) (hl : x.length ≤ n) ev => next72 O a on [] x ev n (by omega) r2 hed hx (by omega) hon (by simp)
  have hmr := fun O x hx => marks58 O a on [] x (outOf n a.edges) hmk hx
  have hcf := fun O (ho : objAt O 0 10 = some (.box [.i (vptr a on [] (outOf n a.edges))])) => containsFunc68 O obs 71 0 10 (fun ev => !decide (ev ∈ keptR a on)) (by simp only [max63]; omega) fun x _ => ref71 _ x a on [] (outOf n a.edges) 2 10 hal hon (up_obj (up_obj ho))
  have hin : ∀ y, rchR a on [] n w = some y → (0 ≤ y.1 ∧ y.1 < (n : Int)) ∧ y.2 ∈ subs n := fun y hy => by
    unfold rchR at hy
    split at hy
    · cases hy
    · rename_i hn0
      exact runO_in r2 w _ y hy ⟨by simp only; omega, sorted_subs _ _⟩
  have hcl := fun O s (hs : 0 ≤ s ∧ s < (n : Int)) => closure62 O a on [] [s] false n (by omega) r2 hed (by simpa using hs) (by simp) hon (by simp)
  have hR : rfsR a on n w obs = match rchR a on [] n w with
    | none => false
    | some x => if obs.any (fun ev => !decide (ev ∈ keptR a on)) then false else badM a (nxtL a.edges (lowP on [] false) n x.2 obs) (nxtL a.edges (lowP on [] false) n (clo a.edges (lowP on [] false) n [x.1]) obs) := rfl
  generalize rfsR a on n w obs = R at *
  generalize rchR a on [] n w = rc at *
  generalize (obs.any fun ev => !decide (ev ∈ keptR a on)) = ob at *
  rcases rc with _ | ⟨s, e⟩
  · simp only at hR
    subst hR
    have h2 : ∀ O, ASpec Tryz.prog 67 _ O (.tup [.agg [ii 0, .i (.v (.slice none 0 0)), .i (.v (.slice none 0 0))], bb false]) [] O := h2
    clear hcf hin hcl hnext hmr
    refine aspec_intro Tk Tryz.func27 rfl Tryz.call27 Tryz.ntmps27 (Nat.le_of_ble_eq_true rfl) fun E => ?_
    refine g_run Tk Tryz.func27 ?_
    first | refine g_call Tk Tryz.func27 (h1 _) rfl rfl rfl rfl rfl ?_ | refine s_callq Tk (fun _ => h1 _) rfl rfl rfl ?_
    first | refine g_cnd Tk Tryz.func27 rfl (fun h => absurd h (by decide)) (fun _ => ?_) | refine g_know Tk Tryz.func27 rfl (fun h => absurd h (by decide)) (fun _ => ?_) | refine s_know Tk (fun h => absurd h (by decide)) (fun _ => ?_)
    first | refine g_call Tk Tryz.func27 (h2 _) rfl rfl rfl rfl rfl ?_ | refine s_callq Tk (fun _ => h2 _) rfl rfl rfl ?_
    repeat (first | refine g_cnd Tk Tryz.func27 rfl (fun _ => ?_) (fun h => absurd h (by decide)) | refine g_know Tk Tryz.func27 rfl (fun _ => ?_) (fun h => absurd h (by decide)) | refine s_know Tk (fun _ => ?_) (fun h => absurd h (by decide)) | refine g_cnd Tk Tryz.func27 rfl (fun h => absurd h (by decide)) (fun _ => ?_) | refine g_know Tk Tryz.func27 rfl (fun h => absurd h (by decide)) (fun _ => ?_) | refine s_know Tk (fun h => absurd h (by decide)) (fun _ => ?_) | refine g_cnd Tk Tryz.func27 rfl (fun _ => ?_) (fun h => absurd (show true = false from h) (by decide)) | refine g_know Tk Tryz.func27 rfl (fun _ => ?_) (fun h => absurd (show true = false from h) (by decide)) | refine s_know Tk (fun _ => ?_) (fun h => absurd (show true = false from h) (by decide)) | refine g_cnd Tk Tryz.func27 rfl (fun h => absurd (show false = true from h) (by decide)) (fun _ => ?_) | refine g_know Tk Tryz.func27 rfl (fun h => absurd (show false = true from h) (by decide)) (fun _ => ?_) | refine s_know Tk (fun h => absurd (show false = true from h) (by decide)) (fun _ => ?_))
    refine g_ret Tk (r := .tup [bb false, ii 0]) rfl rfl rfl trivial rfl rfl ?_
    rfl
  have h2 : ∀ O, ASpec Tryz.prog 67 _ O (.tup [.agg [ii s, ints e, .i (.v (.slice none 0 0))], bb true]) [] O := h2
  simp only at hR
  obtain ⟨hs, heV⟩ := hin _ rfl
  simp only at hs heV
  have hcs := fun O => hcl O s hs
  have hcb : ∀ y ∈ clo a.edges (lowP on [] false) n [s], 0 ≤ y ∧ y < (n : Int) := fun y hy => (mem_sortedBelow.1 hy).1
  have hcl0 : (clo a.edges (lowP on [] false) n [s]).length ≤ n := sortedBelow_len _ _
  generalize clo a.edges (lowP on [] false) n [s] = cs at *
  refine aspec_stop [] Tk Tryz.func27 rfl Tryz.call27 Tryz.ntmps27 (Nat.le_of_ble_eq_true rfl) fun E => ?_
  refine g_run Tk Tryz.func27 ?_
  first | refine g_call Tk Tryz.func27 (h1 _) rfl rfl rfl rfl rfl ?_ | refine s_callq Tk (fun _ => h1 _) rfl rfl rfl ?_
  first | refine g_cnd Tk Tryz.func27 rfl (fun h => absurd h (by decide)) (fun _ => ?_) | refine g_know Tk Tryz.func27 rfl (fun h => absurd h (by decide)) (fun _ => ?_) | refine s_know Tk (fun h => absurd h (by decide)) (fun _ => ?_)
  first | refine g_call Tk Tryz.func27 (h2 _) rfl rfl rfl rfl rfl ?_ | refine s_callq Tk (fun _ => h2 _) rfl rfl rfl ?_
  repeat (first | refine g_cnd Tk Tryz.func27 rfl (fun _ => ?_) (fun h => absurd h (by decide)) | refine g_know Tk Tryz.func27 rfl (fun _ => ?_) (fun h => absurd h (by decide)) | refine s_know Tk (fun _ => ?_) (fun h => absurd h (by decide)) | refine g_cnd Tk Tryz.func27 rfl (fun h => absurd h (by decide)) (fun _ => ?_) | refine g_know Tk Tryz.func27 rfl (fun h => absurd h (by decide)) (fun _ => ?_) | refine s_know Tk (fun h => absurd h (by decide)) (fun _ => ?_) | refine g_cnd Tk Tryz.func27 rfl (fun _ => ?_) (fun h => absurd (show true = false from h) (by decide)) | refine g_know Tk Tryz.func27 rfl (fun _ => ?_) (fun h => absurd (show true = false from h) (by decide)) | refine s_know Tk (fun _ => ?_) (fun h => absurd (show true = false from h) (by decide)) | refine g_cnd Tk Tryz.func27 rfl (fun h => absurd (show false = true from h) (by decide)) (fun _ => ?_) | refine g_know Tk Tryz.func27 rfl (fun h => absurd (show false = true from h) (by decide)) (fun _ => ?_) | refine s_know Tk (fun h => absurd (show false = true from h) (by decide)) (fun _ => ?_))
  first | refine g_call Tk Tryz.func27 (hcf _ rfl) rfl rfl rfl rfl rfl ?_ | refine s_callq Tk (fun _ => hcf _ rfl) rfl rfl rfl ?_
  first | refine g_cnd Tk Tryz.func27 rfl (fun c1 => ?_) (fun c1 => ?_) | refine g_know Tk Tryz.func27 rfl (fun c1 => ?_) (fun c1 => ?_) | refine s_know Tk (fun c1 => ?_) (fun c1 => ?_)
  · have c1 : ob = true := c1
    rw [c1, if_pos rfl] at hR
    subst hR
    refine g_ret Tk (r := .tup [bb false, ii 0]) rfl rfl rfl trivial rfl rfl ?_
    rfl
  have c1 : ob = false := c1
  rw [c1, if_neg (by decide)] at hR
  refine g_drawn Tk Tryz.func27 mixedT rfl ?_
  first | refine g_call Tk Tryz.func27 (hcs _) rfl rfl rfl rfl rfl ?_ | refine s_callq Tk (fun _ => hcs _) rfl rfl rfl ?_
  refine e_done Tk Tryz.func27 (by kernel_rfl) ?_
  refine g_loop ?_
  refine rch_loop2 (fun x : Nat × List Int × List Int => [(10, .own 0 10 0 0), (14, ints x.2.1), (15, ints x.2.2), (47, ints obs), (48, ii obs.length), (49, ii x.1)])
    (fun x => [(10, .box [.i (vptr a on [] (outOf n a.edges))])]) (fun _ => O) 71
    (fun x => x.1 ≤ obs.length ∧ ((∀ y ∈ x.2.1, 0 ≤ y ∧ y < (n : Int)) ∧ x.2.1.length ≤ n) ∧ ((∀ y ∈ x.2.2, 0 ≤ y ∧ y < (n : Int)) ∧ x.2.2.length ≤ n) ∧ R = badM a (nxtL a.edges (lowP on [] false) n x.2.1 (obs.drop x.1)) (nxtL a.edges (lowP on [] false) n x.2.2 (obs.drop x.1))) (fun x => obs.length - x.1) (0, e, cs)
    ⟨Nat.zero_le _, ⟨(mem_subs heV).2, (mem_subs heV).1⟩, ⟨hcb, hcl0⟩, hR⟩ ⟨rfl, rfl, rfl, rfl, rfl, rfl, trivial⟩ rfl ⟨rfl, trivial⟩ rfl rfl ?_
  clear hR hcb hcl0 hcs heV hin
  rintro ⟨i, x, y⟩ ⟨hi, ⟨hx, hxl⟩, ⟨hy, hyl⟩, hno⟩ ih
  simp only at hi hx hxl hy hyl hno
  refine g_run Tk Tryz.func27 ?_
  first | refine g_cnd Tk Tryz.func27 rfl (fun g2 => ?_) (fun g2 => ?_) | refine g_know Tk Tryz.func27 rfl (fun g2 => ?_) (fun g2 => ?_) | refine s_know Tk (fun g2 => ?_) (fun g2 => ?_)
  · have h3 : i < obs.length := by simpa using g2
    clear g2
    have gw : (obs.map fun x => [vi x])[(i : Int).toNat]? = some [vi obs[i]] := get_mapZ (f := fun x => [vi x]) h3
    rw [List.drop_eq_getElem_cons h3] at hno
    simp only [nxtL, List.foldl_cons] at hno
    generalize obs[i] = ev at *
    have hnx := fun O => hnext O x hx hxl ev
    have hny := fun O => hnext O y hy hyl ev
    first | refine g_need Tk Tryz.func27 (by exact ⟨by omega, by show (i : Int) < (obs.length : Int); omega⟩) ?_ | refine s_need Tk (by exact ⟨by omega, by show (i : Int) < (obs.length : Int); omega⟩) ?_
    first | refine g_elem Tk Tryz.func27 (gw) ?_ | refine s_elem Tk (gw) ?_
    refine g_drawn Tk Tryz.func27 mixedT rfl ?_
    first | refine g_call Tk Tryz.func27 (hnx _) rfl rfl rfl rfl rfl ?_ | refine s_callq Tk (fun _ => hnx _) rfl rfl rfl ?_
    first | refine g_call Tk Tryz.func27 (hny _) rfl rfl rfl rfl rfl ?_ | refine s_callq Tk (fun _ => hny _) rfl rfl rfl ?_
    refine e_done Tk Tryz.func27 (by kernel_rfl) ?_
    refine g_loop ?_
    exact ih (i + 1, nxt a.edges (lowP on [] false) n x ev, nxt a.edges (lowP on [] false) n y ev) _ _ ⟨h3, ⟨fun y hy => (mem_sortedBelow.1 hy).1, sortedBelow_len _ _⟩, ⟨fun y hy => (mem_sortedBelow.1 hy).1, sortedBelow_len _ _⟩, hno⟩ (by simp only; omega) ⟨rfl, rfl, rfl, rfl, rfl, congrArg ii (wsucc (n := 1000001) (by omega) (by decide)), trivial⟩ rfl ⟨rfl, trivial⟩ rfl rfl
  · have h3 : obs.length ≤ i := by simpa using g2
    rw [List.drop_eq_nil_of_le h3] at hno
    simp only [nxtL, List.foldl_nil, badM, marksR] at hno
    have hmx := fun O => hmr O x (by simp only [max63]; omega)
    have hmy := fun O => hmr O y (by simp only [max63]; omega)
    generalize (x.any fun x => decide (x ∈ a.marked)) = p at *
    generalize (y.any fun x => decide (x ∈ a.marked)) = q at *
    first | refine g_call Tk Tryz.func27 (hmx _) rfl rfl rfl rfl rfl ?_ | refine s_callq Tk (fun _ => hmx _) rfl rfl rfl ?_
    first | refine g_cnd Tk Tryz.func27 rfl (fun c2 => ?_) (fun c2 => ?_) | refine g_know Tk Tryz.func27 rfl (fun c2 => ?_) (fun c2 => ?_) | refine s_know Tk (fun c2 => ?_) (fun c2 => ?_)
    · have c2 : p = true := c2
      subst c2
      first | refine g_call Tk Tryz.func27 (hmy _) rfl rfl rfl rfl rfl ?_ | refine s_callq Tk (fun _ => hmy _) rfl rfl rfl ?_
      refine g_ret Tk (r := .tup [bb (!q), ii 0]) rfl rfl rfl trivial rfl rfl ?_
      rw [hno]
      simp
    · have c2 : p = false := c2
      subst c2
      refine g_ret Tk (r := .tup [bb false, ii 0]) rfl rfl rfl trivial rfl rfl ?_
      rw [hno]
      rfl
def cdsR (a : Aut) (on un : List Int) (n : Nat) (w : List Int) (ev : Int) : Bool := match rchR a on un n w with
  | none => false
  | some x => conR a on un n x.1 ev
set_option maxHeartbeats 4000000 in
theorem contradicts25 (O : List Heap) (a : Aut) (on un w : List Int) (ev : Int) (n : Nat) (hst : a.states = n) (hn : n ≤ 12) (h : smallA a) (hon : on.length ≤ max63) (hun : un.length ≤ max63) (hw : w.length ≤ 1000000) (he : opE a on un = 0) :
    ASpec Tryz.prog 25 [autD a, ints on, ints un, ints w, ii ev] O (.tup [bb (cdsR a on un n w ev), ii 0]) [] O := by
  have h1 := fun O => opened42v O a on un n hst hn h hon hun he
  have hc := opE_chk he
  have h2 := fun O => reached67 O a on un w n hst (by omega) hc h hon hun hw
  obtain ⟨r1, r2, _⟩ := chk_rng hc
  rw [hst] at r1 r2
  have hin : ∀ y, rchR a on un n w = some y → (0 ≤ y.1 ∧ y.1 < (n : Int)) ∧ y.2 ∈ subs n := fun y hy => by
    unfold rchR at hy
    split at hy
    · cases hy
    · rename_i hn0
      exact runO_in r2 w _ y hy ⟨by simp only; omega, sorted_subs _ _⟩
  have hcon := fun O s hs => contradicted68 O a on un n s ev (by omega) hs r2 h.ed hon hun
  have hR : cdsR a on un n w ev = match rchR a on un n w with
    | none => false
    | some x => conR a on un n x.1 ev := rfl
  generalize cdsR a on un n w ev = R at *
  generalize rchR a on un n w = rc at *
  rcases rc with _ | ⟨s, e⟩
  · simp only at hR
    subst hR
    have h2 : ∀ O, ASpec Tryz.prog 67 _ O (.tup [.agg [ii 0, .i (.v (.slice none 0 0)), .i (.v (.slice none 0 0))], bb false]) [] O := h2
    refine aspec_intro Tk Tryz.func25 rfl Tryz.call25 Tryz.ntmps25 (Nat.le_of_ble_eq_true rfl) fun E => ?_
    refine g_run Tk Tryz.func25 ?_
    first | refine g_call Tk Tryz.func25 (h1 _) rfl rfl rfl rfl rfl ?_ | refine s_callq Tk (fun _ => h1 _) rfl rfl rfl ?_
    first | refine g_cnd Tk Tryz.func25 rfl (fun h => absurd h (by decide)) (fun _ => ?_) | refine g_know Tk Tryz.func25 rfl (fun h => absurd h (by decide)) (fun _ => ?_) | refine s_know Tk (fun h => absurd h (by decide)) (fun _ => ?_)
    first | refine g_call Tk Tryz.func25 (h2 _) rfl rfl rfl rfl rfl ?_ | refine s_callq Tk (fun _ => h2 _) rfl rfl rfl ?_
    repeat (first | refine g_cnd Tk Tryz.func25 rfl (fun _ => ?_) (fun h => absurd h (by decide)) | refine g_know Tk Tryz.func25 rfl (fun _ => ?_) (fun h => absurd h (by decide)) | refine s_know Tk (fun _ => ?_) (fun h => absurd h (by decide)) | refine g_cnd Tk Tryz.func25 rfl (fun h => absurd h (by decide)) (fun _ => ?_) | refine g_know Tk Tryz.func25 rfl (fun h => absurd h (by decide)) (fun _ => ?_) | refine s_know Tk (fun h => absurd h (by decide)) (fun _ => ?_) | refine g_cnd Tk Tryz.func25 rfl (fun _ => ?_) (fun h => absurd (show true = false from h) (by decide)) | refine g_know Tk Tryz.func25 rfl (fun _ => ?_) (fun h => absurd (show true = false from h) (by decide)) | refine s_know Tk (fun _ => ?_) (fun h => absurd (show true = false from h) (by decide)) | refine g_cnd Tk Tryz.func25 rfl (fun h => absurd (show false = true from h) (by decide)) (fun _ => ?_) | refine g_know Tk Tryz.func25 rfl (fun h => absurd (show false = true from h) (by decide)) (fun _ => ?_) | refine s_know Tk (fun h => absurd (show false = true from h) (by decide)) (fun _ => ?_))
    refine g_ret Tk (r := .tup [bb false, ii 0]) rfl rfl rfl trivial rfl rfl ?_
    rfl
  have h2 : ∀ O, ASpec Tryz.prog 67 _ O (.tup [.agg [ii s, ints e, .i (.v (.slice none 0 0))], bb true]) [] O := h2
  simp only at hR
  have hcs := fun O => hcon O s (hin _ rfl).1
  rw [← hR] at hcs
  refine aspec_intro Tk Tryz.func25 rfl Tryz.call25 Tryz.ntmps25 (Nat.le_of_ble_eq_true rfl) fun E => ?_
  refine g_run Tk Tryz.func25 ?_
  first | refine g_call Tk Tryz.func25 (h1 _) rfl rfl rfl rfl rfl ?_ | refine s_callq Tk (fun _ => h1 _) rfl rfl rfl ?_
  first | refine g_cnd Tk Tryz.func25 rfl (fun h => absurd h (by decide)) (fun _ => ?_) | refine g_know Tk Tryz.func25 rfl (fun h => absurd h (by decide)) (fun _ => ?_) | refine s_know Tk (fun h => absurd h (by decide)) (fun _ => ?_)
  first | refine g_call Tk Tryz.func25 (h2 _) rfl rfl rfl rfl rfl ?_ | refine s_callq Tk (fun _ => h2 _) rfl rfl rfl ?_
  repeat (first | refine g_cnd Tk Tryz.func25 rfl (fun _ => ?_) (fun h => absurd h (by decide)) | refine g_know Tk Tryz.func25 rfl (fun _ => ?_) (fun h => absurd h (by decide)) | refine s_know Tk (fun _ => ?_) (fun h => absurd h (by decide)) | refine g_cnd Tk Tryz.func25 rfl (fun h => absurd h (by decide)) (fun _ => ?_) | refine g_know Tk Tryz.func25 rfl (fun h => absurd h (by decide)) (fun _ => ?_) | refine s_know Tk (fun h => absurd h (by decide)) (fun _ => ?_) | refine g_cnd Tk Tryz.func25 rfl (fun _ => ?_) (fun h => absurd (show true = false from h) (by decide)) | refine g_know Tk Tryz.func25 rfl (fun _ => ?_) (fun h => absurd (show true = false from h) (by decide)) | refine s_know Tk (fun _ => ?_) (fun h => absurd (show true = false from h) (by decide)) | refine g_cnd Tk Tryz.func25 rfl (fun h => absurd (show false = true from h) (by decide)) (fun _ => ?_) | refine g_know Tk Tryz.func25 rfl (fun h => absurd (show false = true from h) (by decide)) (fun _ => ?_) | refine s_know Tk (fun h => absurd (show false = true from h) (by decide)) (fun _ => ?_))
  first | refine g_call Tk Tryz.func25 (hcs _) rfl rfl rfl rfl rfl ?_ | refine s_callq Tk (fun _ => hcs _) rfl rfl rfl ?_
  refine g_ret Tk (r := .tup [bb R, ii 0]) rfl rfl rfl trivial rfl rfl ?_
  rfl
end Go.AI


/- A call that is handed an own row as data, and of which only a closed result is kept: behind it all is as it was. -/
namespace Go.AI
open Go.Proofs
/-- An argument as data, where the row nm holds d. -/
inductive FrzA (nm : Nat) (d : I) : List D → List D → Prop
  | nil : FrzA nm d [] []
  | i {x : I} {l m : List D} : FrzA nm d l m → FrzA nm d (.i x :: l) (.i x :: m)
  | osl {l m : List D} : FrzA nm d l m → FrzA nm d (.osl 0 nm :: l) (.i d :: m)
/-- A result that refers to nothing. -/
def Shut (d : D) : Prop := ∀ K K' ρ ρ' sh sh' v, RepD K ρ sh v d → RepD K' ρ' sh' v d
theorem shut_v (x : Value) : Shut (.i (.v x)) := fun _ _ _ _ _ _ v h => by
  cases h with
  | i r => cases r with
    | v e => exact .i (.v e)
theorem shut_2 (x y : Value) : Shut (.tup [.i (.v x), .i (.v y)]) := fun K K' ρ ρ' sh sh' v h => by
  cases h with
  | tup r => cases r with
    | cons h1 r => cases r with
      | cons h2 r => cases r; exact .tup (.cons (shut_v _ K K' ρ ρ' sh sh' _ h1) (.cons (shut_v _ K K' ρ ρ' sh sh' _ h2) .nil))
theorem FrzA.rep {K K' : Kn} {ρ : Nat → Nat → Loc} {sh sh' : Nat → Nat → Option Sh} {nm es n : Nat} {xs : List (List I)} (hle : K.le K') (hs : sh 0 nm = some (.arr es n)) (hr : Rep K' (.slice (ρ 0 nm).base n (ρ 0 nm).cap) (.sl es n xs)) :
    ∀ {vs : List Value} {a b : List D}, FrzA nm (.sl es n xs) a b → RepDL K ρ sh vs a → RepDL K' ρ sh' vs b
  | _, _, _, .nil, .nil => .nil
  | _, _, _, .i h, .cons (.i r) rs => .cons (.i (r.mono hle)) (FrzA.rep hle hs hr h rs)
  | _, _, _, .osl h, .cons r rs => by
    have := inv_osl r hs
    subst this
    exact .cons (.i hr) (FrzA.rep hle hs hr h rs)
theorem does_forget {g : Nat} {tab : Obj} {c : Cx} {s : St} {o : Oper} {f : FuncId} {args dargs : List D} {res : D} {t nm ty es n : Nat} {xs : List (List I)} {wr : Bool} {H : Heap} {O O0 : List Heap} (htab : TabE g tab c.E O0)
    (hspec : ASpecT g tab c.P f dargs [] res [] []) (hsh : Shut res) (ha : FrzA nm (.sl es n xs) args dargs) (ht : o.dst = some t) (hn : t < s.n) (hS : s.S = H :: O) (hO : shape O = shape O0) (hl : look H nm = some (.arr ty es n xs wr)) :
    Wp c o s f args { σ := (t, res) :: s.σ, S := s.S, n := s.n } := by
  intro K ρ a w hi ⟨vs, hrun, hrep⟩ next Qe hnext
  have hh := hi.h
  rw [hS] at hh hrep
  obtain ⟨K', hle, hF⟩ := hh.freeze hl
  have hown := hF.own 0 nm (.arr ty es n xs false) (by simp [objAt, look_cons])
  have hrd : RepDL K' ρ (shape []) vs dargs := ha.rep hle (by simp [shape, objAt, hl, Ob.sh]) (rep_frozen hown) hrep
  have htq := tab_now htab hO hh
  have hE : HInv { K0 := K', ρ0 := fun d => ρ (d + 1), w0 := w, pr := fun b => b < w.heap.size, lt := fun _ h => h } K' ρ [] w :=
    ⟨hF.holds, fun _ _ _ e => by simp [objAt] at e, fun _ _ _ _ _ _ e => by simp [objAt] at e, Nat.le_refl _, fun _ _ _ => rfl, fun _ _ e => by simp [objAt] at e, fun _ => rfl, K'.le_refl, fun _ _ _ h => .inl h, ⟨rfl, rfl, rfl⟩⟩
  have fin : ∀ v w', (∃ K2 ρ2, HInv (.of K' ρ w) K2 ρ2 ([] :: []) w' ∧ RepD K2 ρ2 (shape ([] :: [])) v res) → next (a.put o.dst v) w' := by
    intro v w' ⟨K2, ρ2, h1, h2⟩
    have hold : ∀ b, b < w.heap.size → w'.heap[b]? = w.heap[b]? := fun b hb => h1.old b hb fun d n ob e => by simp [objAt] at e
    have hg : Grow K ρ s.S w [] K ρ w' := by
      refine ⟨K.le_refl, fun _ _ _ h => .inl h, h1.size, hold, h1.rest, fun _ _ _ => rfl, fun b o x hx => ?_, fun _ _ h => by simp [look] at h, fun _ _ _ _ h => by simp [look] at h⟩
      have h3 := hh.holds _ _ _ hx
      have hb : b < w.heap.size := by
        rcases Nat.lt_or_ge b w.heap.size with h | h
        · exact h
        · rw [hh.K_fresh h] at hx; cases hx
      rw [World.cell?, hold b hb]
      exact h3
    have hi0 := hi.h
    obtain ⟨hI, hst⟩ := HInv.grow (S := s.S) hS hi0 (fun _ _ _ e => e) (fun _ h => by simp [look] at h) hg
    have e0 : addS s.S [] = s.S := by rw [hS]; rfl
    rw [e0] at hI hst
    refine hnext v w' K ρ ?_
    rw [ht]
    refine ⟨hI, hi.defers, by simp [Act.put]; exact hi.size, fun t' d' e' => ?_⟩
    rw [tmps_put (by rw [hi.size]; exact hn)]
    simp only [look_cons] at e'
    split at e'
    · rename_i e2
      simp only [Option.some.injEq] at e'
      subst e'
      rw [if_pos e2]
      exact hsh _ _ _ _ _ _ _ h2
    · rename_i e2
      rw [if_neg e2]
      exact hi.slots _ _ e'
  have ht2 : TabQ g tab [] ρ w := ⟨htq.1, fun _ _ _ e => by simp [shape, objAt] at e⟩
  rcases hspec _ K' ρ w vs hE ht2 hrd with ⟨h1, h2⟩ | ⟨v, w', h1, h2⟩
  · rw [h1] at hrun
    simp only [Oper.wp, hrun, Oper.upon]
    refine h2.mono ?_
    rintro e w' ⟨v, rfl, hR⟩
    exact fin v w' hR
  · rw [h1] at hrun
    simp only [Oper.wp, hrun, Oper.upon]
    exact fin v w' h2
end Go.AI


/- observerproperty: the closure of Extend, and Extend. -/
namespace Go.AI
open Go.Proofs
set_option maxRecDepth 20000
abbrev autI (a : Aut) : I := .ptr 4 [[intsI a.alpha, vi a.states, intsI a.marked, .sl 3 a.edges.length (a.edges.map edgI)]] 0 0
abbrev lstI (l : List Int) : I := .ptr 1 [[intsI l]] 0 0
/-- Do both properties hold? and the error. -/
def hldB (a : Aut) (un : List Int) (n : Nat) (set : List Int) : Bool := (obsO a set un n (obsR a set un n)).2.2 && (csO a set un n (csR a set un n)).2.2
def hldR (a : Aut) (un : List Int) (n : Nat) (set : List Int) : Bool × Int := if opE a set un = 0 then (hldB a un n set, 0) else (false, opE a set un)
set_option maxHeartbeats 4000000 in
theorem holds43 {g : Nat} (hg : IsTab g) {ty : TypeId} {fr : Nat × Nat} (O : List Heap) (a : Aut) (set un : List Int) (n : Nat) (hst : a.states = n) (hn : n ≤ 5) (h : smallA a) (hon : set.length ≤ max63) (hun : un.length ≤ max63) :
    ASpecT g (ptab ty fr) Tryz.prog 43 [ints set, .i (autI a), .i (lstI un)] O (.tup [bb (hldR a un n set).1, ii (hldR a un n set).2]) [] O := by
  by_cases he : opE a set un = 0
  · have h1 := fun O => opened42v O a set un n hst (by omega) h hon hun he
    have hc := opE_chk he
    have h2 := fun O => observer44 hg (ty := ty) (fr := fr) O a set un n hst hn hc h hon hun
    have h3 := fun O => consistent45 O a set un n hst (by omega) hc h hon hun
    have e : hldR a un n set = ((obsO a set un n (obsR a set un n)).2.2 && (csO a set un n (csR a set un n)).2.2, 0) := by unfold hldR hldB; rw [if_pos he]
    rw [e]
    clear e hc he
    generalize obsO a set un n (obsR a set un n) = x at *
    generalize csO a set un n (csR a set un n) = y at *
    unfold vptr at h1 h2 h3
    generalize [[intsI a.alpha, vi a.states, intsI a.marked, .sl 3 a.edges.length (a.edges.map edgI), intsI set, intsI un, rowsI (outOf n a.edges)]] = VP at *
    obtain ⟨x1, x2, x3⟩ := x
    obtain ⟨y1, y2, y3⟩ := y
    refine aspecT_stop [] Tk Tryz.func43 rfl Tryz.call43 Tryz.ntmps43 (Nat.le_of_ble_eq_true rfl) fun E hE => ?_
    refine g_run Tk Tryz.func43 ?_
    first | refine g_elem Tk Tryz.func43 (rfl) ?_ | refine s_elem Tk (rfl) ?_
    first | refine g_elem Tk Tryz.func43 (rfl) ?_ | refine s_elem Tk (rfl) ?_
    first | refine g_call Tk Tryz.func43 (h1 _) rfl rfl rfl rfl rfl ?_ | refine s_callq Tk (fun _ => h1 _) rfl rfl rfl ?_
    first | refine g_cnd Tk Tryz.func43 rfl (fun h => absurd h (by decide)) (fun _ => ?_) | refine g_know Tk Tryz.func43 rfl (fun h => absurd h (by decide)) (fun _ => ?_) | refine s_know Tk (fun h => absurd h (by decide)) (fun _ => ?_)
    refine g_callT Tk Tryz.func43 hE (h2 _) rfl rfl rfl rfl rfl rfl ?_
    first | refine g_call Tk Tryz.func43 (h3 _) rfl rfl rfl rfl rfl ?_ | refine s_callq Tk (fun _ => h3 _) rfl rfl rfl ?_
    first | refine g_cnd Tk Tryz.func43 rfl (fun g1 => ?_) (fun g1 => ?_) | refine g_know Tk Tryz.func43 rfl (fun g1 => ?_) (fun g1 => ?_) | refine s_know Tk (fun g1 => ?_) (fun g1 => ?_)
    · have g1 : x3 = true := g1
      subst g1
      refine g_ret Tk (r := .tup [bb y3, ii 0]) rfl rfl rfl trivial rfl rfl ?_
      rfl
    · have g1 : x3 = false := g1
      subst g1
      refine g_ret Tk (r := .tup [bb false, ii 0]) rfl rfl rfl trivial rfl rfl ?_
      rfl
  · have h1 := fun O => opened42e O a set un h hon hun he
    have e : hldR a un n set = (false, opE a set un) := by unfold hldR; rw [if_neg he]
    rw [e]
    clear e
    generalize opE a set un = e at *
    refine aspecT_stop [] Tk Tryz.func43 rfl Tryz.call43 Tryz.ntmps43 (Nat.le_of_ble_eq_true rfl) fun E hE => ?_
    refine g_run Tk Tryz.func43 ?_
    first | refine g_elem Tk Tryz.func43 (rfl) ?_ | refine s_elem Tk (rfl) ?_
    first | refine g_elem Tk Tryz.func43 (rfl) ?_ | refine s_elem Tk (rfl) ?_
    first | refine g_call Tk Tryz.func43 (h1 _) rfl rfl rfl rfl rfl ?_ | refine s_callq Tk (fun _ => h1 _) rfl rfl rfl ?_
    first | refine g_cnd Tk Tryz.func43 rfl (fun c1 => ?_) (fun c1 => ?_) | refine g_know Tk Tryz.func43 rfl (fun c1 => ?_) (fun c1 => ?_) | refine s_know Tk (fun c1 => ?_) (fun c1 => ?_)
    · refine g_ret Tk (r := .tup [bb false, ii e]) rfl rfl rfl trivial rfl rfl ?_
      rfl
    · have c1 : e = 0 := bneF c1
      exact absurd c1 he
theorem del51 (O : List Heap) (y x : Int) (d nm : Nat) (ho : objAt O d nm = some (.box [ii x])) : ASpec Tryz.prog 51 [ii y, .own d nm 0 0] O (bb (y == x)) [] O := by
  refine aspec_intro Tk Tryz.func51 rfl Tryz.call51 Tryz.ntmps51 (Nat.le_of_ble_eq_true rfl) fun E => ?_
  refine g_run Tk Tryz.func51 ?_
  first | refine g_obj Tk Tryz.func51 (ho) ?_ | refine s_obj Tk (ho) ?_
  refine g_ret Tk (r := bb (y == x)) rfl rfl rfl trivial rfl rfl ?_
  rfl
end Go.AI


/- observerproperty: Extend. -/
namespace Go.AI
open Go.Proofs
set_option maxRecDepth 20000
theorem kept46o (O : List Heap) (a : Aut) (on un : List Int) (R : List (List Edg)) (hal : a.alpha.length ≤ 1000000) (hl : on.length ≤ max63) : ASpec Tryz.prog 46 [.i (vptr a on un R)] O (.osl 0 63) [(63, oints (keptR a on))] O := by
  have e : keptR a on = a.alpha.filter fun x => !(!decide (x ∈ on)) := by simp [keptR]
  rw [e]
  refine aspec_stop [200010] Tk Tryz.func46 rfl Tryz.call46 Tryz.ntmps46 (Nat.le_of_ble_eq_true rfl) fun E => ?_
  refine g_run Tk Tryz.func46 ?_
  first | refine g_elem Tk Tryz.func46 (rfl) ?_ | refine s_elem Tk (rfl) ?_
  first | refine g_call Tk Tryz.func46 (clone57 63 _ a.alpha (by simp only [big]; omega)) rfl rfl rfl rfl rfl ?_ | refine s_callq Tk (fun _ => clone57 63 _ a.alpha (by simp only [big]; omega)) rfl rfl rfl ?_
  refine g_callP Tk Tryz.func46 rfl rfl rfl rfl (does_delF (R := [(1, .box [.i (vptr a on un R)])]) (B := .box [.i (vptr a on un R)]) rfl (fun x => !decide (x ∈ on)) hal (by decide) rfl rfl (fun x _ d O ho => kept87 O x d 1 a on un R hl ho) rfl (show 10 < 11 by decide) rfl) ?_
  exact ⟨m_ret' (hT := Tk) (r := .osl 0 63) rfl rfl rfl ⟨⟨_, rfl, rfl⟩, trivial⟩ (ret_osl _ _ _) rfl rfl⟩
def ext1 (a : Aut) (un : List Int) (n : Nat) : List Int → List Int → List Int → Int ⊕ (List Int × List Int)
  | [], set, ad => .inr (set, ad)
  | x :: r, set, ad => if (hldR a un n set).2 ≠ 0 then .inl (hldR a un n set).2 else if (hldR a un n set).1 = true then .inr (set, ad) else if x ∈ set then ext1 a un n r set ad else ext1 a un n r (sortI (set ++ [x])) (ad ++ [x])
def ext2 (a : Aut) (un : List Int) (n : Nat) : List Int → List Int → Int ⊕ List Int
  | [], set => .inr set
  | x :: r, set => if (hldR a un n (set.filter fun y => !(y == x))).2 ≠ 0 then .inl (hldR a un n (set.filter fun y => !(y == x))).2 else ext2 a un n r (if (hldR a un n (set.filter fun y => !(y == x))).1 = true then set.filter fun y => !(y == x) else set)
def exF2 : Int ⊕ List Int → List Int × Int
  | .inl e => ([], e)
  | .inr l => (l, 0)
def exF1 (a : Aut) (un : List Int) (n : Nat) : Int ⊕ (List Int × List Int) → List Int × Int
  | .inl e => ([], e)
  | .inr x => exF2 (ext2 a un n x.2 x.1)
def extR (a : Aut) (on un : List Int) (n : Nat) : List Int × Int := exF1 a un n (ext1 a un n a.alpha (keptR a on) [])
set_option maxHeartbeats 4000000 in
theorem extend14 {g : Nat} (hg : IsTab g) {ty : TypeId} {fr : Nat × Nat} (O : List Heap) (a : Aut) (on un : List Int) (n : Nat) (hst : a.states = n) (hn : n ≤ 5) (h : smallA a) (hon : on.length ≤ max63) (hun : un.length ≤ max63) (he : opE a on un = 0) (hA : a.alpha.length ≤ 500000) :
    ASpecT g (ptab ty fr) Tryz.prog 14 [autD a, ints on, ints un] O (.tup [ints (extR a on un n).1, ii (extR a on un n).2]) [] O := by
  have h1 := fun O => opened42v O a on un n hst (by omega) h hon hun he
  have hk := fun O => kept46o O a on un (outOf n a.edges) h.al hon
  have hkl : (keptR a on).length ≤ 500000 := by
    have := List.length_filter_le (fun x => decide (x ∈ on)) a.alpha
    have := h.al
    unfold keptR
    omega
  have hH := fun O set hs => holds43 hg (ty := ty) (fr := fr) O a set un n hst hn h hs hun
  have hal := h.al
  unfold extR
  generalize keptR a on = kp at *
  generalize hK : exF1 a un n (ext1 a un n a.alpha kp []) = KK
  unfold vptr at h1 hk
  generalize [[intsI a.alpha, vi a.states, intsI a.marked, .sl 3 a.edges.length (a.edges.map edgI), intsI on, intsI un, rowsI (outOf n a.edges)]] = VP at *
  refine aspecT_stop [200032, 200045, 200054, 17, 19, 200076, 23] Tk Tryz.func14 rfl Tryz.call14 Tryz.ntmps14 (Nat.le_of_ble_eq_true rfl) fun E hE => ?_
  refine g_run Tk Tryz.func14 ?_
  first | refine g_call Tk Tryz.func14 (h1 _) rfl rfl rfl rfl rfl ?_ | refine s_callq Tk (fun _ => h1 _) rfl rfl rfl ?_
  first | refine g_cnd Tk Tryz.func14 rfl (fun h => absurd h (by decide)) (fun _ => ?_) | refine g_know Tk Tryz.func14 rfl (fun h => absurd h (by decide)) (fun _ => ?_) | refine s_know Tk (fun h => absurd h (by decide)) (fun _ => ?_)
  refine g_wkpause (wk_frzbox 3 [intsI a.alpha, vi a.states, intsI a.marked, .sl 3 a.edges.length (a.edges.map edgI)] rfl rfl) ?_
  refine g_pause Tk Tryz.func14 rfl rfl (wk_frzbox 5 [intsI un] rfl rfl) ?_
  first | refine g_call Tk Tryz.func14 (hk _) rfl rfl rfl rfl rfl ?_ | refine s_callq Tk (fun _ => hk _) rfl rfl rfl ?_
  first | refine g_elem Tk Tryz.func14 (rfl) ?_ | refine s_elem Tk (rfl) ?_
  refine g_loop ?_
  refine rch_wk (wk_nil 12 59 3 1 rfl rfl rfl) ?_
  apply join_q (α := List Int × List Int) (P := fun y => exF2 (ext2 a un n y.2 y.1) = KK ∧ y.1.length ≤ 1000000 ∧ y.2.length ≤ 1000000) (s6 := fun y => { σ := [(10, .fn (.func 43) [] [.i (autI a), .i (lstI un)]), (11, ints y.1), (12, ints y.2)], S := [] :: O, n := 90 })
  · intro J
    refine rch_loop2 (fun x : Nat × List Int × List Int => [(10, .fn (.func 43) [] [.i (autI a), .i (lstI un)]), (11, .osl 0 63), (12, .osl 0 59), (36, ints a.alpha), (37, ii a.alpha.length), (38, ii x.1)])
      (fun x => [(63, oints x.2.1), (59, oints x.2.2)]) (fun _ => O) 90
      (fun x => x.1 ≤ a.alpha.length ∧ x.2.1.length ≤ 500000 + x.1 ∧ x.2.2.length ≤ x.1 ∧ exF1 a un n (ext1 a un n (a.alpha.drop x.1) x.2.1 x.2.2) = KK) (fun x => a.alpha.length - x.1) (0, kp, [])
      ⟨Nat.zero_le _, by simp only; omega, Nat.le_refl _, by simpa using hK⟩ ⟨rfl, rfl, rfl, rfl, rfl, rfl, trivial⟩ rfl ⟨rfl, rfl, trivial⟩ rfl rfl ?_
    rintro ⟨k, set, ad⟩ ⟨hk1, hsl, hadl, hno⟩ ih
    simp only at hk1 hsl hadl hno
    have hj1 : ii (IntKind.i64.wrap ((k : Int) + 1)) = ii ((k + 1 : Nat) : Int) := congrArg ii (wsucc (n := 1000001) (by omega) (by decide))
    refine g_run Tk Tryz.func14 ?_
    first | refine g_cnd Tk Tryz.func14 rfl (fun g1 => ?_) (fun g1 => ?_) | refine g_know Tk Tryz.func14 rfl (fun g1 => ?_) (fun g1 => ?_) | refine s_know Tk (fun g1 => ?_) (fun g1 => ?_)
    · have g1 : k < a.alpha.length := by simpa using g1
      have gx : (a.alpha.map fun x => [vi x])[(k : Int).toNat]? = some [vi a.alpha[k]] := get_mapZ (f := fun x => [vi x]) g1
      rw [List.drop_eq_getElem_cons g1] at hno
      simp only [ext1] at hno
      have hh := hH [] set (by simp only [max63]; omega)
      generalize a.alpha[k] = x at *
      generalize hldR a un n set = hr at *
      obtain ⟨hb, he1⟩ := hr
      simp only at hno
      first | refine g_need Tk Tryz.func14 (by exact ⟨by omega, by show (k : Int) < (a.alpha.length : Int); omega⟩) ?_ | refine s_need Tk (by exact ⟨by omega, by show (k : Int) < (a.alpha.length : Int); omega⟩) ?_
      first | refine g_elem Tk Tryz.func14 (gx) ?_ | refine s_elem Tk (gx) ?_
      refine g_callP Tk Tryz.func14 rfl rfl rfl rfl (does_forget hE hh (shut_2 _ _) (.osl (.i (.i .nil))) rfl (show 45 < 90 by decide) rfl rfl rfl) ?_
      first | refine g_cnd Tk Tryz.func14 rfl (fun c1 => ?_) (fun c1 => ?_) | refine g_know Tk Tryz.func14 rfl (fun c1 => ?_) (fun c1 => ?_) | refine s_know Tk (fun c1 => ?_) (fun c1 => ?_)
      · have c1 : he1 ≠ 0 := bneT c1
        rw [if_pos c1] at hno
        have hno : (([], he1) : List Int × Int) = KK := hno
        subst hno
        refine g_ret_co Tk (r := .tup [.i (.v (.slice none 0 0)), ii he1]) rfl rfl rfl trivial rfl rfl ?_
        repeat' (first | refine coD_tup ?_ | refine coD_agg ?_ | refine coD_i ?_ | refine CoDL.cons ?_ ?_ | exact CoDL.nil | exact coI_nil | refine coI_sl ?_ | refine CoLL.cons ?_ ?_ | exact CoLL.nil | refine CoL.cons ?_ ?_ | exact CoL.nil | exact CoI.refl _ | exact CoL.refl _ | exact CoLL.refl _ | exact CoDL.refl _ | exact CoD.refl _)
      have c1 : he1 = 0 := bneF c1
      rw [if_neg (fun h => h c1)] at hno
      first | refine g_cnd Tk Tryz.func14 rfl (fun c2 => ?_) (fun c2 => ?_) | refine g_know Tk Tryz.func14 rfl (fun c2 => ?_) (fun c2 => ?_) | refine s_know Tk (fun c2 => ?_) (fun c2 => ?_)
      · have c2 : hb = true := c2
        rw [if_pos c2] at hno
        refine g_stop ?_
        refine rch_wk (wk_freeze 63 rfl rfl) ?_
        refine rch_wk (wk_freeze 59 rfl rfl) ?_
        refine rch_meet (J (set, ad) ⟨hno, by simp only; omega, by simp only; omega⟩) ⟨rfl, rfl, rfl, trivial⟩ rfl trivial rfl rfl
      have c2 : hb = false := c2
      rw [if_neg (by rw [c2]; decide)] at hno
      refine g_callP Tk Tryz.func14 rfl rfl rfl rfl (does_forget hE (contains110 [] set x (by simp only [max63]; omega)).tab (shut_v _) (.osl (.i .nil)) rfl (show 54 < 90 by decide) rfl rfl rfl) ?_
      first | refine g_cnd Tk Tryz.func14 rfl (fun c3 => ?_) (fun c3 => ?_) | refine g_know Tk Tryz.func14 rfl (fun c3 => ?_) (fun c3 => ?_) | refine s_know Tk (fun c3 => ?_) (fun c3 => ?_)
      · have c3 : x ∉ set := of_decide_eq_false (notT c3)
        rw [if_neg c3] at hno
        first | refine g_need Tk Tryz.func14 (by exact ⟨by show (ad.length + 1) * 8 ≤ 140737488355328; omega, by show ad.length + 1 ≤ 9223372036854775807; omega⟩) ?_ | refine s_need Tk (by exact ⟨by show (ad.length + 1) * 8 ≤ 140737488355328; omega, by show ad.length + 1 ≤ 9223372036854775807; omega⟩) ?_
        first | refine g_need Tk Tryz.func14 (by exact ⟨by show (set.length + 1) * 8 ≤ 140737488355328; omega, by show set.length + 1 ≤ 9223372036854775807; omega⟩) ?_ | refine s_need Tk (by exact ⟨by show (set.length + 1) * 8 ≤ 140737488355328; omega, by show set.length + 1 ≤ 9223372036854775807; omega⟩) ?_
        refine g_stop ?_
        refine rch_wk (wk_cut (l := [(10, .fn (.func 43) [] [.i (autI a), .i (lstI un)]), (11, .osl 0 63), (12, .osl 0 59), (36, ints a.alpha), (37, ii a.alpha.length), (38, ii k)])
          (Hv := [(63, oints (set ++ [x])), (59, oints (ad ++ [x]))]) ⟨rfl, rfl, rfl, rfl, rfl, rfl, trivial⟩ rfl ⟨congrArg some (oints_app set x), congrArg some (oints_app ad x), trivial⟩ rfl rfl) ?_
        have hpos : 0 < (set ++ [x]).length := by simp
        have hml : (set ++ [x]).length ≤ 2000001 := by rw [List.length_append, List.length_singleton]; omega
        have hal2 : (ad ++ [x]).length ≤ k + 1 := by rw [List.length_append, List.length_singleton]; omega
        have hml2 : (set ++ [x]).length ≤ 500000 + (k + 1) := by rw [List.length_append, List.length_singleton]; omega
        generalize set ++ [x] = m at *
        generalize ad ++ [x] = ad2 at *
        refine g_run Tk Tryz.func14 ?_
        refine g_go Tk Tryz.func14 ?_
        refine g_call Tk Tryz.func14 (sort48 _ 0 63 m hpos (by omega) rfl) rfl rfl rfl (shape_over (ob := oints m) rfl (by simp [Ob.sh, sortI_len])) rfl ?_
        refine g_loop ?_
        exact ih (k + 1, sortI m, ad2) _ _ ⟨g1, by simp only [sortI_len]; exact hml2, hal2, hno⟩ (by simp only; omega) ⟨rfl, rfl, rfl, rfl, rfl, hj1, trivial⟩ rfl ⟨rfl, rfl, trivial⟩ rfl rfl
      · have c3 : x ∈ set := of_decide_eq_true (notF c3)
        rw [if_pos c3] at hno
        refine g_loop ?_
        exact ih (k + 1, set, ad) _ _ ⟨g1, by simp only; omega, by simp only; omega, hno⟩ (by simp only; omega) ⟨rfl, rfl, rfl, rfl, rfl, hj1, trivial⟩ rfl ⟨rfl, rfl, trivial⟩ rfl rfl
    · have g1 : a.alpha.length ≤ k := by simpa using g1
      rw [List.drop_of_length_le g1] at hno
      refine g_stop ?_
      refine rch_wk (wk_freeze 63 rfl rfl) ?_
      refine rch_wk (wk_freeze 59 rfl rfl) ?_
      refine rch_meet (J (set, ad) ⟨hno, by simp only; omega, by simp only; omega⟩) ⟨rfl, rfl, rfl, trivial⟩ rfl trivial rfl rfl
  rintro ⟨set, ad⟩ ⟨hno, hsl, hadl⟩
  simp only at hno hsl hadl
  refine g_run Tk Tryz.func14 ?_
  refine g_go Tk Tryz.func14 ?_
  refine g_loop ?_
  refine rch_loop2 (fun x : Nat × List Int => [(10, .fn (.func 43) [] [.i (autI a), .i (lstI un)]), (11, ints x.2), (67, ints ad), (68, ii ad.length), (69, ii x.1)])
    (fun x => []) (fun _ => O) 90
    (fun x => x.1 ≤ ad.length ∧ x.2.length ≤ 1000000 ∧ exF2 (ext2 a un n (ad.drop x.1) x.2) = KK) (fun x => ad.length - x.1) (0, set)
    ⟨Nat.zero_le _, hsl, by simpa using hno⟩ ⟨rfl, rfl, rfl, rfl, rfl, trivial⟩ rfl trivial rfl rfl ?_
  clear hno hsl
  rintro ⟨k, set⟩ ⟨hk1, hsl, hno⟩ ih
  simp only at hk1 hsl hno
  have hj1 : ii (IntKind.i64.wrap ((k : Int) + 1)) = ii ((k + 1 : Nat) : Int) := congrArg ii (wsucc (n := 1000001) (by omega) (by decide))
  refine g_run Tk Tryz.func14 ?_
  first | refine g_cnd Tk Tryz.func14 rfl (fun g1 => ?_) (fun g1 => ?_) | refine g_know Tk Tryz.func14 rfl (fun g1 => ?_) (fun g1 => ?_) | refine s_know Tk (fun g1 => ?_) (fun g1 => ?_)
  · have g1 : k < ad.length := by simpa using g1
    have gx : (ad.map fun x => [vi x])[(k : Int).toNat]? = some [vi ad[k]] := get_mapZ (f := fun x => [vi x]) g1
    rw [List.drop_eq_getElem_cons g1] at hno
    simp only [ext2] at hno
    generalize ad[k] = x at *
    first | refine g_need Tk Tryz.func14 (by exact ⟨by omega, by show (k : Int) < (ad.length : Int); omega⟩) ?_ | refine s_need Tk (by exact ⟨by omega, by show (k : Int) < (ad.length : Int); omega⟩) ?_
    first | refine g_elem Tk Tryz.func14 (gx) ?_ | refine s_elem Tk (gx) ?_
    first | refine g_call Tk Tryz.func14 (clone57 74 _ set (by simp only [big]; omega)) rfl rfl rfl rfl rfl ?_ | refine s_callq Tk (fun _ => clone57 74 _ set (by simp only [big]; omega)) rfl rfl rfl ?_
    refine g_callP Tk Tryz.func14 rfl rfl rfl rfl (does_delF (R := [(18, .box [ii x]), (18, .box [ii 0])]) (B := .box [ii x]) (l := set) rfl (fun y => y == x) hsl (by decide) rfl rfl (fun y _ d O ho => del51 O y x d 18 ho) rfl (show 76 < 90 by decide) rfl) ?_
    have hll : (set.filter fun y => !(y == x)).length ≤ 1000000 := Nat.le_trans (List.length_filter_le _ _) hsl
    have hh := fun O => hH O (set.filter fun y => !(y == x)) (by simp only [max63]; omega)
    generalize (set.filter fun y => !(y == x)) = ls at *
    generalize hldR a un n ls = hr at *
    obtain ⟨hb, he1⟩ := hr
    simp only at hno
    refine g_stop ?_
    refine rch_wk (wk_freeze 74 rfl rfl) ?_
    refine g_run Tk Tryz.func14 ?_
    refine g_go Tk Tryz.func14 ?_
    refine g_callT Tk Tryz.func14 hE (hh _) rfl rfl rfl rfl rfl rfl ?_
    first | refine g_cnd Tk Tryz.func14 rfl (fun c1 => ?_) (fun c1 => ?_) | refine g_know Tk Tryz.func14 rfl (fun c1 => ?_) (fun c1 => ?_) | refine s_know Tk (fun c1 => ?_) (fun c1 => ?_)
    · have c1 : he1 ≠ 0 := bneT c1
      rw [if_pos c1] at hno
      have hno : (([], he1) : List Int × Int) = KK := hno
      subst hno
      refine g_ret_co Tk (r := .tup [.i (.v (.slice none 0 0)), ii he1]) rfl rfl rfl trivial rfl rfl ?_
      repeat' (first | refine coD_tup ?_ | refine coD_agg ?_ | refine coD_i ?_ | refine CoDL.cons ?_ ?_ | exact CoDL.nil | exact coI_nil | refine coI_sl ?_ | refine CoLL.cons ?_ ?_ | exact CoLL.nil | refine CoL.cons ?_ ?_ | exact CoL.nil | exact CoI.refl _ | exact CoL.refl _ | exact CoLL.refl _ | exact CoDL.refl _ | exact CoD.refl _)
    have c1 : he1 = 0 := bneF c1
    rw [if_neg (fun h => h c1)] at hno
    first | refine g_cnd Tk Tryz.func14 rfl (fun c2 => ?_) (fun c2 => ?_) | refine g_know Tk Tryz.func14 rfl (fun c2 => ?_) (fun c2 => ?_) | refine s_know Tk (fun c2 => ?_) (fun c2 => ?_)
    · have c2 : hb = true := c2
      rw [if_pos c2] at hno
      refine g_loop ?_
      exact ih (k + 1, ls) _ _ ⟨g1, hll, hno⟩ (by simp only; omega) ⟨rfl, rfl, rfl, rfl, hj1, trivial⟩ rfl trivial rfl rfl
    · have c2 : hb = false := c2
      rw [if_neg (by rw [c2]; decide)] at hno
      refine g_loop ?_
      exact ih (k + 1, set) _ _ ⟨g1, hsl, hno⟩ (by simp only; omega) ⟨rfl, rfl, rfl, rfl, hj1, trivial⟩ rfl trivial rfl rfl
  · have g1 : ad.length ≤ k := by simpa using g1
    rw [List.drop_of_length_le g1] at hno
    have hno : ((set, 0) : List Int × Int) = KK := hno
    subst hno
    refine g_ret Tk (r := .tup [ints set, ii 0]) rfl rfl rfl trivial rfl rfl ?_
    rfl
end Go.AI


/- The first law's example: known. -/
namespace Go.AI
open Go.Proofs
set_option maxRecDepth 100000
def forkA : Aut := { alpha := [0, 1, 2, 3], states := 4, marked := [3], edges := [(0, 0, 1), (0, 1, 2), (1, 2, 3), (2, 3, 3)] }
theorem fork_small : smallA forkA := ⟨by decide, by decide, by decide⟩
theorem fork_obs : obsO forkA [2, 3] [] 4 (obsR forkA [2, 3] [] 4) = ([0], [3], false) := by kernel_rfl
theorem fork_cs : csO forkA [2, 3] [2] 4 (csR forkA [2, 3] [2] 4) = ([], 2, false) := by kernel_rfl
theorem fork_op : opE forkA [2, 3] [] = 0 := by kernel_rfl
theorem fork_op2 : opE forkA [2, 3] [2] = 0 := by kernel_rfl
theorem fork_h1 : hldR forkA [] 4 [2, 3] = (false, 0) := by kernel_rfl
theorem fork_h2 : hldR forkA [] 4 [0, 2, 3] = (false, 0) := by kernel_rfl
theorem fork_h3 : hldR forkA [] 4 [0, 1, 2, 3] = (true, 0) := by kernel_rfl
theorem fork_h4 : hldR forkA [] 4 [1, 2, 3] = (false, 0) := by kernel_rfl
theorem fork_kp : keptR forkA [2, 3] = [2, 3] := by kernel_rfl
theorem fork_s1 : sortI [2, 3, 0] = [0, 2, 3] := by simp [sortI, List.mergeSort, List.MergeSort.Internal.splitInTwo]
theorem fork_s2 : sortI [0, 2, 3, 1] = [0, 1, 2, 3] := by simp [sortI, List.mergeSort, List.MergeSort.Internal.splitInTwo]
theorem fork_al : forkA.alpha = [0, 1, 2, 3] := rfl
theorem fork_ext : extR forkA [2, 3] [] 4 = ([0, 1, 2, 3], 0) := by
  unfold extR
  rw [fork_kp, fork_al]
  have e1 : ext1 forkA [] 4 [0, 1, 2, 3] [2, 3] [] = ext1 forkA [] 4 [1, 2, 3] (sortI [2, 3, 0]) [0] := by
    rw [ext1, fork_h1]; rfl
  have e2 : ext1 forkA [] 4 [1, 2, 3] [0, 2, 3] [0] = ext1 forkA [] 4 [2, 3] (sortI [0, 2, 3, 1]) [0, 1] := by
    rw [ext1, fork_h2]; rfl
  have e3 : ext1 forkA [] 4 [2, 3] [0, 1, 2, 3] [0, 1] = .inr ([0, 1, 2, 3], [0, 1]) := by
    rw [ext1, fork_h3]; rfl
  rw [e1, fork_s1, e2, fork_s2, e3]
  show exF2 (ext2 forkA [] 4 [0, 1] [0, 1, 2, 3]) = _
  have f1 : ext2 forkA [] 4 [0, 1] [0, 1, 2, 3] = ext2 forkA [] 4 [1] [0, 1, 2, 3] := by
    rw [ext2, show ([0, 1, 2, 3] : List Int).filter (fun y => !(y == 0)) = [1, 2, 3] from rfl, fork_h4]; rfl
  have f2 : ext2 forkA [] 4 [1] [0, 1, 2, 3] = .inr [0, 1, 2, 3] := by
    rw [ext2, show ([0, 1, 2, 3] : List Int).filter (fun y => !(y == 1)) = [0, 2, 3] from rfl, fork_h2]; rfl
  rw [f1, f2]
  rfl
theorem fork39 (O : List Heap) : ASpec Tryz.prog 39 [] O (autD forkA) [] O := by
  refine aspec_intro Tk Tryz.func39 rfl Tryz.call39 Tryz.ntmps39 (Nat.le_of_ble_eq_true rfl) fun E => ?_
  refine g_run Tk Tryz.func39 ?_
  refine g_ret Tk (r := autD forkA) rfl rfl rfl trivial rfl rfl ?_
  rfl
theorem extNil {g : Nat} {tab : Obj} {P : Program} {f : FuncId} {x y : D} {O O' : List Heap} {res : D} {Hr : Heap} (h : ASpecT g tab P f [x, y, ints []] O res Hr O') : ASpecT g tab P f [x, y, .i (.v (.slice none 0 0))] O res Hr O' :=
  fun E K ρ w vs hw ht hr => h E K ρ w vs hw ht ((CoDL.cons (CoD.refl _) (.cons (CoD.refl _) (.cons (coD_i coI_nil) .nil))).rep hr)
theorem known11 {g : Nat} (hg : IsTab g) {ty : TypeId} {fr : Nat × Nat} (O : List Heap) : ASpecT g (ptab ty fr) Tryz.prog 11 [] O (bb true) [] O := by
  have ho := fun O => observer17 hg (ty := ty) (fr := fr) O forkA [2, 3] 4 rfl (by decide) fork_small (by decide) fork_op
  simp only [fork_obs] at ho
  have hx := fun O => extNil (extend14 hg (ty := ty) (fr := fr) O forkA [2, 3] [] 4 rfl (by decide) fork_small (by decide) (by decide) fork_op (by decide))
  simp only [fork_ext] at hx
  have hc := fun O => consistent18 O forkA [2, 3] [2] 4 rfl (by decide) fork_small (by decide) (by decide) fork_op2
  simp only [fork_cs] at hc
  have hf := fun O => fork39 O
  have h1 := fun O => sameInts36 O [0] [0] (by decide)
  have h2 := fun O => sameInts36 O [3] [3] (by decide)
  have h3 := fun O => sameInts36 O [0, 1, 2, 3] [0, 1, 2, 3] (by decide)
  refine aspecT_stop [] Tk Tryz.func11 rfl Tryz.call11 Tryz.ntmps11 (Nat.le_of_ble_eq_true rfl) fun E hE => ?_
  refine g_run Tk Tryz.func11 ?_
  first | refine g_call Tk Tryz.func11 (hf _) rfl rfl rfl rfl rfl ?_ | refine s_callq Tk (fun _ => hf _) rfl rfl rfl ?_
  refine g_callT Tk Tryz.func11 hE (ho _) rfl rfl rfl rfl rfl rfl ?_
  first | refine g_call Tk Tryz.func11 (hf _) rfl rfl rfl rfl rfl ?_ | refine s_callq Tk (fun _ => hf _) rfl rfl rfl ?_
  refine g_callT Tk Tryz.func11 hE (hx _) rfl rfl rfl rfl rfl rfl ?_
  first | refine g_call Tk Tryz.func11 (hf _) rfl rfl rfl rfl rfl ?_ | refine s_callq Tk (fun _ => hf _) rfl rfl rfl ?_
  first | refine g_call Tk Tryz.func11 (hc _) rfl rfl rfl rfl rfl ?_ | refine s_callq Tk (fun _ => hc _) rfl rfl rfl ?_
  repeat (first | refine g_cnd Tk Tryz.func11 rfl (fun _ => ?_) (fun h => absurd h (by decide)) | refine g_know Tk Tryz.func11 rfl (fun _ => ?_) (fun h => absurd h (by decide)) | refine s_know Tk (fun _ => ?_) (fun h => absurd h (by decide)) | refine g_cnd Tk Tryz.func11 rfl (fun h => absurd h (by decide)) (fun _ => ?_) | refine g_know Tk Tryz.func11 rfl (fun h => absurd h (by decide)) (fun _ => ?_) | refine s_know Tk (fun h => absurd h (by decide)) (fun _ => ?_) | refine g_cnd Tk Tryz.func11 rfl (fun _ => ?_) (fun h => absurd (show true = false from h) (by decide)) | refine g_know Tk Tryz.func11 rfl (fun _ => ?_) (fun h => absurd (show true = false from h) (by decide)) | refine s_know Tk (fun _ => ?_) (fun h => absurd (show true = false from h) (by decide)) | refine g_cnd Tk Tryz.func11 rfl (fun h => absurd (show false = true from h) (by decide)) (fun _ => ?_) | refine g_know Tk Tryz.func11 rfl (fun h => absurd (show false = true from h) (by decide)) (fun _ => ?_) | refine s_know Tk (fun h => absurd (show false = true from h) (by decide)) (fun _ => ?_))
  first | refine g_call Tk Tryz.func11 (h1 _) rfl rfl rfl rfl rfl ?_ | refine s_callq Tk (fun _ => h1 _) rfl rfl rfl ?_
  repeat (first | refine g_cnd Tk Tryz.func11 rfl (fun _ => ?_) (fun h => absurd h (by decide)) | refine g_know Tk Tryz.func11 rfl (fun _ => ?_) (fun h => absurd h (by decide)) | refine s_know Tk (fun _ => ?_) (fun h => absurd h (by decide)) | refine g_cnd Tk Tryz.func11 rfl (fun h => absurd h (by decide)) (fun _ => ?_) | refine g_know Tk Tryz.func11 rfl (fun h => absurd h (by decide)) (fun _ => ?_) | refine s_know Tk (fun h => absurd h (by decide)) (fun _ => ?_) | refine g_cnd Tk Tryz.func11 rfl (fun _ => ?_) (fun h => absurd (show true = false from h) (by decide)) | refine g_know Tk Tryz.func11 rfl (fun _ => ?_) (fun h => absurd (show true = false from h) (by decide)) | refine s_know Tk (fun _ => ?_) (fun h => absurd (show true = false from h) (by decide)) | refine g_cnd Tk Tryz.func11 rfl (fun h => absurd (show false = true from h) (by decide)) (fun _ => ?_) | refine g_know Tk Tryz.func11 rfl (fun h => absurd (show false = true from h) (by decide)) (fun _ => ?_) | refine s_know Tk (fun h => absurd (show false = true from h) (by decide)) (fun _ => ?_))
  first | refine g_call Tk Tryz.func11 (h2 _) rfl rfl rfl rfl rfl ?_ | refine s_callq Tk (fun _ => h2 _) rfl rfl rfl ?_
  repeat (first | refine g_cnd Tk Tryz.func11 rfl (fun _ => ?_) (fun h => absurd h (by decide)) | refine g_know Tk Tryz.func11 rfl (fun _ => ?_) (fun h => absurd h (by decide)) | refine s_know Tk (fun _ => ?_) (fun h => absurd h (by decide)) | refine g_cnd Tk Tryz.func11 rfl (fun h => absurd h (by decide)) (fun _ => ?_) | refine g_know Tk Tryz.func11 rfl (fun h => absurd h (by decide)) (fun _ => ?_) | refine s_know Tk (fun h => absurd h (by decide)) (fun _ => ?_) | refine g_cnd Tk Tryz.func11 rfl (fun _ => ?_) (fun h => absurd (show true = false from h) (by decide)) | refine g_know Tk Tryz.func11 rfl (fun _ => ?_) (fun h => absurd (show true = false from h) (by decide)) | refine s_know Tk (fun _ => ?_) (fun h => absurd (show true = false from h) (by decide)) | refine g_cnd Tk Tryz.func11 rfl (fun h => absurd (show false = true from h) (by decide)) (fun _ => ?_) | refine g_know Tk Tryz.func11 rfl (fun h => absurd (show false = true from h) (by decide)) (fun _ => ?_) | refine s_know Tk (fun h => absurd (show false = true from h) (by decide)) (fun _ => ?_))
  first | refine g_call Tk Tryz.func11 (h3 _) rfl rfl rfl rfl rfl ?_ | refine s_callq Tk (fun _ => h3 _) rfl rfl rfl ?_
  repeat (first | refine g_cnd Tk Tryz.func11 rfl (fun _ => ?_) (fun h => absurd h (by decide)) | refine g_know Tk Tryz.func11 rfl (fun _ => ?_) (fun h => absurd h (by decide)) | refine s_know Tk (fun _ => ?_) (fun h => absurd h (by decide)) | refine g_cnd Tk Tryz.func11 rfl (fun h => absurd h (by decide)) (fun _ => ?_) | refine g_know Tk Tryz.func11 rfl (fun h => absurd h (by decide)) (fun _ => ?_) | refine s_know Tk (fun h => absurd h (by decide)) (fun _ => ?_) | refine g_cnd Tk Tryz.func11 rfl (fun _ => ?_) (fun h => absurd (show true = false from h) (by decide)) | refine g_know Tk Tryz.func11 rfl (fun _ => ?_) (fun h => absurd (show true = false from h) (by decide)) | refine s_know Tk (fun _ => ?_) (fun h => absurd (show true = false from h) (by decide)) | refine g_cnd Tk Tryz.func11 rfl (fun h => absurd (show false = true from h) (by decide)) (fun _ => ?_) | refine g_know Tk Tryz.func11 rfl (fun h => absurd (show false = true from h) (by decide)) (fun _ => ?_) | refine s_know Tk (fun h => absurd (show false = true from h) (by decide)) (fun _ => ?_))
  refine g_ret Tk (r := bb true) rfl rfl rfl trivial rfl rfl ?_
  rfl
end Go.AI


/- The way from a row to a contract. -/
namespace Go.Proofs.YtmhllkmceipdcaaGreatDoor
open Go.ChangeShapes Go.WideShapes Go.ChangeAt Go.RowKit
set_option maxRecDepth 100000
theorem Tryz.own : ownKnob Tryz.prog.godebug = none := by kernel_rfl
theorem powG : Tryz.prog.globalNamed "internal/strconv.uint64pow10" = some 0 := by kernel_rfl
theorem isTab0 : AI.IsTab 0 := fun _ _ _ h => AI.tabIs_of powG h
theorem tab_of_laid {W : World} (h : laidMetH Tryz.prog [("math/bits.deBruijn32tab", Rows.laid_math_bits_deBruijn32tab), ("math/bits.deBruijn64tab", Rows.laid_math_bits_deBruijn64tab), ("internal/strconv.uint64pow10", Rows.laid_internal_strconv_uint64pow10)] W) :
    ∃ ty fr, W.heap[0]? = some (AI.ptab ty fr) := by
  rw [MakeChecks.laidMetH_plain _ _ _ (by kernel_rfl)] at h
  have h3 := laidMet.tail (laidMet.tail h)
  have hT : Lib.TabIs Tryz.prog W "internal/strconv.uint64pow10" .u64 Lib.pow10Tab :=
    Lib.tabIs_of_head (t := 197) (e := 176) (n := 20) powG (by kernel_rfl) (by kernel_rfl) (by kernel_rfl) (by kernel_rfl) (by kernel_rfl) (rest := []) h3
  unfold Lib.TabIs World.var? at hT
  rw [powG] at hT
  simp only [Option.bind_some] at hT
  cases hc : W.heap[0]? with
  | none => rw [hc] at hT; cases hT
  | some o =>
    rw [hc] at hT
    cases o with
    | cells cs ty fr =>
      simp only [Option.some.injEq] at hT
      subst hT
      exact ⟨ty, fr, rfl⟩
    | _ => cases hT
/-- A contract with no memory of one's own, from the outside. -/
theorem calls_of {f : FuncId} {args : List AI.D} {vs : List Value} {b : Bool} {W : World} {ty : TypeId} {fr : Nat × Nat} (h0 : W.heap[0]? = some (AI.ptab ty fr))
    (hcall : ∀ a w, (callFunc f a).run Tryz.prog w = .ok (.enter f a) w) (hs : AI.ASpecT 0 (AI.ptab ty fr) Tryz.prog f args [] (AI.bb b) [] [])
    {K : AI.Kn} (hK : ∀ bl o x, K bl o = some x → W.cell? ⟨bl, o, none⟩ = some x) (hr : ∀ ρ sh, AI.RepDL K ρ sh vs args) :
    Calls Tryz.prog f vs.toArray W fun e W' => e = .returned (.bool b) ∧ (∀ i, i < W.heap.size → W'.heap[i]? = W.heap[i]?) ∧ W'.os = W.os ∧ W'.output = W.output := by
  let ρ : Nat → Nat → AI.Loc := fun _ _ => ⟨0, 0, none⟩
  have hobj : ∀ d n, AI.objAt [] d n = none := fun d n => by simp [AI.objAt]
  have hI : AI.HInv (AI.Env.of K ρ W) K ρ [] W :=
    ⟨hK, (fun d n ob e => absurd ((hobj d n).symm.trans e) (by simp)), (fun d n ob d' n' ob' e => absurd ((hobj d n).symm.trans e) (by simp)), Nat.le_refl _, fun _ _ _ => rfl, (fun n ob e => absurd ((hobj 0 n).symm.trans e) (by simp)), fun _ => rfl, fun _ _ _ h => h, fun _ _ _ h => .inl h, rfl, rfl, rfl⟩
  have ht : AI.TabQ 0 (AI.ptab ty fr) [] ρ W := ⟨h0, fun d n x e => by simp [AI.shape, hobj] at e⟩
  rcases hs _ K ρ W vs hI ht (hr _ _) with ⟨_, h⟩ | ⟨v, w', h, _⟩
  · refine h.mono fun e W' => ?_
    rintro ⟨v, rfl, K', ρ', h1, h2⟩
    obtain rfl := AI.inv_v h2
    refine ⟨rfl, fun i hi => h1.old i hi fun d n ob e => ?_, h1.rest.2.1, h1.rest.2.2⟩
    simp [AI.objAt] at e
  · rw [hcall] at h
    cases h
theorem kept_of {W W' : World} {P : MemPlace → Prop} (h : ∀ i, i < W.heap.size → W'.heap[i]? = W.heap[i]?) (h1 : W'.os = W.os) (h2 : W'.output = W.output) : W.keptBut W' P := by
  refine ⟨h1, h2, fun i hi => ?_⟩
  rw [h i hi]
  exact (World.keptBut_refl W P).2.2 i hi
end Go.Proofs.YtmhllkmceipdcaaGreatDoor


/- Arguments: slices and structs of them, opened to data, and read again behind the call. -/

namespace Go.Proofs.YtmhllkmceipdcaaGreatDoor
open Go.ChangeShapes Go.WideShapes Go.ChangeAt Go.RowKit Go.Deep Go.WideElems
set_option maxRecDepth 100000
/-- All that memory holds. -/
def KW (W : World) : AI.Kn := fun b o => W.cell? ⟨b, o, none⟩
theorem KW_ok (W : World) : ∀ bl o x, KW W bl o = some x → W.cell? ⟨bl, o, none⟩ = some x := fun _ _ _ h => h
section
variable {H : Type} {enc : TypeId × Value → H} {P : Program} {W : World}
/-- What is read of a type is data of a kind. -/
def Opn (enc : TypeId × Value → H) (P : Program) (W : World) (t : TypeId) (R : List AI.I → Prop) : Prop :=
  ∀ n cs x, DataW.trod enc P W 0 (fun _ => true) true n t cs = some x → ∃ is, AI.RepL (KW W) cs is ∧ R is
theorem repL_app {K : AI.Kn} {a b : List Value} {c d : List AI.I} (h : AI.RepL K a c) (h' : AI.RepL K b d) : AI.RepL K (a ++ b) (c ++ d) := h.append h'
theorem opn_int {t : TypeId} {k : IntKind} (ht : P.underlying t = some (.int k)) : Opn enc P W t fun is => ∃ z, is = [.v (.int k z)] ∧ (Lit.int k z).wf = true := by
  intro n cs x h
  obtain ⟨z, rfl, rfl, hw⟩ := DataW.trod_int ht h
  exact ⟨[.v (.int k z)], .cons (.v rfl) .nil, z, rfl, hw⟩
theorem ints_rep {K : AI.Kn} {k : IntKind} : ∀ {cs : List Value}, (∀ i, i < cs.length → ∃ z, cs[i]? = some (.int k z) ∧ (Lit.int k z).wf = true) → ∃ zs : List Int, zs.length = cs.length ∧ AI.RepL K cs (zs.map fun z => .v (.int k z)) ∧ ∀ z ∈ zs, (Lit.int k z).wf = true
  | [], _ => ⟨[], rfl, .nil, by simp⟩
  | c :: cs, h => by
    obtain ⟨z, hz, hw⟩ := h 0 (by simp)
    simp only [List.getElem?_cons_zero, Option.some.injEq] at hz
    subst hz
    obtain ⟨zs, h1, h2, h3⟩ := ints_rep (cs := cs) fun i hi => by
      have := h (i + 1) (by simp; omega)
      simpa using this
    exact ⟨z :: zs, by simp [h1], .cons (.v rfl) h2, fun y hy => by
      rcases List.mem_cons.1 hy with rfl | hy
      · exact hw
      · exact h3 y hy⟩
theorem opn_array {t e : TypeId} {k : IntKind} {m : Nat} (ht : P.underlying t = some (.array m e)) (he : P.underlying e = some (.int k)) (hc : P.cellsOf e = 1) (hct : P.cellsOf t = m) :
    Opn enc P W t fun is => ∃ zs : List Int, zs.length = m ∧ is = zs.map (fun z => .v (.int k z)) ∧ ∀ z ∈ zs, (Lit.int k z).wf = true := by
  intro n cs x h
  obtain ⟨xs, f, rfl, rfl, hl, hlen, hx⟩ := DataW.trod_array ht h
  rw [hct] at hl
  obtain ⟨zs, h1, h2, h3⟩ := ints_rep (K := KW W) (k := k) (cs := cs) fun i hi => by
    have h0 := hx i (by omega)
    rw [hc, Nat.mul_one, List.getElem?_eq_getElem (by omega)] at h0
    obtain ⟨z, hz, _, hw⟩ := DataW.trod_int he h0
    refine ⟨z, ?_, hw⟩
    have := congrArg (fun l => l[0]?) hz
    simpa [List.getElem?_take, List.getElem?_drop] using this
  exact ⟨_, h2, zs, by omega, rfl, h3⟩
/-- A slice. -/
theorem opn_slice {t e : TypeId} {z : Nat} {R : List AI.I → Prop} (ht : P.underlying t = some (.slice e)) (hc : P.cellsOf e = z) (hz : 0 < z) (he : Opn enc P W e R) :
    Opn enc P W t fun is => ∃ xs : List (List AI.I), is = [.sl z xs.length xs] ∧ (∀ d ∈ xs, R d) ∧ xs.length ≤ maxLen := by
  intro n cs x h
  rcases open_slice ht h with ⟨rfl, _⟩ | ⟨a, len, cap, m, f, D, Pl, rfl, _, hle, hm, hmm, _, hx⟩
  · exact ⟨[.sl z 0 []], .cons .nil .nil, [], rfl, by simp, Nat.zero_le _⟩
  · simp only [if_true] at hmm
    subst hmm
    rw [hc] at hx
    by_cases h0 : m = 0
    · subst h0
      obtain rfl : len = 0 := by omega
      exact ⟨[.sl z 0 []], .cons .nil .nil, [], rfl, by simp, Nat.zero_le _⟩
    · have hspot : a.spot = none := by
        obtain ⟨cs', h1, _⟩ := hx 0 (by omega)
        obtain ⟨_, hl, hcell⟩ := World.cells?_some h1
        have := hcell 0 hz
        rw [Nat.zero_mul] at this
        have ha : (a.add 0).add 0 = a := by simp [Addr.add]
        rw [ha, List.getElem?_eq_getElem (by omega)] at this
        unfold World.cell? at this
        cases hsp : a.spot with
        | none => rfl
        | some s =>
          rw [hsp] at this
          split at this <;> simp at this
      obtain ⟨bl, o, sp⟩ := a
      simp only at hspot
      subst hspot
      have build : ∀ k, k ≤ len → ∃ (xs : List (List AI.I)) (vs : List Value), xs.length = k ∧ vs.length = k * z ∧ AI.RepL (KW W) vs xs.flatten ∧ (∀ d ∈ xs, R d) ∧ (∀ d ∈ xs, d.length = z) ∧ ∀ j c, vs[j]? = some c → KW W bl (o + j) = some c := by
        intro k
        induction k with
        | zero => intro _; exact ⟨[], [], rfl, by simp, .nil, by simp, by simp, by simp⟩
        | succ k ih =>
          intro hk
          obtain ⟨xs, vs, h1, h2, h3, h4, h5, h6⟩ := ih (by omega)
          obtain ⟨cs', hc1, hc2⟩ := hx k (by omega)
          obtain ⟨_, hl, hcell⟩ := World.cells?_some hc1
          obtain ⟨is, hr, hR⟩ := he f cs' _ hc2
          refine ⟨xs ++ [is], vs ++ cs', by simp [h1], by simp [h2, hl, Nat.add_mul], ?_, ?_, ?_, ?_⟩
          · rw [List.flatten_append]
            simpa using repL_app h3 hr
          · intro d hd
            rcases List.mem_append.1 hd with h | h
            · exact h4 d h
            · simp only [List.mem_singleton] at h
              subst h
              exact hR
          · intro d hd
            rcases List.mem_append.1 hd with h | h
            · exact h5 d h
            · simp only [List.mem_singleton] at h
              subst h
              rw [← hr.length, hl]
          · intro j c hj
            rw [List.getElem?_append] at hj
            split at hj
            · exact h6 j c hj
            · rename_i hge
              have hlt : j - vs.length < cs'.length := (List.getElem?_eq_some_iff.1 hj).1
              have := hcell (j - vs.length) (by omega)
              rw [hj] at this
              unfold KW
              rw [← this]
              have e : ((⟨bl, o, none⟩ : Addr).add (k * z)).add (j - vs.length) = ⟨bl, o + j, none⟩ := by
                have e1 : (⟨bl, o, none⟩ : Addr).add (k * z) = ⟨bl, o + k * z, none⟩ := by unfold Addr.add; split <;> simp_all
                rw [e1]
                unfold Addr.add
                split
                · simp <;> omega
                · simp <;> omega
              rw [e]
      obtain ⟨xs, vs, h1, h2, h3, h4, h5, h6⟩ := build len (Nat.le_refl _)
      refine ⟨[.sl z xs.length xs], .cons ?_ .nil, xs, rfl, h4, by omega⟩
      rw [h1]
      exact .sl h3 h5 h6 hle h1
/-- Structs of three fields, and of two. -/
theorem opn_struct3 {t : TypeId} {f0 f1 f2 : Field} {R0 R1 R2 : List AI.I → Prop} {z0 z1 z2 : Nat} (ht : P.underlying t = some (.struct #[f0, f1, f2])) (hc : P.cellsOf t = z0 + z1 + z2)
    (c0 : P.cellsOf f0.type = z0) (c1 : P.cellsOf f1.type = z1) (c2 : P.cellsOf f2.type = z2) (o0 : f0.offset = 0) (o1 : f1.offset = z0) (o2 : f2.offset = z0 + z1)
    (h0 : Opn enc P W f0.type R0) (h1 : Opn enc P W f1.type R1) (h2 : Opn enc P W f2.type R2) : Opn enc P W t fun is => ∃ a b c, is = a ++ b ++ c ∧ R0 a ∧ R1 b ∧ R2 c := by
  intro n cs x h
  obtain ⟨y0, y1, y2, m, _, hl, g0, g1, g2⟩ := trod_struct3 ht h
  obtain ⟨a, ra, ha⟩ := h0 _ _ _ g0
  obtain ⟨b, rb, hb⟩ := h1 _ _ _ g1
  obtain ⟨c, rc, hcc⟩ := h2 _ _ _ g2
  refine ⟨a ++ b ++ c, ?_, a, b, c, rfl, ha, hb, hcc⟩
  have e : cs = (cs.drop f0.offset).take (P.cellsOf f0.type) ++ (cs.drop f1.offset).take (P.cellsOf f1.type) ++ (cs.drop f2.offset).take (P.cellsOf f2.type) := by
    rw [c0, c1, c2, o0, o1, o2, List.drop_zero]
    have e1 : (cs.drop (z0 + z1)).take z2 = cs.drop (z0 + z1) := List.take_of_length_le (by simp; omega)
    rw [e1]
    have e2 : cs.drop (z0 + z1) = (cs.drop z0).drop z1 := by rw [List.drop_drop]
    rw [e2, List.append_assoc, List.take_append_drop, List.take_append_drop]
  rw [e]
  exact repL_app (repL_app ra rb) rc
/-- Read again behind the call. -/
theorem args_again {t : TypeId} (hl : laidOutB P = true) (hr : P.readableRec t = true) (hrow : decide (t < P.types.size) = true) {W' : World} {v : Value} {d : DataW H} {ps : List MemPlace}
    (h : DataW.Trod enc P W 0 (fun _ => true) true t v d ps) (hold : ∀ i, i < W.heap.size → W'.heap[i]? = W.heap[i]?) : DataW.Trod enc P W' 0 (fun b => decide (b < W.heap.size)) true t v d ps := by
  have hlt : ∀ p ∈ ps, p.block < W.heap.size := by
    obtain ⟨n, hn⟩ := h
    exact DataW.trod_lt n t _ _ hn
  refine Trod_stays hl hr (of_decide_eq_true hrow) h (fun p hp => ?_) (fun p hp => decide_eq_true (hlt p hp))
  have hb := hlt p hp
  cases p with
  | cell b off =>
    show W'.cell? ⟨b, off, none⟩ = W.cell? ⟨b, off, none⟩
    unfold World.cell?
    rw [hold b hb]
  | map b => exact hold b hb
end
end Go.Proofs.YtmhllkmceipdcaaGreatDoor


/- An automaton as an argument, and lists of ints: data. -/
namespace Go.Proofs.YtmhllkmceipdcaaGreatDoor
open Go.ChangeShapes Go.WideShapes Go.ChangeAt Go.RowKit Go.Deep Go.WideElems
set_option maxRecDepth 100000
section
variable {H : Type} {enc : TypeId × Value → H} {W : World}
theorem list_of {α β : Type} {f : α → β} {Q : α → Prop} : ∀ {xs : List β}, (∀ d ∈ xs, ∃ a, d = f a ∧ Q a) → ∃ l : List α, xs = l.map f ∧ ∀ a ∈ l, Q a
  | [], _ => ⟨[], rfl, by simp⟩
  | d :: xs, h => by
    obtain ⟨a, ha, hq⟩ := h d (by simp)
    obtain ⟨l, hl, hql⟩ := list_of (xs := xs) fun e he => h e (by simp [he])
    refine ⟨a :: l, by rw [ha, hl]; rfl, fun b hb => ?_⟩
    rcases List.mem_cons.1 hb with rfl | hb
    · exact hq
    · exact hql b hb
theorem wf_u8 {z : Int} (h : (Lit.int .u8 z).wf = true) : 0 ≤ z ∧ z ≤ 255 := by
  simp only [Lit.wf, Bool.and_eq_true, decide_eq_true_eq] at h
  have e1 : IntKind.u8.min = 0 := rfl
  have e2 : IntKind.u8.max = 255 := rfl
  rw [e1, e2] at h
  exact h
theorem maxLen63 {n : Nat} (h : n ≤ maxLen) : n ≤ AI.max63 := by
  simp only [maxLen] at h
  simp only [AI.max63]
  omega
/-- Ints, and lists of them. -/
theorem opn_ints : Opn enc Tryz.prog W 29 fun is => ∃ l : List Int, is = [AI.intsI l] ∧ l.length ≤ AI.max63 := by
  intro n cs x h
  obtain ⟨is, hr, xs, rfl, hx, hl⟩ := opn_slice Tryz.underlying29 (z := 1) (by kernel_rfl) (by decide) (opn_int Tryz.underlying3) n cs x h
  obtain ⟨l, rfl, -⟩ := list_of (f := fun z : Int => [AI.vi z]) (Q := fun _ => True) (xs := xs) fun d hd => by
    obtain ⟨z, hz, _⟩ := hx d hd
    exact ⟨z, hz, trivial⟩
  refine ⟨_, hr, l, by simp, maxLen63 (by simpa using hl)⟩
structure autLen (x : AI.Aut) : Prop where
  e : x.edges.length ≤ AI.max63
  a : x.alpha.length ≤ AI.max63
  m : x.marked.length ≤ AI.max63
end
end Go.Proofs.YtmhllkmceipdcaaGreatDoor


/- The law's own estimates: reach, Begin, Next, Observe, Estimate. -/
namespace Go.AI
open Go.Proofs
set_option maxRecDepth 20000
/-- What is known of an automaton that passes the check. -/
structure gAut (a : Aut) (n : Nat) : Prop where
  st : a.states = n
  sm : smallA a
  c : chkA a = 0
theorem gAut.to {a : Aut} {n : Nat} (h : gAut a n) : ∀ e ∈ a.edges, 0 ≤ e.2.2 ∧ e.2.2 < (n : Int) := fun e he => by have := (chk_rng h.c).2.1 e he; rw [h.st] at this; exact this
theorem gAut.fr {a : Aut} {n : Nat} (h : gAut a n) : ∀ e ∈ a.edges, 0 ≤ e.1 ∧ e.1 < (n : Int) := fun e he => by have := (chk_rng h.c).1 e he; rw [h.st] at this; exact this
theorem gAut.ev {a : Aut} {n : Nat} (h : gAut a n) : ∀ e ∈ a.edges, e.2.1 ∈ a.alpha := (chk_rng h.c).2.2
theorem gAut.pw {a : Aut} {n : Nat} (h : gAut a n) : a.edges.Pairwise ltE := (chkEds_sorted (chk_parts h.c).2.2.2).1
abbrev erasR (a : Aut) (on : List Int) : List Int := a.alpha.filter fun x => !decide (x ∈ on)
theorem erasR_low {a : Aut} {n : Nat} (h : gAut a n) (on un l : List Int) : clo a.edges (fun x => decide (x ∈ erasR a on)) n l = clo a.edges (lowP on un false) n l :=
  clo_congr h.to (fun e he => by
    have h1 := h.ev e he
    show decide (e.2.1 ∈ a.alpha.filter fun x => !decide (x ∈ on)) = (!decide (e.2.1 ∈ on) && (!false || _))
    simp [List.mem_filter, h1]) fun _ => Iff.rfl
theorem low_un (on un : List Int) : lowP on un false = lowP on [] false := by funext x; simp [lowP]
theorem clo_len (es : List Edg) (p : Int → Bool) (n : Nat) (l : List Int) : (clo es p n l).length ≤ n := sortedBelow_len _ _
theorem reachS33 (O : List Heap) (a : Aut) (on : List Int) (s : Int) (n : Nat) (h : gAut a n) (hn : n ≤ 4096) (hon : on.length ≤ max63) :
    ASpec Tryz.prog 33 [autD a, ints on, ii s] O (ints (clo a.edges (lowP on [] false) n [s])) [] O := by
  have h1 : ∀ O, ASpec Tryz.prog 74 [autD a, ints on] O (ints (erasR a on)) [] O := fun O => erased74 O a on h.sm.al hon
  have h2 := fun O => reach20 O a [s] (erasR a on) n h.st hn h.sm.ed h.to (by simp) (Nat.le_trans (List.length_filter_le _ _) (by have := h.sm.al; simp only [max63]; omega))
  rw [erasR_low h on []] at h2
  generalize clo a.edges (lowP on [] false) n [s] = R at *
  generalize erasR a on = er at *
  obtain ⟨al, st, mk, es⟩ := a
  refine aspec_intro Tk Tryz.func33 rfl Tryz.call33 Tryz.ntmps33 (Nat.le_of_ble_eq_true rfl) fun E => ?_
  refine g_run Tk Tryz.func33 ?_
  refine g_drawn Tk Tryz.func33 mixedT rfl ?_
  first | refine g_call Tk Tryz.func33 (h1 _) rfl rfl rfl rfl rfl ?_ | refine s_callq Tk (fun _ => h1 _) rfl rfl rfl ?_
  first | refine g_call Tk Tryz.func33 (h2 _) rfl rfl rfl rfl rfl ?_ | refine s_callq Tk (fun _ => h2 _) rfl rfl rfl ?_
  refine e_done Tk Tryz.func33 (by kernel_rfl) ?_
  refine g_ret Tk (r := ints R) rfl rfl rfl trivial rfl rfl ?_
  rfl
def begR (a : Aut) (on : List Int) (n : Nat) : List Int := if n = 0 then [] else clo a.edges (lowP on [] false) n [0]
theorem begin73 (O : List Heap) (a : Aut) (on : List Int) (n : Nat) (h : gAut a n) (hn : n ≤ 4096) (hon : on.length ≤ max63) :
    ASpec Tryz.prog 73 [autD a, ints on] O (ints (begR a on n)) [] O := by
  have h1 : ∀ O, ASpec Tryz.prog 74 [autD a, ints on] O (ints (erasR a on)) [] O := fun O => erased74 O a on h.sm.al hon
  have h2 := fun O => reach20 O a [0] (erasR a on) n h.st hn h.sm.ed h.to (by simp) (Nat.le_trans (List.length_filter_le _ _) (by have := h.sm.al; simp only [max63]; omega))
  rw [erasR_low h on []] at h2
  unfold begR
  generalize clo a.edges (lowP on [] false) n [0] = R at *
  generalize erasR a on = er at *
  have hst := h.st
  clear h
  obtain ⟨al, st, mk, es⟩ := a
  simp only at hst
  refine aspec_intro Tk Tryz.func73 rfl Tryz.call73 Tryz.ntmps73 (Nat.le_of_ble_eq_true rfl) fun E => ?_
  refine g_run Tk Tryz.func73 ?_
  first | refine g_cnd Tk Tryz.func73 rfl (fun g1 => ?_) (fun g1 => ?_) | refine g_know Tk Tryz.func73 rfl (fun g1 => ?_) (fun g1 => ?_) | refine s_know Tk (fun g1 => ?_) (fun g1 => ?_)
  · have g1 : st = 0 := beqT g1
    rw [if_pos (by omega)]
    refine g_ret_co Tk (r := .i (.v (.slice none 0 0))) rfl rfl rfl trivial rfl rfl ?_
    repeat' (first | refine coD_tup ?_ | refine coD_agg ?_ | refine coD_i ?_ | refine CoDL.cons ?_ ?_ | exact CoDL.nil | exact coI_nil | refine coI_sl ?_ | refine CoLL.cons ?_ ?_ | exact CoLL.nil | refine CoL.cons ?_ ?_ | exact CoL.nil | exact CoI.refl _ | exact CoL.refl _ | exact CoLL.refl _ | exact CoDL.refl _ | exact CoD.refl _)
  have g1 : st ≠ 0 := beqF g1
  rw [if_neg (by omega)]
  refine g_drawn Tk Tryz.func73 mixedT rfl ?_
  first | refine g_call Tk Tryz.func73 (h1 _) rfl rfl rfl rfl rfl ?_ | refine s_callq Tk (fun _ => h1 _) rfl rfl rfl ?_
  first | refine g_call Tk Tryz.func73 (h2 _) rfl rfl rfl rfl rfl ?_ | refine s_callq Tk (fun _ => h2 _) rfl rfl rfl ?_
  refine e_done Tk Tryz.func73 (by kernel_rfl) ?_
  refine g_ret Tk (r := ints R) rfl rfl rfl trivial rfl rfl ?_
  rfl
set_option maxHeartbeats 4000000 in
theorem next34 (O : List Heap) (a : Aut) (on est : List Int) (ev : Int) (n : Nat) (h : gAut a n) (hn : n ≤ 4096) (hel : est.length ≤ max63) (hon : on.length ≤ max63) :
    ASpec Tryz.prog 34 [autD a, ints on, ints est, ii ev] O (ints (nxt a.edges (lowP on [] false) n est ev)) [] O := by
  have h1 : ∀ O, ASpec Tryz.prog 74 [autD a, ints on] O (ints (erasR a on)) [] O := fun O => erased74 O a on h.sm.al hon
  have h2 := fun O l hl => reach20 O a l (erasR a on) n h.st hn h.sm.ed h.to hl (Nat.le_trans (List.length_filter_le _ _) (by have := h.sm.al; simp only [max63]; omega))
  have hed := h.sm.ed
  have h2 : ∀ O l, l.length ≤ 1000000 → ASpec Tryz.prog 20 [autD a, ints l, ints (erasR a on)] O (ints (clo a.edges (lowP on [] false) n l)) [] O := fun O l hl => by
    have := h2 O l hl
    rwa [erasR_low h on []] at this
  unfold nxt
  generalize lowP on [] false = lp at *
  generalize erasR a on = er at *
  clear h
  obtain ⟨al, st, mk, es⟩ := a
  simp only at hed
  generalize hK : clo es lp n (tgtE es est ev) = KK
  refine aspec_stop [7] Tk Tryz.func34 rfl Tryz.call34 Tryz.ntmps34 (Nat.le_of_ble_eq_true rfl) fun E => ?_
  refine g_run Tk Tryz.func34 ?_
  refine g_loop ?_
  refine rch_wk (wk_nil 9 44 3 1 rfl rfl rfl) ?_
  refine rch_loop2 (fun x : Nat × List Int => [(1, ints on), (2, ints est), (3, ii ev), (4, .own 0 4 0 0), (9, .osl 0 44), (10, ii x.1)]) (fun x => [(4, .box [ints al, ii st, ints mk, edgs es]), (44, oints x.2)]) (fun _ => O) 51
    (fun x => x.1 ≤ es.length ∧ x.2.length ≤ x.1 ∧ clo es lp n (x.2 ++ tgtE (es.drop x.1) est ev) = KK) (fun x => es.length - x.1) (0, []) ⟨Nat.zero_le _, Nat.le_refl _, by simpa using hK⟩ ⟨rfl, rfl, rfl, rfl, rfl, rfl, trivial⟩ rfl ⟨rfl, rfl, trivial⟩ rfl rfl ?_
  clear hK
  rintro ⟨i, l⟩ ⟨hi, hl, hno⟩ ih
  simp only at hi hl hno
  have hj1 : ii (IntKind.i64.wrap ((i : Int) + 1)) = ii ((i + 1 : Nat) : Int) := congrArg ii (wsucc (n := 1000001) (by omega) (by decide))
  refine g_run Tk Tryz.func34 ?_
  first | refine g_cnd Tk Tryz.func34 rfl (fun g1 => ?_) (fun g1 => ?_) | refine g_know Tk Tryz.func34 rfl (fun g1 => ?_) (fun g1 => ?_) | refine s_know Tk (fun g1 => ?_) (fun g1 => ?_)
  · have h3 : i < es.length := by simpa using g1
    have ge : (es.map edgI)[(i : Int).toNat]? = some (edgI es[i]) := get_mapZ h3
    rw [List.drop_eq_getElem_cons h3] at hno
    generalize es[i] = e at *
    obtain ⟨ef, ee, et⟩ := e
    have htg : ∀ r, tgtE ((ef, ee, et) :: r) est ev = if ee = ev ∧ ef ∈ est then et :: tgtE r est ev else tgtE r est ev := fun r => by
      unfold tgtE
      rw [List.filter_cons]
      by_cases c : ee = ev ∧ ef ∈ est
      · rw [if_pos (by simpa using c), if_pos c, List.map_cons]
      · rw [if_neg (by simpa using c), if_neg c]
    rw [htg] at hno
    clear htg
    first | refine g_need Tk Tryz.func34 (by exact ⟨by omega, by show (i : Int) < (es.length : Int); omega⟩) ?_ | refine s_need Tk (by exact ⟨by omega, by show (i : Int) < (es.length : Int); omega⟩) ?_
    first | refine g_elem Tk Tryz.func34 (ge) ?_ | refine s_elem Tk (ge) ?_
    first | refine g_cnd Tk Tryz.func34 rfl (fun c1 => ?_) (fun c1 => ?_) | refine g_know Tk Tryz.func34 rfl (fun c1 => ?_) (fun c1 => ?_) | refine s_know Tk (fun c1 => ?_) (fun c1 => ?_)
    · have c1 : ee = ev := beqT c1
      first | refine g_need Tk Tryz.func34 (by exact ⟨by omega, by show (i : Int) < (es.length : Int); omega⟩) ?_ | refine s_need Tk (by exact ⟨by omega, by show (i : Int) < (es.length : Int); omega⟩) ?_
      first | refine g_elem Tk Tryz.func34 (ge) ?_ | refine s_elem Tk (ge) ?_
      first | refine g_call Tk Tryz.func34 (has55 _ est ef hel) rfl rfl rfl rfl rfl ?_ | refine s_callq Tk (fun _ => has55 _ est ef hel) rfl rfl rfl ?_
      first | refine g_cnd Tk Tryz.func34 rfl (fun c2 => ?_) (fun c2 => ?_) | refine g_know Tk Tryz.func34 rfl (fun c2 => ?_) (fun c2 => ?_) | refine s_know Tk (fun c2 => ?_) (fun c2 => ?_)
      · have c2 : ef ∈ est := of_decide_eq_true c2
        rw [if_pos ⟨c1, c2⟩] at hno
        first | refine g_need Tk Tryz.func34 (by exact ⟨by omega, by show (i : Int) < (es.length : Int); omega⟩) ?_ | refine s_need Tk (by exact ⟨by omega, by show (i : Int) < (es.length : Int); omega⟩) ?_
        first | refine g_elem Tk Tryz.func34 (ge) ?_ | refine s_elem Tk (ge) ?_
        first | refine g_need Tk Tryz.func34 (by exact ⟨by show (l.length + 1) * 8 ≤ 140737488355328; omega, by show l.length + 1 ≤ 9223372036854775807; omega⟩) ?_ | refine s_need Tk (by exact ⟨by show (l.length + 1) * 8 ≤ 140737488355328; omega, by show l.length + 1 ≤ 9223372036854775807; omega⟩) ?_
        refine g_loop ?_
        refine ih (i + 1, l ++ [et]) _ _ ⟨h3, by simp; omega, by simpa using hno⟩ (by simp only; omega) ⟨rfl, rfl, rfl, rfl, rfl, hj1, trivial⟩ rfl ⟨rfl, congrArg some (oints_app l et), trivial⟩ rfl rfl
      · have c2 : ef ∉ est := of_decide_eq_false c2
        rw [if_neg (fun h => c2 h.2)] at hno
        refine g_loop ?_
        exact ih (i + 1, l) _ _ ⟨h3, by simp only; omega, hno⟩ (by simp only; omega) ⟨rfl, rfl, rfl, rfl, rfl, hj1, trivial⟩ rfl ⟨rfl, rfl, trivial⟩ rfl rfl
    · have c1 : ee ≠ ev := beqF c1
      rw [if_neg (fun h => c1 h.1)] at hno
      repeat (first | refine g_cnd Tk Tryz.func34 rfl (fun _ => ?_) (fun h => absurd h (by decide)) | refine g_know Tk Tryz.func34 rfl (fun _ => ?_) (fun h => absurd h (by decide)) | refine s_know Tk (fun _ => ?_) (fun h => absurd h (by decide)) | refine g_cnd Tk Tryz.func34 rfl (fun h => absurd h (by decide)) (fun _ => ?_) | refine g_know Tk Tryz.func34 rfl (fun h => absurd h (by decide)) (fun _ => ?_) | refine s_know Tk (fun h => absurd h (by decide)) (fun _ => ?_) | refine g_cnd Tk Tryz.func34 rfl (fun _ => ?_) (fun h => absurd (show true = false from h) (by decide)) | refine g_know Tk Tryz.func34 rfl (fun _ => ?_) (fun h => absurd (show true = false from h) (by decide)) | refine s_know Tk (fun _ => ?_) (fun h => absurd (show true = false from h) (by decide)) | refine g_cnd Tk Tryz.func34 rfl (fun h => absurd (show false = true from h) (by decide)) (fun _ => ?_) | refine g_know Tk Tryz.func34 rfl (fun h => absurd (show false = true from h) (by decide)) (fun _ => ?_) | refine s_know Tk (fun h => absurd (show false = true from h) (by decide)) (fun _ => ?_))
      refine g_loop ?_
      exact ih (i + 1, l) _ _ ⟨h3, by simp only; omega, hno⟩ (by simp only; omega) ⟨rfl, rfl, rfl, rfl, rfl, hj1, trivial⟩ rfl ⟨rfl, rfl, trivial⟩ rfl rfl
  · have h3 : es.length ≤ i := by simpa using g1
    rw [List.drop_eq_nil_of_le h3] at hno
    have hno : clo es lp n l = KK := by simpa [tgtE] using hno
    have h2 := fun O => h2 O l (by omega)
    rw [hno] at h2
    refine g_stop ?_
    refine rch_wk (wk_freeze 44 rfl rfl) ?_
    refine g_run Tk Tryz.func34 ?_
    refine g_go Tk Tryz.func34 ?_
    refine g_drawn Tk Tryz.func34 mixedT rfl ?_
    first | refine g_call Tk Tryz.func34 (h1 _) rfl rfl rfl rfl rfl ?_ | refine s_callq Tk (fun _ => h1 _) rfl rfl rfl ?_
    first | refine g_call Tk Tryz.func34 (h2 _) rfl rfl rfl rfl rfl ?_ | refine s_callq Tk (fun _ => h2 _) rfl rfl rfl ?_
    refine e_done Tk Tryz.func34 (by kernel_rfl) ?_
    refine g_ret Tk (r := ints KK) rfl rfl rfl trivial rfl rfl ?_
    rfl
end Go.AI


/- The law's own Estimate, Observe, Run, insert. -/
namespace Go.AI
open Go.Proofs
set_option maxRecDepth 20000
def estR (a : Aut) (on : List Int) (n : Nat) (obs : List Int) : List Int := obs.foldl (fun e ev => nxt a.edges (lowP on [] false) n e ev) (begR a on n)
theorem begR_len (a : Aut) (on : List Int) (n : Nat) : (begR a on n).length ≤ n := by
  unfold begR
  split
  · simp
  · exact clo_len _ _ _ _
set_option maxHeartbeats 4000000 in
theorem estimate31 (O : List Heap) (a : Aut) (on obs : List Int) (n : Nat) (h : gAut a n) (hn : n ≤ 4096) (hol : obs.length ≤ 1000000) (hon : on.length ≤ max63) :
    ASpec Tryz.prog 31 [autD a, ints on, ints obs] O (ints (estR a on n obs)) [] O := by
  have h1 := fun O => begin73 O a on n h hn hon
  have h2 := fun O e ev he => next34 O a on e ev n h hn he hon
  have hbl := begR_len a on n
  have hnl : ∀ e ev, (nxt a.edges (lowP on [] false) n e ev).length ≤ n := fun e ev => clo_len _ _ _ _
  unfold estR
  generalize begR a on n = b at *
  generalize hnx : (fun e ev => nxt a.edges (lowP on [] false) n e ev) = nx at *
  have hnx : ∀ e ev, nxt a.edges (lowP on [] false) n e ev = nx e ev := fun e ev => by rw [← hnx]
  simp only [hnx] at h2 hnl
  clear hnx h
  obtain ⟨al, st, mk, es⟩ := a
  generalize hK : obs.foldl nx b = KK
  refine aspec_intro Tk Tryz.func31 rfl Tryz.call31 Tryz.ntmps31 (Nat.le_of_ble_eq_true rfl) fun E => ?_
  refine g_run Tk Tryz.func31 ?_
  first | refine g_call Tk Tryz.func31 (h1 _) rfl rfl rfl rfl rfl ?_ | refine s_callq Tk (fun _ => h1 _) rfl rfl rfl ?_
  refine g_loop ?_
  refine rch_loop2 (fun x : Nat × List Int => [(1, ints on), (2, ints obs), (3, .own 0 3 0 0), (7, ints x.2), (8, ii x.1)]) (fun x => [(3, .box [ints al, ii st, ints mk, edgs es])]) (fun _ => O) 27
    (fun x => x.1 ≤ obs.length ∧ x.2.length ≤ n ∧ (obs.drop x.1).foldl nx x.2 = KK) (fun x => obs.length - x.1) (0, b) ⟨Nat.zero_le _, hbl, by simpa using hK⟩ ⟨rfl, rfl, rfl, rfl, rfl, trivial⟩ rfl ⟨rfl, trivial⟩ rfl rfl ?_
  clear hK
  rintro ⟨i, e⟩ ⟨hi, hl, hno⟩ ih
  simp only at hi hl hno
  have hj1 : ii (IntKind.i64.wrap ((i : Int) + 1)) = ii ((i + 1 : Nat) : Int) := congrArg ii (wsucc (n := 1000001) (by omega) (by decide))
  refine g_run Tk Tryz.func31 ?_
  first | refine g_cnd Tk Tryz.func31 rfl (fun g1 => ?_) (fun g1 => ?_) | refine g_know Tk Tryz.func31 rfl (fun g1 => ?_) (fun g1 => ?_) | refine s_know Tk (fun g1 => ?_) (fun g1 => ?_)
  · have h3 : i < obs.length := by simpa using g1
    have ge : (obs.map fun x => [vi x])[(i : Int).toNat]? = some [vi obs[i]] := get_mapZ (f := fun x => [vi x]) h3
    rw [List.drop_eq_getElem_cons h3, List.foldl_cons] at hno
    have h2' := fun O => h2 O e obs[i] (by simp only [max63]; omega)
    have hnl' := hnl e obs[i]
    generalize nx e obs[i] = ne at *
    refine g_drawn Tk Tryz.func31 mixedT rfl ?_
    first | refine g_need Tk Tryz.func31 (by exact ⟨by omega, by show (i : Int) < (obs.length : Int); omega⟩) ?_ | refine s_need Tk (by exact ⟨by omega, by show (i : Int) < (obs.length : Int); omega⟩) ?_
    first | refine g_elem Tk Tryz.func31 (ge) ?_ | refine s_elem Tk (ge) ?_
    first | refine g_call Tk Tryz.func31 (h2' _) rfl rfl rfl rfl rfl ?_ | refine s_callq Tk (fun _ => h2' _) rfl rfl rfl ?_
    refine e_done Tk Tryz.func31 (by kernel_rfl) ?_
    refine g_loop ?_
    exact ih (i + 1, ne) _ _ ⟨h3, hnl', hno⟩ (by simp only; omega) ⟨rfl, rfl, rfl, rfl, hj1, trivial⟩ rfl ⟨rfl, trivial⟩ rfl rfl
  · have h3 : obs.length ≤ i := by simpa using g1
    rw [List.drop_eq_nil_of_le h3] at hno
    have hno : e = KK := hno
    subst hno
    refine g_ret Tk (r := ints e) rfl rfl rfl trivial rfl rfl ?_
    rfl
set_option maxHeartbeats 4000000 in
theorem observe32 (O : List Heap) (on w : List Int) (hwl : w.length ≤ 1000000) (hon : on.length ≤ max63) :
    ASpec Tryz.prog 32 [ints on, ints w] O (ints (w.filter fun x => decide (x ∈ on))) [] O := by
  generalize hK : (w.filter fun x => decide (x ∈ on)) = KK
  refine aspec_stop [7] Tk Tryz.func32 rfl Tryz.call32 Tryz.ntmps32 (Nat.le_of_ble_eq_true rfl) fun E => ?_
  refine g_run Tk Tryz.func32 ?_
  refine g_loop ?_
  refine rch_wk (wk_nil 5 25 3 1 rfl rfl rfl) ?_
  refine rch_loop2 (fun x : Nat × List Int => [(0, ints on), (1, ints w), (5, .osl 0 25), (6, ii x.1)]) (fun x => [(25, oints x.2)]) (fun _ => O) 27
    (fun x => x.1 ≤ w.length ∧ x.2.length ≤ x.1 ∧ x.2 ++ (w.drop x.1).filter (fun x => decide (x ∈ on)) = KK) (fun x => w.length - x.1) (0, []) ⟨Nat.zero_le _, Nat.le_refl _, by simpa using hK⟩ ⟨rfl, rfl, rfl, rfl, trivial⟩ rfl ⟨rfl, trivial⟩ rfl rfl ?_
  rintro ⟨i, kp⟩ ⟨hi, hkl, hno⟩ ih
  simp only at hi hkl hno
  have hj1 : ii (IntKind.i64.wrap ((i : Int) + 1)) = ii ((i + 1 : Nat) : Int) := congrArg ii (wsucc (n := 1000001) (by omega) (by decide))
  refine g_run Tk Tryz.func32 ?_
  first | refine g_cnd Tk Tryz.func32 rfl (fun g2 => ?_) (fun g2 => ?_) | refine g_know Tk Tryz.func32 rfl (fun g2 => ?_) (fun g2 => ?_) | refine s_know Tk (fun g2 => ?_) (fun g2 => ?_)
  · have h3 : i < w.length := by simpa using g2
    have ga : (w.map fun x => [vi x])[(i : Int).toNat]? = some [vi w[i]] := get_mapZ h3
    rw [List.drop_eq_getElem_cons h3, List.filter_cons] at hno
    generalize w[i] = x at *
    first | refine g_need Tk Tryz.func32 (by exact ⟨by omega, by show (i : Int) < (w.length : Int); omega⟩) ?_ | refine s_need Tk (by exact ⟨by omega, by show (i : Int) < (w.length : Int); omega⟩) ?_
    first | refine g_elem Tk Tryz.func32 (ga) ?_ | refine s_elem Tk (ga) ?_
    first | refine g_call Tk Tryz.func32 (has55 _ on x hon) rfl rfl rfl rfl rfl ?_ | refine s_callq Tk (fun _ => has55 _ on x hon) rfl rfl rfl ?_
    first | refine g_cnd Tk Tryz.func32 rfl (fun g3 => ?_) (fun g3 => ?_) | refine g_know Tk Tryz.func32 rfl (fun g3 => ?_) (fun g3 => ?_) | refine s_know Tk (fun g3 => ?_) (fun g3 => ?_)
    · have g3 : (decide (x ∈ on)) = true := g3
      rw [if_pos g3] at hno
      first | refine g_need Tk Tryz.func32 (by exact ⟨by omega, by show (i : Int) < (w.length : Int); omega⟩) ?_ | refine s_need Tk (by exact ⟨by omega, by show (i : Int) < (w.length : Int); omega⟩) ?_
      first | refine g_elem Tk Tryz.func32 (ga) ?_ | refine s_elem Tk (ga) ?_
      first | refine g_need Tk Tryz.func32 (by exact ⟨by show (kp.length + 1) * 8 ≤ 140737488355328; omega, by show kp.length + 1 ≤ 9223372036854775807; omega⟩) ?_ | refine s_need Tk (by exact ⟨by show (kp.length + 1) * 8 ≤ 140737488355328; omega, by show kp.length + 1 ≤ 9223372036854775807; omega⟩) ?_
      refine g_loop ?_
      refine ih (i + 1, kp ++ [x]) _ _ ⟨h3, by simp; omega, by simpa using hno⟩ (by simp only; omega) ⟨rfl, rfl, rfl, hj1, trivial⟩ rfl ⟨congrArg some (oints_app kp x), trivial⟩ rfl rfl
    · have g3 : (decide (x ∈ on)) = false := g3
      rw [if_neg (by rw [g3]; decide)] at hno
      refine g_loop ?_
      exact ih (i + 1, kp) _ _ ⟨h3, by simp only; omega, hno⟩ (by simp only; omega) ⟨rfl, rfl, rfl, hj1, trivial⟩ rfl ⟨rfl, trivial⟩ rfl rfl
  · have h3 : w.length ≤ i := by simpa using g2
    rw [List.drop_eq_nil_of_le h3] at hno
    simp only [List.filter_nil, List.append_nil] at hno
    subst hno
    refine g_stop ?_
    refine rch_wk (wk_freeze 25 rfl rfl) ?_
    refine g_run Tk Tryz.func32 ?_
    refine g_go Tk Tryz.func32 ?_
    refine g_ret Tk (r := ints kp) rfl rfl rfl trivial rfl rfl ?_
    rfl
/-- Run: the state where it stops, and how many events were taken. -/
def runW (es : List Edg) : Int → List Int → Int → Int × Int
  | s, [], k => (s, k)
  | s, x :: r, k => if stp3 es s x < 0 then (s, k) else runW es (stp3 es s x) r (k + 1)
set_option maxHeartbeats 4000000 in
theorem run28 (O : List Heap) (a : Aut) (s : Int) (w : List Int) (hl : a.edges.length ≤ max63) (hwl : w.length ≤ 1000000) :
    ASpec Tryz.prog 28 [autD a, ii s, ints w] O (.tup [ii (runW a.edges s w 0).1, ii (runW a.edges s w 0).2]) [] O := by
  have h1 := fun O s ev => step121 O a s ev hl
  generalize hK : runW a.edges s w 0 = KK
  refine aspec_intro Tk Tryz.func28 rfl Tryz.call28 Tryz.ntmps28 (Nat.le_of_ble_eq_true rfl) fun E => ?_
  refine g_run Tk Tryz.func28 ?_
  refine g_loop ?_
  refine rch_loop2 (fun x : Nat × Int => [(1, ii x.2), (2, ints w), (3, .own 0 3 0 0), (8, ii x.1)]) (fun x => [(3, .box (autC a))]) (fun _ => O) 31
    (fun x => x.1 ≤ w.length ∧ runW a.edges x.2 (w.drop x.1) x.1 = KK) (fun x => w.length - x.1) (0, s) ⟨Nat.zero_le _, by simpa using hK⟩ ⟨rfl, rfl, rfl, rfl, trivial⟩ rfl ⟨rfl, trivial⟩ rfl rfl ?_
  clear hK
  rintro ⟨i, t⟩ ⟨hi, hno⟩ ih
  simp only at hi hno
  have hj1 : ii (IntKind.i64.wrap ((i : Int) + 1)) = ii ((i + 1 : Nat) : Int) := congrArg ii (wsucc (n := 1000001) (by omega) (by decide))
  refine g_run Tk Tryz.func28 ?_
  first | refine g_cnd Tk Tryz.func28 rfl (fun g2 => ?_) (fun g2 => ?_) | refine g_know Tk Tryz.func28 rfl (fun g2 => ?_) (fun g2 => ?_) | refine s_know Tk (fun g2 => ?_) (fun g2 => ?_)
  · have h3 : i < w.length := by simpa using g2
    have ga : (w.map fun x => [vi x])[(i : Int).toNat]? = some [vi w[i]] := get_mapZ h3
    rw [List.drop_eq_getElem_cons h3] at hno
    simp only [runW] at hno
    generalize w[i] = x at *
    have h1' := fun O => h1 O t x
    generalize stp3 a.edges t x = u at *
    refine g_drawn Tk Tryz.func28 mixedT rfl ?_
    first | refine g_need Tk Tryz.func28 (by exact ⟨by omega, by show (i : Int) < (w.length : Int); omega⟩) ?_ | refine s_need Tk (by exact ⟨by omega, by show (i : Int) < (w.length : Int); omega⟩) ?_
    first | refine g_elem Tk Tryz.func28 (ga) ?_ | refine s_elem Tk (ga) ?_
    first | refine g_call Tk Tryz.func28 (h1' _) rfl rfl rfl rfl rfl ?_ | refine s_callq Tk (fun _ => h1' _) rfl rfl rfl ?_
    refine e_done Tk Tryz.func28 (by kernel_rfl) ?_
    first | refine g_cnd Tk Tryz.func28 rfl (fun g3 => ?_) (fun g3 => ?_) | refine g_know Tk Tryz.func28 rfl (fun g3 => ?_) (fun g3 => ?_) | refine s_know Tk (fun g3 => ?_) (fun g3 => ?_)
    · have g3 : u < 0 := by simpa using g3
      rw [if_pos g3] at hno
      subst hno
      refine g_ret Tk (r := .tup [ii t, ii i]) rfl rfl rfl trivial rfl rfl ?_
      rfl
    · have g3 : ¬ u < 0 := by simpa using g3
      rw [if_neg g3] at hno
      refine g_loop ?_
      exact ih (i + 1, u) _ _ ⟨h3, by simpa using hno⟩ (by simp only; omega) ⟨rfl, rfl, rfl, hj1, trivial⟩ rfl ⟨rfl, trivial⟩ rfl rfl
  · have h3 : w.length ≤ i := by simpa using g2
    rw [List.drop_eq_nil_of_le h3] at hno
    have hno : (t, (i : Int)) = KK := hno
    subst hno
    have e : i = w.length := by omega
    refine g_ret Tk (r := .tup [ii t, ii w.length]) rfl rfl rfl trivial rfl rfl ?_
    rw [← e]
end Go.AI
