/- The layer of abstract runs, part 40. -/
import Derived.Test.YtdehnnadfbildaaGreatDoorStpZM
import Derived.WideKeyArgs
import Derived.Lib.SmallJoins
import Derived.Deep.Slices
set_option linter.unusedSimpArgs false
set_option linter.unusedVariables false
set_option linter.all false

namespace Go.AI
open Go.Proofs
set_option maxRecDepth 20000
/-- A line of a sketch, and a sketch. -/
structure Lin where
  a0 : Int
  a1 : Int
  a2 : Int
  g : List Int
  u : List Int
abbrev linI (x : Lin) : List I := [.v (.int .u8 x.a0), .v (.int .u8 x.a1), .v (.int .u8 x.a2), .sl 1 x.g.length (x.g.map u8I), .sl 1 x.u.length (x.u.map u8I)]
structure Sk where
  locs : Int
  marks : Int
  rngs : List (Int × Int)
  lines : List Lin
abbrev linsD (l : List Lin) : D := .i (.sl 5 l.length (l.map linI))
abbrev u8D (b : Int) : D := .i (.v (.int .u8 b))
abbrev skC (k : Sk) : List D := [u8D k.locs, u8D k.marks, r8s k.rngs, linsD k.lines]
abbrev skD (k : Sk) : D := .agg (skC k)
structure linOk (x : Lin) : Prop where
  a0 : 0 ≤ x.a0 ∧ x.a0 ≤ 255
  a1 : 0 ≤ x.a1 ∧ x.a1 ≤ 255
  a2 : 0 ≤ x.a2 ∧ x.a2 ≤ 255
  g : byteOk x.g
  gl : x.g.length ≤ max63
  u : byteOk x.u
  ul : x.u.length ≤ max63
structure skOk (k : Sk) : Prop where
  locs : 0 ≤ k.locs ∧ k.locs ≤ 255
  marks : 0 ≤ k.marks ∧ k.marks ≤ 255
  rl : k.rngs.length ≤ max63
  r : ∀ p ∈ k.rngs, pairOk p
  ll : k.lines.length ≤ max63
  l : ∀ x ∈ k.lines, linOk x
def mrk (marks : Int) (i : Nat) : Bool := bits .and .u8 (marks / 2 ^ (i : Int).toNat) 1 == 1
def mrks (marks : Int) (n : Nat) : List Int := ((List.range n).filter (mrk marks)).map fun (i : Nat) => (i : Int)
/-- Comes a move behind another one? -/
def gtMv (x y : Mv) : Bool := decide (x.frm > y.frm ∨ (x.frm = y.frm ∧ x.ev > y.ev))
def posR (l : List Mv) (y : Mv) : Nat → Nat
  | 0 => 0
  | n + 1 => match l[n]? with
    | some x => bif gtMv x y then posR l y n else n + 1
    | none => 0
def insMv (l : List Mv) (y : Mv) : List Mv := l.take (posR l y l.length) ++ y :: l.drop (posR l y l.length)
def guardE (n : Int) (g : List Int) : Ex := if g.length > 0 then growE n false (g.take 12) else trueE
def updsE (n : Int) (u : List Int) : List Upd := if u.length > 0 ∧ n > 0 then [⟨b0 u % n, growE n true ((u.take 12).drop 1)⟩] else []
def mvOf (locs n : Int) (x : Lin) : Mv := ⟨x.a0 % locs, x.a1 % 3, x.a2 % locs, guardE n x.g, updsE n x.u⟩
def locsR (k : Sk) : Nat := 1 + (k.locs % 4).toNat
def mvsL (locs n : Int) (l : List Lin) (i : Nat) : List Mv := (l.take i).foldl (fun acc x => insMv acc (mvOf locs n x)) []
/-- Make. -/
def makeR (k : Sk) : Ext := ⟨[0, 1, 2], locsR k, 0, mrks k.marks (locsR k), rngsR (k.rngs.take 2), mvsL (locsR k) (rngsR (k.rngs.take 2)).length k.lines (min k.lines.length 8)⟩
theorem posR_le (l : List Mv) (y : Mv) : ∀ n, posR l y n ≤ n
  | 0 => Nat.le_refl _
  | n + 1 => by
    simp only [posR]
    split
    · rename_i x _
      cases gtMv x y with
      | true => exact Nat.le_succ_of_le (posR_le l y n)
      | false => exact Nat.le_refl _
    · omega
theorem insMv_len (l : List Mv) (y : Mv) : (insMv l y).length = l.length + 1 := by
  have := posR_le l y l.length
  simp only [insMv, List.length_append, List.length_take, List.length_cons, List.length_drop]
  omega
theorem mvsL_succ {locs n : Int} {l : List Lin} {i : Nat} (h : i < l.length) : mvsL locs n l (i + 1) = insMv (mvsL locs n l i) (mvOf locs n l[i]) := by
  unfold mvsL
  rw [List.take_add_one, List.getElem?_eq_getElem h, List.foldl_append]
  rfl
theorem mvsL_len {locs n : Int} {l : List Lin} : ∀ {i : Nat}, i ≤ l.length → (mvsL locs n l i).length = i
  | 0, _ => by simp [mvsL]
  | i + 1, h => by rw [mvsL_succ h, insMv_len, mvsL_len (by omega)]
theorem rngsR_len (l : List (Int × Int)) : (rngsR l).length = min l.length 3 := by simp [rngsR]
theorem mrks_succ (marks : Int) (i : Nat) : mrks marks (i + 1) = mrks marks i ++ (bif mrk marks i then [(i : Int)] else []) := by
  unfold mrks
  rw [List.range_succ, List.filter_append, List.map_append]
  congr 1
  cases h : mrk marks i <;> simp [h]
theorem mrks_len (marks : Int) (n : Nat) : (mrks marks n).length ≤ n := by
  unfold mrks
  rw [List.length_map]
  exact Nat.le_trans (List.length_filter_le _ _) (by simp)
theorem min_nat (n m : Nat) : (if (n : Int) < (m : Int) then (n : Int) else (m : Int)).toNat = min m n := by split <;> omega
theorem byts_min (l : List Int) (n : Nat) {N : Int} (hN : N = (n : Int)) : D.i (.sl 1 (if N < (l.length : Int) then N else (l.length : Int)).toNat ((l.map u8I).take (if N < (l.length : Int) then N else (l.length : Int)).toNat)) = byts (l.take n) := by
  subst hN
  rw [min_nat, ← List.map_take]
  have : l.take (min l.length n) = l.take n := by rw [List.take_eq_take_iff]; omega
  rw [this, show min l.length n = (l.take n).length by simp only [List.length_take]; omega]
theorem byts_min1 (l : List Int) (n : Nat) {N A : Int} (hN : N = (n : Int)) (hA : A = 1) : D.i (.sl 1 ((if N < (l.length : Int) then N else (l.length : Int)).toNat - A.toNat) (((l.map u8I).take (if N < (l.length : Int) then N else (l.length : Int)).toNat).drop A.toNat)) = byts ((l.take n).drop 1) := by
  subst hN hA
  have := byts_min l n (N := (n : Int)) rfl
  simp only [D.i.injEq, I.sl.injEq, true_and] at this
  rw [this.2, this.1, ← List.map_drop]
  congr 2
  simp
set_option maxHeartbeats 4000000 in
theorem make16 (O : List Heap) (k : Sk) (hk : skOk k) : ASpec Tryz.prog 16 [skD k] O (extD (makeR k)) [] O := by
  obtain ⟨kl, km, kr, kx⟩ := k
  obtain ⟨hloc, hmk, hrl, hr, hll, hx⟩ := hk
  simp only at hloc hmk hrl hr hll hx
  show ASpec Tryz.prog 16 [.agg [u8D kl, u8D km, r8s kr, linsD kx]] O (extD (makeR ⟨kl, km, kr, kx⟩)) [] O
  have hrg := fun O => ranges45 O (kr.take 2) (Nat.le_trans (List.length_take_le _ _) (by decide)) (fun p hp => hr p (List.mem_of_mem_take hp))
  have hvl : (rngsR (kr.take 2)).length ≤ 2 := by
    rw [rngsR_len, List.length_take]
    omega
  have hlo : IntKind.i64.wrap (1 + IntKind.i64.wrap (kl.tmod 4)) = ((1 + (kl % 4).toNat : Nat) : Int) := by
    rw [Int.tmod_eq_emod_of_nonneg hloc.1, w64 (n := kl % 4) (by omega) (by omega), w64 (by omega) (by omega)]
    omega
  generalize hR : makeR ⟨kl, km, kr, kx⟩ = R
  unfold makeR at hR
  simp only [locsR] at hR
  have hL1 : 1 ≤ 1 + (kl % 4).toNat ∧ 1 + (kl % 4).toNat ≤ 4 := by omega
  generalize 1 + (kl % 4).toNat = L at *
  have hmin : (if (2 : Int) < kr.length then (2 : Int) else kr.length).toNat = (kr.take 2).length := by
    simp only [List.length_take]
    split <;> omega
  have htk : (kr.map r8I).take (if (2 : Int) < kr.length then (2 : Int) else kr.length).toNat = (kr.take 2).map r8I := by
    rw [hmin, List.map_take, List.take_eq_take_iff]
    simp
  have hobj : D.i (.sl 2 (if (2 : Int) < kr.length then (2 : Int) else kr.length).toNat ((kr.map r8I).take (if (2 : Int) < kr.length then (2 : Int) else kr.length).toNat)) = r8s (kr.take 2) := by
    rw [htk, hmin]
  rw [← hobj] at hrg
  clear hobj hmin htk
  generalize rngsR (kr.take 2) = V at *
  refine aspec_stop [13, 15, 17, 20] Tk Tryz.func16 rfl Tryz.call16 Tryz.ntmps16 (Nat.le_of_ble_eq_true rfl) fun E => ?_
  refine g_run Tk Tryz.func16 ?_
  refine g_drawn Tk Tryz.func16 mixedT rfl ?_
  first | refine g_need Tk Tryz.func16 (by decide) ?_ | refine s_need Tk (by decide) ?_
  first | refine g_need Tk Tryz.func16 (by split <;> omega) ?_ | refine s_need Tk (by split <;> omega) ?_
  first | refine g_call Tk Tryz.func16 (hrg _) rfl rfl rfl rfl rfl ?_ | refine s_callq Tk (fun _ => hrg _) rfl rfl rfl ?_
  refine s_put Tk rfl rfl rfl ?_
  refine e_done Tk Tryz.func16 (by kernel_rfl) ?_
  refine g_loop ?_
  refine rch_meet (l := [(1, .own 0 1 0 0), (2, .own 0 2 0 0), (3, .own 0 3 0 0), (4, ii 0)]) (Hv := [(1, .box ([u8D kl, u8D km, r8s kr, linsD kx])), (2, .box [.i (.v (.slice none 0 0)), ii 0, ii 0, .i (.v (.slice none 0 0)), .i (.v (.slice none 0 0)), .i (.v (.slice none 0 0))]), (3, .box [ints [0, 1, 2], ii L, ii 0, .i (.v (.slice none 0 0)), vrs V, .i (.v (.slice none 0 0))])]) (n := 182) ?_ ⟨rfl, rfl, rfl, rfl, trivial⟩ rfl ⟨rfl, rfl, by rw [← hlo]; rfl, trivial⟩ rfl rfl
  refine rch_wk (wk_nilbox2 3 41 3 1 (pre := [ints [0, 1, 2], ii L, ii 0]) (post := [vrs V, .i (.v (.slice none 0 0))]) rfl rfl rfl) ?_
  refine rch_loop2 (fun i : Nat => [(1, .own 0 1 0 0), (2, .own 0 2 0 0), (3, .own 0 3 0 0), (4, ii i)]) (fun i => [(1, .box ([u8D kl, u8D km, r8s kr, linsD kx])), (2, .box [.i (.v (.slice none 0 0)), ii 0, ii 0, .i (.v (.slice none 0 0)), .i (.v (.slice none 0 0)), .i (.v (.slice none 0 0))]), (3, .box [ints [0, 1, 2], ii L, ii 0, .osl 0 41, vrs V, .i (.v (.slice none 0 0))]), (41, oints (mrks km i))]) (fun _ => O) 182
    (fun i => i ≤ L) (fun i => L - i) 0 (Nat.zero_le _) ⟨rfl, rfl, rfl, rfl, trivial⟩ rfl ⟨rfl, rfl, rfl, rfl, trivial⟩ rfl rfl ?_
  intro i hi ih
  have hms := mrks_succ km i
  have hml := mrks_len km i
  have hend : i = L → mrks km i = mrks km L := fun e => by rw [e]
  generalize mrks km i = M at *
  refine g_run Tk Tryz.func16 ?_
  first | refine g_cnd Tk Tryz.func16 rfl (fun h1 => ?_) (fun h1 => ?_) | refine g_know Tk Tryz.func16 rfl (fun h1 => ?_) (fun h1 => ?_) | refine s_know Tk (fun h1 => ?_) (fun h1 => ?_)
  · have h1 : i < L := by have := of_decide_eq_true h1; omega
    generalize hq : mrk km i = q at *
    unfold mrk at hq
    first | refine g_need Tk Tryz.func16 (by exact ⟨by omega, by show (i : Int) ≤ 8; omega⟩) ?_ | refine s_need Tk (by exact ⟨by omega, by show (i : Int) ≤ 8; omega⟩) ?_
    first | refine g_cnd Tk Tryz.func16 rfl (fun h2 => ?_) (fun h2 => ?_) | refine g_know Tk Tryz.func16 rfl (fun h2 => ?_) (fun h2 => ?_) | refine s_know Tk (fun h2 => ?_) (fun h2 => ?_)
    · have h2 : q = true := by rw [← hq]; exact h2
      subst h2
      first | refine g_need Tk Tryz.func16 (by exact ⟨by show (M.length + 1) * 8 ≤ 140737488355328; omega, by show M.length + 1 ≤ 9223372036854775807; omega⟩) ?_ | refine s_need Tk (by exact ⟨by show (M.length + 1) * 8 ≤ 140737488355328; omega, by show M.length + 1 ≤ 9223372036854775807; omega⟩) ?_
      refine g_loop ?_
      refine ih (i + 1) _ _ (by omega) (by omega) ⟨rfl, rfl, rfl, congrArg ii (wsucc (n := 4) (by omega) (by decide)), trivial⟩ rfl ⟨rfl, rfl, rfl, ?_, trivial⟩ rfl rfl
      rw [hms]
      exact congrArg some (oints_app M i)
    · have h2 : q = false := by rw [← hq]; exact h2
      subst h2
      refine g_loop ?_
      refine ih (i + 1) _ _ (by omega) (by omega) ⟨rfl, rfl, rfl, congrArg ii (wsucc (n := 4) (by omega) (by decide)), trivial⟩ rfl ⟨rfl, rfl, rfl, ?_, trivial⟩ rfl rfl
      rw [hms]
      show some (oints M) = some (oints (M ++ []))
      rw [List.append_nil]
  · have h1 : i = L := by have := of_decide_eq_false h1; omega
    have hend := hend h1
    clear ih hms
    refine g_loop ?_
    refine rch_wk (wk_freeze 41 rfl rfl) ?_
    refine rch_wk (wk_nilbox2 3 179 107 8 (pre := [ints [0, 1, 2], ii L, ii 0, .osl 0 41, vrs V]) (post := []) rfl rfl rfl) ?_
    refine rch_wk (wk_freeze 179 rfl rfl) ?_
    refine rch_wk (wk_imm rfl) ?_
    rw [hend] at *
    clear hend hml h1 hi
    generalize mrks km L = M at *
    refine rch_loop2 (fun i : Nat => [(1, .own 0 1 0 0), (2, .own 0 2 0 0), (3, .own 0 3 0 0), (5, ii V.length), (6, ii i)]) (fun i => [(1, .box ([u8D kl, u8D km, r8s kr, linsD kx])), (2, .box [.i (.v (.slice none 0 0)), ii 0, ii 0, .i (.v (.slice none 0 0)), .i (.v (.slice none 0 0)), .i (.v (.slice none 0 0))]), (3, .box [ints [0, 1, 2], ii L, ii 0, ints M, vrs V, mvs (mvsL L V.length kx i)])]) (fun _ => O) 182
      (fun i => i ≤ min kx.length 8) (fun i => min kx.length 8 - i) 0 (Nat.zero_le _) ⟨rfl, rfl, rfl, rfl, rfl, trivial⟩ rfl ⟨rfl, rfl, rfl, trivial⟩ rfl rfl ?_
    intro i hi ih
    have hi : i ≤ min kx.length 8 := hi
    have hsucc := fun h => mvsL_succ (locs := L) (n := V.length) (l := kx) (i := i) h
    have hlen := mvsL_len (locs := L) (n := V.length) (l := kx) (i := i) (by omega)
    have hend : i = min kx.length 8 → R = ⟨[0, 1, 2], L, 0, M, V, mvsL L V.length kx i⟩ := fun e => by rw [← hR, ← e]
    clear hR
    generalize mvsL L V.length kx i = W at *
    refine g_run Tk Tryz.func16 ?_
    first | refine g_cnd Tk Tryz.func16 rfl (fun h1 => ?_) (fun h1 => ?_) | refine g_know Tk Tryz.func16 rfl (fun h1 => ?_) (fun h1 => ?_) | refine s_know Tk (fun h1 => ?_) (fun h1 => ?_)
    · have h1 : i < kx.length := by have := of_decide_eq_true h1; omega
      first | refine g_cnd Tk Tryz.func16 rfl (fun h2 => ?_) (fun h2 => ?_) | refine g_know Tk Tryz.func16 rfl (fun h2 => ?_) (fun h2 => ?_) | refine s_know Tk (fun h2 => ?_) (fun h2 => ?_)
      · have h2 : i < 8 := by have := of_decide_eq_true h2; omega
        have hsucc := hsucc h1
        have hg : (kx.map linI)[(i : Int).toNat]? = some (linI kx[i]) := get_mapZ h1
        have hxx := hx _ (List.getElem_mem h1)
        generalize kx[i] = x at *
        obtain ⟨hx0, hx1, hx2, hgb, hgl, hub, hul⟩ := hxx
        clear hend
        first | refine g_need Tk Tryz.func16 (by exact ⟨by omega, by show (i : Int) < (kx.length : Int); omega⟩) ?_ | refine s_need Tk (by exact ⟨by omega, by show (i : Int) < (kx.length : Int); omega⟩) ?_
        first | refine g_elem Tk Tryz.func16 (hg) ?_ | refine s_elem Tk (hg) ?_
        refine g_drawn Tk Tryz.func16 mixedT rfl ?_
        have e3 : ∀ n : Int, 0 ≤ n → n ≤ 255 → IntKind.i64.wrap n = n := fun n h h' => w64 (by omega) (by omega)
        first | refine g_need Tk Tryz.func16 (by decide) ?_ | refine s_need Tk (by decide) ?_
        first | refine g_need Tk Tryz.func16 (by exact (by omega : (L : Int) ≠ 0)) ?_ | refine s_need Tk (by exact (by omega : (L : Int) ≠ 0)) ?_
        first | refine g_need Tk Tryz.func16 (by decide) ?_ | refine s_need Tk (by decide) ?_
        first | refine g_need Tk Tryz.func16 (by decide) ?_ | refine s_need Tk (by decide) ?_
        first | refine g_need Tk Tryz.func16 (by decide) ?_ | refine s_need Tk (by decide) ?_
        first | refine g_need Tk Tryz.func16 (by exact (by omega : (L : Int) ≠ 0)) ?_ | refine s_need Tk (by exact (by omega : (L : Int) ≠ 0)) ?_
        first | refine g_call Tk Tryz.func16 (true42 _) rfl rfl rfl rfl rfl ?_ | refine s_callq Tk (fun _ => true42 _) rfl rfl rfl ?_
        refine s_put Tk rfl rfl rfl ?_
        refine e_done Tk Tryz.func16 (by kernel_rfl) ?_
        have hf : (IntKind.i64.wrap x.a0).tmod L = x.a0 % L := by rw [e3 _ hx0.1 hx0.2, Int.tmod_eq_emod_of_nonneg hx0.1]
        have he : IntKind.i64.wrap (x.a1.tmod 3) = x.a1 % 3 := by rw [Int.tmod_eq_emod_of_nonneg hx1.1, w64 (by omega) (by omega)]
        have ht : (IntKind.i64.wrap x.a2).tmod L = x.a2 % L := by rw [e3 _ hx2.1 hx2.2, Int.tmod_eq_emod_of_nonneg hx2.1]
        refine g_stop ?_
        refine rch_meet (l := [(1, .own 0 1 0 0), (2, .own 0 2 0 0), (3, .own 0 3 0 0), (5, ii V.length), (6, ii i), (7, .own 0 7 0 0), (8, .own 0 8 0 0)]) (Hv := [(1, .box [u8D kl, u8D km, r8s kr, linsD kx]), (2, .box [.i (.v (.slice none 0 0)), ii 0, ii 0, .i (.v (.slice none 0 0)), .i (.v (.slice none 0 0)), .i (.v (.slice none 0 0))]), (3, .box [ints [0, 1, 2], ii L, ii 0, ints M, vrs V, mvs W]), (7, .box [u8D x.a0, u8D x.a1, u8D x.a2, byts x.g, byts x.u]), (8, .box [ii (x.a0 % L), ii (x.a1 % 3), ii (x.a2 % L), ii trueE.op, ii trueE.vl, ii trueE.ix, exs trueE.args, .i (.v (.slice none 0 0))])]) (n := 182) ?_ ⟨rfl, rfl, rfl, rfl, rfl, rfl, rfl, trivial⟩ rfl ⟨rfl, rfl, rfl, rfl, by rw [← hf, ← he, ← ht]; rfl, trivial⟩ rfl rfl
        clear hf he ht e3
        obtain ⟨G, hG⟩ : ∃ G, G = guardE V.length x.g := ⟨_, rfl⟩
        obtain ⟨U, hU⟩ : ∃ U, U = updsE V.length x.u := ⟨_, rfl⟩
        apply join_p (P := True) (s6 := { σ := [(1, .own 0 1 0 0), (2, .own 0 2 0 0), (3, .own 0 3 0 0), (5, ii V.length), (6, ii i), (7, .own 0 7 0 0), (8, .own 0 8 0 0)], S := [(1, .box [u8D kl, u8D km, r8s kr, linsD kx]), (2, .box [.i (.v (.slice none 0 0)), ii 0, ii 0, .i (.v (.slice none 0 0)), .i (.v (.slice none 0 0)), .i (.v (.slice none 0 0))]), (3, .box [ints [0, 1, 2], ii L, ii 0, ints M, vrs V, mvs W]), (7, .box [u8D x.a0, u8D x.a1, u8D x.a2, byts x.g, byts x.u]), (8, .box [ii (x.a0 % L), ii (x.a1 % 3), ii (x.a2 % L), ii G.op, ii G.vl, ii G.ix, exs G.args, .i (.v (.slice none 0 0))])] :: O, n := 182 })
        · intro J
          refine g_run Tk Tryz.func16 ?_
          refine g_go Tk Tryz.func16 ?_
          first | refine g_cnd Tk Tryz.func16 rfl (fun h3 => ?_) (fun h3 => ?_) | refine g_know Tk Tryz.func16 rfl (fun h3 => ?_) (fun h3 => ?_) | refine s_know Tk (fun h3 => ?_) (fun h3 => ?_)
          · have h3 : 0 < x.g.length := by have := of_decide_eq_true h3; omega
            have hG2 : G = growE V.length false (x.g.take 12) := by rw [hG]; unfold guardE; rw [if_pos h3]
            have hgr := fun O => grow46 O (x.g.take 12) V.length false (by omega) (fun b h => hgb b (List.mem_of_mem_take h)) (Nat.le_trans (List.length_take_le _ _) (by decide))
            rw [← hG2, ← byts_min x.g 12 (N := 12) rfl] at hgr
            first | refine g_need Tk Tryz.func16 (by split <;> omega) ?_ | refine s_need Tk (by split <;> omega) ?_
            first | refine g_call Tk Tryz.func16 (hgr _) rfl rfl rfl rfl rfl ?_ | refine s_callq Tk (fun _ => hgr _) rfl rfl rfl ?_
            refine g_stop ?_
            refine rch_meet (J trivial) ⟨rfl, rfl, rfl, rfl, rfl, rfl, rfl, trivial⟩ rfl ⟨rfl, rfl, rfl, rfl, rfl, trivial⟩ rfl rfl
          · have h3 : ¬ 0 < x.g.length := by have := of_decide_eq_false h3; omega
            have hG2 : G = trueE := by rw [hG]; unfold guardE; rw [if_neg h3]
            subst hG2
            refine g_stop ?_
            refine rch_meet (J trivial) ⟨rfl, rfl, rfl, rfl, rfl, rfl, rfl, trivial⟩ rfl ⟨rfl, rfl, rfl, rfl, rfl, trivial⟩ rfl rfl
        · intro _
          apply join_p (P := True) (s6 := { σ := [(1, .own 0 1 0 0), (2, .own 0 2 0 0), (3, .own 0 3 0 0), (5, ii V.length), (6, ii i), (8, .own 0 8 0 0)], S := [(1, .box [u8D kl, u8D km, r8s kr, linsD kx]), (2, .box [.i (.v (.slice none 0 0)), ii 0, ii 0, .i (.v (.slice none 0 0)), .i (.v (.slice none 0 0)), .i (.v (.slice none 0 0))]), (3, .box [ints [0, 1, 2], ii L, ii 0, ints M, vrs V, mvs W]), (8, .box [ii (x.a0 % L), ii (x.a1 % 3), ii (x.a2 % L), ii G.op, ii G.vl, ii G.ix, exs G.args, upds U])] :: O, n := 182 })
          · intro J
            have nope : ¬ (x.u.length > 0 ∧ (V.length : Int) > 0) → U = [] := fun h => by rw [hU]; unfold updsE; rw [if_neg h]
            refine g_run Tk Tryz.func16 ?_
            refine g_go Tk Tryz.func16 ?_
            first | refine g_cnd Tk Tryz.func16 rfl (fun h3 => ?_) (fun h3 => ?_) | refine g_know Tk Tryz.func16 rfl (fun h3 => ?_) (fun h3 => ?_) | refine s_know Tk (fun h3 => ?_) (fun h3 => ?_)
            · have h3 : 0 < x.u.length := by have := of_decide_eq_true h3; omega
              first | refine g_cnd Tk Tryz.func16 rfl (fun h4 => ?_) (fun h4 => ?_) | refine g_know Tk Tryz.func16 rfl (fun h4 => ?_) (fun h4 => ?_) | refine s_know Tk (fun h4 => ?_) (fun h4 => ?_)
              · have h4 : 0 < V.length := by have := of_decide_eq_true h4; omega
                have hU2 : U = [⟨b0 x.u % V.length, growE V.length true ((x.u.take 12).drop 1)⟩] := by rw [hU]; unfold updsE; rw [if_pos ⟨h3, by omega⟩]
                have hgr := fun O => grow46 O ((x.u.take 12).drop 1) V.length true (by omega) (fun b h => hub b (List.mem_of_mem_take (List.mem_of_mem_drop h))) (Nat.le_trans (by simp only [List.length_drop]; omega) (Nat.le_trans (List.length_take_le 12 x.u) (by decide)))
                rw [← byts_min1 x.u 12 (N := 12) (A := 1) rfl rfl] at hgr
                generalize growE V.length true ((x.u.take 12).drop 1) = X at *
                subst hU2
                have hgu : (x.u.map u8I)[(0 : Int).toNat]? = some (u8I (b0 x.u)) := by
                  cases hxu : x.u with
                  | nil => rw [hxu] at h3; simp at h3
                  | cons b r => rfl
                have hb0 := b0_ok hub
                have hbw : (IntKind.i64.wrap (b0 x.u)).tmod V.length = b0 x.u % V.length := by
                  rw [w64 (by omega) (by omega), Int.tmod_eq_emod_of_nonneg hb0.1]
                refine g_drawn Tk Tryz.func16 mixedT rfl ?_
                first | refine g_need Tk Tryz.func16 (by exact ⟨by decide, by show (0 : Int) < (x.u.length : Int); omega⟩) ?_ | refine s_need Tk (by exact ⟨by decide, by show (0 : Int) < (x.u.length : Int); omega⟩) ?_
                first | refine g_elem Tk Tryz.func16 (hgu) ?_ | refine s_elem Tk (hgu) ?_
                first | refine g_need Tk Tryz.func16 (by exact (by omega : (V.length : Int) ≠ 0)) ?_ | refine s_need Tk (by exact (by omega : (V.length : Int) ≠ 0)) ?_
                first | refine g_need Tk Tryz.func16 (by split <;> omega) ?_ | refine s_need Tk (by split <;> omega) ?_
                first | refine g_call Tk Tryz.func16 (hgr _) rfl rfl rfl rfl rfl ?_ | refine s_callq Tk (fun _ => hgr _) rfl rfl rfl ?_
                refine s_put Tk rfl rfl rfl ?_
                refine e_done Tk Tryz.func16 (by kernel_rfl) ?_
                refine g_stop ?_
                exact rch_meet (J trivial) ⟨rfl, rfl, rfl, rfl, rfl, rfl, trivial⟩ rfl ⟨rfl, rfl, rfl, by rw [← hbw]; rfl, trivial⟩ rfl rfl
              · have h4 : ¬ 0 < V.length := by have := of_decide_eq_false h4; omega
                have := nope (by omega)
                subst this
                refine g_stop ?_
                refine rch_wk (wk_nilbox2 8 122 109 5 (pre := [ii (x.a0 % L), ii (x.a1 % 3), ii (x.a2 % L), ii G.op, ii G.vl, ii G.ix, exs G.args]) (post := []) rfl rfl rfl) ?_
                refine rch_wk (wk_freeze 122 rfl rfl) ?_
                refine rch_wk (wk_imm rfl) ?_
                exact rch_meet (J trivial) ⟨rfl, rfl, rfl, rfl, rfl, rfl, trivial⟩ rfl ⟨rfl, rfl, rfl, rfl, trivial⟩ rfl rfl
            · have h3 : ¬ 0 < x.u.length := by have := of_decide_eq_false h3; omega
              have := nope (by omega)
              subst this
              repeat (first | refine g_cnd Tk Tryz.func16 rfl (fun _ => ?_) (fun h => absurd h (by decide)) | refine g_cnd Tk Tryz.func16 rfl (fun h => absurd h (by decide)) (fun _ => ?_) | refine g_know Tk Tryz.func16 rfl (fun _ => ?_) (fun h => absurd h (by decide)) | refine g_know Tk Tryz.func16 rfl (fun h => absurd h (by decide)) (fun _ => ?_) | refine s_know Tk (fun _ => ?_) (fun h => absurd h (by decide)) | refine s_know Tk (fun h => absurd h (by decide)) (fun _ => ?_))
              refine g_stop ?_
              refine rch_wk (wk_nilbox2 8 122 109 5 (pre := [ii (x.a0 % L), ii (x.a1 % 3), ii (x.a2 % L), ii G.op, ii G.vl, ii G.ix, exs G.args]) (post := []) rfl rfl rfl) ?_
              refine rch_wk (wk_freeze 122 rfl rfl) ?_
              refine rch_wk (wk_imm rfl) ?_
              exact rch_meet (J trivial) ⟨rfl, rfl, rfl, rfl, rfl, rfl, trivial⟩ rfl ⟨rfl, rfl, rfl, rfl, trivial⟩ rfl rfl
          · intro _
            obtain ⟨y, hy⟩ : ∃ y, y = mvOf L V.length x := ⟨_, rfl⟩
            refine rch_meet (l := [(1, .own 0 1 0 0), (2, .own 0 2 0 0), (3, .own 0 3 0 0), (5, ii V.length), (6, ii i), (8, .own 0 8 0 0)]) (Hv := [(1, .box [u8D kl, u8D km, r8s kr, linsD kx]), (2, .box [.i (.v (.slice none 0 0)), ii 0, ii 0, .i (.v (.slice none 0 0)), .i (.v (.slice none 0 0)), .i (.v (.slice none 0 0))]), (3, .box [ints [0, 1, 2], ii L, ii 0, ints M, vrs V, mvs W]), (8, .box [ii y.frm, ii y.ev, ii y.to, ii y.g.op, ii y.g.vl, ii y.g.ix, exs y.g.args, upds y.us])]) (n := 182) ?_ ⟨rfl, rfl, rfl, rfl, rfl, rfl, trivial⟩ rfl ⟨rfl, rfl, rfl, by rw [hy, hG, hU]; rfl, trivial⟩ rfl rfl
            rw [← hy] at hsucc
            clear hG hU hx0 hx1 hx2 hgb hgl hub hul hg hy G U
            have hW8 : W.length ≤ 8 := by omega
            refine g_run Tk Tryz.func16 ?_
            refine g_go Tk Tryz.func16 ?_
            refine g_loop ?_
            refine rch_loop2 (fun a : Nat => [(1, .own 0 1 0 0), (2, .own 0 2 0 0), (3, .own 0 3 0 0), (5, ii V.length), (6, ii i), (8, .own 0 8 0 0), (9, ii a)]) (fun a => [(1, .box [u8D kl, u8D km, r8s kr, linsD kx]), (2, .box [.i (.v (.slice none 0 0)), ii 0, ii 0, .i (.v (.slice none 0 0)), .i (.v (.slice none 0 0)), .i (.v (.slice none 0 0))]), (3, .box [ints [0, 1, 2], ii L, ii 0, ints M, vrs V, mvs W]), (8, .box [ii y.frm, ii y.ev, ii y.to, ii y.g.op, ii y.g.vl, ii y.g.ix, exs y.g.args, upds y.us])]) (fun _ => O) 182
              (fun a => a ≤ W.length ∧ posR W y W.length = posR W y a) (fun a => a) W.length ⟨Nat.le_refl _, rfl⟩ ⟨rfl, rfl, rfl, rfl, rfl, rfl, rfl, trivial⟩ rfl ⟨rfl, rfl, rfl, rfl, trivial⟩ rfl rfl ?_
            rintro a ⟨ha, hpos⟩ ih2
            apply join_p (P := posR W y W.length = a) (s6 := { σ := [(1, .own 0 1 0 0), (2, .own 0 2 0 0), (3, .own 0 3 0 0), (5, ii V.length), (6, ii i), (8, .own 0 8 0 0), (9, ii a)], S := [(1, .box [u8D kl, u8D km, r8s kr, linsD kx]), (2, .box [.i (.v (.slice none 0 0)), ii 0, ii 0, .i (.v (.slice none 0 0)), .i (.v (.slice none 0 0)), .i (.v (.slice none 0 0))]), (3, .box [ints [0, 1, 2], ii L, ii 0, ints M, vrs V, mvs W]), (8, .box [ii y.frm, ii y.ev, ii y.to, ii y.g.op, ii y.g.vl, ii y.g.ix, exs y.g.args, upds y.us])] :: O, n := 182 })
            · intro J
              cases a with
              | zero =>
                refine g_run Tk Tryz.func16 ?_
                refine g_drawn Tk Tryz.func16 mixedT rfl ?_
                first | refine g_cnd Tk Tryz.func16 rfl (fun h => absurd h (by decide)) (fun _ => ?_) | refine g_know Tk Tryz.func16 rfl (fun h => absurd h (by decide)) (fun _ => ?_) | refine s_know Tk (fun h => absurd h (by decide)) (fun _ => ?_)
                refine e_done Tk Tryz.func16 (by kernel_rfl) ?_
                first | refine g_cnd Tk Tryz.func16 rfl (fun h => absurd h (by decide)) (fun _ => ?_) | refine g_know Tk Tryz.func16 rfl (fun h => absurd h (by decide)) (fun _ => ?_) | refine s_know Tk (fun h => absurd h (by decide)) (fun _ => ?_)
                refine g_stop ?_
                exact rch_meet (J hpos) ⟨rfl, rfl, rfl, rfl, rfl, rfl, rfl, trivial⟩ rfl ⟨rfl, rfl, rfl, rfl, trivial⟩ rfl rfl
              | succ a =>
                have hgW : (W.map mvI)[(IntKind.i64.wrap (((a + 1 : Nat) : Int) - 1)).toNat]? = some (mvI (W[a]'(by omega))) := by
                  rw [w64 (by omega) (by omega), show (((a + 1 : Nat) : Int) - 1).toNat = a by omega]
                  simp [show a < W.length by omega]
                have hwa : IntKind.i64.wrap (((a + 1 : Nat) : Int) - 1) = (a : Int) := by rw [w64 (by omega) (by omega)]; omega
                have hwn : 0 ≤ IntKind.i64.wrap (((a + 1 : Nat) : Int) - 1) ∧ IntKind.i64.wrap (((a + 1 : Nat) : Int) - 1) < (W.length : Int) := by rw [hwa]; omega
                have hpos2 : posR W y (a + 1) = bif gtMv (W[a]'(by omega)) y then posR W y a else a + 1 := by
                  simp only [posR]
                  rw [List.getElem?_eq_getElem (by omega)]
                generalize W[a]'(by omega) = z at *
                have yes : (z.frm > y.frm ∨ (z.frm = y.frm ∧ z.ev > y.ev)) → posR W y W.length = posR W y a := fun h => by
                  rw [hpos, hpos2]; unfold gtMv; rw [decide_eq_true h]; rfl
                have no : ¬ (z.frm > y.frm ∨ (z.frm = y.frm ∧ z.ev > y.ev)) → posR W y W.length = a + 1 := fun h => by
                  rw [hpos, hpos2]; unfold gtMv; rw [decide_eq_false h]; rfl
                clear hpos hpos2
                refine g_run Tk Tryz.func16 ?_
                refine g_drawn Tk Tryz.func16 mixedT rfl ?_
                first | refine g_cnd Tk Tryz.func16 rfl (fun h3 => ?_) (fun h3 => ?_) | refine g_know Tk Tryz.func16 rfl (fun h3 => ?_) (fun h3 => ?_) | refine s_know Tk (fun h3 => ?_) (fun h3 => ?_)
                · first | refine g_need Tk Tryz.func16 (by exact hwn) ?_ | refine s_need Tk (by exact hwn) ?_
                  first | refine g_elem Tk Tryz.func16 (hgW) ?_ | refine s_elem Tk (hgW) ?_
                  first | refine g_cnd Tk Tryz.func16 rfl (fun h4 => ?_) (fun h4 => ?_) | refine g_know Tk Tryz.func16 rfl (fun h4 => ?_) (fun h4 => ?_) | refine s_know Tk (fun h4 => ?_) (fun h4 => ?_)
                  · have h4 : z.frm > y.frm := of_decide_eq_true h4
                    refine e_done Tk Tryz.func16 (by kernel_rfl) ?_
                    repeat (first | refine g_cnd Tk Tryz.func16 rfl (fun _ => ?_) (fun h => absurd h (by decide)) | refine g_cnd Tk Tryz.func16 rfl (fun h => absurd h (by decide)) (fun _ => ?_) | refine g_know Tk Tryz.func16 rfl (fun _ => ?_) (fun h => absurd h (by decide)) | refine g_know Tk Tryz.func16 rfl (fun h => absurd h (by decide)) (fun _ => ?_) | refine s_know Tk (fun _ => ?_) (fun h => absurd h (by decide)) | refine s_know Tk (fun h => absurd h (by decide)) (fun _ => ?_))
                    refine g_loop ?_
                    exact ih2 a _ _ ⟨by omega, yes (.inl h4)⟩ (by omega) ⟨rfl, rfl, rfl, rfl, rfl, rfl, congrArg ii hwa, trivial⟩ rfl ⟨rfl, rfl, rfl, rfl, trivial⟩ rfl rfl
                  · have h4 : ¬ z.frm > y.frm := of_decide_eq_false h4
                    first | refine g_need Tk Tryz.func16 (by exact hwn) ?_ | refine s_need Tk (by exact hwn) ?_
                    first | refine g_elem Tk Tryz.func16 (hgW) ?_ | refine s_elem Tk (hgW) ?_
                    first | refine g_cnd Tk Tryz.func16 rfl (fun h5 => ?_) (fun h5 => ?_) | refine g_know Tk Tryz.func16 rfl (fun h5 => ?_) (fun h5 => ?_) | refine s_know Tk (fun h5 => ?_) (fun h5 => ?_)
                    · have h5 := beqT h5
                      first | refine g_need Tk Tryz.func16 (by exact hwn) ?_ | refine s_need Tk (by exact hwn) ?_
                      first | refine g_elem Tk Tryz.func16 (hgW) ?_ | refine s_elem Tk (hgW) ?_
                      refine e_done Tk Tryz.func16 (by kernel_rfl) ?_
                      first | refine g_cnd Tk Tryz.func16 rfl (fun h6 => ?_) (fun h6 => ?_) | refine g_know Tk Tryz.func16 rfl (fun h6 => ?_) (fun h6 => ?_) | refine s_know Tk (fun h6 => ?_) (fun h6 => ?_)
                      · have h6 : z.ev > y.ev := of_decide_eq_true h6
                        refine g_loop ?_
                        exact ih2 a _ _ ⟨by omega, yes (.inr ⟨h5, h6⟩)⟩ (by omega) ⟨rfl, rfl, rfl, rfl, rfl, rfl, congrArg ii hwa, trivial⟩ rfl ⟨rfl, rfl, rfl, rfl, trivial⟩ rfl rfl
                      · have h6 : ¬ z.ev > y.ev := of_decide_eq_false h6
                        refine g_stop ?_
                        exact rch_meet (J (no (by rintro (h | h); exact h4 h; exact h6 h.2))) ⟨rfl, rfl, rfl, rfl, rfl, rfl, rfl, trivial⟩ rfl ⟨rfl, rfl, rfl, rfl, trivial⟩ rfl rfl
                    · have h5 := beqF h5
                      refine e_done Tk Tryz.func16 (by kernel_rfl) ?_
                      repeat (first | refine g_cnd Tk Tryz.func16 rfl (fun _ => ?_) (fun h => absurd h (by decide)) | refine g_cnd Tk Tryz.func16 rfl (fun h => absurd h (by decide)) (fun _ => ?_) | refine g_know Tk Tryz.func16 rfl (fun _ => ?_) (fun h => absurd h (by decide)) | refine g_know Tk Tryz.func16 rfl (fun h => absurd h (by decide)) (fun _ => ?_) | refine s_know Tk (fun _ => ?_) (fun h => absurd h (by decide)) | refine s_know Tk (fun h => absurd h (by decide)) (fun _ => ?_))
                      refine g_stop ?_
                      exact rch_meet (J (no (by rintro (h | h); exact h4 h; exact h5 h.1))) ⟨rfl, rfl, rfl, rfl, rfl, rfl, rfl, trivial⟩ rfl ⟨rfl, rfl, rfl, rfl, trivial⟩ rfl rfl
                · have := of_decide_eq_false h3
                  omega
            · intro hP
              clear ih2 hpos
              refine g_run Tk Tryz.func16 ?_
              refine g_go Tk Tryz.func16 ?_
              refine g_drawn Tk Tryz.func16 mixedT rfl ?_
              first | refine g_need Tk Tryz.func16 (by exact ⟨by omega, rfl, by show (a : Int) ≤ (W.length : Int); omega⟩) ?_ | refine s_need Tk (by exact ⟨by omega, rfl, by show (a : Int) ≤ (W.length : Int); omega⟩) ?_
              first | refine g_need Tk Tryz.func16 (by exact ⟨by omega, by show (a : Int) ≤ (W.length : Int); omega⟩) ?_ | refine s_need Tk (by exact ⟨by omega, by show (a : Int) ≤ (W.length : Int); omega⟩) ?_
              refine s_old Tk ?_
              refine d_need Tk (by exact ⟨by show (1 + (W.length - (a : Int).toNat)) * 96 ≤ 140737488355328; omega, by show 1 + (W.length - (a : Int).toNat) ≤ 9223372036854775807; omega⟩) ?_
              refine d_mod Tk (p := ⟨[(178, .osl 0 178), (173, .dead)], [(178, .arr 107 8 (1 + (W.length - (a : Int).toNat)) ([mvI y] ++ (W.map mvI).drop (a : Int).toNat) true)], some 173⟩) rfl rfl rfl ?_
              refine d_need Tk (by exact ⟨by show ((a : Int).toNat + (1 + (W.length - (a : Int).toNat))) * 96 ≤ 140737488355328; omega, by show (a : Int).toNat + (1 + (W.length - (a : Int).toNat)) ≤ 9223372036854775807; omega, by show 0 < 1 + (W.length - (a : Int).toNat); omega⟩) ?_
              refine d_mod Tk (p := ⟨[], [(3, .box [ints [0, 1, 2], ii L, ii 0, ints M, vrs V, .osl 0 179])], none⟩) rfl rfl rfl ?_
              refine d_done Tk Tryz.func16 (by kernel_rfl) (GM.h ?_)
              refine g_loop ?_
              refine rch_wk (wk_freeze 179 rfl rfl) ?_
              refine rch_wk (wk_imm rfl) ?_
              have hins : mvsL L V.length kx (i + 1) = W.take a ++ y :: W.drop a := by rw [hsucc]; unfold insMv; rw [hP]
              refine ih (i + 1) _ _ (show i + 1 ≤ min kx.length 8 by omega) (by omega) ⟨rfl, rfl, rfl, rfl, congrArg ii (wsucc (n := 8) h2 (by decide)), trivial⟩ rfl ⟨rfl, rfl, ?_, trivial⟩ rfl rfl
              show some (Ob.box [ints [0, 1, 2], ii L, ii 0, ints M, vrs V, .i (.sl 8 ((a : Int).toNat + (1 + (W.length - (a : Int).toNat))) ((W.map mvI).take (a : Int).toNat ++ ([mvI y] ++ (W.map mvI).drop (a : Int).toNat)))]) = some (Ob.box [ints [0, 1, 2], ii L, ii 0, ints M, vrs V, mvs (mvsL L V.length kx (i + 1))])
              rw [hins]
              have hta : (a : Int).toNat = a := by omega
              have hll : (W.take a ++ y :: W.drop a).length = a + (1 + (W.length - a)) := by
                simp only [List.length_append, List.length_take, List.length_cons, List.length_drop]
                omega
              have hmm : (W.take a ++ y :: W.drop a).map mvI = (W.map mvI).take a ++ ([mvI y] ++ (W.map mvI).drop a) := by
                rw [List.map_append, List.map_cons, List.map_take, List.map_drop]
                rfl
              rw [hta]
              show _ = some (Ob.box [ints [0, 1, 2], ii L, ii 0, ints M, vrs V, .i (.sl 8 (W.take a ++ y :: W.drop a).length ((W.take a ++ y :: W.drop a).map mvI))])
              rw [hll, hmm]
      · have h2 : ¬ i < 8 := by have := of_decide_eq_false h2; omega
        have := hend (by omega)
        subst this
        refine g_ret Tk (r := _) rfl rfl rfl trivial rfl rfl ?_
        rfl
    · have h1 : ¬ i < kx.length := by have := of_decide_eq_false h1; omega
      have := hend (by omega)
      subst this
      repeat (first | refine g_cnd Tk Tryz.func16 rfl (fun _ => ?_) (fun h => absurd h (by decide)) | refine g_cnd Tk Tryz.func16 rfl (fun h => absurd h (by decide)) (fun _ => ?_) | refine g_know Tk Tryz.func16 rfl (fun _ => ?_) (fun h => absurd h (by decide)) | refine g_know Tk Tryz.func16 rfl (fun h => absurd h (by decide)) (fun _ => ?_) | refine s_know Tk (fun _ => ?_) (fun h => absurd h (by decide)) | refine s_know Tk (fun h => absurd h (by decide)) (fun _ => ?_))
      refine g_ret Tk (r := _) rfl rfl rfl trivial rfl rfl ?_
      rfl
end Go.AI


/- Arguments: slices and structs of them, opened to data, and read again behind the call. -/
namespace Go.Proofs.YtdehnnadfbildaaGreatDoor
open Go.ChangeShapes Go.WideShapes Go.ChangeAt Go.RowKit Go.Deep Go.WideElems
set_option maxRecDepth 100000
/-- All that memory holds. -/
def KW (W : World) : AI.Kn := fun b o => W.cell? ⟨b, o, none⟩
theorem KW_ok (W : World) : ∀ bl o x, KW W bl o = some x → W.cell? ⟨bl, o, none⟩ = some x := fun _ _ _ h => h
section
variable {H : Type} {enc : TypeId × Value → H} {P : Program} {W : World}
/-- What is read of a type is data of a kind. -/
def Opn (enc : TypeId × Value → H) (P : Program) (W : World) (t : TypeId) (R : List AI.I → Prop) : Prop :=
  ∀ n cs x, DataW.trod enc P W 0 (fun _ => true) true n t cs = some x → ∃ is, AI.RepL (KW W) cs is ∧ R is
theorem repL_app {K : AI.Kn} {a b : List Value} {c d : List AI.I} (h : AI.RepL K a c) (h' : AI.RepL K b d) : AI.RepL K (a ++ b) (c ++ d) := h.append h'
theorem opn_int {t : TypeId} {k : IntKind} (ht : P.underlying t = some (.int k)) : Opn enc P W t fun is => ∃ z, is = [.v (.int k z)] ∧ (Lit.int k z).wf = true := by
  intro n cs x h
  obtain ⟨z, rfl, rfl, hw⟩ := DataW.trod_int ht h
  exact ⟨[.v (.int k z)], .cons (.v rfl) .nil, z, rfl, hw⟩
theorem ints_rep {K : AI.Kn} {k : IntKind} : ∀ {cs : List Value}, (∀ i, i < cs.length → ∃ z, cs[i]? = some (.int k z) ∧ (Lit.int k z).wf = true) → ∃ zs : List Int, zs.length = cs.length ∧ AI.RepL K cs (zs.map fun z => .v (.int k z)) ∧ ∀ z ∈ zs, (Lit.int k z).wf = true
  | [], _ => ⟨[], rfl, .nil, by simp⟩
  | c :: cs, h => by
    obtain ⟨z, hz, hw⟩ := h 0 (by simp)
    simp only [List.getElem?_cons_zero, Option.some.injEq] at hz
    subst hz
    obtain ⟨zs, h1, h2, h3⟩ := ints_rep (cs := cs) fun i hi => by
      have := h (i + 1) (by simp; omega)
      simpa using this
    exact ⟨z :: zs, by simp [h1], .cons (.v rfl) h2, fun y hy => by
      rcases List.mem_cons.1 hy with rfl | hy
      · exact hw
      · exact h3 y hy⟩
theorem opn_array {t e : TypeId} {k : IntKind} {m : Nat} (ht : P.underlying t = some (.array m e)) (he : P.underlying e = some (.int k)) (hc : P.cellsOf e = 1) (hct : P.cellsOf t = m) :
    Opn enc P W t fun is => ∃ zs : List Int, zs.length = m ∧ is = zs.map (fun z => .v (.int k z)) ∧ ∀ z ∈ zs, (Lit.int k z).wf = true := by
  intro n cs x h
  obtain ⟨xs, f, rfl, rfl, hl, hlen, hx⟩ := DataW.trod_array ht h
  rw [hct] at hl
  obtain ⟨zs, h1, h2, h3⟩ := ints_rep (K := KW W) (k := k) (cs := cs) fun i hi => by
    have h0 := hx i (by omega)
    rw [hc, Nat.mul_one, List.getElem?_eq_getElem (by omega)] at h0
    obtain ⟨z, hz, _, hw⟩ := DataW.trod_int he h0
    refine ⟨z, ?_, hw⟩
    have := congrArg (fun l => l[0]?) hz
    simpa [List.getElem?_take, List.getElem?_drop] using this
  exact ⟨_, h2, zs, by omega, rfl, h3⟩
/-- A slice. -/
theorem opn_slice {t e : TypeId} {z : Nat} {R : List AI.I → Prop} (ht : P.underlying t = some (.slice e)) (hc : P.cellsOf e = z) (hz : 0 < z) (he : Opn enc P W e R) :
    Opn enc P W t fun is => ∃ xs : List (List AI.I), is = [.sl z xs.length xs] ∧ (∀ d ∈ xs, R d) ∧ xs.length ≤ maxLen := by
  intro n cs x h
  rcases open_slice ht h with ⟨rfl, _⟩ | ⟨a, len, cap, m, f, D, Pl, rfl, _, hle, hm, hmm, _, hx⟩
  · exact ⟨[.sl z 0 []], .cons .nil .nil, [], rfl, by simp, Nat.zero_le _⟩
  · simp only [if_true] at hmm
    subst hmm
    rw [hc] at hx
    by_cases h0 : m = 0
    · subst h0
      obtain rfl : len = 0 := by omega
      exact ⟨[.sl z 0 []], .cons .nil .nil, [], rfl, by simp, Nat.zero_le _⟩
    · have hspot : a.spot = none := by
        obtain ⟨cs', h1, _⟩ := hx 0 (by omega)
        obtain ⟨_, hl, hcell⟩ := World.cells?_some h1
        have := hcell 0 hz
        rw [Nat.zero_mul] at this
        have ha : (a.add 0).add 0 = a := by simp [Addr.add]
        rw [ha, List.getElem?_eq_getElem (by omega)] at this
        unfold World.cell? at this
        cases hsp : a.spot with
        | none => rfl
        | some s =>
          rw [hsp] at this
          split at this <;> simp at this
      obtain ⟨bl, o, sp⟩ := a
      simp only at hspot
      subst hspot
      have build : ∀ k, k ≤ len → ∃ (xs : List (List AI.I)) (vs : List Value), xs.length = k ∧ vs.length = k * z ∧ AI.RepL (KW W) vs xs.flatten ∧ (∀ d ∈ xs, R d) ∧ (∀ d ∈ xs, d.length = z) ∧ ∀ j c, vs[j]? = some c → KW W bl (o + j) = some c := by
        intro k
        induction k with
        | zero => intro _; exact ⟨[], [], rfl, by simp, .nil, by simp, by simp, by simp⟩
        | succ k ih =>
          intro hk
          obtain ⟨xs, vs, h1, h2, h3, h4, h5, h6⟩ := ih (by omega)
          obtain ⟨cs', hc1, hc2⟩ := hx k (by omega)
          obtain ⟨_, hl, hcell⟩ := World.cells?_some hc1
          obtain ⟨is, hr, hR⟩ := he f cs' _ hc2
          refine ⟨xs ++ [is], vs ++ cs', by simp [h1], by simp [h2, hl, Nat.add_mul], ?_, ?_, ?_, ?_⟩
          · rw [List.flatten_append]
            simpa using repL_app h3 hr
          · intro d hd
            rcases List.mem_append.1 hd with h | h
            · exact h4 d h
            · simp only [List.mem_singleton] at h
              subst h
              exact hR
          · intro d hd
            rcases List.mem_append.1 hd with h | h
            · exact h5 d h
            · simp only [List.mem_singleton] at h
              subst h
              rw [← hr.length, hl]
          · intro j c hj
            rw [List.getElem?_append] at hj
            split at hj
            · exact h6 j c hj
            · rename_i hge
              have hlt : j - vs.length < cs'.length := (List.getElem?_eq_some_iff.1 hj).1
              have := hcell (j - vs.length) (by omega)
              rw [hj] at this
              unfold KW
              rw [← this]
              have e : ((⟨bl, o, none⟩ : Addr).add (k * z)).add (j - vs.length) = ⟨bl, o + j, none⟩ := by
                have e1 : (⟨bl, o, none⟩ : Addr).add (k * z) = ⟨bl, o + k * z, none⟩ := by unfold Addr.add; split <;> simp_all
                rw [e1]
                unfold Addr.add
                split
                · simp <;> omega
                · simp <;> omega
              rw [e]
      obtain ⟨xs, vs, h1, h2, h3, h4, h5, h6⟩ := build len (Nat.le_refl _)
      refine ⟨[.sl z xs.length xs], .cons ?_ .nil, xs, rfl, h4, by omega⟩
      rw [h1]
      exact .sl h3 h5 h6 hle h1
/-- Structs of three fields, and of two. -/
theorem opn_struct3 {t : TypeId} {f0 f1 f2 : Field} {R0 R1 R2 : List AI.I → Prop} {z0 z1 z2 : Nat} (ht : P.underlying t = some (.struct #[f0, f1, f2])) (hc : P.cellsOf t = z0 + z1 + z2)
    (c0 : P.cellsOf f0.type = z0) (c1 : P.cellsOf f1.type = z1) (c2 : P.cellsOf f2.type = z2) (o0 : f0.offset = 0) (o1 : f1.offset = z0) (o2 : f2.offset = z0 + z1)
    (h0 : Opn enc P W f0.type R0) (h1 : Opn enc P W f1.type R1) (h2 : Opn enc P W f2.type R2) : Opn enc P W t fun is => ∃ a b c, is = a ++ b ++ c ∧ R0 a ∧ R1 b ∧ R2 c := by
  intro n cs x h
  obtain ⟨y0, y1, y2, m, _, hl, g0, g1, g2⟩ := trod_struct3 ht h
  obtain ⟨a, ra, ha⟩ := h0 _ _ _ g0
  obtain ⟨b, rb, hb⟩ := h1 _ _ _ g1
  obtain ⟨c, rc, hcc⟩ := h2 _ _ _ g2
  refine ⟨a ++ b ++ c, ?_, a, b, c, rfl, ha, hb, hcc⟩
  have e : cs = (cs.drop f0.offset).take (P.cellsOf f0.type) ++ (cs.drop f1.offset).take (P.cellsOf f1.type) ++ (cs.drop f2.offset).take (P.cellsOf f2.type) := by
    rw [c0, c1, c2, o0, o1, o2, List.drop_zero]
    have e1 : (cs.drop (z0 + z1)).take z2 = cs.drop (z0 + z1) := List.take_of_length_le (by simp; omega)
    rw [e1]
    have e2 : cs.drop (z0 + z1) = (cs.drop z0).drop z1 := by rw [List.drop_drop]
    rw [e2, List.append_assoc, List.take_append_drop, List.take_append_drop]
  rw [e]
  exact repL_app (repL_app ra rb) rc
theorem opn_struct2 {t : TypeId} {f0 f1 : Field} {R0 R1 : List AI.I → Prop} {z0 z1 : Nat} (ht : P.underlying t = some (.struct #[f0, f1])) (hc : P.cellsOf t = z0 + z1)
    (c0 : P.cellsOf f0.type = z0) (c1 : P.cellsOf f1.type = z1) (o0 : f0.offset = 0) (o1 : f1.offset = z0)
    (h0 : Opn enc P W f0.type R0) (h1 : Opn enc P W f1.type R1) : Opn enc P W t fun is => ∃ a b, is = a ++ b ∧ R0 a ∧ R1 b := by
  intro n cs x h
  obtain ⟨y0, y1, m, _, hl, g0, g1⟩ := trod_struct2 ht h
  obtain ⟨a, ra, ha⟩ := h0 _ _ _ g0
  obtain ⟨b, rb, hb⟩ := h1 _ _ _ g1
  refine ⟨a ++ b, ?_, a, b, rfl, ha, hb⟩
  have e : cs = (cs.drop f0.offset).take (P.cellsOf f0.type) ++ (cs.drop f1.offset).take (P.cellsOf f1.type) := by
    rw [c0, c1, o0, o1, List.drop_zero]
    have e1 : (cs.drop z0).take z1 = cs.drop z0 := List.take_of_length_le (by simp; omega)
    rw [e1, List.take_append_drop]
  rw [e]
  exact repL_app ra rb
theorem opn_struct4 {t : TypeId} {f0 f1 f2 f3 : Field} {R0 R1 R2 R3 : List AI.I → Prop} {z0 z1 z2 z3 : Nat} (ht : P.underlying t = some (.struct #[f0, f1, f2, f3])) (hc : P.cellsOf t = z0 + z1 + z2 + z3)
    (c0 : P.cellsOf f0.type = z0) (c1 : P.cellsOf f1.type = z1) (c2 : P.cellsOf f2.type = z2) (c3 : P.cellsOf f3.type = z3) (o0 : f0.offset = 0) (o1 : f1.offset = z0) (o2 : f2.offset = z0 + z1) (o3 : f3.offset = z0 + z1 + z2)
    (h0 : Opn enc P W f0.type R0) (h1 : Opn enc P W f1.type R1) (h2 : Opn enc P W f2.type R2) (h3 : Opn enc P W f3.type R3) : Opn enc P W t fun is => ∃ a b c d, is = a ++ b ++ c ++ d ∧ R0 a ∧ R1 b ∧ R2 c ∧ R3 d := by
  intro n cs x h
  obtain ⟨y0, y1, y2, y3, m, _, hl, g0, g1, g2, g3⟩ := Go.Joins.trod_struct4 ht h
  obtain ⟨a, ra, ha⟩ := h0 _ _ _ g0
  obtain ⟨b, rb, hb⟩ := h1 _ _ _ g1
  obtain ⟨c, rc, hcc⟩ := h2 _ _ _ g2
  obtain ⟨d, rd, hd⟩ := h3 _ _ _ g3
  refine ⟨a ++ b ++ c ++ d, ?_, a, b, c, d, rfl, ha, hb, hcc, hd⟩
  have e : cs = (cs.drop f0.offset).take (P.cellsOf f0.type) ++ (cs.drop f1.offset).take (P.cellsOf f1.type) ++ (cs.drop f2.offset).take (P.cellsOf f2.type) ++ (cs.drop f3.offset).take (P.cellsOf f3.type) := by
    rw [c0, c1, c2, c3, o0, o1, o2, o3, List.drop_zero]
    have e1 : (cs.drop (z0 + z1 + z2)).take z3 = cs.drop (z0 + z1 + z2) := List.take_of_length_le (by simp; omega)
    rw [e1]
    have e2 : cs.drop (z0 + z1 + z2) = ((cs.drop z0).drop z1).drop z2 := by rw [List.drop_drop, List.drop_drop, Nat.add_assoc]
    have e3 : cs.drop (z0 + z1) = (cs.drop z0).drop z1 := by rw [List.drop_drop]
    rw [e2, e3, List.append_assoc, List.take_append_drop, List.append_assoc, List.take_append_drop, List.take_append_drop]
  rw [e]
  exact repL_app (repL_app (repL_app ra rb) rc) rd
/-- Read again behind the call. -/
theorem args_again {t : TypeId} (hl : laidOutB P = true) (hr : P.readableRec t = true) (hrow : decide (t < P.types.size) = true) {W' : World} {v : Value} {d : DataW H} {ps : List MemPlace}
    (h : DataW.Trod enc P W 0 (fun _ => true) true t v d ps) (hold : ∀ i, i < W.heap.size → W'.heap[i]? = W.heap[i]?) : DataW.Trod enc P W' 0 (fun b => decide (b < W.heap.size)) true t v d ps := by
  have hlt : ∀ p ∈ ps, p.block < W.heap.size := by
    obtain ⟨n, hn⟩ := h
    exact DataW.trod_lt n t _ _ hn
  refine Trod_stays hl hr (of_decide_eq_true hrow) h (fun p hp => ?_) (fun p hp => decide_eq_true (hlt p hp))
  have hb := hlt p hp
  cases p with
  | cell b off =>
    show W'.cell? ⟨b, off, none⟩ = W.cell? ⟨b, off, none⟩
    unfold World.cell?
    rw [hold b hb]
  | map b => exact hold b hb
end
end Go.Proofs.YtdehnnadfbildaaGreatDoor


/- The arguments of the statements about sketched automata: data. -/
namespace Go.Proofs.YtdehnnadfbildaaGreatDoor
open Go.ChangeShapes Go.WideShapes Go.ChangeAt Go.RowKit Go.Deep Go.WideElems
set_option maxRecDepth 100000
section
variable {H : Type} {enc : TypeId × Value → H} {W : World}
theorem list_of {α β : Type} {f : α → β} {Q : α → Prop} : ∀ {xs : List β}, (∀ d ∈ xs, ∃ a, d = f a ∧ Q a) → ∃ l : List α, xs = l.map f ∧ ∀ a ∈ l, Q a
  | [], _ => ⟨[], rfl, by simp⟩
  | d :: xs, h => by
    obtain ⟨a, ha, hq⟩ := h d (by simp)
    obtain ⟨l, hl, hql⟩ := list_of (xs := xs) fun e he => h e (by simp [he])
    refine ⟨a :: l, by rw [ha, hl]; rfl, fun b hb => ?_⟩
    rcases List.mem_cons.1 hb with rfl | hb
    · exact hq
    · exact hql b hb
theorem wf_u8 {z : Int} (h : (Lit.int .u8 z).wf = true) : 0 ≤ z ∧ z ≤ 255 := by
  simp only [Lit.wf, Bool.and_eq_true, decide_eq_true_eq] at h
  have e1 : IntKind.u8.min = 0 := rfl
  have e2 : IntKind.u8.max = 255 := rfl
  rw [e1, e2] at h
  exact h
theorem wf_i8 {z : Int} (h : (Lit.int .i8 z).wf = true) : -128 ≤ z ∧ z ≤ 127 := by
  simp only [Lit.wf, Bool.and_eq_true, decide_eq_true_eq] at h
  have e1 : IntKind.i8.min = -128 := rfl
  have e2 : IntKind.i8.max = 127 := rfl
  rw [e1, e2] at h
  exact h
theorem maxLen63 {n : Nat} (h : n ≤ maxLen) : n ≤ AI.max63 := by
  simp only [maxLen] at h
  simp only [AI.max63]
  omega
/-- Ints, and lists of them. -/
theorem opn_ints : Opn enc Tryz.prog W 31 fun is => ∃ l : List Int, is = [AI.intsI l] ∧ l.length ≤ AI.max63 := by
  intro n cs x h
  obtain ⟨is, hr, xs, rfl, hx, hl⟩ := opn_slice Tryz.underlying31 (z := 1) (by kernel_rfl) (by decide) (opn_int Tryz.underlying3) n cs x h
  obtain ⟨l, rfl, -⟩ := list_of (f := fun z : Int => [AI.vi z]) (Q := fun _ => True) (xs := xs) fun d hd => by
    obtain ⟨z, hz, _⟩ := hx d hd
    exact ⟨z, hz, trivial⟩
  refine ⟨_, hr, l, by simp, maxLen63 (by simpa using hl)⟩
theorem opn_byts : Opn enc Tryz.prog W 112 fun is => ∃ l : List Int, is = [.sl 1 l.length (l.map AI.u8I)] ∧ AI.byteOk l ∧ l.length ≤ AI.max63 := by
  intro n cs x h
  obtain ⟨is, hr, xs, rfl, hx, hl⟩ := opn_slice Tryz.underlying112 (z := 1) (by kernel_rfl) (by decide) (opn_int Tryz.underlying5) n cs x h
  obtain ⟨l, rfl, hq⟩ := list_of (f := AI.u8I) (Q := fun z => 0 ≤ z ∧ z ≤ 255) (xs := xs) fun d hd => by
    obtain ⟨z, hz, hw⟩ := hx d hd
    exact ⟨z, hz, wf_u8 hw⟩
  refine ⟨_, hr, l, by simp, hq, maxLen63 (by simpa using hl)⟩
theorem opn_lin : Opn enc Tryz.prog W 114 fun is => ∃ x : AI.Lin, is = AI.linI x ∧ AI.linOk x := by
  intro n cs x h
  obtain ⟨is, hr, a, b, c, rfl, ⟨zs, hz, rfl, hw⟩, ⟨g, rfl, hg, hgl⟩, ⟨u, rfl, hu, hul⟩⟩ := opn_struct3 Tryz.underlying114 (z0 := 3) (z1 := 1) (z2 := 1) (by kernel_rfl) (by kernel_rfl) (by kernel_rfl) (by kernel_rfl) rfl rfl rfl
    (opn_array Tryz.underlying111 Tryz.underlying5 (by kernel_rfl) (by kernel_rfl)) opn_byts opn_byts n cs x h
  match zs, hz with
  | [p, q, r], _ =>
    exact ⟨_, hr, ⟨p, q, r, g, u⟩, rfl, wf_u8 (hw p (by simp)), wf_u8 (hw q (by simp)), wf_u8 (hw r (by simp)), hg, hgl, hu, hul⟩
theorem opn_lins : Opn enc Tryz.prog W 23 fun is => ∃ l : List AI.Lin, is = [.sl 5 l.length (l.map AI.linI)] ∧ (∀ x ∈ l, AI.linOk x) ∧ l.length ≤ AI.max63 := by
  intro n cs x h
  obtain ⟨is, hr, xs, rfl, hx, hl⟩ := opn_slice Tryz.underlying23 (z := 5) (by kernel_rfl) (by decide) opn_lin n cs x h
  obtain ⟨l, rfl, hq⟩ := list_of (f := AI.linI) (Q := AI.linOk) (xs := xs) hx
  refine ⟨_, hr, l, by simp, hq, maxLen63 (by simpa using hl)⟩
theorem opn_pairs : Opn enc Tryz.prog W 22 fun is => ∃ l : List (Int × Int), is = [.sl 2 l.length (l.map AI.r8I)] ∧ (∀ x ∈ l, AI.pairOk x) ∧ l.length ≤ AI.max63 := by
  intro n cs x h
  obtain ⟨is, hr, xs, rfl, hx, hl⟩ := opn_slice Tryz.underlying22 (z := 2) (by kernel_rfl) (by decide) (opn_array Tryz.underlying165 Tryz.underlying164 (by kernel_rfl) (by kernel_rfl)) n cs x h
  obtain ⟨l, rfl, hq⟩ := list_of (f := AI.r8I) (Q := AI.pairOk) (xs := xs) fun d hd => by
    obtain ⟨zs, hz, he, hw⟩ := hx d hd
    match zs, hz with
    | [p, q], _ => exact ⟨(p, q), he, (wf_i8 (hw p (by simp))).1, (wf_i8 (hw p (by simp))).2, (wf_i8 (hw q (by simp))).1, (wf_i8 (hw q (by simp))).2⟩
  refine ⟨_, hr, l, by simp, hq, maxLen63 (by simpa using hl)⟩
abbrev skI (k : AI.Sk) : List AI.I := [.v (.int .u8 k.locs), .v (.int .u8 k.marks), .sl 2 k.rngs.length (k.rngs.map AI.r8I), .sl 5 k.lines.length (k.lines.map AI.linI)]
theorem opn_sk : Opn enc Tryz.prog W 25 fun is => ∃ k : AI.Sk, is = skI k ∧ AI.skOk k := by
  intro n cs x h
  obtain ⟨is, hr, a, b, c, d, rfl, ⟨p, rfl, hp⟩, ⟨q, rfl, hq⟩, ⟨r, rfl, h1, h2⟩, ⟨l, rfl, h3, h4⟩⟩ := opn_struct4 Tryz.underlying25 (z0 := 1) (z1 := 1) (z2 := 1) (z3 := 1) (by kernel_rfl) (by kernel_rfl) (by kernel_rfl) (by kernel_rfl) (by kernel_rfl) rfl rfl rfl rfl
    (opn_int Tryz.underlying5) (opn_int Tryz.underlying5) opn_pairs opn_lins n cs x h
  exact ⟨_, hr, ⟨p, q, r, l⟩, rfl, wf_u8 hp, wf_u8 hq, h2, h1, h4, h3⟩
/-- A sketch, by value. -/
theorem open_sk {r : Reach} {b0 : Nat} {v : Value} {d : DataW H} {p : List MemPlace} (hv : Value.okWide Tryz.prog W r b0 25 v) (h : DataW.Trod enc Tryz.prog W 0 (fun _ => true) true 25 v d p) :
    ∃ k : AI.Sk, AI.skOk k ∧ ∀ ρ sh, AI.RepD (KW W) ρ sh v (AI.skD k) := by
  obtain ⟨cs, rfl, _⟩ := okWide_struct Tryz.underlying25 hv
  obtain ⟨n, hn⟩ := h
  obtain ⟨is, hr, k, rfl, hk⟩ := opn_sk n _ _ hn
  refine ⟨k, hk, fun ρ sh => ?_⟩
  have := AI.RepD.agg (AI.RepDL.ofL (ρ := ρ) (sh := sh) hr)
  simpa [Value.cells] using this
end
end Go.Proofs.YtdehnnadfbildaaGreatDoor


/- More arguments: a state, an int. -/
namespace Go.Proofs.YtdehnnadfbildaaGreatDoor
open Go.ChangeShapes Go.WideShapes Go.ChangeAt Go.RowKit Go.Deep Go.WideElems
set_option maxRecDepth 100000
section
variable {H : Type} {enc : TypeId × Value → H} {W : World}
end
end Go.Proofs.YtdehnnadfbildaaGreatDoor


/- An extended automaton as an argument: structs of any number of fields, expressions by induction on the fuel. -/
namespace Go.Proofs.YtdehnnadfbildaaGreatDoor
open Go.ChangeShapes Go.WideShapes Go.ChangeAt Go.RowKit Go.Deep Go.WideElems
set_option maxRecDepth 100000
section
variable {H : Type} {enc : TypeId × Value → H} {P : Program} {W : World}
/-- .. at less fuel than a bound. -/
def OpnB (enc : TypeId × Value → H) (P : Program) (W : World) (N : Nat) (t : TypeId) (R : List AI.I → Prop) : Prop :=
  ∀ n, n < N → ∀ cs x, DataW.trod enc P W 0 (fun _ => true) true n t cs = some x → ∃ is, AI.RepL (KW W) cs is ∧ R is
theorem Opn.b {t : TypeId} {R : List AI.I → Prop} (h : Opn enc P W t R) (N : Nat) : OpnB enc P W N t R := fun n _ cs x hx => h n cs x hx
theorem Opn.ofB {t : TypeId} {R : List AI.I → Prop} (h : ∀ N, OpnB enc P W N t R) : Opn enc P W t R := fun n cs x hx => h (n + 1) n (Nat.lt_succ_self n) cs x hx
theorem OpnB.less {t : TypeId} {R : List AI.I → Prop} {N : Nat} (h : OpnB enc P W (N + 1) t R) : OpnB enc P W N t R := fun n hn cs x hx => h n (by omega) cs x hx
theorem OpnB.turn {t : TypeId} {R R' : List AI.I → Prop} {N : Nat} (h : OpnB enc P W N t R) (hR : ∀ is, R is → R' is) : OpnB enc P W N t R' := fun n hn cs x hx => by
  obtain ⟨is, hr, h1⟩ := h n hn cs x hx
  exact ⟨is, hr, hR _ h1⟩
def AllP : List (List AI.I → Prop) → List (List AI.I) → Prop
  | [], [] => True
  | R :: Rs, a :: l => R a ∧ AllP Rs l
  | _, _ => False
def FldB (enc : TypeId × Value → H) (P : Program) (W : World) (N : Nat) : List Field → List (List AI.I → Prop) → Prop
  | [], [] => True
  | f :: fs, R :: Rs => OpnB enc P W N f.type R ∧ FldB enc P W N fs Rs
  | _, _ => False
def SeqB (P : Program) : Nat → List Field → Nat → Bool
  | o, [], n => o == n
  | o, f :: fs, n => f.offset == o && SeqB P (o + P.cellsOf f.type) fs n
theorem fields_rep {N n : Nat} (hn : n < N) {cs : List Value} : ∀ {fs : List Field} {Rs : List (List AI.I → Prop)} {o : Nat}, FldB enc P W N fs Rs → SeqB P o fs cs.length = true →
    (∀ f ∈ fs, ∃ y, DataW.trod enc P W 0 (fun _ => true) true n f.type ((cs.drop f.offset).take (P.cellsOf f.type)) = some y) → ∃ parts, AI.RepL (KW W) (cs.drop o) parts.flatten ∧ AllP Rs parts
  | [], [], o, _, hs, _ => by
    have : o = cs.length := by simpa [SeqB] using hs
    subst this
    exact ⟨[], by simpa using AI.RepL.nil, trivial⟩
  | f :: fs, R :: Rs, o, ⟨hf, hF⟩, hs, hx => by
    simp only [SeqB, Bool.and_eq_true, beq_iff_eq] at hs
    obtain ⟨rfl, hs⟩ := hs
    obtain ⟨y, hy⟩ := hx f (by simp)
    obtain ⟨a, ra, ha⟩ := hf n hn _ _ hy
    obtain ⟨parts, rp, hp⟩ := fields_rep hn hF hs fun g hg => hx g (by simp [hg])
    refine ⟨a :: parts, ?_, ha, hp⟩
    have e : cs.drop f.offset = (cs.drop f.offset).take (P.cellsOf f.type) ++ cs.drop (f.offset + P.cellsOf f.type) := by
      rw [← List.drop_drop, List.take_append_drop]
    rw [e, List.flatten_cons]
    exact repL_app ra rp
  | [], _ :: _, _, h, _, _ => h.elim
  | _ :: _, [], _, h, _, _ => h.elim
theorem opnB_struct {t : TypeId} {fs : Array Field} {Rs : List (List AI.I → Prop)} {N : Nat} (ht : P.underlying t = some (.struct fs)) (hs : SeqB P 0 fs.toList (P.cellsOf t) = true) (hf : FldB enc P W N fs.toList Rs) :
    OpnB enc P W (N + 1) t fun is => ∃ parts, is = parts.flatten ∧ AllP Rs parts := by
  intro n hn cs x h
  obtain ⟨xs, m, rfl, rfl, hl, hlen, hx⟩ := DataW.trod_struct ht h
  rw [← hl] at hs
  obtain ⟨parts, hr, hp⟩ := fields_rep (n := m) (by omega) hf hs fun f hfm => by
    obtain ⟨i, hi, e⟩ := List.mem_iff_getElem.1 hfm
    have h1 := hx i f (by rw [← e]; simp)
    rw [h1]
    have : i < xs.length := by rw [hlen]; simpa using hi
    exact ⟨xs[i], by simp [this]⟩
  exact ⟨_, by simpa using hr, parts, rfl, hp⟩
theorem opnB_slice {t e : TypeId} {z N : Nat} {R : List AI.I → Prop} (ht : P.underlying t = some (.slice e)) (hc : P.cellsOf e = z) (hz : 0 < z) (he : OpnB enc P W N e R) :
    OpnB enc P W (N + 1) t fun is => ∃ xs : List (List AI.I), is = [.sl z xs.length xs] ∧ (∀ d ∈ xs, R d) ∧ xs.length ≤ maxLen := by
  intro n hn cs x h
  rcases DataW.trod_slice ht h with ⟨rfl, _⟩ | ⟨a, len, cap, elems, rest, f, rfl, rfl, _, _, hle, hm, hlen, hel, hsp, _⟩
  · exact ⟨[.sl z 0 []], .cons .nil .nil, [], rfl, by simp, Nat.zero_le _⟩
  · rw [hc] at hel hsp
    have hx : ∀ i, i < len → ∃ cs' y, W.cells? 0 (a.add (i * z)) z = some cs' ∧ DataW.trod enc P W 0 (fun _ => true) true f e cs' = some y := fun i hi => by
      have h1 := hel i hi
      rw [List.getElem?_eq_getElem (by omega)] at h1
      obtain ⟨cs', h2, h3⟩ := Option.bind_eq_some_iff.1 h1
      exact ⟨cs', _, h2, h3⟩
    by_cases h0 : cap = 0
    · subst h0
      obtain rfl : len = 0 := by omega
      exact ⟨[.sl z 0 []], .cons .nil .nil, [], rfl, by simp, Nat.zero_le _⟩
    · have hx0 : ∃ cs', W.cells? 0 (a.add (0 * z)) z = some cs' := by
        by_cases hl : len = 0
        · obtain ⟨h1, h2⟩ := hsp rfl
          have h3 := h2 0 (by omega)
          rw [hl, List.getElem?_eq_getElem (by omega)] at h3
          obtain ⟨cs', h4, _⟩ := Option.bind_eq_some_iff.1 h3
          exact ⟨cs', h4⟩
        · obtain ⟨cs', _, h1, _⟩ := hx 0 (by omega)
          exact ⟨cs', h1⟩
      have hspot : a.spot = none := by
        obtain ⟨cs', h1⟩ := hx0
        obtain ⟨_, hl, hcell⟩ := World.cells?_some h1
        have := hcell 0 hz
        rw [Nat.zero_mul] at this
        have ha : (a.add 0).add 0 = a := by simp [Addr.add]
        rw [ha, List.getElem?_eq_getElem (by omega)] at this
        unfold World.cell? at this
        cases hsp : a.spot with
        | none => rfl
        | some s =>
          rw [hsp] at this
          split at this <;> simp at this
      obtain ⟨bl, o, sp⟩ := a
      simp only at hspot
      subst hspot
      have build : ∀ k, k ≤ len → ∃ (xs : List (List AI.I)) (vs : List Value), xs.length = k ∧ vs.length = k * z ∧ AI.RepL (KW W) vs xs.flatten ∧ (∀ d ∈ xs, R d) ∧ (∀ d ∈ xs, d.length = z) ∧ ∀ j c, vs[j]? = some c → KW W bl (o + j) = some c := by
        intro k
        induction k with
        | zero => intro _; exact ⟨[], [], rfl, by simp, .nil, by simp, by simp, by simp⟩
        | succ k ih =>
          intro hk
          obtain ⟨xs, vs, h1, h2, h3, h4, h5, h6⟩ := ih (by omega)
          obtain ⟨cs', _, hc1, hc2⟩ := hx k (by omega)
          obtain ⟨_, hl, hcell⟩ := World.cells?_some hc1
          obtain ⟨is, hr, hR⟩ := he f (by omega) cs' _ hc2
          refine ⟨xs ++ [is], vs ++ cs', by simp [h1], by simp [h2, hl, Nat.add_mul], ?_, ?_, ?_, ?_⟩
          · rw [List.flatten_append]
            simpa using repL_app h3 hr
          · intro d hd
            rcases List.mem_append.1 hd with h | h
            · exact h4 d h
            · simp only [List.mem_singleton] at h
              subst h
              exact hR
          · intro d hd
            rcases List.mem_append.1 hd with h | h
            · exact h5 d h
            · simp only [List.mem_singleton] at h
              subst h
              rw [← hr.length, hl]
          · intro j c hj
            rw [List.getElem?_append] at hj
            split at hj
            · exact h6 j c hj
            · rename_i hge
              have hlt : j - vs.length < cs'.length := (List.getElem?_eq_some_iff.1 hj).1
              have := hcell (j - vs.length) (by omega)
              rw [hj] at this
              unfold KW
              rw [← this]
              have e : ((⟨bl, o, none⟩ : Addr).add (k * z)).add (j - vs.length) = ⟨bl, o + j, none⟩ := by
                have e1 : (⟨bl, o, none⟩ : Addr).add (k * z) = ⟨bl, o + k * z, none⟩ := by unfold Addr.add; split <;> simp_all
                rw [e1]
                unfold Addr.add
                split
                · simp <;> omega
                · simp <;> omega
              rw [e]
      obtain ⟨xs, vs, h1, h2, h3, h4, h5, h6⟩ := build len (Nat.le_refl _)
      refine ⟨[.sl z xs.length xs], .cons ?_ .nil, xs, rfl, h4, by omega⟩
      rw [h1]
      exact .sl h3 h5 h6 hle h1
end
section
variable {H : Type} {enc : TypeId × Value → H} {W : World}
theorem opn_string : Opn enc Tryz.prog W 9 fun is => ∃ s : ByteArray, is = [AI.strI s] ∧ s.size ≤ AI.max63 := by
  intro n cs x h
  obtain ⟨s, rfl, rfl, hs⟩ := DataW.trod_string Tryz.underlying9 h
  exact ⟨[AI.strI s], .cons (.v rfl) .nil, s, rfl, maxLen63 hs⟩
theorem opn_i64 : Opn enc Tryz.prog W 3 fun is => ∃ z, is = [AI.vi z] := by
  intro n cs x h
  obtain ⟨is, hr, z, rfl, _⟩ := opn_int Tryz.underlying3 n cs x h
  exact ⟨_, hr, z, rfl⟩
theorem exOks_of : ∀ {l : List AI.Ex}, (∀ e ∈ l, AI.exOk e) → AI.exOks l
  | [], _ => trivial
  | e :: r, h => ⟨h e (by simp), exOks_of fun x hx => h x (by simp [hx])⟩
theorem opn_exprs {N : Nat} (h : OpnB enc Tryz.prog W N 87 fun is => ∃ e : AI.Ex, is = AI.exI e ∧ AI.exOk e) :
    OpnB enc Tryz.prog W (N + 1) 85 fun is => ∃ l : List AI.Ex, is = [.sl 4 l.length (AI.exIs l)] ∧ l.length ≤ AI.max63 ∧ AI.exOks l := by
  refine (opnB_slice Tryz.underlying85 (z := 4) (by kernel_rfl) (by decide) h).turn ?_
  rintro is ⟨xs, rfl, hx, hl⟩
  obtain ⟨l, rfl, hq⟩ := list_of (f := AI.exI) (Q := AI.exOk) (xs := xs) hx
  exact ⟨l, by rw [AI.exIs_map]; simp, maxLen63 (by simpa using hl), exOks_of hq⟩
theorem opnB_expr : ∀ N, OpnB enc Tryz.prog W N 87 fun is => ∃ e : AI.Ex, is = AI.exI e ∧ AI.exOk e
  | 0 => fun n hn => by omega
  | N + 1 => by
    refine (opnB_struct (Rs := [_, _, _, _]) Tryz.underlying87 (by kernel_rfl) ⟨opn_i64.b N, opn_i64.b N, opn_i64.b N, (opn_exprs (opnB_expr N)).less, trivial⟩).turn ?_
    rintro is ⟨parts, rfl, hp⟩
    match parts, hp with
    | [_, _, _, _], ⟨⟨a, rfl⟩, ⟨b, rfl⟩, ⟨c, rfl⟩, ⟨l, rfl, h1, h2⟩, _⟩ =>
      exact ⟨.mk a b c l, by simp [AI.exI], by simp only [AI.exOk]; exact ⟨h1, h2⟩⟩
theorem opn_expr : Opn enc Tryz.prog W 87 fun is => ∃ e : AI.Ex, is = AI.exI e ∧ AI.exOk e := .ofB opnB_expr
theorem opn_upd : Opn enc Tryz.prog W 109 fun is => ∃ u : AI.Upd, is = AI.updI u ∧ AI.exOk u.x := by
  refine .ofB fun N => OpnB.less ?_
  refine (opnB_struct (Rs := [_, _]) Tryz.underlying109 (by kernel_rfl) ⟨opn_i64.b N, opn_expr.b N, trivial⟩).turn ?_
  rintro is ⟨parts, rfl, hp⟩
  match parts, hp with
  | [_, _], ⟨⟨a, rfl⟩, ⟨e, rfl, h⟩, _⟩ => exact ⟨⟨a, e⟩, by simp [AI.updI, AI.exI_eq], h⟩
theorem opn_upds : Opn enc Tryz.prog W 105 fun is => ∃ l : List AI.Upd, is = [.sl 5 l.length (l.map AI.updI)] ∧ l.length ≤ AI.max63 ∧ ∀ u ∈ l, AI.exOk u.x := by
  intro n cs x h
  obtain ⟨is, hr, xs, rfl, hx, hl⟩ := opn_slice Tryz.underlying105 (z := 5) (by kernel_rfl) (by decide) opn_upd n cs x h
  obtain ⟨l, rfl, hq⟩ := list_of (f := fun u => AI.updI u) (Q := fun u => AI.exOk u.x) (xs := xs) hx
  exact ⟨_, hr, l, by simp, maxLen63 (by simpa using hl), hq⟩
theorem opn_mv : Opn enc Tryz.prog W 107 fun is => ∃ x : AI.Mv, is = AI.mvI x ∧ AI.mvOk x := by
  refine .ofB fun N => OpnB.less ?_
  refine (opnB_struct (Rs := [_, _, _, _, _]) Tryz.underlying107 (by kernel_rfl) ⟨opn_i64.b N, opn_i64.b N, opn_i64.b N, opn_expr.b N, opn_upds.b N, trivial⟩).turn ?_
  rintro is ⟨parts, rfl, hp⟩
  match parts, hp with
  | [_, _, _, _, _], ⟨⟨a, rfl⟩, ⟨b, rfl⟩, ⟨c, rfl⟩, ⟨e, rfl, h⟩, ⟨l, rfl, h1, h2⟩, _⟩ => exact ⟨⟨a, b, c, e, l⟩, by simp [AI.mvI, AI.exI_eq], h, h1, h2⟩
theorem opn_mvs : Opn enc Tryz.prog W 46 fun is => ∃ l : List AI.Mv, is = [.sl 8 l.length (l.map AI.mvI)] ∧ l.length ≤ AI.max63 ∧ ∀ x ∈ l, AI.mvOk x := by
  intro n cs x h
  obtain ⟨is, hr, xs, rfl, hx, hl⟩ := opn_slice Tryz.underlying46 (z := 8) (by kernel_rfl) (by decide) opn_mv n cs x h
  obtain ⟨l, rfl, hq⟩ := list_of (f := fun u => AI.mvI u) (Q := AI.mvOk) (xs := xs) hx
  exact ⟨_, hr, l, by simp, maxLen63 (by simpa using hl), hq⟩
theorem opn_vr : Opn enc Tryz.prog W 96 fun is => ∃ v : AI.Vr, is = AI.vrI v ∧ v.name.size ≤ AI.max63 := by
  refine .ofB fun N => OpnB.less ?_
  refine (opnB_struct (Rs := [_, _, _, _]) Tryz.underlying96 (by kernel_rfl) ⟨opn_string.b N, opn_i64.b N, opn_i64.b N, opn_i64.b N, trivial⟩).turn ?_
  rintro is ⟨parts, rfl, hp⟩
  match parts, hp with
  | [_, _, _, _], ⟨⟨s, rfl, h⟩, ⟨a, rfl⟩, ⟨b, rfl⟩, ⟨c, rfl⟩, _⟩ => exact ⟨⟨s, a, b, c⟩, by simp, h⟩
theorem opn_vrs : Opn enc Tryz.prog W 45 fun is => ∃ l : List AI.Vr, is = [.sl 4 l.length (l.map AI.vrI)] ∧ l.length ≤ AI.max63 ∧ ∀ v ∈ l, v.name.size ≤ AI.max63 := by
  intro n cs x h
  obtain ⟨is, hr, xs, rfl, hx, hl⟩ := opn_slice Tryz.underlying45 (z := 4) (by kernel_rfl) (by decide) opn_vr n cs x h
  obtain ⟨l, rfl, hq⟩ := list_of (f := fun u => AI.vrI u) (Q := fun v => v.name.size ≤ AI.max63) (xs := xs) hx
  exact ⟨_, hr, l, by simp, maxLen63 (by simpa using hl), hq⟩
theorem opn_ext : Opn enc Tryz.prog W 48 fun is => ∃ m : AI.Ext, is = [AI.intsI m.alpha, AI.vi m.locs, AI.vi m.init, AI.intsI m.marked, AI.vrsI m.vars, .sl 8 m.moves.length (m.moves.map AI.mvI)] ∧ AI.extOk m := by
  refine .ofB fun N => OpnB.less ?_
  refine (opnB_struct (Rs := [_, _, _, _, _, _]) Tryz.underlying48 (by kernel_rfl) ⟨opn_ints.b N, opn_i64.b N, opn_i64.b N, opn_ints.b N, opn_vrs.b N, opn_mvs.b N, trivial⟩).turn ?_
  rintro is ⟨parts, rfl, hp⟩
  match parts, hp with
  | [_, _, _, _, _, _], ⟨⟨a, rfl, h1⟩, ⟨b, rfl⟩, ⟨c, rfl⟩, ⟨d, rfl, h2⟩, ⟨v, rfl, h3, h4⟩, ⟨l, rfl, h5, h6⟩, _⟩ => exact ⟨⟨a, b, c, d, v, l⟩, by simp, h1, h2, h3, h4, h5, h6⟩
/-- An extended automaton, by value. -/
theorem open_ext {r : Reach} {b0 : Nat} {v : Value} {d : DataW H} {p : List MemPlace} (hv : Value.okWide Tryz.prog W r b0 48 v) (h : DataW.Trod enc Tryz.prog W 0 (fun _ => true) true 48 v d p) :
    ∃ m : AI.Ext, AI.extOk m ∧ ∀ ρ sh, AI.RepD (KW W) ρ sh v (AI.extD m) := by
  obtain ⟨cs, rfl, _⟩ := okWide_struct Tryz.underlying48 hv
  obtain ⟨n, hn⟩ := h
  obtain ⟨is, hr, m, rfl, hm⟩ := opn_ext n _ _ hn
  refine ⟨m, hm, fun ρ sh => ?_⟩
  have := AI.RepD.agg (AI.RepDL.ofL (ρ := ρ) (sh := sh) hr)
  simpa [Value.cells] using this
end
end Go.Proofs.YtdehnnadfbildaaGreatDoor


namespace Go.AI
open Go.Proofs
set_option maxRecDepth 20000
instance staDec : DecidableEq Sta := fun a b => decidable_of_iff (a.loc = b.loc ∧ a.vals = b.vals) ⟨fun ⟨h1, h2⟩ => by cases a; cases b; cases h1; cases h2; rfl, fun h => by subst h; exact ⟨rfl, rfl⟩⟩
end Go.AI


namespace Go.AI
open Go.Proofs
set_option maxRecDepth 20000
/-- Start. -/
def begR (m : Ext) : Sta × Int := if chk m ≠ 0 then (zeroS, chk m) else (startR m, 0)
theorem begin20 (O : List Heap) (m : Ext) (hok : extOk m) : ASpec Tryz.prog 49 [extD m] O (.tup [staD (begR m).1, ii (begR m).2]) [] O := by
  have hv : chk m = 0 → m.vars.length ≤ 16 := by
    intro h
    by_cases h2 : m.vars.length ≤ 16
    · exact h2
    · exfalso
      have e : varsErr m.vars = 3 := by
        unfold varsErr
        rw [if_pos (by omega)]
      unfold chk at h
      rw [e] at h
      revert h
      repeat' split
      all_goals omega
  generalize hR : begR m = R
  unfold begR at hR
  refine aspec_intro Tk Tryz.func49 rfl Tryz.call49 Tryz.ntmps49 (Nat.le_of_ble_eq_true rfl) fun E => ?_
  refine g_run Tk Tryz.func49 ?_
  first | refine g_call Tk Tryz.func49 (check40 _ m hok) rfl rfl rfl rfl rfl ?_ | refine s_callq Tk (fun _ => check40 _ m hok) rfl rfl rfl ?_
  first | refine g_cnd Tk Tryz.func49 rfl (fun h1 => ?_) (fun h1 => ?_) | refine g_know Tk Tryz.func49 rfl (fun h1 => ?_) (fun h1 => ?_) | refine s_know Tk (fun h1 => ?_) (fun h1 => ?_)
  · have h1 := bneT h1
    rw [if_pos h1] at hR
    subst hR
    refine g_ret_co Tk (r := _) rfl rfl rfl trivial rfl rfl ?_
    repeat' (first | refine coD_tup ?_ | refine coD_agg ?_ | refine coD_i ?_ | refine CoDL.cons ?_ ?_ | exact CoDL.nil | exact coI_nil | refine coI_sl ?_ | refine CoLL.cons ?_ ?_ | exact CoLL.nil | refine CoL.cons ?_ ?_ | exact CoL.nil | exact CoI.refl _ | exact CoL.refl _ | exact CoLL.refl _ | exact CoDL.refl _ | exact CoD.refl _)
  have h1 := bneF h1
  rw [if_neg (by simpa using h1)] at hR
  subst hR
  first | refine g_call Tk Tryz.func49 (start48 _ m (hv (by simpa using h1))) rfl rfl rfl rfl rfl ?_ | refine s_callq Tk (fun _ => start48 _ m (hv (by simpa using h1))) rfl rfl rfl ?_
  refine g_ret Tk (r := .tup [staD (startR m), ii 0]) rfl rfl rfl trivial rfl rfl ?_
  rfl
end Go.AI


namespace Go.AI
open Go.Proofs
set_option maxRecDepth 20000
end Go.AI


namespace Go.AI
open Go.Proofs
set_option maxRecDepth 20000
/-- CheckState. -/
def ckS (m : Ext) (s : Sta) : Int :=
  if chk m ≠ 0 then chk m else if s.loc < 0 ∨ s.loc ≥ m.locs then 2 else if s.vals.length ≠ m.vars.length then 4 else if within m.vars s.vals = false then 2 else 0
theorem checkState28 (O : List Heap) (m : Ext) (s : Sta) (hok : extOk m) : ASpec Tryz.prog 72 [extD m, staD s] O (ii (ckS m s)) [] O := by
  generalize hR : ckS m s = R
  unfold ckS at hR
  obtain ⟨sl, sv⟩ := s
  simp only at hR
  have hw := fun O => within52 O m.vars sv hok.va
  generalize within m.vars sv = W at hw hR
  refine aspec_intro Tk Tryz.func72 rfl Tryz.call72 Tryz.ntmps72 (Nat.le_of_ble_eq_true rfl) fun E => ?_
  refine g_run Tk Tryz.func72 ?_
  first | refine g_call Tk Tryz.func72 (check40 _ m hok) rfl rfl rfl rfl rfl ?_ | refine s_callq Tk (fun _ => check40 _ m hok) rfl rfl rfl ?_
  first | refine g_cnd Tk Tryz.func72 rfl (fun h1 => ?_) (fun h1 => ?_) | refine g_know Tk Tryz.func72 rfl (fun h1 => ?_) (fun h1 => ?_) | refine s_know Tk (fun h1 => ?_) (fun h1 => ?_)
  · have h1 := bneT h1
    rw [if_pos h1] at hR
    refine g_ret Tk (r := ii (chk m)) rfl rfl rfl trivial rfl rfl ?_
    exact congrArg ii hR
  have h1 := bneF h1
  rw [if_neg (by simpa using h1)] at hR
  first | refine g_cnd Tk Tryz.func72 rfl (fun h2 => ?_) (fun h2 => ?_) | refine g_know Tk Tryz.func72 rfl (fun h2 => ?_) (fun h2 => ?_) | refine s_know Tk (fun h2 => ?_) (fun h2 => ?_)
  · have h2 : sl < 0 := by simpa using h2
    rw [if_pos (.inl h2)] at hR
    repeat (first | refine g_cnd Tk Tryz.func72 rfl (fun _ => ?_) (fun h => absurd h (by decide)) | refine g_cnd Tk Tryz.func72 rfl (fun h => absurd h (by decide)) (fun _ => ?_) | refine g_know Tk Tryz.func72 rfl (fun _ => ?_) (fun h => absurd h (by decide)) | refine g_know Tk Tryz.func72 rfl (fun h => absurd h (by decide)) (fun _ => ?_) | refine s_know Tk (fun _ => ?_) (fun h => absurd h (by decide)) | refine s_know Tk (fun h => absurd h (by decide)) (fun _ => ?_))
    refine g_ret Tk (r := ii 2) rfl rfl rfl trivial rfl rfl ?_
    exact congrArg ii hR
  have h2 : ¬ sl < 0 := by simpa using h2
  first | refine g_cnd Tk Tryz.func72 rfl (fun h3 => ?_) (fun h3 => ?_) | refine g_know Tk Tryz.func72 rfl (fun h3 => ?_) (fun h3 => ?_) | refine s_know Tk (fun h3 => ?_) (fun h3 => ?_)
  · have h3 : m.locs ≤ sl := by simpa using h3
    rw [if_pos (.inr h3)] at hR
    refine g_ret Tk (r := ii 2) rfl rfl rfl trivial rfl rfl ?_
    exact congrArg ii hR
  have h3 : ¬ m.locs ≤ sl := by simpa using h3
  rw [if_neg (by rintro (h | h); exact h2 h; exact h3 h)] at hR
  first | refine g_cnd Tk Tryz.func72 rfl (fun h4 => ?_) (fun h4 => ?_) | refine g_know Tk Tryz.func72 rfl (fun h4 => ?_) (fun h4 => ?_) | refine s_know Tk (fun h4 => ?_) (fun h4 => ?_)
  · have h4 := bneT h4
    rw [if_pos (by intro e; exact h4 (by rw [e]))] at hR
    refine g_ret Tk (r := ii 4) rfl rfl rfl trivial rfl rfl ?_
    exact congrArg ii hR
  have h4 := bneF h4
  have h4 : sv.length = m.vars.length := by
    have : ((sv.length : Nat) : Int) = m.vars.length := by simpa using h4
    omega
  rw [if_neg (by rw [h4]; simp)] at hR
  first | refine g_call Tk Tryz.func72 (hw _) rfl rfl rfl rfl rfl ?_ | refine s_callq Tk (fun _ => hw _) rfl rfl rfl ?_
  cases W with
  | false =>
    repeat (first | refine g_cnd Tk Tryz.func72 rfl (fun _ => ?_) (fun h => absurd h (by decide)) | refine g_cnd Tk Tryz.func72 rfl (fun h => absurd h (by decide)) (fun _ => ?_) | refine g_know Tk Tryz.func72 rfl (fun _ => ?_) (fun h => absurd h (by decide)) | refine g_know Tk Tryz.func72 rfl (fun h => absurd h (by decide)) (fun _ => ?_) | refine s_know Tk (fun _ => ?_) (fun h => absurd h (by decide)) | refine s_know Tk (fun h => absurd h (by decide)) (fun _ => ?_))
    refine g_ret Tk (r := ii 2) rfl rfl rfl trivial rfl rfl ?_
    exact congrArg ii hR
  | true =>
    repeat (first | refine g_cnd Tk Tryz.func72 rfl (fun _ => ?_) (fun h => absurd h (by decide)) | refine g_cnd Tk Tryz.func72 rfl (fun h => absurd h (by decide)) (fun _ => ?_) | refine g_know Tk Tryz.func72 rfl (fun _ => ?_) (fun h => absurd h (by decide)) | refine g_know Tk Tryz.func72 rfl (fun h => absurd h (by decide)) (fun _ => ?_) | refine s_know Tk (fun _ => ?_) (fun h => absurd h (by decide)) | refine s_know Tk (fun h => absurd h (by decide)) (fun _ => ?_))
    refine g_ret Tk (r := ii 0) rfl rfl rfl trivial rfl rfl ?_
    exact congrArg ii hR
end Go.AI


namespace Go.AI
open Go.Proofs
set_option maxRecDepth 20000
/-- Step. -/
def stpR (m : Ext) (s : Sta) (ev : Int) : Sta × Bool × Int := if ckS m s ≠ 0 then (zeroS, false, ckS m s) else if ev ∉ m.alpha then (zeroS, false, 9) else stepR m s ev
theorem ckS_right {m : Ext} {s : Sta} (h : ckS m s = 0) : chk m = 0 ∧ s.vals.length = m.vars.length ∧ within m.vars s.vals = true ∧ 0 ≤ s.loc ∧ s.loc < m.locs := by
  unfold ckS at h
  by_cases h1 : chk m ≠ 0
  · rw [if_pos h1] at h; exact absurd h h1
  rw [if_neg h1] at h
  by_cases h2 : s.loc < 0 ∨ s.loc ≥ m.locs
  · rw [if_pos h2] at h; cases h
  rw [if_neg h2] at h
  by_cases h3 : s.vals.length ≠ m.vars.length
  · rw [if_pos h3] at h; cases h
  rw [if_neg h3] at h
  by_cases h4 : within m.vars s.vals = false
  · rw [if_pos h4] at h; cases h
  exact ⟨by simpa using h1, by simpa using h3, by simpa using h4, by omega, by omega⟩
theorem step31 (O : List Heap) (m : Ext) (s : Sta) (ev : Int) (hok : extOk m) : ASpec Tryz.prog 52 [extD m, staD s, ii ev] O (.tup [staD (stpR m s ev).1, bb (stpR m s ev).2.1, ii (stpR m s ev).2.2]) [] O := by
  have hck := fun O => checkState28 O m s hok
  have hs := @ckS_right m s
  have hst := fun O hr hl => step50 O m s ev hok hr hl
  generalize hR : stpR m s ev = R
  unfold stpR at hR
  generalize ckS m s = c at *
  refine aspec_intro Tk Tryz.func52 rfl Tryz.call52 Tryz.ntmps52 (Nat.le_of_ble_eq_true rfl) fun E => ?_
  refine g_run Tk Tryz.func52 ?_
  first | refine g_call Tk Tryz.func52 (hck _) rfl rfl rfl rfl rfl ?_ | refine s_callq Tk (fun _ => hck _) rfl rfl rfl ?_
  first | refine g_cnd Tk Tryz.func52 rfl (fun h1 => ?_) (fun h1 => ?_) | refine g_know Tk Tryz.func52 rfl (fun h1 => ?_) (fun h1 => ?_) | refine s_know Tk (fun h1 => ?_) (fun h1 => ?_)
  · have h1 := bneT h1
    rw [if_pos h1] at hR
    subst hR
    refine g_ret_co Tk (r := _) rfl rfl rfl trivial rfl rfl ?_
    exact coZ
  have h1 := bneF h1
  rw [if_neg (by simpa using h1)] at hR
  obtain ⟨h2, h3, -⟩ := hs h1
  have hr := chk_right h2
  first | refine g_call Tk Tryz.func52 (contains49 _ m.alpha ev hok.al (checkSet_sorted hr.alpha).1) rfl rfl rfl rfl rfl ?_ | refine s_callq Tk (fun _ => contains49 _ m.alpha ev hok.al (checkSet_sorted hr.alpha).1) rfl rfl rfl ?_
  first | refine g_cnd Tk Tryz.func52 rfl (fun h4 => ?_) (fun h4 => ?_) | refine g_know Tk Tryz.func52 rfl (fun h4 => ?_) (fun h4 => ?_) | refine s_know Tk (fun h4 => ?_) (fun h4 => ?_)
  · have h4 : ev ∉ m.alpha := by simpa using h4
    rw [if_pos h4] at hR
    subst hR
    refine g_ret_co Tk (r := _) rfl rfl rfl trivial rfl rfl ?_
    exact coZ
  have h4 : ev ∈ m.alpha := by simpa using h4
  rw [if_neg (by simpa using h4)] at hR
  subst hR
  have hst := fun O => hst O hr h3
  generalize stepR m s ev = n at *
  obtain ⟨⟨nl, nv⟩, np, ne⟩ := n
  first | refine g_call Tk Tryz.func52 (hst _) rfl rfl rfl rfl rfl ?_ | refine s_callq Tk (fun _ => hst _) rfl rfl rfl ?_
  refine g_ret Tk (r := .tup [staD ⟨nl, nv⟩, bb np, ii ne]) rfl rfl rfl trivial rfl rfl ?_
  rfl
end Go.AI


namespace Go.AI
open Go.Proofs
set_option maxRecDepth 20000
mutual
def esz : Ex → Nat
  | .mk _ _ _ args => 1 + eszs args
def eszs : List Ex → Nat
  | [] => 0
  | e :: r => esz e + eszs r
end
mutual
def edep : Ex → Nat
  | .mk _ _ _ args => 1 + edeps args
def edeps : List Ex → Nat
  | [] => 0
  | e :: r => max (edep e) (edeps r)
end
mutual
theorem formR_of : ∀ (x : Ex) (n : Int) (lvl c : Nat), wfE n x → c + esz x ≤ 64 → lvl + edep x ≤ 9 → formR x n lvl c = (0, ((c + esz x : Nat) : Int))
  | .mk op v ix args, n, lvl, c, hw, hc, hl => by
    simp only [esz] at hc ⊢
    simp only [edep] at hl
    simp only [wfE] at hw
    simp only [formR]
    rw [if_neg (by omega), if_neg (by rw [hw.1]; simp)]
    have := formRs_of args n (lvl + 1) (c + 1) hw.2 (by omega) (by omega)
    rw [show ((lvl : Int) + 1) = ((lvl + 1 : Nat) : Int) by omega, show ((c : Int) + 1) = ((c + 1 : Nat) : Int) by omega, this]
    rw [show c + (1 + eszs args) = c + 1 + eszs args by omega]
theorem formRs_of : ∀ (l : List Ex) (n : Int) (lvl c : Nat), wfEs n l → c + eszs l ≤ 64 → lvl + edeps l ≤ 9 → formRs l n lvl c = (0, ((c + eszs l : Nat) : Int))
  | [], n, lvl, c, _, _, _ => rfl
  | e :: r, n, lvl, c, hw, hc, hl => by
    simp only [eszs] at hc ⊢
    simp only [edeps] at hl
    simp only [wfEs] at hw
    simp only [formRs]
    have h1 := formR_of e n lvl c hw.1 (by omega) (by omega)
    rw [h1]
    simp only [ne_eq, not_true_eq_false, if_false]
    rw [formRs_of r n lvl (c + esz e) hw.2 (by omega) (by omega)]
    rw [show c + (esz e + eszs r) = c + esz e + eszs r by omega]
end
mutual
theorem exOk_wf : ∀ (x : Ex) (n : Int), wfE n x → exOk x
  | .mk op v ix args, n, h => by
    simp only [wfE] at h
    obtain ⟨_, h2, _⟩ := formHead_zero h.1
    have := arity_le op
    exact ⟨by simp only [max63]; omega, exOks_wf args n h.2⟩
theorem exOks_wf : ∀ (l : List Ex) (n : Int), wfEs n l → exOks l
  | [], _, _ => trivial
  | e :: r, n, h => by
    simp only [wfEs] at h
    exact ⟨exOk_wf e n h.1, exOks_wf r n h.2⟩
end
theorem typed_of {x : Ex} {n k : Int} (hn : 0 ≤ n) (hn2 : n ≤ 16) (hw : wfE n x) (hs : esz x ≤ 64) (hd : edep x ≤ 8) (hk : kindR x = k) (hk0 : k ≠ 0) : typedX x n k = 0 := by
  have h1 := formR_of x n 1 0 hw (by omega) (by omega)
  have h2 : checkX x n = (k, 0) := by
    unfold checkX
    have h1' : formR x n 1 0 = (0, ((0 + esz x : Nat) : Int)) := h1
    rw [if_neg (by omega), h1']
    rw [if_neg (by simp), if_neg (by rw [hk]; exact hk0), hk]
  unfold typedX
  rw [h2, if_neg (by simp)]
theorem fh2 {op n : Int} (h : op = 2 ∨ op = 3 ∨ op = 4 ∨ op = 6 ∨ op = 7 ∨ op = 8 ∨ op = 9 ∨ op = 11 ∨ op = 12) : formHead op 0 0 2 n = 0 := by
  rcases h with rfl | rfl | rfl | rfl | rfl | rfl | rfl | rfl | rfl <;> rfl
theorem fh1 {op n : Int} (h : op = 5 ∨ op = 10) : formHead op 0 0 1 n = 0 := by
  rcases h with rfl | rfl <;> rfl
theorem fh3 {n : Int} : formHead 13 0 0 3 n = 0 := rfl
/-- What a grown expression is like. -/
structure grown (vars : Int) (lv : Nat) (t : Bool) (k : Nat) (r : Ex × List Int × Nat) : Prop where
  wf : wfE vars r.1
  kind : kindR r.1 = tyOf t
  dep : edep r.1 ≤ lv + 2
  cnt : k < r.2.2
  sz : esz r.1 + 3 * min k 12 ≤ 3 * min r.2.2 12 + (if 12 ≤ k then 3 else if r.2.2 ≤ 12 then 0 else 6 * lv + 3)
theorem tyOf_ne (t : Bool) : tyOf t ≠ 0 := by cases t <;> decide
theorem kind1 {op : Int} {a : Ex} {t : Bool} {ka : Int} (ha : kindR a = ka) (h0 : ka ≠ 0) (hk : kindOp op [ka] = tyOf t) : kindR (.mk op 0 0 [a]) = tyOf t := by
  simp only [kindR, kindRs, ha, if_neg h0, Option.map_some]
  exact hk
theorem kind2 {op : Int} {a b : Ex} {t : Bool} {ka : Int} (ha : kindR a = ka) (hb : kindR b = ka) (h0 : ka ≠ 0) (hk : kindOp op [ka, ka] = tyOf t) : kindR (.mk op 0 0 [a, b]) = tyOf t := by
  simp only [kindR, kindRs, ha, hb, if_neg h0, Option.map_some]
  exact hk
theorem kind3 {a b c : Ex} {t : Bool} (ha : kindR a = 2) (hb : kindR b = tyOf t) (hc : kindR c = tyOf t) : kindR (.mk 13 0 0 [a, b, c]) = tyOf t := by
  simp only [kindR, kindRs, ha, hb, hc, if_neg (tyOf_ne t), Option.map_some]
  cases t <;> rfl
theorem leaf_grown {vars b : Int} (hv : 0 ≤ vars) (hb : byt b) : wfE vars (leafE vars b) ∧ kindR (leafE vars b) = 1 ∧ edep (leafE vars b) = 1 ∧ esz (leafE vars b) = 1 := by
  have := hb.h0
  have := hb.h1
  unfold leafE
  split
  · rename_i h
    have h1 := Int.emod_nonneg (b / 8) (show vars ≠ 0 by omega)
    have h2 := Int.emod_lt_of_pos (b / 8) h.2
    refine ⟨⟨?_, trivial⟩, rfl, rfl, rfl⟩
    show formHead 1 0 (b / 8 % vars) 0 vars = 0
    unfold formHead
    rw [if_neg (by decide), if_neg (by decide), if_neg (by simp), if_neg (by omega)]
  · refine ⟨⟨?_, trivial⟩, rfl, rfl, rfl⟩
    show formHead 0 (b / 8 - 8) 0 0 vars = 0
    unfold formHead
    rw [if_neg (by decide), if_neg (by decide), if_neg (by simp), if_neg (by omega)]
theorem truth_grown {vars : Int} (t : Bool) : wfE vars (truthE t) ∧ kindR (truthE t) = 2 ∧ edep (truthE t) = 2 ∧ esz (truthE t) = 3 := by
  cases t
  · exact ⟨⟨rfl, ⟨rfl, trivial⟩, ⟨rfl, trivial⟩, trivial⟩, rfl, rfl, rfl⟩
  · exact ⟨⟨rfl, ⟨rfl, trivial⟩, ⟨rfl, trivial⟩, trivial⟩, rfl, rfl, rfl⟩
theorem grow_leaf {vars : Int} {lv : Nat} {bs : List Int} {k : Nat} (h : 12 ≤ k) : growR vars lv true bs k = (leafE vars (b0 bs), bs.tail, k + 1) := by
  cases lv with
  | zero => simp only [growR]
  | succ lv => simp only [growR]; rw [if_pos (by omega)]
theorem grown_of {vars : Int} (hv : 0 ≤ vars) : ∀ (lv : Nat) (t : Bool) (bs : List Int) (k : Nat), byteOk bs → grown vars lv t k (growR vars lv t bs k) := by
  intro lv
  induction lv with
  | zero =>
    intro t bs k hb
    have hby : byt (b0 bs) := ⟨(b0_ok hb).1, (b0_ok hb).2⟩
    cases t with
    | true =>
      obtain ⟨a, b, c, d⟩ := leaf_grown hv hby
      simp only [growR]
      exact ⟨a, b, by simp only; omega, by simp only; omega, by simp only; split <;> (try split) <;> omega⟩
    | false =>
      obtain ⟨a, b, c, d⟩ := truth_grown (vars := vars) (decide (b0 bs % 2 = 0))
      simp only [growR]
      exact ⟨a, b, by simp only; omega, by simp only; omega, by simp only; split <;> (try split) <;> omega⟩
  | succ lv ih =>
    intro t bs k hb
    have hby : byt (b0 bs) := ⟨(b0_ok hb).1, (b0_ok hb).2⟩
    have hbt := byteOk_tail hb
    have ok := growR_ok vars lv
    have q3 : b0 bs / 8 % 3 = 0 ∨ b0 bs / 8 % 3 = 1 ∨ b0 bs / 8 % 3 = 2 := by omega
    have q4 : b0 bs / 8 % 4 = 0 ∨ b0 bs / 8 % 4 = 1 ∨ b0 bs / 8 % 4 = 2 ∨ b0 bs / 8 % 4 = 3 := by omega
    have q2 : b0 bs / 8 % 2 = 0 ∨ b0 bs / 8 % 2 = 1 := by omega
    have one : ∀ (t2 : Bool) (op : Int), op = 5 ∨ op = 10 → k < 12 → kindOp op [tyOf t2] = tyOf t → grown vars (lv + 1) t k (.mk op 0 0 [(growR vars lv t2 bs.tail (k + 1)).1], (growR vars lv t2 bs.tail (k + 1)).2) := by
      intro t2 op hop hk hkind
      have h1 := ih t2 bs.tail (k + 1) hbt
      have hsz := h1.sz
      have hcn := h1.cnt
      have hdp := h1.dep
      refine ⟨⟨fh1 hop, h1.wf, trivial⟩, kind1 h1.kind (tyOf_ne _) hkind, ?_, by simp only; omega, ?_⟩
      · simp only [edep, edeps]; omega
      · simp only [esz, eszs]
        split at hsz <;> (try split at hsz) <;> split <;> (try split) <;> omega
    have two : ∀ (t2 : Bool) (op : Int), (op = 2 ∨ op = 3 ∨ op = 4 ∨ op = 6 ∨ op = 7 ∨ op = 8 ∨ op = 9 ∨ op = 11 ∨ op = 12) → (12 ≤ k → t2 = true) → kindOp op [tyOf t2, tyOf t2] = tyOf t → grown vars (lv + 1) t k (.mk op 0 0 [(growR vars lv t2 bs.tail (k + 1)).1, (growR vars lv t2 (growR vars lv t2 bs.tail (k + 1)).2.1 (growR vars lv t2 bs.tail (k + 1)).2.2).1], (growR vars lv t2 (growR vars lv t2 bs.tail (k + 1)).2.1 (growR vars lv t2 bs.tail (k + 1)).2.2).2) := by
      intro t2 op hop hk hkind
      have h1 := ih t2 bs.tail (k + 1) hbt
      have o1 := ok t2 bs.tail (k + 1) hbt
      have l1 : 12 ≤ k → esz (growR vars lv t2 bs.tail (k + 1)).1 = 1 := fun h => by
        rw [hk h, grow_leaf (by omega)]
        exact (leaf_grown hv ⟨(b0_ok hbt).1, (b0_ok hbt).2⟩).2.2.2
      generalize growR vars lv t2 bs.tail (k + 1) = A at *
      have hcn := h1.cnt
      have h2 := ih t2 A.2.1 A.2.2 o1.b
      have l2 : 12 ≤ k → esz (growR vars lv t2 A.2.1 A.2.2).1 = 1 := fun h => by
        rw [hk h, grow_leaf (by omega)]
        exact (leaf_grown hv ⟨(b0_ok o1.b).1, (b0_ok o1.b).2⟩).2.2.2
      generalize growR vars lv t2 A.2.1 A.2.2 = B at *
      have hsz := h1.sz
      have hdp := h1.dep
      have hsz2 := h2.sz
      have hcn2 := h2.cnt
      have hdp2 := h2.dep
      refine ⟨⟨fh2 hop, h1.wf, h2.wf, trivial⟩, kind2 h1.kind h2.kind (tyOf_ne _) hkind, ?_, by simp only; omega, ?_⟩
      · simp only [edep, edeps]; omega
      · simp only [esz, eszs]
        by_cases hk12 : 12 ≤ k
        · rw [l1 hk12, l2 hk12, if_pos hk12]
          omega
        · rw [if_neg hk12]
          split at hsz <;> (try split at hsz) <;> split at hsz2 <;> (try split at hsz2) <;> split <;> omega
    have three : ∀ (t2 : Bool), t2 = t → k < 12 → grown vars (lv + 1) t k (.mk 13 0 0 [(growR vars lv false bs.tail (k + 1)).1, (growR vars lv t2 (growR vars lv false bs.tail (k + 1)).2.1 (growR vars lv false bs.tail (k + 1)).2.2).1,
        (growR vars lv t2 (growR vars lv t2 (growR vars lv false bs.tail (k + 1)).2.1 (growR vars lv false bs.tail (k + 1)).2.2).2.1 (growR vars lv t2 (growR vars lv false bs.tail (k + 1)).2.1 (growR vars lv false bs.tail (k + 1)).2.2).2.2).1],
        (growR vars lv t2 (growR vars lv t2 (growR vars lv false bs.tail (k + 1)).2.1 (growR vars lv false bs.tail (k + 1)).2.2).2.1 (growR vars lv t2 (growR vars lv false bs.tail (k + 1)).2.1 (growR vars lv false bs.tail (k + 1)).2.2).2.2).2) := by
      intro t2 e hk12
      subst e
      have h1 := ih false bs.tail (k + 1) hbt
      have o1 := ok false bs.tail (k + 1) hbt
      generalize growR vars lv false bs.tail (k + 1) = A at *
      have h2 := ih t2 A.2.1 A.2.2 o1.b
      have o2 := ok t2 A.2.1 A.2.2 o1.b
      generalize growR vars lv t2 A.2.1 A.2.2 = B at *
      have h3 := ih t2 B.2.1 B.2.2 o2.b
      generalize growR vars lv t2 B.2.1 B.2.2 = C at *
      have hsz := h1.sz
      have hcn := h1.cnt
      have hdp := h1.dep
      have hsz2 := h2.sz
      have hcn2 := h2.cnt
      have hdp2 := h2.dep
      have hsz3 := h3.sz
      have hcn3 := h3.cnt
      have hdp3 := h3.dep
      refine ⟨⟨fh3, h1.wf, h2.wf, h3.wf, trivial⟩, kind3 h1.kind h2.kind h3.kind, ?_, by simp only; omega, ?_⟩
      · simp only [edep, edeps]; omega
      · simp only [esz, eszs]
        rw [if_neg (by omega)]
        split at hsz <;> (try split at hsz) <;> split at hsz2 <;> (try split at hsz2) <;> split at hsz3 <;> (try split at hsz3) <;> split <;> omega
    cases t with
    | true =>
      simp only [growR]
      split
      · rename_i h
        obtain ⟨a, b, c, d⟩ := leaf_grown hv hby
        exact ⟨a, b, by simp only; omega, by simp only; omega, by simp only; split <;> (try split) <;> omega⟩
      · rename_i h
        split
        · exact one true 5 (.inl rfl) (by omega) rfl
        split
        · exact three true rfl (by omega)
        · refine two true _ (by omega) (fun _ => rfl) ?_
          rcases q3 with q | q | q <;> rw [q] <;> rfl
    | false =>
      simp only [growR]
      split
      · refine two true _ (by omega) (fun _ => rfl) ?_
        rcases q4 with q | q | q | q <;> rw [q] <;> rfl
      · rename_i h
        split
        · exact one false 10 (.inr rfl) (by omega) rfl
        split
        · exact three false rfl (by omega)
        · refine two false _ (by omega) (by omega) ?_
          rcases q2 with q | q <;> rw [q] <;> rfl
theorem grow_typed {vars : Int} (hv : 0 ≤ vars) (hv2 : vars ≤ 16) (t : Bool) {bs : List Int} (hb : byteOk bs) : typedX (growE vars t bs) vars (tyOf t) = 0 ∧ exOk (growE vars t bs) := by
  have h := grown_of hv 4 t (bs.take 60) 0 fun b hm => hb b (List.mem_of_mem_take hm)
  have hs := h.sz
  have hd := h.dep
  unfold growE
  refine ⟨typed_of hv hv2 h.wf ?_ (by omega) h.kind (tyOf_ne t), exOk_wf _ _ h.wf⟩
  rw [if_neg (by omega)] at hs
  split at hs <;> omega
end Go.AI


namespace Go.AI
open Go.Proofs
set_option maxRecDepth 20000
theorem checkSet_of {n : Int} : ∀ {l : List Int} {p : Option Int}, l.Pairwise (· < ·) → (∀ x ∈ l, 0 ≤ x ∧ x < n) → (∀ y, p = some y → ∀ x ∈ l, y < x) → checkSet n l p = 0
  | [], _, _, _, _ => rfl
  | x :: r, p, hs, hr, hp => by
    simp only [checkSet]
    have h1 := hr x (by simp)
    rw [if_neg (by omega), if_neg]
    · rw [List.pairwise_cons] at hs
      refine checkSet_of hs.2 (fun y hy => hr y (by simp [hy])) (fun y e z hz => ?_)
      simp only [Option.some.injEq] at e
      subst e
      exact hs.1 z hz
    · cases p with
      | none => simp
      | some y =>
        have := hp y rfl x (by simp)
        simp only [Option.any_some, decide_eq_true_eq]
        omega
theorem mrks_set (marks : Int) (L : Nat) : checkSet (L : Int) (mrks marks L) none = 0 := by
  refine checkSet_of ?_ (fun x hx => ?_) (by simp)
  · unfold mrks
    rw [List.pairwise_map]
    exact (List.Pairwise.filter _ List.pairwise_lt_range).imp fun h => by omega
  · unfold mrks at hx
    simp only [List.mem_map, List.mem_filter, List.mem_range] at hx
    obtain ⟨i, ⟨h1, _⟩, rfl⟩ := hx
    omega
/-- What is known of the variables of a sketch. -/
structure vrOk (v : Vr) : Prop where
  lo : -4 ≤ v.low
  hi : v.high ≤ 7
  w : v.low ≤ v.high ∧ v.high ≤ v.low + 3
  ini : v.low ≤ v.init ∧ v.init ≤ v.high
  nm : v.name.size = 2
theorem rngV_ok (i : Nat) {p : Int × Int} (hp : pairOk p) : vrOk (rngV i p) := by
  have h1 := Int.tmod_lt_of_pos p.1 (show (0 : Int) < 5 by decide)
  have h2 := Int.lt_tmod_of_pos p.1 (show (0 : Int) < 5 by decide)
  have h3 := Int.emod_nonneg (p.2 % 256 / 4) (show p.2 % 256 % 4 + 1 ≠ 0 by omega)
  have h4 := Int.emod_lt_of_pos (p.2 % 256 / 4) (show 0 < p.2 % 256 % 4 + 1 by omega)
  refine ⟨?_, ?_, ?_, ?_, nameR_size i⟩ <;> simp only [rngV] <;> omega
theorem rngsR_ok {l : List (Int × Int)} (h : ∀ p ∈ l, pairOk p) : ∀ v ∈ rngsR l, vrOk v := by
  intro v hv
  simp only [rngsR, List.mem_map, List.mem_range] at hv
  obtain ⟨i, hi, rfl⟩ := hv
  have : l.getD i (0, 0) = l[i]'(by omega) := by simp [show i < l.length by omega]
  rw [this]
  exact rngV_ok i (h _ (List.getElem_mem _))
theorem checkVr_ok {ds : List Vr} {v : Vr} (hn : isNameB v.name = true) (hd : ds.any (fun x => x.name.toList == v.name.toList) = false) (h : vrOk v) : checkVr ds v = none := by
  have := h.lo
  have := h.hi
  have := h.w
  have := h.ini
  unfold checkVr
  rw [if_neg (by rw [hn]; simp), if_neg (by rw [hd]; simp), if_neg, if_neg (by omega), if_neg (by omega)]
  simp only [checkVr.large, Bool.or_eq_true, decide_eq_true_eq]
  omega
theorem rngs_err {l : List (Int × Int)} (hl : l.length ≤ 2) (h : ∀ p ∈ l, pairOk p) : varsErr (rngsR l) = 0 := by
  have hlen : (rngsR l).length ≤ 2 := by rw [rngsR_len]; omega
  unfold varsErr
  rw [if_neg (by omega)]
  have hok := rngsR_ok h
  have n0 : isNameB (nameR 0) = true := by kernel_rfl
  have n1 : isNameB (nameR 1) = true := by kernel_rfl
  have n2 : ((nameR 0).toList == (nameR 1).toList) = false := by kernel_rfl
  match l, hl with
  | [], _ => rfl
  | [a], _ =>
    have e : rngsR [a] = [rngV 0 a] := rfl
    rw [e] at hok ⊢
    simp only [checkVrs]
    rw [checkVr_ok n0 (by simp) (hok _ (by simp))]
  | [a, b], _ =>
    have e : rngsR [a, b] = [rngV 0 a, rngV 1 b] := rfl
    rw [e] at hok ⊢
    simp only [checkVrs]
    rw [checkVr_ok n0 (by simp) (hok _ (by simp))]
    simp only
    rw [checkVr_ok n1 ?_ (hok _ (by simp))]
    simp only [List.take_succ_cons, List.take_zero, List.any_cons, List.any_nil, Bool.or_false]
    exact n2
/-- In order. -/
def leMv (x y : Mv) : Prop := ¬ (y.frm < x.frm ∨ (y.frm = x.frm ∧ y.ev < x.ev))
theorem leMv_trans {x y z : Mv} (h : leMv x y) (h' : leMv y z) : leMv x z := by unfold leMv at *; omega
theorem gtMv_iff {x y : Mv} : gtMv x y = true ↔ ¬ leMv x y := by
  unfold gtMv leMv
  rw [decide_eq_true_eq]
  omega
theorem posR_front {l : List Mv} {y : Mv} (hs : l.Pairwise leMv) : ∀ n, n ≤ l.length → (∀ x ∈ l.drop n, leMv y x) → (∀ x ∈ l.take (posR l y n), leMv x y) ∧ ∀ x ∈ l.drop (posR l y n), leMv y x
  | 0, _, h => ⟨by simp [posR], h⟩
  | n + 1, hn, h => by
    simp only [posR]
    rw [List.getElem?_eq_getElem (by omega)]
    simp only
    cases hg : gtMv l[n] y with
    | true =>
      rw [cond_true]
      refine posR_front hs n (by omega) fun x hx => ?_
      rw [List.drop_eq_getElem_cons (by omega)] at hx
      rcases List.mem_cons.1 hx with rfl | hx
      · have := gtMv_iff.1 hg
        unfold leMv at *
        omega
      · exact h x hx
    | false =>
      rw [cond_false]
      refine ⟨fun x hx => ?_, h⟩
      have hle : leMv l[n] y := by
        apply Classical.byContradiction
        intro hc
        rw [gtMv_iff.2 hc] at hg; cases hg
      rw [List.take_add_one, List.getElem?_eq_getElem (by omega)] at hx
      simp only [List.mem_append, Option.toList, List.mem_singleton] at hx
      rcases hx with hx | rfl
      · obtain ⟨j, hj, rfl⟩ := List.mem_take_iff_getElem.1 hx
        have hjn : j < n := by omega
        exact leMv_trans (List.pairwise_iff_getElem.1 hs j n (by omega) (by omega) hjn) hle
      · exact hle
theorem ins_sorted {l : List Mv} {y : Mv} (hs : l.Pairwise leMv) : (insMv l y).Pairwise leMv := by
  have h := posR_front (y := y) hs l.length (Nat.le_refl _) (by simp)
  unfold insMv
  rw [List.pairwise_append]
  refine ⟨hs.sublist (List.take_sublist _ _), ?_, ?_⟩
  · rw [List.pairwise_cons]
    exact ⟨h.2, hs.sublist (List.drop_sublist _ _)⟩
  · intro a ha b hb
    rcases List.mem_cons.1 hb with rfl | hb
    · exact h.1 a ha
    · exact leMv_trans (h.1 a ha) (h.2 b hb)
theorem ins_mem {l : List Mv} {y x : Mv} : x ∈ insMv l y → x ∈ l ∨ x = y := by
  unfold insMv
  intro h
  simp only [List.mem_append, List.mem_cons] at h
  rcases h with h | rfl | h
  · exact .inl (List.mem_of_mem_take h)
  · exact .inr rfl
  · exact .inl (List.mem_of_mem_drop h)
theorem mvsL_all {P : Mv → Prop} {locs n : Int} {l : List Lin} (h : ∀ x ∈ l, P (mvOf locs n x)) : ∀ i, i ≤ l.length → (mvsL locs n l i).Pairwise leMv ∧ ∀ y ∈ mvsL locs n l i, P y
  | 0, _ => by simp [mvsL]
  | i + 1, hi => by
    obtain ⟨h1, h2⟩ := mvsL_all h i (by omega)
    rw [mvsL_succ (by omega)]
    refine ⟨ins_sorted h1, fun y hy => ?_⟩
    rcases ins_mem hy with hy | rfl
    · exact h2 y hy
    · exact h _ (List.getElem_mem _)
/-- What a move of a sketch is like. -/
structure mvGood (L n : Int) (x : Mv) : Prop where
  frm : 0 ≤ x.frm ∧ x.frm < L
  to : 0 ≤ x.to ∧ x.to < L
  ev : x.ev = 0 ∨ x.ev = 1 ∨ x.ev = 2
  g : typedX x.g n 2 = 0
  us : x.us = [] ∨ ∃ u, x.us = [u] ∧ 0 ≤ u.v ∧ u.v < n ∧ typedX u.x n 1 = 0 ∧ exOk u.x
  gok : exOk x.g
theorem true_typed {n : Int} (h : 0 ≤ n) (h2 : n ≤ 16) : typedX trueE n 2 = 0 := typed_of h h2 ⟨rfl, ⟨rfl, trivial⟩, ⟨rfl, trivial⟩, trivial⟩ (by decide) (by decide) rfl (by decide)
theorem true_ok : exOk trueE := ⟨by simp [max63], ⟨Nat.zero_le _, trivial⟩, ⟨Nat.zero_le _, trivial⟩, trivial⟩
theorem mvOf_good {L n : Int} (hL : 0 < L) (hn : 0 ≤ n) (hn2 : n ≤ 16) {x : Lin} (hx : linOk x) : mvGood L n (mvOf L n x) := by
  obtain ⟨h0, h1, h2, hg, hgl, hu, hul⟩ := hx
  have hb0 := b0_ok hu
  refine ⟨⟨Int.emod_nonneg _ (by omega), Int.emod_lt_of_pos _ hL⟩, ⟨Int.emod_nonneg _ (by omega), Int.emod_lt_of_pos _ hL⟩, ?_, ?_, ?_, ?_⟩
  · show x.a1 % 3 = 0 ∨ x.a1 % 3 = 1 ∨ x.a1 % 3 = 2
    omega
  · show typedX (guardE n x.g) n 2 = 0
    unfold guardE
    split
    · exact (grow_typed hn hn2 false fun b hb => hg b (List.mem_of_mem_take hb)).1
    · exact true_typed hn hn2
  · show updsE n x.u = [] ∨ _
    unfold updsE
    split
    · rename_i h
      have ht := grow_typed hn hn2 true (bs := (x.u.take 12).drop 1) fun b hb => hu b (List.mem_of_mem_take (List.mem_of_mem_drop hb))
      have h2 : 0 < n := h.2
      exact .inr ⟨⟨b0 x.u % n, growE n true ((x.u.take 12).drop 1)⟩, (by show updsE n x.u = _; unfold updsE; rw [if_pos h]), Int.emod_nonneg _ (by omega), Int.emod_lt_of_pos _ h2, ht.1, ht.2⟩
    · exact .inl rfl
  · show exOk (guardE n x.g)
    unfold guardE
    split
    · exact (grow_typed hn hn2 false fun b hb => hg b (List.mem_of_mem_take hb)).2
    · exact true_ok
/-- What a sketched automaton is like. -/
structure made (m : Ext) : Prop where
  al : m.alpha = [0, 1, 2]
  lo : 1 ≤ m.locs ∧ m.locs ≤ 4
  ini : m.init = 0
  vl : m.vars.length ≤ 2
  v : ∀ v ∈ m.vars, vrOk v
  ml : m.moves.length ≤ 8
  mv : ∀ x ∈ m.moves, mvGood m.locs m.vars.length x
  sorted : m.moves.Pairwise leMv
  ve : varsErr m.vars = 0
  ma : checkSet m.locs m.marked none = 0
  mal : m.marked.length ≤ 4
theorem make_made {k : Sk} (hk : skOk k) : made (makeR k) := by
  have hl := hk.locs
  have hL : 1 ≤ locsR k ∧ locsR k ≤ 4 := by unfold locsR; omega
  have hp : ∀ p ∈ k.rngs.take 2, pairOk p := fun p h => hk.r p (List.mem_of_mem_take h)
  have hv2 : (rngsR (k.rngs.take 2)).length ≤ 2 := by rw [rngsR_len, List.length_take]; omega
  have hall := mvsL_all (P := mvGood (locsR k) (rngsR (k.rngs.take 2)).length) (locs := locsR k) (n := (rngsR (k.rngs.take 2)).length) (l := k.lines) (fun x hx => mvOf_good (by omega) (by omega) (by omega) (hk.l x hx)) (min k.lines.length 8) (by omega)
  have hml := mrks_len k.marks (locsR k)
  refine ⟨rfl, ⟨?_, ?_⟩, rfl, hv2, rngsR_ok hp, ?_, hall.2, hall.1, rngs_err (by rw [List.length_take]; omega) hp, mrks_set _ _, ?_⟩
  · show (1 : Int) ≤ (locsR k : Int); omega
  · show (locsR k : Int) ≤ 4; omega
  · show (mvsL _ _ _ _).length ≤ 8
    rw [mvsL_len (by omega)]; omega
  · show (mrks _ _).length ≤ 4; omega
theorem made_ok {m : Ext} (h : made m) : extOk m := by
  refine ⟨by rw [h.al]; simp [max63], ?_, ?_, fun v hv => ?_, ?_, fun x hx => ?_⟩
  · have := h.mal; simp only [max63]; omega
  · have := h.vl; simp only [max63]; omega
  · have := (h.v v hv).nm; simp only [max63]; omega
  · have := h.ml; simp only [max63]; omega
  · have hg := h.mv x hx
    refine ⟨hg.gok, ?_, fun u hu => ?_⟩
    · rcases hg.us with e | ⟨u, e, _⟩ <;> rw [e] <;> simp [max63]
    · rcases hg.us with e | ⟨u', e, h1⟩
      · rw [e] at hu; simp at hu
      · rw [e] at hu
        simp only [List.mem_singleton] at hu
        subst hu
        exact h1.2.2.2
theorem mvErr_of {m : Ext} (h : made m) {p : Option Mv} {x : Mv} (hx : mvGood m.locs m.vars.length x) (hp : ∀ y, p = some y → leMv y x) : mvErr m p x = 0 := by
  have h1 := hx.frm
  have h2 := hx.to
  have h3 := hx.ev
  unfold mvErr
  rw [if_neg (by omega), if_neg, if_neg, hx.g]
  · simp only [ne_eq, not_true_eq_false, if_false]
    rcases hx.us with e | ⟨u, e, h4, h5, h6, _⟩
    · rw [e]; rfl
    · rw [e]
      simp only [updErr]
      rw [if_neg (by omega), if_neg (by simp), h6]
      simp
  · cases p with
    | none => simp
    | some y =>
      have := hp y rfl
      unfold leMv at this
      simpa using this
  · rw [h.al]
    simp only [List.mem_cons, List.mem_nil_iff, or_false]
    exact not_not_intro h3
theorem mvsErr_of {m : Ext} (h : made m) : ∀ {l : List Mv} {p : Option Mv}, (∀ x ∈ l, mvGood m.locs m.vars.length x) → l.Pairwise leMv → (∀ y, p = some y → ∀ x ∈ l, leMv y x) → mvsErr m p l = 0
  | [], _, _, _, _ => rfl
  | x :: r, p, hx, hs, hp => by
    rw [List.pairwise_cons] at hs
    simp only [mvsErr]
    rw [mvErr_of h (hx x (by simp)) fun y e => hp y e x (by simp)]
    simp only [ne_eq, not_true_eq_false, if_false]
    refine mvsErr_of h (fun y hy => hx y (by simp [hy])) hs.2 fun y e z hz => ?_
    simp only [Option.some.injEq] at e
    subst e
    exact hs.1 z hz
theorem made_chk {m : Ext} (h : made m) : chk m = 0 := by
  have h1 := h.lo
  have h2 := h.ml
  unfold chk
  rw [h.al, h.ini, h.ma, h.ve, mvsErr_of h h.mv h.sorted (by simp)]
  rw [if_neg (by decide), if_neg (by omega), if_neg (by decide), if_neg (by decide), if_neg (by omega)]
end Go.AI


namespace Go.AI
open Go.Proofs
set_option maxRecDepth 20000
/-- Right values of a sketched automaton. -/
structure valsOk (m : Ext) (l : List Int) : Prop where
  len : l.length = m.vars.length
  w : within m.vars l = true
theorem within_get : ∀ {vs : List Vr} {l : List Int}, within vs l = true → ∀ (i : Nat) (h : i < vs.length) (h' : i < l.length), vs[i].low ≤ l[i] ∧ l[i] ≤ vs[i].high
  | v :: r, x :: ys, h, i, hi, hi' => by
    simp only [within, Bool.and_eq_true, decide_eq_true_eq] at h
    cases i with
    | zero => exact ⟨h.1.1, h.1.2⟩
    | succ i => exact within_get h.2 i (by simpa using hi) (by simpa using hi')
  | [], _, _, i, hi, _ => absurd hi (Nat.not_lt_zero _)
  | _ :: _, [], _, i, _, hi => absurd hi (Nat.not_lt_zero _)
theorem vals_small {m : Ext} (hm : made m) {l : List Int} (h : valsOk m l) : l.any (fun n => largeB n 65536) = false := by
  rw [List.any_eq_false]
  intro x hx
  obtain ⟨i, hi, rfl⟩ := List.mem_iff_getElem.1 hx
  have hiv : i < m.vars.length := by rw [← h.len]; exact hi
  have h1 := within_get h.w i hiv hi
  have h2 := hm.v _ (List.getElem_mem hiv)
  have := h2.lo
  have := h2.hi
  simp only [largeB, Bool.or_eq_true, decide_eq_true_eq]
  omega
theorem eval_err {m : Ext} (hm : made m) {l : List Int} (h : valsOk m l) {x : Ex} {k : Int} (hx : typedX x m.vars.length k = 0) : (evalX x l).2 = 0 ∨ (evalX x l).2 = 17 := by
  have hc : (checkX x l.length).2 = 0 := by
    rw [h.len]
    unfold typedX at hx
    split at hx
    · cases hx
    · exact hx
  unfold evalX
  rw [if_neg (by rw [hc]; simp), if_neg (by rw [vals_small hm h]; simp)]
  split
  · exact .inr rfl
  · exact .inl rfl
end Go.AI


namespace Go.AI
open Go.Proofs
set_option maxRecDepth 20000
end Go.AI


namespace Go.AI
open Go.Proofs
set_option maxRecDepth 20000
theorem checkSet_aux {n : Int} : ∀ {l : List Int} {y : Int}, checkSet n l (some y) = 0 → y + 1 ≤ n → (l.length : Int) ≤ n - 1 - y
  | [], y, _, h => by simp only [List.length_nil]; omega
  | x :: r, y, h, hy => by
    simp only [checkSet] at h
    by_cases h1 : x < 0 ∨ x ≥ n
    · rw [if_pos h1] at h; exact absurd h (by decide)
    rw [if_neg h1] at h
    by_cases h2 : (some y).any (x ≤ ·) = true
    · rw [if_pos h2] at h; exact absurd h (by decide)
    rw [if_neg h2] at h
    have hxy : y < x := by simpa using h2
    have := checkSet_aux h (by omega)
    simp only [List.length_cons]
    omega
theorem checkSet_len {n : Int} (hn : 0 ≤ n) : ∀ {l : List Int}, checkSet n l none = 0 → (l.length : Int) ≤ n
  | [], _ => by simpa using hn
  | x :: r, h => by
    simp only [checkSet] at h
    by_cases h1 : x < 0 ∨ x ≥ n
    · rw [if_pos h1] at h; exact absurd h (by decide)
    rw [if_neg h1] at h
    have h' : checkSet n r (some x) = 0 := by simpa using h
    have := checkSet_aux h' (by omega)
    simp only [List.length_cons]
    omega
end Go.AI


namespace Go.AI
open Go.Proofs
set_option maxRecDepth 20000
end Go.AI


namespace Go.AI
open Go.Proofs
set_option maxRecDepth 20000
def rangeI (lo hi : Int) : List Int := (List.range (hi - lo + 1).toNat).map fun (k : Nat) => lo + k
def allStep (out : List (List Int)) (v : Vr) : List (List Int) := out.flatMap fun vals => (rangeI v.low v.high).map fun n => vals ++ [n]
/-- All values of variables, in order. -/
def allV (l : List Vr) : List (List Int) := l.foldl allStep [[]]
end Go.AI


/- Boxes, as plain data: containing, growing, covers. -/
namespace Go.AI
set_option maxRecDepth 20000
structure Bx where
  low : List Int
  high : List Int
def contB : List Int → List Int → List Int → Bool
  | v :: vs, l :: ls, h :: hs => !(decide (v < l) || decide (v > h)) && contB vs ls hs
  | _, _, _ => true
def Bx.has (b : Bx) (v : List Int) : Bool := contB v b.low b.high
def inBs (l : List Bx) (v : List Int) : Bool := l.any fun b => b.has v
def freeR (refused : List (List Int)) (b : Bx) : Bool := !refused.any b.has
/-! What a cover is. -/
/-- A box within another one. -/
def Bx.sub (a b : Bx) : Prop := a.low.length = b.low.length ∧ a.high.length = b.high.length ∧ (∀ i, b.low.getD i 0 ≤ a.low.getD i 0) ∧ ∀ i, a.high.getD i 0 ≤ b.high.getD i 0
theorem contB_mono : ∀ {v l h l' h' : List Int}, l.length = l'.length → h.length = h'.length → (∀ i, l'.getD i 0 ≤ l.getD i 0) → (∀ i, h.getD i 0 ≤ h'.getD i 0) → contB v l h = true → contB v l' h' = true
  | [], l, h, l', h', _, _, _, _, _ => by cases l' <;> cases h' <;> rfl
  | v :: vs, [], h, [], h', _, _, _, _, _ => by cases h' <;> rfl
  | v :: vs, [], h, _ :: _, h', e, _, _, _, _ => by cases e
  | v :: vs, _ :: _, h, [], h', e, _, _, _, _ => by cases e
  | v :: vs, l :: ls, [], l' :: ls', [], _, _, _, _, _ => rfl
  | v :: vs, l :: ls, [], l' :: ls', _ :: _, _, e, _, _, _ => by cases e
  | v :: vs, l :: ls, _ :: _, l' :: ls', [], _, e, _, _, _ => by cases e
  | v :: vs, l :: ls, h :: hs, l' :: ls', h' :: hs', e1, e2, e3, e4, g => by
    simp only [contB, Bool.and_eq_true, Bool.not_eq_true', Bool.or_eq_false_iff, decide_eq_false_iff_not] at g ⊢
    have a1 := e3 0
    have a2 := e4 0
    simp only [List.getD_cons_zero] at a1 a2
    refine ⟨⟨by omega, by omega⟩, contB_mono (by simpa using e1) (by simpa using e2) (fun i => by simpa using e3 (i + 1)) (fun i => by simpa using e4 (i + 1)) g.2⟩
theorem Bx.sub.has {a b : Bx} (h : a.sub b) {v : List Int} (g : a.has v = true) : b.has v = true := contB_mono h.1 h.2.1 h.2.2.1 h.2.2.2 g
/-- What all boxes of a list are. -/
structure CovOk (n : Nat) (refused : List (List Int)) (l : List Bx) : Prop where
  low : ∀ b ∈ l, b.low.length = n
  high : ∀ b ∈ l, b.high.length = n
  free : ∀ b ∈ l, freeR refused b = true
end Go.AI


/- Guards of boxes, as plain data: literals, joins, what they evaluate to. -/
namespace Go.AI
set_option maxRecDepth 20000
structure Lit where
  var : Nat
  lo : Int
  hi : Int
  fr : Bool
  to : Bool
/-- Values of variables. -/
def inV : List Vr → List Int → Prop
  | [], [] => True
  | v :: r, x :: xs => (v.low ≤ x ∧ x ≤ v.high) ∧ inV r xs
  | _, _ => False
end Go.AI
