/- The layer of abstract runs, part 38. -/
import Derived.Test.YtonnakcgopcfnaaDoorPlumZK
import Derived.WideKeyArgs
import Derived.Lib.SmallJoins
import Derived.Deep.Slices
set_option linter.unusedSimpArgs false
set_option linter.unusedVariables false
set_option linter.all false

namespace Go.AI
open Go.Proofs
set_option maxRecDepth 20000
abbrev r8I (p : Int × Int) : List I := [.v (.int .i8 p.1), .v (.int .i8 p.2)]
abbrev r8s (l : List (Int × Int)) : D := .i (.sl 2 l.length (l.map r8I))
abbrev ovrs (l : List Vr) : Ob := .arr 61 4 l.length (l.map vrI) true
def nameR (i : Nat) : ByteArray := ⟨#[120]⟩ ++ bytesOf [IntKind.u8.wrap (48 + IntKind.u8.wrap (i : Int))]
/-- A variable that two small numbers describe. -/
def rngV (i : Nat) (p : Int × Int) : Vr := ⟨nameR i, p.1.tmod 5, p.1.tmod 5 + p.2 % 256 % 4, p.1.tmod 5 + p.2 % 256 / 4 % (p.2 % 256 % 4 + 1)⟩
def rngsR (l : List (Int × Int)) : List Vr := (List.range (min l.length 3)).map fun i => rngV i (l.getD i (0, 0))
def pairOk (p : Int × Int) : Prop := -128 ≤ p.1 ∧ p.1 ≤ 127 ∧ -128 ≤ p.2 ∧ p.2 ≤ 127
theorem ovrs_app (l : List Vr) (v : Vr) : Ob.arr 61 4 (l.length + 1) (l.map vrI ++ [vrI v]) true = ovrs (l ++ [v]) := by simp
theorem nameR_size (i : Nat) : (nameR i).size = 2 := by
  unfold nameR bytesOf
  simp only [List.foldl_cons, List.foldl_nil]
  rw [ByteArray.size_append, ByteArray.size_push]
  rfl
theorem wu8 (n : Int) : IntKind.u8.wrap n = n % 256 := by
  unfold IntKind.wrap
  simp [IntKind.bits, IntKind.signed]
theorem ranges45 (O : List Heap) (l : List (Int × Int)) (hl : l.length ≤ max63) (hp : ∀ p ∈ l, pairOk p) : ASpec Tryd.prog 16 [r8s l] O (vrs (rngsR l)) [] O := by
  refine aspec_stop [7] Tk Tryd.func16 rfl Tryd.call16 Tryd.ntmps16 (Nat.le_of_ble_eq_true rfl) fun E => ?_
  refine g_run Tk Tryd.func16 ?_
  refine g_loop ?_
  refine rch_wk (wk_nil 3 58 61 4 rfl rfl rfl) ?_
  refine rch_loop2 (fun i : Nat => [(0, r8s l), (3, .osl 0 58), (4, ii i)]) (fun i => [(58, ovrs ((List.range i).map fun i => rngV i (l.getD i (0, 0))))]) (fun _ => O) 60
    (fun i => i ≤ min l.length 3) (fun i => min l.length 3 - i) 0 (Nat.zero_le _) ⟨rfl, rfl, rfl, trivial⟩ rfl ⟨rfl, trivial⟩ rfl rfl ?_
  rintro i hi ih
  have hend : i = min l.length 3 → vrs (rngsR l) = vrs ((List.range i).map fun i => rngV i (l.getD i (0, 0))) := fun e => by rw [e]; rfl
  have hsucc : (List.range (i + 1)).map (fun i => rngV i (l.getD i (0, 0))) = (List.range i).map (fun i => rngV i (l.getD i (0, 0))) ++ [rngV i (l.getD i (0, 0))] := by rw [List.range_succ, List.map_append]; rfl
  have hlen : ((List.range i).map fun i => rngV i (l.getD i (0, 0))).length = i := by simp
  generalize rngsR l = R at *
  generalize (List.range i).map (fun i => rngV i (l.getD i (0, 0))) = acc at *
  refine g_run Tk Tryd.func16 ?_
  first | refine g_cnd Tk Tryd.func16 rfl (fun h1 => ?_) (fun h1 => ?_) | refine g_know Tk Tryd.func16 rfl (fun h1 => ?_) (fun h1 => ?_) | refine s_know Tk (fun h1 => ?_) (fun h1 => ?_)
  · have h1 : i < l.length := by have := of_decide_eq_true h1; omega
    first | refine g_cnd Tk Tryd.func16 rfl (fun h2 => ?_) (fun h2 => ?_) | refine g_know Tk Tryd.func16 rfl (fun h2 => ?_) (fun h2 => ?_) | refine s_know Tk (fun h2 => ?_) (fun h2 => ?_)
    · have h2 : i < 3 := by have := of_decide_eq_true h2; omega
      have hgd : l.getD i (0, 0) = l[i] := by simp [h1]
      have hm := List.getElem_mem h1
      have hg : (l.map r8I)[(i : Int).toNat]? = some (r8I l[i]) := get_mapZ h1
      rw [hgd] at hsucc
      generalize l[i] = p at *
      obtain ⟨a, b⟩ := p
      obtain ⟨ha0, ha1, hb0, hb1⟩ := hp _ hm
      simp only at ha0 ha1 hb0 hb1
      have hlo : IntKind.i64.wrap (a.tmod 5) = a.tmod 5 := by
        have := Int.tmod_lt_of_pos a (show (0 : Int) < 5 by decide)
        have := Int.lt_tmod_of_pos a (show (0 : Int) < 5 by decide)
        rw [w64 (by omega) (by omega)]
      have hwd : IntKind.i64.wrap ((IntKind.u8.wrap b).tmod 4) = b % 256 % 4 := by
        rw [wu8, Int.tmod_eq_emod_of_nonneg (by omega), w64 (by omega) (by omega)]
      first | refine g_need Tk Tryd.func16 (by exact ⟨by omega, by show (i : Int) < (l.length : Int); omega⟩) ?_ | refine s_need Tk (by exact ⟨by omega, by show (i : Int) < (l.length : Int); omega⟩) ?_
      first | refine g_need Tk Tryd.func16 (by decide) ?_ | refine s_need Tk (by decide) ?_
      first | refine g_elem Tk Tryd.func16 (hg) ?_ | refine s_elem Tk (hg) ?_
      first | refine g_need Tk Tryd.func16 (by decide) ?_ | refine s_need Tk (by decide) ?_
      first | refine g_need Tk Tryd.func16 (by exact ⟨by omega, by show (i : Int) < (l.length : Int); omega⟩) ?_ | refine s_need Tk (by exact ⟨by omega, by show (i : Int) < (l.length : Int); omega⟩) ?_
      first | refine g_need Tk Tryd.func16 (by decide) ?_ | refine s_need Tk (by decide) ?_
      first | refine g_elem Tk Tryd.func16 (hg) ?_ | refine s_elem Tk (hg) ?_
      first | refine g_need Tk Tryd.func16 (by decide) ?_ | refine s_need Tk (by decide) ?_
      refine g_stop ?_
      refine rch_meet (l := [(0, r8s l), (3, .osl 0 58), (4, ii i), (5, ii (a.tmod 5)), (6, ii (b % 256 % 4))]) (Hv := [(58, ovrs acc)]) (n := 60) ?_ ⟨rfl, rfl, rfl, congrArg ii hlo, congrArg ii hwd, trivial⟩ rfl ⟨rfl, trivial⟩ rfl rfl
      refine g_run Tk Tryd.func16 ?_
      refine g_go Tk Tryd.func16 ?_
      refine g_drawn Tk Tryd.func16 mixedT rfl ?_
      have hsz := nameR_size i
      unfold nameR at hsz
      rw [ByteArray.size_append] at hsz
      have hw1 : IntKind.i64.wrap (b % 256 % 4 + 1) = b % 256 % 4 + 1 := w64 (by omega) (by omega)
      have hq : IntKind.i64.wrap (IntKind.u8.wrap ((IntKind.u8.wrap b).tdiv 4)) = b % 256 / 4 := by
        rw [wu8, wu8, Int.tdiv_eq_ediv_of_nonneg (by omega), w64 (by omega) (by omega)]
        omega
      have hmod := Int.emod_nonneg (b % 256 / 4) (show b % 256 % 4 + 1 ≠ 0 by omega)
      have hmod2 := Int.emod_lt_of_pos (b % 256 / 4) (show 0 < b % 256 % 4 + 1 by omega)
      have hl5 := Int.tmod_lt_of_pos a (show (0 : Int) < 5 by decide)
      have hg5 := Int.lt_tmod_of_pos a (show (0 : Int) < 5 by decide)
      first | refine g_need Tk Tryd.func16 (by omega) ?_ | refine s_need Tk (by omega) ?_
      first | refine g_need Tk Tryd.func16 (by exact ⟨by omega, by show (i : Int) < (l.length : Int); omega⟩) ?_ | refine s_need Tk (by exact ⟨by omega, by show (i : Int) < (l.length : Int); omega⟩) ?_
      first | refine g_need Tk Tryd.func16 (by decide) ?_ | refine s_need Tk (by decide) ?_
      first | refine g_elem Tk Tryd.func16 (hg) ?_ | refine s_elem Tk (hg) ?_
      first | refine g_need Tk Tryd.func16 (by decide) ?_ | refine s_need Tk (by decide) ?_
      first | refine g_need Tk Tryd.func16 (by rw [hw1]; omega) ?_ | refine s_need Tk (by rw [hw1]; omega) ?_
      have hin : (b % 256 / 4).tmod (b % 256 % 4 + 1) = (b % 256 / 4) % (b % 256 % 4 + 1) := Int.tmod_eq_emod_of_nonneg (by omega)
      refine e_tail Tk Tryd.func16 ([26, 27]) (by kernel_rfl) (by kernel_rfl) ?_
      first | refine g_need Tk Tryd.func16 (by exact ⟨by show (acc.length + 1) * 40 ≤ 140737488355328; omega, by show acc.length + 1 ≤ 9223372036854775807; omega⟩) ?_ | refine s_need Tk (by exact ⟨by show (acc.length + 1) * 40 ≤ 140737488355328; omega, by show acc.length + 1 ≤ 9223372036854775807; omega⟩) ?_
      refine g_loop ?_
      refine ih (i + 1) _ _ (by omega) (by omega) ⟨rfl, rfl, congrArg ii (wsucc h1 hl), trivial⟩ rfl ⟨?_, trivial⟩ rfl rfl
      rw [hsucc, ← ovrs_app]
      show some (Ob.arr 61 4 (acc.length + 1) (acc.map vrI ++ [[.v (.string (⟨#[120]⟩ ++ bytesOf [IntKind.u8.wrap (48 + IntKind.u8.wrap (i : Int))])), vi (a.tmod 5), vi _, vi _]]) true) = _
      rw [hw1, hq, hin, w64 (by omega) (by omega), w64 (by omega) (by omega)]
      rfl
    · have h2 : ¬ i < 3 := by have := of_decide_eq_false h2; omega
      have := hend (by omega)
      refine g_rwk (wk_freeze 58 rfl rfl) ?_
      refine g_ret Tk (r := vrs acc) rfl rfl rfl trivial rfl rfl ?_
      exact this.symm
  · have h1 : ¬ i < l.length := by have := of_decide_eq_false h1; omega
    have := hend (by omega)
    repeat (first | refine g_cnd Tk Tryd.func16 rfl (fun _ => ?_) (fun h => absurd h (by decide)) | refine g_cnd Tk Tryd.func16 rfl (fun h => absurd h (by decide)) (fun _ => ?_) | refine g_know Tk Tryd.func16 rfl (fun _ => ?_) (fun h => absurd h (by decide)) | refine g_know Tk Tryd.func16 rfl (fun h => absurd h (by decide)) (fun _ => ?_) | refine s_know Tk (fun _ => ?_) (fun h => absurd h (by decide)) | refine s_know Tk (fun h => absurd h (by decide)) (fun _ => ?_))
    refine g_rwk (wk_freeze 58 rfl rfl) ?_
    refine g_ret Tk (r := vrs acc) rfl rfl rfl trivial rfl rfl ?_
    exact this.symm
end Go.AI


namespace Go.AI
open Go.Proofs
set_option maxRecDepth 20000
/-- A line of a sketch, and a sketch. -/
structure Lin where
  a0 : Int
  a1 : Int
  a2 : Int
  g : List Int
  u : List Int
structure Sk where
  locs : Int
  marks : Int
  rngs : List (Int × Int)
  lines : List Lin
structure linOk (x : Lin) : Prop where
  a0 : 0 ≤ x.a0 ∧ x.a0 ≤ 255
  a1 : 0 ≤ x.a1 ∧ x.a1 ≤ 255
  a2 : 0 ≤ x.a2 ∧ x.a2 ≤ 255
  g : byteOk x.g
  gl : x.g.length ≤ max63
  u : byteOk x.u
  ul : x.u.length ≤ max63
structure skOk (k : Sk) : Prop where
  locs : 0 ≤ k.locs ∧ k.locs ≤ 255
  marks : 0 ≤ k.marks ∧ k.marks ≤ 255
  rl : k.rngs.length ≤ max63
  r : ∀ p ∈ k.rngs, pairOk p
  ll : k.lines.length ≤ max63
  l : ∀ x ∈ k.lines, linOk x
theorem rngsR_len (l : List (Int × Int)) : (rngsR l).length = min l.length 3 := by simp [rngsR]
end Go.AI


/- Arguments: slices and structs of them, opened to data, and read again behind the call. -/
namespace Go.Proofs.YtonnakcgopcfnaaDoor
open Go.ChangeShapes Go.WideShapes Go.ChangeAt Go.RowKit Go.Deep Go.WideElems
set_option maxRecDepth 100000
/-- All that memory holds. -/
def KW (W : World) : AI.Kn := fun b o => W.cell? ⟨b, o, none⟩
theorem KW_ok (W : World) : ∀ bl o x, KW W bl o = some x → W.cell? ⟨bl, o, none⟩ = some x := fun _ _ _ h => h
section
variable {H : Type} {enc : TypeId × Value → H} {P : Program} {W : World}
/-- What is read of a type is data of a kind. -/
def Opn (enc : TypeId × Value → H) (P : Program) (W : World) (t : TypeId) (R : List AI.I → Prop) : Prop :=
  ∀ n cs x, DataW.trod enc P W 0 (fun _ => true) true n t cs = some x → ∃ is, AI.RepL (KW W) cs is ∧ R is
theorem repL_app {K : AI.Kn} {a b : List Value} {c d : List AI.I} (h : AI.RepL K a c) (h' : AI.RepL K b d) : AI.RepL K (a ++ b) (c ++ d) := h.append h'
theorem opn_int {t : TypeId} {k : IntKind} (ht : P.underlying t = some (.int k)) : Opn enc P W t fun is => ∃ z, is = [.v (.int k z)] ∧ (Lit.int k z).wf = true := by
  intro n cs x h
  obtain ⟨z, rfl, rfl, hw⟩ := DataW.trod_int ht h
  exact ⟨[.v (.int k z)], .cons (.v rfl) .nil, z, rfl, hw⟩
theorem ints_rep {K : AI.Kn} {k : IntKind} : ∀ {cs : List Value}, (∀ i, i < cs.length → ∃ z, cs[i]? = some (.int k z) ∧ (Lit.int k z).wf = true) → ∃ zs : List Int, zs.length = cs.length ∧ AI.RepL K cs (zs.map fun z => .v (.int k z)) ∧ ∀ z ∈ zs, (Lit.int k z).wf = true
  | [], _ => ⟨[], rfl, .nil, by simp⟩
  | c :: cs, h => by
    obtain ⟨z, hz, hw⟩ := h 0 (by simp)
    simp only [List.getElem?_cons_zero, Option.some.injEq] at hz
    subst hz
    obtain ⟨zs, h1, h2, h3⟩ := ints_rep (cs := cs) fun i hi => by
      have := h (i + 1) (by simp; omega)
      simpa using this
    exact ⟨z :: zs, by simp [h1], .cons (.v rfl) h2, fun y hy => by
      rcases List.mem_cons.1 hy with rfl | hy
      · exact hw
      · exact h3 y hy⟩
theorem opn_array {t e : TypeId} {k : IntKind} {m : Nat} (ht : P.underlying t = some (.array m e)) (he : P.underlying e = some (.int k)) (hc : P.cellsOf e = 1) (hct : P.cellsOf t = m) :
    Opn enc P W t fun is => ∃ zs : List Int, zs.length = m ∧ is = zs.map (fun z => .v (.int k z)) ∧ ∀ z ∈ zs, (Lit.int k z).wf = true := by
  intro n cs x h
  obtain ⟨xs, f, rfl, rfl, hl, hlen, hx⟩ := DataW.trod_array ht h
  rw [hct] at hl
  obtain ⟨zs, h1, h2, h3⟩ := ints_rep (K := KW W) (k := k) (cs := cs) fun i hi => by
    have h0 := hx i (by omega)
    rw [hc, Nat.mul_one, List.getElem?_eq_getElem (by omega)] at h0
    obtain ⟨z, hz, _, hw⟩ := DataW.trod_int he h0
    refine ⟨z, ?_, hw⟩
    have := congrArg (fun l => l[0]?) hz
    simpa [List.getElem?_take, List.getElem?_drop] using this
  exact ⟨_, h2, zs, by omega, rfl, h3⟩
/-- A slice. -/
theorem opn_slice {t e : TypeId} {z : Nat} {R : List AI.I → Prop} (ht : P.underlying t = some (.slice e)) (hc : P.cellsOf e = z) (hz : 0 < z) (he : Opn enc P W e R) :
    Opn enc P W t fun is => ∃ xs : List (List AI.I), is = [.sl z xs.length xs] ∧ (∀ d ∈ xs, R d) ∧ xs.length ≤ maxLen := by
  intro n cs x h
  rcases open_slice ht h with ⟨rfl, _⟩ | ⟨a, len, cap, m, f, D, Pl, rfl, _, hle, hm, hmm, _, hx⟩
  · exact ⟨[.sl z 0 []], .cons .nil .nil, [], rfl, by simp, Nat.zero_le _⟩
  · simp only [if_true] at hmm
    subst hmm
    rw [hc] at hx
    by_cases h0 : m = 0
    · subst h0
      obtain rfl : len = 0 := by omega
      exact ⟨[.sl z 0 []], .cons .nil .nil, [], rfl, by simp, Nat.zero_le _⟩
    · have hspot : a.spot = none := by
        obtain ⟨cs', h1, _⟩ := hx 0 (by omega)
        obtain ⟨_, hl, hcell⟩ := World.cells?_some h1
        have := hcell 0 hz
        rw [Nat.zero_mul] at this
        have ha : (a.add 0).add 0 = a := by simp [Addr.add]
        rw [ha, List.getElem?_eq_getElem (by omega)] at this
        unfold World.cell? at this
        cases hsp : a.spot with
        | none => rfl
        | some s =>
          rw [hsp] at this
          split at this <;> simp at this
      obtain ⟨bl, o, sp⟩ := a
      simp only at hspot
      subst hspot
      have build : ∀ k, k ≤ len → ∃ (xs : List (List AI.I)) (vs : List Value), xs.length = k ∧ vs.length = k * z ∧ AI.RepL (KW W) vs xs.flatten ∧ (∀ d ∈ xs, R d) ∧ (∀ d ∈ xs, d.length = z) ∧ ∀ j c, vs[j]? = some c → KW W bl (o + j) = some c := by
        intro k
        induction k with
        | zero => intro _; exact ⟨[], [], rfl, by simp, .nil, by simp, by simp, by simp⟩
        | succ k ih =>
          intro hk
          obtain ⟨xs, vs, h1, h2, h3, h4, h5, h6⟩ := ih (by omega)
          obtain ⟨cs', hc1, hc2⟩ := hx k (by omega)
          obtain ⟨_, hl, hcell⟩ := World.cells?_some hc1
          obtain ⟨is, hr, hR⟩ := he f cs' _ hc2
          refine ⟨xs ++ [is], vs ++ cs', by simp [h1], by simp [h2, hl, Nat.add_mul], ?_, ?_, ?_, ?_⟩
          · rw [List.flatten_append]
            simpa using repL_app h3 hr
          · intro d hd
            rcases List.mem_append.1 hd with h | h
            · exact h4 d h
            · simp only [List.mem_singleton] at h
              subst h
              exact hR
          · intro d hd
            rcases List.mem_append.1 hd with h | h
            · exact h5 d h
            · simp only [List.mem_singleton] at h
              subst h
              rw [← hr.length, hl]
          · intro j c hj
            rw [List.getElem?_append] at hj
            split at hj
            · exact h6 j c hj
            · rename_i hge
              have hlt : j - vs.length < cs'.length := (List.getElem?_eq_some_iff.1 hj).1
              have := hcell (j - vs.length) (by omega)
              rw [hj] at this
              unfold KW
              rw [← this]
              have e : ((⟨bl, o, none⟩ : Addr).add (k * z)).add (j - vs.length) = ⟨bl, o + j, none⟩ := by
                have e1 : (⟨bl, o, none⟩ : Addr).add (k * z) = ⟨bl, o + k * z, none⟩ := by unfold Addr.add; split <;> simp_all
                rw [e1]
                unfold Addr.add
                split
                · simp <;> omega
                · simp <;> omega
              rw [e]
      obtain ⟨xs, vs, h1, h2, h3, h4, h5, h6⟩ := build len (Nat.le_refl _)
      refine ⟨[.sl z xs.length xs], .cons ?_ .nil, xs, rfl, h4, by omega⟩
      rw [h1]
      exact .sl h3 h5 h6 hle h1
theorem opn_struct2 {t : TypeId} {f0 f1 : Field} {R0 R1 : List AI.I → Prop} {z0 z1 : Nat} (ht : P.underlying t = some (.struct #[f0, f1])) (hc : P.cellsOf t = z0 + z1)
    (c0 : P.cellsOf f0.type = z0) (c1 : P.cellsOf f1.type = z1) (o0 : f0.offset = 0) (o1 : f1.offset = z0)
    (h0 : Opn enc P W f0.type R0) (h1 : Opn enc P W f1.type R1) : Opn enc P W t fun is => ∃ a b, is = a ++ b ∧ R0 a ∧ R1 b := by
  intro n cs x h
  obtain ⟨y0, y1, m, _, hl, g0, g1⟩ := trod_struct2 ht h
  obtain ⟨a, ra, ha⟩ := h0 _ _ _ g0
  obtain ⟨b, rb, hb⟩ := h1 _ _ _ g1
  refine ⟨a ++ b, ?_, a, b, rfl, ha, hb⟩
  have e : cs = (cs.drop f0.offset).take (P.cellsOf f0.type) ++ (cs.drop f1.offset).take (P.cellsOf f1.type) := by
    rw [c0, c1, o0, o1, List.drop_zero]
    have e1 : (cs.drop z0).take z1 = cs.drop z0 := List.take_of_length_le (by simp; omega)
    rw [e1, List.take_append_drop]
  rw [e]
  exact repL_app ra rb
/-- Read again behind the call. -/
theorem args_again {t : TypeId} (hl : laidOutB P = true) (hr : P.readableRec t = true) (hrow : decide (t < P.types.size) = true) {W' : World} {v : Value} {d : DataW H} {ps : List MemPlace}
    (h : DataW.Trod enc P W 0 (fun _ => true) true t v d ps) (hold : ∀ i, i < W.heap.size → W'.heap[i]? = W.heap[i]?) : DataW.Trod enc P W' 0 (fun b => decide (b < W.heap.size)) true t v d ps := by
  have hlt : ∀ p ∈ ps, p.block < W.heap.size := by
    obtain ⟨n, hn⟩ := h
    exact DataW.trod_lt n t _ _ hn
  refine Trod_stays hl hr (of_decide_eq_true hrow) h (fun p hp => ?_) (fun p hp => decide_eq_true (hlt p hp))
  have hb := hlt p hp
  cases p with
  | cell b off =>
    show W'.cell? ⟨b, off, none⟩ = W.cell? ⟨b, off, none⟩
    unfold World.cell?
    rw [hold b hb]
  | map b => exact hold b hb
end
end Go.Proofs.YtonnakcgopcfnaaDoor


/- The arguments of the statements about sketched automata: data. -/
namespace Go.Proofs.YtonnakcgopcfnaaDoor
open Go.ChangeShapes Go.WideShapes Go.ChangeAt Go.RowKit Go.Deep Go.WideElems
set_option maxRecDepth 100000
section
variable {H : Type} {enc : TypeId × Value → H} {W : World}
theorem list_of {α β : Type} {f : α → β} {Q : α → Prop} : ∀ {xs : List β}, (∀ d ∈ xs, ∃ a, d = f a ∧ Q a) → ∃ l : List α, xs = l.map f ∧ ∀ a ∈ l, Q a
  | [], _ => ⟨[], rfl, by simp⟩
  | d :: xs, h => by
    obtain ⟨a, ha, hq⟩ := h d (by simp)
    obtain ⟨l, hl, hql⟩ := list_of (xs := xs) fun e he => h e (by simp [he])
    refine ⟨a :: l, by rw [ha, hl]; rfl, fun b hb => ?_⟩
    rcases List.mem_cons.1 hb with rfl | hb
    · exact hq
    · exact hql b hb
theorem wf_u8 {z : Int} (h : (Lit.int .u8 z).wf = true) : 0 ≤ z ∧ z ≤ 255 := by
  simp only [Lit.wf, Bool.and_eq_true, decide_eq_true_eq] at h
  have e1 : IntKind.u8.min = 0 := rfl
  have e2 : IntKind.u8.max = 255 := rfl
  rw [e1, e2] at h
  exact h
theorem wf_i8 {z : Int} (h : (Lit.int .i8 z).wf = true) : -128 ≤ z ∧ z ≤ 127 := by
  simp only [Lit.wf, Bool.and_eq_true, decide_eq_true_eq] at h
  have e1 : IntKind.i8.min = -128 := rfl
  have e2 : IntKind.i8.max = 127 := rfl
  rw [e1, e2] at h
  exact h
theorem maxLen63 {n : Nat} (h : n ≤ maxLen) : n ≤ AI.max63 := by
  simp only [maxLen] at h
  simp only [AI.max63]
  omega
theorem opn_byts : Opn enc Tryd.prog W 38 fun is => ∃ l : List Int, is = [.sl 1 l.length (l.map AI.u8I)] ∧ AI.byteOk l ∧ l.length ≤ AI.max63 := by
  intro n cs x h
  obtain ⟨is, hr, xs, rfl, hx, hl⟩ := opn_slice Tryd.underlying38 (z := 1) (by kernel_rfl) (by decide) (opn_int Tryd.underlying5) n cs x h
  obtain ⟨l, rfl, hq⟩ := list_of (f := AI.u8I) (Q := fun z => 0 ≤ z ∧ z ≤ 255) (xs := xs) fun d hd => by
    obtain ⟨z, hz, hw⟩ := hx d hd
    exact ⟨z, hz, wf_u8 hw⟩
  refine ⟨_, hr, l, by simp, hq, maxLen63 (by simpa using hl)⟩
theorem opn_pairs : Opn enc Tryd.prog W 22 fun is => ∃ l : List (Int × Int), is = [.sl 2 l.length (l.map AI.r8I)] ∧ (∀ x ∈ l, AI.pairOk x) ∧ l.length ≤ AI.max63 := by
  intro n cs x h
  obtain ⟨is, hr, xs, rfl, hx, hl⟩ := opn_slice Tryd.underlying22 (z := 2) (by kernel_rfl) (by decide) (opn_array Tryd.underlying144 Tryd.underlying143 (by kernel_rfl) (by kernel_rfl)) n cs x h
  obtain ⟨l, rfl, hq⟩ := list_of (f := AI.r8I) (Q := AI.pairOk) (xs := xs) fun d hd => by
    obtain ⟨zs, hz, he, hw⟩ := hx d hd
    match zs, hz with
    | [p, q], _ => exact ⟨(p, q), he, (wf_i8 (hw p (by simp))).1, (wf_i8 (hw p (by simp))).2, (wf_i8 (hw q (by simp))).1, (wf_i8 (hw q (by simp))).2⟩
  refine ⟨_, hr, l, by simp, hq, maxLen63 (by simpa using hl)⟩
end
end Go.Proofs.YtonnakcgopcfnaaDoor


namespace Go.AI
open Go.Proofs
set_option maxRecDepth 20000
instance staDec : DecidableEq Sta := fun a b => decidable_of_iff (a.loc = b.loc ∧ a.vals = b.vals) ⟨fun ⟨h1, h2⟩ => by cases a; cases b; cases h1; cases h2; rfl, fun h => by subst h; exact ⟨rfl, rfl⟩⟩
end Go.AI


namespace Go.AI
open Go.Proofs
set_option maxRecDepth 20000
end Go.AI


namespace Go.AI
open Go.Proofs
set_option maxRecDepth 20000
end Go.AI


namespace Go.AI
open Go.Proofs
set_option maxRecDepth 20000
end Go.AI


namespace Go.AI
open Go.Proofs
set_option maxRecDepth 20000
end Go.AI


namespace Go.AI
open Go.Proofs
set_option maxRecDepth 20000
mutual
def esz : Ex → Nat
  | .mk _ _ _ args => 1 + eszs args
def eszs : List Ex → Nat
  | [] => 0
  | e :: r => esz e + eszs r
end
mutual
def edep : Ex → Nat
  | .mk _ _ _ args => 1 + edeps args
def edeps : List Ex → Nat
  | [] => 0
  | e :: r => max (edep e) (edeps r)
end
mutual
theorem formR_of : ∀ (x : Ex) (n : Int) (lvl c : Nat), wfE n x → c + esz x ≤ 64 → lvl + edep x ≤ 9 → formR x n lvl c = (0, ((c + esz x : Nat) : Int))
  | .mk op v ix args, n, lvl, c, hw, hc, hl => by
    simp only [esz] at hc ⊢
    simp only [edep] at hl
    simp only [wfE] at hw
    simp only [formR]
    rw [if_neg (by omega), if_neg (by rw [hw.1]; simp)]
    have := formRs_of args n (lvl + 1) (c + 1) hw.2 (by omega) (by omega)
    rw [show ((lvl : Int) + 1) = ((lvl + 1 : Nat) : Int) by omega, show ((c : Int) + 1) = ((c + 1 : Nat) : Int) by omega, this]
    rw [show c + (1 + eszs args) = c + 1 + eszs args by omega]
theorem formRs_of : ∀ (l : List Ex) (n : Int) (lvl c : Nat), wfEs n l → c + eszs l ≤ 64 → lvl + edeps l ≤ 9 → formRs l n lvl c = (0, ((c + eszs l : Nat) : Int))
  | [], n, lvl, c, _, _, _ => rfl
  | e :: r, n, lvl, c, hw, hc, hl => by
    simp only [eszs] at hc ⊢
    simp only [edeps] at hl
    simp only [wfEs] at hw
    simp only [formRs]
    have h1 := formR_of e n lvl c hw.1 (by omega) (by omega)
    rw [h1]
    simp only [ne_eq, not_true_eq_false, if_false]
    rw [formRs_of r n lvl (c + esz e) hw.2 (by omega) (by omega)]
    rw [show c + (esz e + eszs r) = c + esz e + eszs r by omega]
end
mutual
theorem exOk_wf : ∀ (x : Ex) (n : Int), wfE n x → exOk x
  | .mk op v ix args, n, h => by
    simp only [wfE] at h
    obtain ⟨_, h2, _⟩ := formHead_zero h.1
    have := arity_le op
    exact ⟨by simp only [max63]; omega, exOks_wf args n h.2⟩
theorem exOks_wf : ∀ (l : List Ex) (n : Int), wfEs n l → exOks l
  | [], _, _ => trivial
  | e :: r, n, h => by
    simp only [wfEs] at h
    exact ⟨exOk_wf e n h.1, exOks_wf r n h.2⟩
end
theorem typed_of {x : Ex} {n k : Int} (hn : 0 ≤ n) (hn2 : n ≤ 16) (hw : wfE n x) (hs : esz x ≤ 64) (hd : edep x ≤ 8) (hk : kindR x = k) (hk0 : k ≠ 0) : typedX x n k = 0 := by
  have h1 := formR_of x n 1 0 hw (by omega) (by omega)
  have h2 : checkX x n = (k, 0) := by
    unfold checkX
    have h1' : formR x n 1 0 = (0, ((0 + esz x : Nat) : Int)) := h1
    rw [if_neg (by omega), h1']
    rw [if_neg (by simp), if_neg (by rw [hk]; exact hk0), hk]
  unfold typedX
  rw [h2, if_neg (by simp)]
theorem fh2 {op n : Int} (h : op = 2 ∨ op = 3 ∨ op = 4 ∨ op = 6 ∨ op = 7 ∨ op = 8 ∨ op = 9 ∨ op = 11 ∨ op = 12) : formHead op 0 0 2 n = 0 := by
  rcases h with rfl | rfl | rfl | rfl | rfl | rfl | rfl | rfl | rfl <;> rfl
theorem fh1 {op n : Int} (h : op = 5 ∨ op = 10) : formHead op 0 0 1 n = 0 := by
  rcases h with rfl | rfl <;> rfl
theorem fh3 {n : Int} : formHead 13 0 0 3 n = 0 := rfl
/-- What a grown expression is like. -/
structure grown (vars : Int) (lv : Nat) (t : Bool) (k : Nat) (r : Ex × List Int × Nat) : Prop where
  wf : wfE vars r.1
  kind : kindR r.1 = tyOf t
  dep : edep r.1 ≤ lv + 2
  cnt : k < r.2.2
  sz : esz r.1 + 3 * min k 12 ≤ 3 * min r.2.2 12 + (if 12 ≤ k then 3 else if r.2.2 ≤ 12 then 0 else 6 * lv + 3)
theorem tyOf_ne (t : Bool) : tyOf t ≠ 0 := by cases t <;> decide
theorem kind1 {op : Int} {a : Ex} {t : Bool} {ka : Int} (ha : kindR a = ka) (h0 : ka ≠ 0) (hk : kindOp op [ka] = tyOf t) : kindR (.mk op 0 0 [a]) = tyOf t := by
  simp only [kindR, kindRs, ha, if_neg h0, Option.map_some]
  exact hk
theorem kind2 {op : Int} {a b : Ex} {t : Bool} {ka : Int} (ha : kindR a = ka) (hb : kindR b = ka) (h0 : ka ≠ 0) (hk : kindOp op [ka, ka] = tyOf t) : kindR (.mk op 0 0 [a, b]) = tyOf t := by
  simp only [kindR, kindRs, ha, hb, if_neg h0, Option.map_some]
  exact hk
theorem kind3 {a b c : Ex} {t : Bool} (ha : kindR a = 2) (hb : kindR b = tyOf t) (hc : kindR c = tyOf t) : kindR (.mk 13 0 0 [a, b, c]) = tyOf t := by
  simp only [kindR, kindRs, ha, hb, hc, if_neg (tyOf_ne t), Option.map_some]
  cases t <;> rfl
theorem leaf_grown {vars b : Int} (hv : 0 ≤ vars) (hb : byt b) : wfE vars (leafE vars b) ∧ kindR (leafE vars b) = 1 ∧ edep (leafE vars b) = 1 ∧ esz (leafE vars b) = 1 := by
  have := hb.h0
  have := hb.h1
  unfold leafE
  split
  · rename_i h
    have h1 := Int.emod_nonneg (b / 8) (show vars ≠ 0 by omega)
    have h2 := Int.emod_lt_of_pos (b / 8) h.2
    refine ⟨⟨?_, trivial⟩, rfl, rfl, rfl⟩
    show formHead 1 0 (b / 8 % vars) 0 vars = 0
    unfold formHead
    rw [if_neg (by decide), if_neg (by decide), if_neg (by simp), if_neg (by omega)]
  · refine ⟨⟨?_, trivial⟩, rfl, rfl, rfl⟩
    show formHead 0 (b / 8 - 8) 0 0 vars = 0
    unfold formHead
    rw [if_neg (by decide), if_neg (by decide), if_neg (by simp), if_neg (by omega)]
theorem truth_grown {vars : Int} (t : Bool) : wfE vars (truthE t) ∧ kindR (truthE t) = 2 ∧ edep (truthE t) = 2 ∧ esz (truthE t) = 3 := by
  cases t
  · exact ⟨⟨rfl, ⟨rfl, trivial⟩, ⟨rfl, trivial⟩, trivial⟩, rfl, rfl, rfl⟩
  · exact ⟨⟨rfl, ⟨rfl, trivial⟩, ⟨rfl, trivial⟩, trivial⟩, rfl, rfl, rfl⟩
theorem grow_leaf {vars : Int} {lv : Nat} {bs : List Int} {k : Nat} (h : 12 ≤ k) : growR vars lv true bs k = (leafE vars (b0 bs), bs.tail, k + 1) := by
  cases lv with
  | zero => simp only [growR]
  | succ lv => simp only [growR]; rw [if_pos (by omega)]
theorem grown_of {vars : Int} (hv : 0 ≤ vars) : ∀ (lv : Nat) (t : Bool) (bs : List Int) (k : Nat), byteOk bs → grown vars lv t k (growR vars lv t bs k) := by
  intro lv
  induction lv with
  | zero =>
    intro t bs k hb
    have hby : byt (b0 bs) := ⟨(b0_ok hb).1, (b0_ok hb).2⟩
    cases t with
    | true =>
      obtain ⟨a, b, c, d⟩ := leaf_grown hv hby
      simp only [growR]
      exact ⟨a, b, by simp only; omega, by simp only; omega, by simp only; split <;> (try split) <;> omega⟩
    | false =>
      obtain ⟨a, b, c, d⟩ := truth_grown (vars := vars) (decide (b0 bs % 2 = 0))
      simp only [growR]
      exact ⟨a, b, by simp only; omega, by simp only; omega, by simp only; split <;> (try split) <;> omega⟩
  | succ lv ih =>
    intro t bs k hb
    have hby : byt (b0 bs) := ⟨(b0_ok hb).1, (b0_ok hb).2⟩
    have hbt := byteOk_tail hb
    have ok := growR_ok vars lv
    have q3 : b0 bs / 8 % 3 = 0 ∨ b0 bs / 8 % 3 = 1 ∨ b0 bs / 8 % 3 = 2 := by omega
    have q4 : b0 bs / 8 % 4 = 0 ∨ b0 bs / 8 % 4 = 1 ∨ b0 bs / 8 % 4 = 2 ∨ b0 bs / 8 % 4 = 3 := by omega
    have q2 : b0 bs / 8 % 2 = 0 ∨ b0 bs / 8 % 2 = 1 := by omega
    have one : ∀ (t2 : Bool) (op : Int), op = 5 ∨ op = 10 → k < 12 → kindOp op [tyOf t2] = tyOf t → grown vars (lv + 1) t k (.mk op 0 0 [(growR vars lv t2 bs.tail (k + 1)).1], (growR vars lv t2 bs.tail (k + 1)).2) := by
      intro t2 op hop hk hkind
      have h1 := ih t2 bs.tail (k + 1) hbt
      have hsz := h1.sz
      have hcn := h1.cnt
      have hdp := h1.dep
      refine ⟨⟨fh1 hop, h1.wf, trivial⟩, kind1 h1.kind (tyOf_ne _) hkind, ?_, by simp only; omega, ?_⟩
      · simp only [edep, edeps]; omega
      · simp only [esz, eszs]
        split at hsz <;> (try split at hsz) <;> split <;> (try split) <;> omega
    have two : ∀ (t2 : Bool) (op : Int), (op = 2 ∨ op = 3 ∨ op = 4 ∨ op = 6 ∨ op = 7 ∨ op = 8 ∨ op = 9 ∨ op = 11 ∨ op = 12) → (12 ≤ k → t2 = true) → kindOp op [tyOf t2, tyOf t2] = tyOf t → grown vars (lv + 1) t k (.mk op 0 0 [(growR vars lv t2 bs.tail (k + 1)).1, (growR vars lv t2 (growR vars lv t2 bs.tail (k + 1)).2.1 (growR vars lv t2 bs.tail (k + 1)).2.2).1], (growR vars lv t2 (growR vars lv t2 bs.tail (k + 1)).2.1 (growR vars lv t2 bs.tail (k + 1)).2.2).2) := by
      intro t2 op hop hk hkind
      have h1 := ih t2 bs.tail (k + 1) hbt
      have o1 := ok t2 bs.tail (k + 1) hbt
      have l1 : 12 ≤ k → esz (growR vars lv t2 bs.tail (k + 1)).1 = 1 := fun h => by
        rw [hk h, grow_leaf (by omega)]
        exact (leaf_grown hv ⟨(b0_ok hbt).1, (b0_ok hbt).2⟩).2.2.2
      generalize growR vars lv t2 bs.tail (k + 1) = A at *
      have hcn := h1.cnt
      have h2 := ih t2 A.2.1 A.2.2 o1.b
      have l2 : 12 ≤ k → esz (growR vars lv t2 A.2.1 A.2.2).1 = 1 := fun h => by
        rw [hk h, grow_leaf (by omega)]
        exact (leaf_grown hv ⟨(b0_ok o1.b).1, (b0_ok o1.b).2⟩).2.2.2
      generalize growR vars lv t2 A.2.1 A.2.2 = B at *
      have hsz := h1.sz
      have hdp := h1.dep
      have hsz2 := h2.sz
      have hcn2 := h2.cnt
      have hdp2 := h2.dep
      refine ⟨⟨fh2 hop, h1.wf, h2.wf, trivial⟩, kind2 h1.kind h2.kind (tyOf_ne _) hkind, ?_, by simp only; omega, ?_⟩
      · simp only [edep, edeps]; omega
      · simp only [esz, eszs]
        by_cases hk12 : 12 ≤ k
        · rw [l1 hk12, l2 hk12, if_pos hk12]
          omega
        · rw [if_neg hk12]
          split at hsz <;> (try split at hsz) <;> split at hsz2 <;> (try split at hsz2) <;> split <;> omega
    have three : ∀ (t2 : Bool), t2 = t → k < 12 → grown vars (lv + 1) t k (.mk 13 0 0 [(growR vars lv false bs.tail (k + 1)).1, (growR vars lv t2 (growR vars lv false bs.tail (k + 1)).2.1 (growR vars lv false bs.tail (k + 1)).2.2).1,
        (growR vars lv t2 (growR vars lv t2 (growR vars lv false bs.tail (k + 1)).2.1 (growR vars lv false bs.tail (k + 1)).2.2).2.1 (growR vars lv t2 (growR vars lv false bs.tail (k + 1)).2.1 (growR vars lv false bs.tail (k + 1)).2.2).2.2).1],
        (growR vars lv t2 (growR vars lv t2 (growR vars lv false bs.tail (k + 1)).2.1 (growR vars lv false bs.tail (k + 1)).2.2).2.1 (growR vars lv t2 (growR vars lv false bs.tail (k + 1)).2.1 (growR vars lv false bs.tail (k + 1)).2.2).2.2).2) := by
      intro t2 e hk12
      subst e
      have h1 := ih false bs.tail (k + 1) hbt
      have o1 := ok false bs.tail (k + 1) hbt
      generalize growR vars lv false bs.tail (k + 1) = A at *
      have h2 := ih t2 A.2.1 A.2.2 o1.b
      have o2 := ok t2 A.2.1 A.2.2 o1.b
      generalize growR vars lv t2 A.2.1 A.2.2 = B at *
      have h3 := ih t2 B.2.1 B.2.2 o2.b
      generalize growR vars lv t2 B.2.1 B.2.2 = C at *
      have hsz := h1.sz
      have hcn := h1.cnt
      have hdp := h1.dep
      have hsz2 := h2.sz
      have hcn2 := h2.cnt
      have hdp2 := h2.dep
      have hsz3 := h3.sz
      have hcn3 := h3.cnt
      have hdp3 := h3.dep
      refine ⟨⟨fh3, h1.wf, h2.wf, h3.wf, trivial⟩, kind3 h1.kind h2.kind h3.kind, ?_, by simp only; omega, ?_⟩
      · simp only [edep, edeps]; omega
      · simp only [esz, eszs]
        rw [if_neg (by omega)]
        split at hsz <;> (try split at hsz) <;> split at hsz2 <;> (try split at hsz2) <;> split at hsz3 <;> (try split at hsz3) <;> split <;> omega
    cases t with
    | true =>
      simp only [growR]
      split
      · rename_i h
        obtain ⟨a, b, c, d⟩ := leaf_grown hv hby
        exact ⟨a, b, by simp only; omega, by simp only; omega, by simp only; split <;> (try split) <;> omega⟩
      · rename_i h
        split
        · exact one true 5 (.inl rfl) (by omega) rfl
        split
        · exact three true rfl (by omega)
        · refine two true _ (by omega) (fun _ => rfl) ?_
          rcases q3 with q | q | q <;> rw [q] <;> rfl
    | false =>
      simp only [growR]
      split
      · refine two true _ (by omega) (fun _ => rfl) ?_
        rcases q4 with q | q | q | q <;> rw [q] <;> rfl
      · rename_i h
        split
        · exact one false 10 (.inr rfl) (by omega) rfl
        split
        · exact three false rfl (by omega)
        · refine two false _ (by omega) (by omega) ?_
          rcases q2 with q | q <;> rw [q] <;> rfl
theorem grow_typed {vars : Int} (hv : 0 ≤ vars) (hv2 : vars ≤ 16) (t : Bool) {bs : List Int} (hb : byteOk bs) : typedX (growE vars t bs) vars (tyOf t) = 0 ∧ exOk (growE vars t bs) := by
  have h := grown_of hv 4 t (bs.take 60) 0 fun b hm => hb b (List.mem_of_mem_take hm)
  have hs := h.sz
  have hd := h.dep
  unfold growE
  refine ⟨typed_of hv hv2 h.wf ?_ (by omega) h.kind (tyOf_ne t), exOk_wf _ _ h.wf⟩
  rw [if_neg (by omega)] at hs
  split at hs <;> omega
end Go.AI


namespace Go.AI
open Go.Proofs
set_option maxRecDepth 20000
/-- What is known of the variables of a sketch. -/
structure vrOk (v : Vr) : Prop where
  lo : -4 ≤ v.low
  hi : v.high ≤ 7
  w : v.low ≤ v.high ∧ v.high ≤ v.low + 3
  ini : v.low ≤ v.init ∧ v.init ≤ v.high
  nm : v.name.size = 2
theorem rngV_ok (i : Nat) {p : Int × Int} (hp : pairOk p) : vrOk (rngV i p) := by
  have h1 := Int.tmod_lt_of_pos p.1 (show (0 : Int) < 5 by decide)
  have h2 := Int.lt_tmod_of_pos p.1 (show (0 : Int) < 5 by decide)
  have h3 := Int.emod_nonneg (p.2 % 256 / 4) (show p.2 % 256 % 4 + 1 ≠ 0 by omega)
  have h4 := Int.emod_lt_of_pos (p.2 % 256 / 4) (show 0 < p.2 % 256 % 4 + 1 by omega)
  refine ⟨?_, ?_, ?_, ?_, nameR_size i⟩ <;> simp only [rngV] <;> omega
theorem rngsR_ok {l : List (Int × Int)} (h : ∀ p ∈ l, pairOk p) : ∀ v ∈ rngsR l, vrOk v := by
  intro v hv
  simp only [rngsR, List.mem_map, List.mem_range] at hv
  obtain ⟨i, hi, rfl⟩ := hv
  have : l.getD i (0, 0) = l[i]'(by omega) := by simp [show i < l.length by omega]
  rw [this]
  exact rngV_ok i (h _ (List.getElem_mem _))
theorem checkVr_ok {ds : List Vr} {v : Vr} (hn : isNameB v.name = true) (hd : ds.any (fun x => x.name.toList == v.name.toList) = false) (h : vrOk v) : checkVr ds v = none := by
  have := h.lo
  have := h.hi
  have := h.w
  have := h.ini
  unfold checkVr
  rw [if_neg (by rw [hn]; simp), if_neg (by rw [hd]; simp), if_neg, if_neg (by omega), if_neg (by omega)]
  simp only [checkVr.large, Bool.or_eq_true, decide_eq_true_eq]
  omega
/-- In order. -/
def leMv (x y : Mv) : Prop := ¬ (y.frm < x.frm ∨ (y.frm = x.frm ∧ y.ev < x.ev))
/-- What a move of a sketch is like. -/
structure mvGood (L n : Int) (x : Mv) : Prop where
  frm : 0 ≤ x.frm ∧ x.frm < L
  to : 0 ≤ x.to ∧ x.to < L
  ev : x.ev = 0 ∨ x.ev = 1 ∨ x.ev = 2
  g : typedX x.g n 2 = 0
  us : x.us = [] ∨ ∃ u, x.us = [u] ∧ 0 ≤ u.v ∧ u.v < n ∧ typedX u.x n 1 = 0 ∧ exOk u.x
  gok : exOk x.g
/-- What a sketched automaton is like. -/
structure made (m : Ext) : Prop where
  al : m.alpha = [0, 1, 2]
  lo : 1 ≤ m.locs ∧ m.locs ≤ 4
  ini : m.init = 0
  vl : m.vars.length ≤ 2
  v : ∀ v ∈ m.vars, vrOk v
  ml : m.moves.length ≤ 8
  mv : ∀ x ∈ m.moves, mvGood m.locs m.vars.length x
  sorted : m.moves.Pairwise leMv
  ve : varsErr m.vars = 0
  ma : checkSet m.locs m.marked none = 0
  mal : m.marked.length ≤ 4
end Go.AI


namespace Go.AI
open Go.Proofs
set_option maxRecDepth 20000
/-- Right values of a sketched automaton. -/
structure valsOk (m : Ext) (l : List Int) : Prop where
  len : l.length = m.vars.length
  w : within m.vars l = true
end Go.AI


namespace Go.AI
open Go.Proofs
set_option maxRecDepth 20000
end Go.AI


namespace Go.AI
open Go.Proofs
set_option maxRecDepth 20000
end Go.AI


namespace Go.AI
open Go.Proofs
set_option maxRecDepth 20000
end Go.AI


namespace Go.AI
open Go.Proofs
set_option maxRecDepth 20000
def rangeI (lo hi : Int) : List Int := (List.range (hi - lo + 1).toNat).map fun (k : Nat) => lo + k
def allStep (out : List (List Int)) (v : Vr) : List (List Int) := out.flatMap fun vals => (rangeI v.low v.high).map fun n => vals ++ [n]
/-- All values of variables, in order. -/
def allV (l : List Vr) : List (List Int) := l.foldl allStep [[]]
theorem allStep_vals {out : List (List Int)} {v : Vr} {n : Nat} (h : ∀ x ∈ out, x.length = n) : ∀ x ∈ allStep out v, x.length = n + 1 := by
  intro x hx
  unfold allStep at hx
  simp only [List.mem_flatMap, List.mem_map] at hx
  obtain ⟨y, hy, z, _, rfl⟩ := hx
  simp [h y hy]
abbrev ointss (l : List (List Int)) : Ob := .arr 53 1 l.length (l.map fun x => [intsI x]) true
theorem ointss_app (l : List (List Int)) (x : List Int) : Ob.arr 53 1 (l.length + 1) ((l.map fun x => [intsI x]) ++ [[intsI x]]) true = ointss (l ++ [x]) := by simp
end Go.AI


/- Boxes, as plain data: containing, growing, covers. -/
namespace Go.AI
set_option maxRecDepth 20000
structure Bx where
  low : List Int
  high : List Int
def contB : List Int → List Int → List Int → Bool
  | v :: vs, l :: ls, h :: hs => !(decide (v < l) || decide (v > h)) && contB vs ls hs
  | _, _, _ => true
def Bx.has (b : Bx) (v : List Int) : Bool := contB v b.low b.high
def inBs (l : List Bx) (v : List Int) : Bool := l.any fun b => b.has v
/-- Down, while it is free. -/
def downR (free : Bx → Bool) (i : Nat) (lo : Int) : Nat → Bx → Bx
  | 0, b => b
  | n + 1, b => if b.low.getD i 0 > lo then (if free ⟨b.low.set i (b.low.getD i 0 - 1), b.high⟩ then downR free i lo n ⟨b.low.set i (b.low.getD i 0 - 1), b.high⟩ else b) else b
def upR (free : Bx → Bool) (i : Nat) (hi : Int) : Nat → Bx → Bx
  | 0, b => b
  | n + 1, b => if b.high.getD i 0 < hi then (if free ⟨b.low, b.high.set i (b.high.getD i 0 + 1)⟩ then upR free i hi n ⟨b.low, b.high.set i (b.high.getD i 0 + 1)⟩ else b) else b
def growV (free : Bx → Bool) (i : Nat) (v : Vr) (b : Bx) : Bx :=
  upR free i v.high (v.high - (downR free i v.low (b.low.getD i 0 - v.low).toNat b).high.getD i 0).toNat (downR free i v.low (b.low.getD i 0 - v.low).toNat b)
def growVs (free : Bx → Bool) : List Vr → Nat → Bx → Bx
  | [], _, b => b
  | v :: r, i, b => growVs free r (i + 1) (growV free i v b)
def coverL (free : Bx → Bool) (vars : List Vr) : List (List Int) → List Bx → List Bx
  | [], l => l
  | v :: r, l => coverL free vars r (if inBs l v then l else l ++ [growVs free vars 0 ⟨v, v⟩])
def thin (needed : List (List Int)) : List Bx → List Bx → List Bx
  | kept, [] => kept
  | kept, b :: rest => if needed.any (fun v => b.has v && !inBs (kept ++ rest) v) then thin needed (kept ++ [b]) rest else thin needed kept rest
def freeR (refused : List (List Int)) (b : Bx) : Bool := !refused.any b.has
def coversR (vars : List Vr) (needed refused : List (List Int)) : List Bx := thin needed [] (coverL (freeR refused) vars needed [])
def neededR : List (List Int) → List Bool → List Bool → List (List Int)
  | d :: ds, t :: ts, c :: cs => if c && t then d :: neededR ds ts cs else neededR ds ts cs
  | _, _, _ => []
def refusedR : List (List Int) → List Bool → List Bool → List (List Int)
  | d :: ds, t :: ts, c :: cs => if c && !t then d :: refusedR ds ts cs else refusedR ds ts cs
  | _, _, _ => []
/-- The cover of a table. -/
def coverR (vars : List Vr) (all : List (List Int)) (t care : List Bool) : List Bx := coversR vars (neededR all t care) (refusedR all t care)

/-! What a cover is. -/
theorem inBs_app (a b : List Bx) (v : List Int) : inBs (a ++ b) v = (inBs a v || inBs b v) := by simp [inBs]
theorem inBs_cons (a : Bx) (b : List Bx) (v : List Int) : inBs (a :: b) v = (a.has v || inBs b v) := by simp [inBs]
/-- A box within another one. -/
def Bx.sub (a b : Bx) : Prop := a.low.length = b.low.length ∧ a.high.length = b.high.length ∧ (∀ i, b.low.getD i 0 ≤ a.low.getD i 0) ∧ ∀ i, a.high.getD i 0 ≤ b.high.getD i 0
theorem Bx.sub_refl (a : Bx) : a.sub a := ⟨rfl, rfl, fun _ => Int.le_refl _, fun _ => Int.le_refl _⟩
theorem Bx.sub_trans {a b c : Bx} (h : a.sub b) (g : b.sub c) : a.sub c := ⟨h.1.trans g.1, h.2.1.trans g.2.1, fun i => Int.le_trans (g.2.2.1 i) (h.2.2.1 i), fun i => Int.le_trans (h.2.2.2 i) (g.2.2.2 i)⟩
theorem contB_mono : ∀ {v l h l' h' : List Int}, l.length = l'.length → h.length = h'.length → (∀ i, l'.getD i 0 ≤ l.getD i 0) → (∀ i, h.getD i 0 ≤ h'.getD i 0) → contB v l h = true → contB v l' h' = true
  | [], l, h, l', h', _, _, _, _, _ => by cases l' <;> cases h' <;> rfl
  | v :: vs, [], h, [], h', _, _, _, _, _ => by cases h' <;> rfl
  | v :: vs, [], h, _ :: _, h', e, _, _, _, _ => by cases e
  | v :: vs, _ :: _, h, [], h', e, _, _, _, _ => by cases e
  | v :: vs, l :: ls, [], l' :: ls', [], _, _, _, _, _ => rfl
  | v :: vs, l :: ls, [], l' :: ls', _ :: _, _, e, _, _, _ => by cases e
  | v :: vs, l :: ls, _ :: _, l' :: ls', [], _, e, _, _, _ => by cases e
  | v :: vs, l :: ls, h :: hs, l' :: ls', h' :: hs', e1, e2, e3, e4, g => by
    simp only [contB, Bool.and_eq_true, Bool.not_eq_true', Bool.or_eq_false_iff, decide_eq_false_iff_not] at g ⊢
    have a1 := e3 0
    have a2 := e4 0
    simp only [List.getD_cons_zero] at a1 a2
    refine ⟨⟨by omega, by omega⟩, contB_mono (by simpa using e1) (by simpa using e2) (fun i => by simpa using e3 (i + 1)) (fun i => by simpa using e4 (i + 1)) g.2⟩
theorem Bx.sub.has {a b : Bx} (h : a.sub b) {v : List Int} (g : a.has v = true) : b.has v = true := contB_mono h.1 h.2.1 h.2.2.1 h.2.2.2 g
theorem getD_set (l : List Int) (i j : Nat) (x : Int) : (l.set i x).getD j 0 = if i = j ∧ i < l.length then x else l.getD j 0 := by
  simp only [List.getD_eq_getElem?_getD, List.getElem?_set]
  by_cases h : i = j
  · subst h
    by_cases h2 : i < l.length
    · simp [h2]
    · simp [h2, List.getElem?_eq_none (Nat.le_of_not_lt h2)]
  · simp [h]
theorem down_sub (free : Bx → Bool) (i : Nat) (lo : Int) : ∀ (n : Nat) (b : Bx), b.sub (downR free i lo n b)
  | 0, b => b.sub_refl
  | n + 1, b => by
    simp only [downR]
    split
    · split
      · refine Bx.sub_trans (b := ⟨b.low.set i (b.low.getD i 0 - 1), b.high⟩) ⟨by simp, rfl, fun j => ?_, fun _ => Int.le_refl _⟩ (down_sub free i lo n _)
        simp only [getD_set]
        split
        · rename_i h; obtain ⟨rfl, -⟩ := h; omega
        · omega
      · exact b.sub_refl
    · exact b.sub_refl
theorem up_sub (free : Bx → Bool) (i : Nat) (hi : Int) : ∀ (n : Nat) (b : Bx), b.sub (upR free i hi n b)
  | 0, b => b.sub_refl
  | n + 1, b => by
    simp only [upR]
    split
    · split
      · refine Bx.sub_trans (b := ⟨b.low, b.high.set i (b.high.getD i 0 + 1)⟩) ⟨rfl, by simp, fun _ => Int.le_refl _, fun j => ?_⟩ (up_sub free i hi n _)
        simp only [getD_set]
        split
        · rename_i h; obtain ⟨rfl, -⟩ := h; omega
        · omega
      · exact b.sub_refl
    · exact b.sub_refl
theorem growVs_sub (free : Bx → Bool) : ∀ (l : List Vr) (i : Nat) (b : Bx), b.sub (growVs free l i b)
  | [], _, b => b.sub_refl
  | v :: r, i, b => Bx.sub_trans (Bx.sub_trans (down_sub free i v.low _ b) (up_sub free i v.high _ _)) (growVs_sub free r (i + 1) _)
theorem down_free {free : Bx → Bool} {i : Nat} {lo : Int} : ∀ {n : Nat} {b : Bx}, free b = true → free (downR free i lo n b) = true
  | 0, b, h => h
  | n + 1, b, h => by
    simp only [downR]
    split
    · split
      · rename_i h2; exact down_free h2
      · exact h
    · exact h
theorem up_free {free : Bx → Bool} {i : Nat} {hi : Int} : ∀ {n : Nat} {b : Bx}, free b = true → free (upR free i hi n b) = true
  | 0, b, h => h
  | n + 1, b, h => by
    simp only [upR]
    split
    · split
      · rename_i h2; exact up_free h2
      · exact h
    · exact h
theorem growVs_free {free : Bx → Bool} : ∀ {l : List Vr} {i : Nat} {b : Bx}, free b = true → free (growVs free l i b) = true
  | [], _, _, h => h
  | v :: r, i, b, h => growVs_free (l := r) (up_free (down_free h))
theorem contB_self : ∀ (v : List Int), contB v v v = true
  | [] => rfl
  | x :: r => by simp [contB, contB_self r]
theorem contB_eq : ∀ {v w : List Int}, v.length = w.length → contB v w w = true → v = w
  | [], [], _, _ => rfl
  | x :: r, y :: s, e, h => by
    simp only [contB, Bool.and_eq_true, Bool.not_eq_true', Bool.or_eq_false_iff, decide_eq_false_iff_not] at h
    have := contB_eq (by simpa using e) h.2
    subst this
    have : x = y := by omega
    rw [this]
  | [], _ :: _, e, _ => by cases e
  | _ :: _, [], e, _ => by cases e
/-- What all boxes of a list are. -/
structure CovOk (n : Nat) (refused : List (List Int)) (l : List Bx) : Prop where
  low : ∀ b ∈ l, b.low.length = n
  high : ∀ b ∈ l, b.high.length = n
  free : ∀ b ∈ l, freeR refused b = true
theorem coverL_ok {n : Nat} {vars : List Vr} {refused : List (List Int)} : ∀ {needed : List (List Int)} {l : List Bx}, (∀ v ∈ needed, v.length = n ∧ freeR refused ⟨v, v⟩ = true) → CovOk n refused l → CovOk n refused (coverL (freeR refused) vars needed l)
  | [], l, _, h => h
  | v :: r, l, hn, h => by
    simp only [coverL]
    refine coverL_ok (fun w hw => hn w (by simp [hw])) ?_
    split
    · exact h
    · obtain ⟨h1, h2⟩ := hn v (by simp)
      have hs := growVs_sub (freeR refused) vars 0 ⟨v, v⟩
      refine ⟨fun b hb => ?_, fun b hb => ?_, fun b hb => ?_⟩ <;> rcases List.mem_append.1 hb with hb | hb
      · exact h.low b hb
      · rw [List.mem_singleton.1 hb, ← hs.1]; exact h1
      · exact h.high b hb
      · rw [List.mem_singleton.1 hb, ← hs.2.1]; exact h1
      · exact h.free b hb
      · rw [List.mem_singleton.1 hb]; exact growVs_free h2
theorem coverL_keeps (free : Bx → Bool) (vars : List Vr) : ∀ {needed : List (List Int)} {l : List Bx} {v : List Int}, inBs l v = true → inBs (coverL free vars needed l) v = true
  | [], l, v, h => h
  | w :: r, l, v, h => by
    simp only [coverL]
    refine coverL_keeps free vars ?_
    split
    · exact h
    · rw [inBs_app, h]; rfl
theorem coverL_has (free : Bx → Bool) (vars : List Vr) : ∀ {needed : List (List Int)} {l : List Bx}, ∀ v ∈ needed, inBs (coverL free vars needed l) v = true
  | w :: r, l, v, h => by
    simp only [coverL]
    rcases List.mem_cons.1 h with rfl | h
    · refine coverL_keeps free vars ?_
      split
      · assumption
      · rw [inBs_app, inBs_cons, (growVs_sub free vars 0 ⟨v, v⟩).has (contB_self v)]
        simp
    · exact coverL_has free vars v h
theorem thin_ok {n : Nat} {refused needed : List (List Int)} : ∀ {rest kept : List Bx}, CovOk n refused (kept ++ rest) → CovOk n refused (thin needed kept rest)
  | [], kept, h => by simpa [thin] using h
  | b :: rest, kept, h => by
    simp only [thin]
    split
    · exact thin_ok (kept := kept ++ [b]) (by simpa using h)
    · refine thin_ok ⟨fun c hc => h.low c ?_, fun c hc => h.high c ?_, fun c hc => h.free c ?_⟩ <;>
      · rcases List.mem_append.1 hc with hc | hc <;> simp [hc]
theorem thin_covers {needed : List (List Int)} : ∀ {rest kept : List Bx}, (∀ v ∈ needed, inBs (kept ++ rest) v = true) → ∀ v ∈ needed, inBs (thin needed kept rest) v = true
  | [], kept, h => by simpa [thin] using h
  | b :: rest, kept, h => by
    simp only [thin]
    split
    · exact thin_covers (kept := kept ++ [b]) (by simpa using h)
    · rename_i hn
      refine thin_covers fun v hv => ?_
      have h1 := h v hv
      cases h2 : inBs (kept ++ rest) v with
      | true => rfl
      | false =>
        have h3 : b.has v = true := by
          rw [inBs_app, inBs_cons] at h1
          rw [inBs_app] at h2
          simp only [Bool.or_eq_false_iff] at h2
          simpa [h2.1, h2.2] using h1
        exact absurd (List.any_eq_true.2 ⟨v, hv, by simp [h2, h3]⟩) hn
/-- Each one has an element of its own. -/
def Own1 (needed : List (List Int)) (kept rest : List Bx) : Prop := ∀ k1 b k2, kept = k1 ++ b :: k2 → ∃ v ∈ needed, b.has v = true ∧ inBs (k1 ++ k2 ++ rest) v = false
theorem thin_own {needed : List (List Int)} : ∀ {rest kept : List Bx}, Own1 needed kept rest → Own1 needed (thin needed kept rest) []
  | [], kept, h => by simpa [thin] using h
  | b :: rest, kept, h => by
    simp only [thin]
    split
    · rename_i hy
      refine thin_own fun k1 c k2 e => ?_
      rcases List.append_eq_append_iff.1 e with ⟨a, e1, e2⟩ | ⟨a, e1, e2⟩
      · cases a with
        | nil =>
          simp only [List.nil_append, List.cons.injEq] at e2
          obtain ⟨rfl, rfl⟩ := e2
          obtain ⟨v, hv, h2⟩ := List.any_eq_true.1 hy
          simp only [Bool.and_eq_true, Bool.not_eq_true'] at h2
          refine ⟨v, hv, h2.1, ?_⟩
          rw [e1]
          simpa using h2.2
        | cons x a =>
          simp at e2
      · cases a with
        | nil =>
          simp only [List.nil_append, List.cons.injEq] at e2
          obtain ⟨rfl, rfl⟩ := e2
          obtain ⟨v, hv, h2⟩ := List.any_eq_true.1 hy
          simp only [Bool.and_eq_true, Bool.not_eq_true'] at h2
          refine ⟨v, hv, h2.1, ?_⟩
          simp only [List.append_nil] at e1
          rw [← e1]
          simpa using h2.2
        | cons x a =>
          simp only [List.cons_append, List.cons.injEq] at e2
          obtain ⟨rfl, rfl⟩ := e2
          obtain ⟨v, hv, h2, h3⟩ := h k1 c a e1
          refine ⟨v, hv, h2, ?_⟩
          simp only [inBs_app, inBs_cons, Bool.or_eq_false_iff] at h3 ⊢
          exact ⟨⟨h3.1.1, h3.1.2, h3.2.1, rfl⟩, h3.2.2⟩
    · refine thin_own fun k1 c k2 e => ?_
      obtain ⟨v, hv, h2, h3⟩ := h k1 c k2 e
      refine ⟨v, hv, h2, ?_⟩
      simp only [inBs_app, inBs_cons, Bool.or_eq_false_iff] at h3 ⊢
      exact ⟨⟨h3.1.1, h3.1.2⟩, h3.2.2⟩
end Go.AI


/- Guards of boxes, as plain data: literals, joins, what they evaluate to. -/
namespace Go.AI
set_option maxRecDepth 20000
structure Lit where
  var : Nat
  lo : Int
  hi : Int
  fr : Bool
  to : Bool
def litsV (i : Nat) (v : Vr) (lo hi : Int) : List Lit :=
  if lo = v.low ∧ hi = v.high then [] else if lo = hi then [⟨i, lo, hi, true, true⟩] else
    (if lo ≠ v.low then [⟨i, lo, hi, true, false⟩] else []) ++ (if hi ≠ v.high then [⟨i, lo, hi, false, true⟩] else [])
def litsR : List Vr → Nat → List Int → List Int → List Lit
  | v :: r, i, lo :: ls, hi :: hs => litsV i v lo hi ++ litsR r (i + 1) ls hs
  | _, _, _, _ => []
def Bx.lits (b : Bx) (l : List Vr) : List Lit := litsR l 0 b.low b.high
def varE (i : Nat) : Ex := .mk 1 0 i []
def constE (n : Int) : Ex := .mk 0 n 0 []
def litX (x : Lit) : Ex := if x.fr then (if x.to then .mk 6 0 0 [varE x.var, constE x.lo] else .mk 9 0 0 [constE x.lo, varE x.var]) else .mk 9 0 0 [varE x.var, constE x.hi]
def joinF (op : Int) : Nat → List Ex → Ex
  | 0, _ => zeroE
  | _ + 1, [x] => x
  | n + 1, l => .mk op 0 0 [joinF op n (l.take (l.length / 2)), joinF op n (l.drop (l.length / 2))]
def joinR (op : Int) (l : List Ex) : Ex := joinF op l.length l
def falseE : Ex := .mk 7 0 0 [zeroE, zeroE]
def partsR (l : List Vr) (b : Bx) : List Ex := if (b.lits l).isEmpty then [trueE] else (b.lits l).map litX
def wholeR (l : List Vr) (boxes : List Bx) : Ex := if boxes.isEmpty then falseE else joinR 12 (boxes.map fun b => joinR 11 (partsR l b))
/-- The guard, or the error. -/
def joinedR (l : List Vr) (boxes : List Bx) : Ex × Int :=
  if boxes.isEmpty then (falseE, 0) else if (checkX (wholeR l boxes) l.length).2 ≠ 0 then (zeroE, (checkX (wholeR l boxes) l.length).2) else (wholeR l boxes, 0)

theorem joinF_one (op : Int) (n : Nat) (x : Ex) : joinF op (n + 1) [x] = x := rfl
theorem joinF_two (op : Int) (n : Nat) {l : List Ex} (h : 2 ≤ l.length) : joinF op (n + 1) l = .mk op 0 0 [joinF op n (l.take (l.length / 2)), joinF op n (l.drop (l.length / 2))] := by
  match l, h with
  | x :: y :: r, _ => rfl
/-- Values of variables. -/
def inV : List Vr → List Int → Prop
  | [], [] => True
  | v :: r, x :: xs => (v.low ≤ x ∧ x ≤ v.high) ∧ inV r xs
  | _, _ => False
end Go.AI


/- The domain of variables; covers, by tables. -/
namespace Go.AI
set_option maxRecDepth 20000
theorem inV_len : ∀ {l : List Vr} {v : List Int}, inV l v → v.length = l.length
  | [], [], _ => rfl
  | _ :: r, _ :: xs, h => by simp [inV_len h.2]
  | [], _ :: _, h => h.elim
  | _ :: _, [], h => h.elim
theorem inV_app : ∀ {l : List Vr} {v : List Int} {a : Vr} {n : Int}, v.length = l.length → (inV (l ++ [a]) (v ++ [n]) ↔ inV l v ∧ a.low ≤ n ∧ n ≤ a.high)
  | [], [], a, n, _ => by simp [inV]
  | b :: r, x :: xs, a, n, e => by
    have := inV_app (l := r) (v := xs) (a := a) (n := n) (by simpa using e)
    simp only [List.cons_append, inV, this]
    constructor
    · rintro ⟨h1, h2, h3⟩; exact ⟨⟨h1, h2⟩, h3⟩
    · rintro ⟨⟨h1, h2⟩, h3⟩; exact ⟨h1, h2, h3⟩
  | [], _ :: _, _, _, e => by cases e
  | _ :: _, [], _, _, e => by cases e
theorem mem_range {lo hi n : Int} : n ∈ rangeI lo hi ↔ lo ≤ n ∧ n ≤ hi := by
  unfold rangeI
  simp only [List.mem_map, List.mem_range]
  constructor
  · rintro ⟨k, hk, rfl⟩; omega
  · intro h; exact ⟨(n - lo).toNat, by omega, by omega⟩
theorem range_nodup (lo hi : Int) : (rangeI lo hi).Nodup := by
  unfold rangeI
  refine List.Pairwise.map _ ?_ List.nodup_range
  intro a b h e
  exact h (by omega)
/-- A list of values is the domain of variables. -/
structure DomOk (l : List Vr) (out : List (List Int)) : Prop where
  mem : ∀ v, v ∈ out ↔ inV l v
  nd : out.Nodup
theorem dom_step {l : List Vr} {out : List (List Int)} {a : Vr} (h : DomOk l out) : DomOk (l ++ [a]) (allStep out a) := by
  refine ⟨fun v => ?_, ?_⟩
  · unfold allStep
    simp only [List.mem_flatMap, List.mem_map]
    constructor
    · rintro ⟨w, hw, n, hn, rfl⟩
      have := (h.mem w).1 hw
      exact (inV_app (inV_len this)).2 ⟨this, mem_range.1 hn⟩
    · intro hv
      have hl := inV_len hv
      have hne : v ≠ [] := by intro e; subst e; simp at hl
      have e := List.dropLast_concat_getLast hne
      have hl2 : v.dropLast.length = l.length := by simp at hl ⊢; omega
      rw [← e] at hv
      obtain ⟨h1, h2⟩ := (inV_app hl2).1 hv
      exact ⟨_, (h.mem _).2 h1, _, mem_range.2 h2, e⟩
  · unfold allStep
    rw [List.nodup_iff_pairwise_ne, List.pairwise_flatMap]
    refine ⟨fun v _ => ?_, ?_⟩
    · refine List.Pairwise.map _ ?_ (List.nodup_iff_pairwise_ne.1 (range_nodup a.low a.high))
      intro x y hxy e
      exact hxy (by simpa using e)
    · refine List.Pairwise.imp ?_ (List.nodup_iff_pairwise_ne.1 h.nd)
      intro x y hxy u hu w hw e
      obtain ⟨n, _, rfl⟩ := List.mem_map.1 hu
      obtain ⟨k, _, rfl⟩ := List.mem_map.1 hw
      exact hxy (List.append_inj_left' e rfl)
theorem dom_fold : ∀ (r l : List Vr) (out : List (List Int)), DomOk l out → DomOk (l ++ r) (r.foldl allStep out)
  | [], l, out, h => by simpa using h
  | a :: r, l, out, h => by
    have := dom_fold r (l ++ [a]) (allStep out a) (dom_step h)
    simpa using this
theorem allV_dom (l : List Vr) : DomOk l (allV l) := by
  have := dom_fold l [] [[]] ⟨fun v => ?_, by simp⟩
  · simpa [allV] using this
  · cases v <;> simp [inV]
/-! Tables. -/
theorem neededR_mem : ∀ {all : List (List Int)} {t c : List Bool} {v : List Int}, v ∈ neededR all t c → ∃ i : Nat, all[i]? = some v ∧ t[i]? = some true ∧ c[i]? = some true
  | [], _, _, _, h => by simp [neededR] at h
  | d :: ds, [], _, _, h => by simp [neededR] at h
  | d :: ds, t :: ts, [], _, h => by simp [neededR] at h
  | d :: ds, t :: ts, c :: cs, v, h => by
    simp only [neededR] at h
    split at h
    · rename_i hc
      simp only [Bool.and_eq_true] at hc
      rcases List.mem_cons.1 h with rfl | h
      · exact ⟨0, rfl, by simp [hc.2], by simp [hc.1]⟩
      · obtain ⟨i, h1, h2, h3⟩ := neededR_mem h
        exact ⟨i + 1, by simpa using h1, by simpa using h2, by simpa using h3⟩
    · obtain ⟨i, h1, h2, h3⟩ := neededR_mem h
      exact ⟨i + 1, by simpa using h1, by simpa using h2, by simpa using h3⟩
theorem mem_neededR : ∀ {all : List (List Int)} {t c : List Bool} {v : List Int} {i : Nat}, all[i]? = some v → t[i]? = some true → c[i]? = some true → v ∈ neededR all t c
  | d :: ds, t :: ts, c :: cs, v, 0, h1, h2, h3 => by
    simp only [List.getElem?_cons_zero, Option.some.injEq] at h1 h2 h3
    subst h1 h2 h3
    simp [neededR]
  | d :: ds, t :: ts, c :: cs, v, i + 1, h1, h2, h3 => by
    have := mem_neededR (all := ds) (t := ts) (c := cs) (by simpa using h1) (by simpa using h2) (by simpa using h3)
    simp only [neededR]
    split
    · simp [this]
    · exact this
  | [], _, _, _, i, h1, _, _ => by simp at h1
  | _ :: _, [], _, _, i, _, h2, _ => by simp at h2
  | _ :: _, _ :: _, [], _, i, _, _, h3 => by simp at h3
theorem refusedR_mem : ∀ {all : List (List Int)} {t c : List Bool} {v : List Int}, v ∈ refusedR all t c → ∃ i : Nat, all[i]? = some v ∧ t[i]? = some false ∧ c[i]? = some true
  | [], _, _, _, h => by simp [refusedR] at h
  | d :: ds, [], _, _, h => by simp [refusedR] at h
  | d :: ds, t :: ts, [], _, h => by simp [refusedR] at h
  | d :: ds, t :: ts, c :: cs, v, h => by
    simp only [refusedR] at h
    split at h
    · rename_i hc
      simp only [Bool.and_eq_true, Bool.not_eq_true'] at hc
      rcases List.mem_cons.1 h with rfl | h
      · exact ⟨0, rfl, by simp [hc.2], by simp [hc.1]⟩
      · obtain ⟨i, h1, h2, h3⟩ := refusedR_mem h
        exact ⟨i + 1, by simpa using h1, by simpa using h2, by simpa using h3⟩
    · obtain ⟨i, h1, h2, h3⟩ := refusedR_mem h
      exact ⟨i + 1, by simpa using h1, by simpa using h2, by simpa using h3⟩
theorem mem_refusedR : ∀ {all : List (List Int)} {t c : List Bool} {v : List Int} {i : Nat}, all[i]? = some v → t[i]? = some false → c[i]? = some true → v ∈ refusedR all t c
  | d :: ds, t :: ts, c :: cs, v, 0, h1, h2, h3 => by
    simp only [List.getElem?_cons_zero, Option.some.injEq] at h1 h2 h3
    subst h1 h2 h3
    simp [refusedR]
  | d :: ds, t :: ts, c :: cs, v, i + 1, h1, h2, h3 => by
    have := mem_refusedR (all := ds) (t := ts) (c := cs) (by simpa using h1) (by simpa using h2) (by simpa using h3)
    simp only [refusedR]
    split
    · simp [this]
    · exact this
  | [], _, _, _, i, h1, _, _ => by simp at h1
  | _ :: _, [], _, _, i, _, h2, _ => by simp at h2
  | _ :: _, _ :: _, [], _, i, _, _, h3 => by simp at h3
theorem nodup_idx {α : Type} {l : List α} (h : l.Nodup) {i j : Nat} {v : α} (hi : l[i]? = some v) (hj : l[j]? = some v) : i = j := by
  obtain ⟨h1, e1⟩ := List.getElem?_eq_some_iff.1 hi
  obtain ⟨h2, e2⟩ := List.getElem?_eq_some_iff.1 hj
  exact (List.getElem_inj h).1 (e1.trans e2.symm)
/-- What the cover of a table over a domain is. -/
structure CovR (l : List Vr) (all : List (List Int)) (t c : List Bool) (R : List Bx) : Prop where
  low : ∀ b ∈ R, b.low.length = l.length
  high : ∀ b ∈ R, b.high.length = l.length
  say : ∀ (i : Nat) v b, all[i]? = some v → t[i]? = some b → c[i]? = some true → inBs R v = b
  own : ∀ k1 b k2, R = k1 ++ b :: k2 → ∃ (i : Nat) (v : List Int), all[i]? = some v ∧ c[i]? = some true ∧ b.has v = true ∧ inBs (k1 ++ k2) v = false
theorem coverR_ok {l : List Vr} {all : List (List Int)} {t c : List Bool} (hd : DomOk l all) : CovR l all t c (coverR l all t c) := by
  have hn : ∀ v ∈ neededR all t c, v.length = l.length ∧ freeR (refusedR all t c) ⟨v, v⟩ = true := by
    intro v hv
    obtain ⟨i, h1, h2, h3⟩ := neededR_mem hv
    have hin := (hd.mem v).1 (List.mem_of_getElem? h1)
    refine ⟨inV_len hin, ?_⟩
    unfold freeR
    cases hb : (refusedR all t c).any (Bx.mk v v).has with
    | false => rfl
    | true =>
      obtain ⟨w, hw, hh⟩ := List.any_eq_true.1 hb
      obtain ⟨j, g1, g2, g3⟩ := refusedR_mem hw
      have hw2 := (hd.mem w).1 (List.mem_of_getElem? g1)
      have e : w = v := contB_eq (by rw [inV_len hin, inV_len hw2]) hh
      subst e
      have := nodup_idx hd.nd h1 g1
      subst this
      rw [h2] at g2
      cases g2
  have h0 : CovOk l.length (refusedR all t c) [] := ⟨by simp, by simp, by simp⟩
  have h1 := coverL_ok (vars := l) hn h0
  have h2 := thin_ok (kept := []) (needed := neededR all t c) (by simpa using h1)
  have h3 := thin_covers (kept := []) (needed := neededR all t c) (rest := coverL (freeR (refusedR all t c)) l (neededR all t c) []) (by simpa using coverL_has (freeR (refusedR all t c)) l (needed := neededR all t c) (l := []))
  have h4 : Own1 (neededR all t c) (coverR l all t c) [] := thin_own (kept := []) fun k1 b k2 e => by simp at e
  refine ⟨h2.low, h2.high, fun i v b e1 e2 e3 => ?_, fun k1 b k2 e => ?_⟩
  · cases b with
    | true => exact h3 v (mem_neededR e1 e2 e3)
    | false =>
      cases hb : inBs (coverR l all t c) v with
      | false => rfl
      | true =>
        obtain ⟨b, hb1, hb2⟩ := List.any_eq_true.1 hb
        have := h2.free b hb1
        unfold freeR at this
        simp only [Bool.not_eq_true'] at this
        rw [List.any_eq_false] at this
        exact absurd hb2 (this v (mem_refusedR e1 e2 e3))
  · obtain ⟨v, hv, g1, g2⟩ := h4 k1 b k2 e
    obtain ⟨i, e1, e2, e3⟩ := neededR_mem hv
    exact ⟨i, v, e1, e3, g1, by simpa using g2⟩
end Go.AI


/- All, of any list of variables. -/
namespace Go.AI
open Go.Proofs
set_option maxRecDepth 20000
def Vr.w (v : Vr) : Int := v.high - v.low + 1
/-- The size of a domain, unless it is too large. -/
def cntR : List Vr → Int → Option Int
  | [], c => some c
  | v :: r, c => if c * v.w > 4096 then none else cntR r (c * v.w)
/-- All values, or the error. -/
def allG (l : List Vr) : List (List Int) × Int := if varsErr l ≠ 0 then ([], varsErr l) else match cntR l 1 with
  | none => ([], 3)
  | some _ => (allV l, 0)
theorem allStep_len' (out : List (List Int)) (v : Vr) (hw : v.low ≤ v.high) : ((allStep out v).length : Int) = out.length * v.w := by
  unfold allStep Vr.w
  induction out with
  | nil => simp
  | cons x r ih =>
    simp only [List.flatMap_cons, List.length_append, List.length_map, List.length_cons, Int.natCast_add, ih]
    have : (rangeI v.low v.high).length = (v.high - v.low + 1).toNat := by simp [rangeI]
    rw [this, Int.add_mul]
    omega
theorem cntR_len : ∀ {l : List Vr} {c : Int} {d : Int} {out : List (List Int)}, (∀ v ∈ l, v.low ≤ v.high) → cntR l c = some d → c ≤ 4096 → (out.length : Int) = c → ∀ j, ((l.take j).foldl allStep out).length ≤ 4096
  | [], c, d, out, _, h, hc, ho, j => by simp; omega
  | v :: r, c, d, out, hv, h, hc, ho, 0 => by simp; omega
  | v :: r, c, d, out, hv, h, hc, ho, j + 1 => by
    simp only [cntR] at h
    split at h
    · cases h
    · rename_i h2
      simp only [List.take_succ_cons, List.foldl_cons]
      refine cntR_len (fun w hw => hv w (by simp [hw])) h (by omega) ?_ j
      rw [allStep_len' out v (hv v (by simp)), ho]
theorem allG30 (O : List Heap) (l : List Vr) (hl : l.length ≤ max63) (hn : ∀ v ∈ l, v.name.size ≤ max63) : ASpec Tryd.prog 30 [vrs l] O (.tup [intss (allG l).1, ii (allG l).2]) [] O := by
  have hc := fun O => checkVars56' O l hl hn
  generalize hR : allG l = R
  unfold allG at hR
  refine aspec_stop [12, 200064] Tk Tryd.func30 rfl Tryd.call30 Tryd.ntmps30 (Nat.le_of_ble_eq_true rfl) fun E => ?_
  refine g_run Tk Tryd.func30 ?_
  first | refine g_call Tk Tryd.func30 (hc _) rfl rfl rfl rfl rfl ?_ | refine s_callq Tk (fun _ => hc _) rfl rfl rfl ?_
  first | refine g_cnd Tk Tryd.func30 rfl (fun h0 => ?_) (fun h0 => ?_) | refine g_know Tk Tryd.func30 rfl (fun h0 => ?_) (fun h0 => ?_) | refine s_know Tk (fun h0 => ?_) (fun h0 => ?_)
  · have h0 := bneT h0
    rw [if_pos h0] at hR
    subst hR
    refine g_ret_co Tk (r := _) rfl rfl rfl trivial rfl rfl ?_
    repeat' (first | refine coD_tup ?_ | refine coD_agg ?_ | refine coD_i ?_ | refine CoDL.cons ?_ ?_ | exact CoDL.nil | exact coI_nil | refine coI_sl ?_ | refine CoLL.cons ?_ ?_ | exact CoLL.nil | refine CoL.cons ?_ ?_ | exact CoL.nil | exact CoI.refl _ | exact CoL.refl _ | exact CoLL.refl _ | exact CoDL.refl _ | exact CoD.refl _)
  have he : varsErr l = 0 := bneF h0
  rw [if_neg (by simpa using he)] at hR
  have hv := vars_ok he
  have h16 := vars_len he
  clear hc h0
  refine g_loop ?_
  refine rch_loop2 (fun x : Nat × Int => [(0, vrs l), (5, ii x.2), (20, vrs l), (21, ii l.length), (22, ii x.1)]) (fun _ => []) (fun _ => O) 70
    (fun x => x.1 ≤ l.length ∧ 1 ≤ x.2 ∧ x.2 ≤ 4096 ∧ cntR l 1 = cntR (l.drop x.1) x.2) (fun x => l.length - x.1) (0, 1) ⟨Nat.zero_le _, by decide, by decide, rfl⟩ ⟨rfl, rfl, rfl, rfl, rfl, trivial⟩ rfl trivial rfl rfl ?_
  rintro ⟨j, c⟩ ⟨hj, hc1, hc2, hcn⟩ ih
  simp only at hj hc1 hc2 hcn
  refine g_run Tk Tryd.func30 ?_
  first | refine g_cnd Tk Tryd.func30 rfl (fun g1 => ?_) (fun g1 => ?_) | refine g_know Tk Tryd.func30 rfl (fun g1 => ?_) (fun g1 => ?_) | refine s_know Tk (fun g1 => ?_) (fun g1 => ?_)
  · have h1 : j < l.length := by simpa using g1
    clear g1
    have hg : (l.map vrI)[(j : Int).toNat]? = some (vrI l[j]) := get_mapZ h1
    have hvo := hv _ (List.getElem_mem h1)
    have hd : l.drop j = l[j] :: l.drop (j + 1) := List.drop_eq_getElem_cons h1
    rw [hd] at hcn
    simp only [cntR] at hcn
    generalize l[j] = v at *
    obtain ⟨⟨hlo, hhi⟩, hi1, hi2⟩ := hvo
    have hww : IntKind.i64.wrap (IntKind.i64.wrap (v.high - v.low) + 1) = v.w := by
      unfold Vr.w
      rw [w64 (n := v.high - v.low) (by omega) (by omega), w64 (by omega) (by omega)]
    have hwb : 1 ≤ v.w ∧ v.w ≤ 131073 := by unfold Vr.w; omega
    have hcw : 1 ≤ c * v.w ∧ c * v.w ≤ 4096 * 131073 := ⟨by have := Int.mul_le_mul hc1 hwb.1 (by decide) (by omega); omega, Int.mul_le_mul hc2 hwb.2 (by omega) (by decide)⟩
    have hcc : IntKind.i64.wrap (c * IntKind.i64.wrap (IntKind.i64.wrap (v.high - v.low) + 1)) = c * v.w := by
      rw [hww, w64 (by omega) (by omega)]
    first | refine g_need Tk Tryd.func30 (by exact ⟨by omega, by show (j : Int) < (l.length : Int); omega⟩) ?_ | refine s_need Tk (by exact ⟨by omega, by show (j : Int) < (l.length : Int); omega⟩) ?_
    first | refine g_elem Tk Tryd.func30 (hg) ?_ | refine s_elem Tk (hg) ?_
    first | refine g_cnd Tk Tryd.func30 rfl (fun h2 => ?_) (fun h2 => ?_) | refine g_know Tk Tryd.func30 rfl (fun h2 => ?_) (fun h2 => ?_) | refine s_know Tk (fun h2 => ?_) (fun h2 => ?_)
    · have h2 : 4096 < IntKind.i64.wrap (c * IntKind.i64.wrap (IntKind.i64.wrap (v.high - v.low) + 1)) := of_decide_eq_true h2
      rw [hcc] at h2
      rw [if_pos (by omega)] at hcn
      rw [hcn] at hR
      subst hR
      refine g_ret_co Tk (r := _) rfl rfl rfl trivial rfl rfl ?_
      repeat' (first | refine coD_tup ?_ | refine coD_agg ?_ | refine coD_i ?_ | refine CoDL.cons ?_ ?_ | exact CoDL.nil | exact coI_nil | refine coI_sl ?_ | refine CoLL.cons ?_ ?_ | exact CoLL.nil | refine CoL.cons ?_ ?_ | exact CoL.nil | exact CoI.refl _ | exact CoL.refl _ | exact CoLL.refl _ | exact CoDL.refl _ | exact CoD.refl _)
    have h2 : ¬ 4096 < IntKind.i64.wrap (c * IntKind.i64.wrap (IntKind.i64.wrap (v.high - v.low) + 1)) := of_decide_eq_false h2
    rw [hcc] at h2
    rw [if_neg (by omega)] at hcn
    refine g_loop ?_
    refine ih (j + 1, c * v.w) _ _ ⟨h1, hcw.1, by simp only; omega, hcn⟩ (by simp only; omega) ⟨rfl, congrArg ii hcc, rfl, rfl, congrArg ii (wsucc (n := 16) (by omega) (by decide)), trivial⟩ rfl trivial rfl rfl
  · have h1 : l.length ≤ j := by simpa using g1
    rw [List.drop_eq_nil_of_le h1] at hcn
    simp only [cntR] at hcn
    rw [hcn] at hR
    have hlh : ∀ v ∈ l, v.low ≤ v.high := fun v h => by have := hv v h; omega
    have hcl : ∀ j, (allV (l.take j)).length ≤ 4096 := cntR_len hlh hcn (by decide) (out := [[]]) rfl
    subst hR
    clear ih hc1 hc2 g1 h1 hj hcn
    refine g_stop ?_
    refine g_run Tk Tryd.func30 ?_
    refine g_go Tk Tryd.func30 ?_
    refine g_loop ?_
    have hco : CoD (.i (.sl 1 1 [[.v (.slice none 0 0)]])) (intss [[]]) := by
      show CoD _ (.i (.sl 1 1 [[.sl 1 0 []]]))
      repeat' (first | refine coD_tup ?_ | refine coD_agg ?_ | refine coD_i ?_ | refine CoDL.cons ?_ ?_ | exact CoDL.nil | exact coI_nil | refine coI_sl ?_ | refine CoLL.cons ?_ ?_ | exact CoLL.nil | refine CoL.cons ?_ ?_ | exact CoL.nil | exact CoI.refl _ | exact CoL.refl _ | exact CoLL.refl _ | exact CoDL.refl _ | exact CoD.refl _)
    refine rch_wk (wk_freeze 37 rfl rfl) ?_
    refine rch_wk (wk_imm rfl) ?_
    refine rch_wk (wk_co 8 (d := intss [[]]) (by exact hco)) ?_
    refine rch_loop2 (fun x : Nat × List (List Int) => [(0, vrs l), (8, intss x.2), (38, vrs l), (39, ii l.length), (40, ii x.1)]) (fun _ => []) (fun _ => O) 70
      (fun x => x.1 ≤ l.length ∧ x.2 = allV (l.take x.1) ∧ ∀ y ∈ x.2, y.length = x.1) (fun x => l.length - x.1) (0, [[]]) ⟨Nat.zero_le _, rfl, by simp⟩ ⟨rfl, rfl, rfl, rfl, rfl, trivial⟩ rfl trivial rfl rfl ?_
    rintro ⟨j, out⟩ ⟨hj, hout, hvals⟩ ih
    clear hco
    simp only at hj hout hvals
    have hlen : out.length ≤ 4096 := by rw [hout]; exact hcl j
    refine g_run Tk Tryd.func30 ?_
    first | refine g_cnd Tk Tryd.func30 rfl (fun g1 => ?_) (fun g1 => ?_) | refine g_know Tk Tryd.func30 rfl (fun g1 => ?_) (fun g1 => ?_) | refine s_know Tk (fun g1 => ?_) (fun g1 => ?_)
    · have h1 : j < l.length := by simpa using g1
      clear g1
      have hg : (l.map vrI)[(j : Int).toNat]? = some (vrI l[j]) := get_mapZ h1
      have hvo := hv _ (List.getElem_mem h1)
      have hnext : allStep out l[j] = allV (l.take (j + 1)) := by
        rw [hout]
        unfold allV
        rw [List.take_add_one, List.getElem?_eq_getElem h1, List.foldl_append]
        rfl
      have hsl : (allStep out l[j]).length ≤ 4096 := by rw [hnext]; exact hcl (j + 1)
      generalize l[j] = v at *
      obtain ⟨⟨hlo, hhi⟩, hi1, hi2⟩ := hvo
      have hpre : ∀ i, (allStep (out.take i) v).length ≤ 4096 := fun i => by
        have h1 := allStep_len' out v (by omega)
        have h2 := allStep_len' (out.take i) v (by omega)
        have h3 : (out.take i).length ≤ out.length := by simp only [List.length_take]; omega
        have h4 : ((out.take i).length : Int) * v.w ≤ out.length * v.w := Int.mul_le_mul_of_nonneg_right (by omega) (by unfold Vr.w; omega)
        omega
      have hsv := allStep_vals (out := out) (v := v) hvals
      first | refine g_need Tk Tryd.func30 (by exact ⟨by omega, by show (j : Int) < (l.length : Int); omega⟩) ?_ | refine s_need Tk (by exact ⟨by omega, by show (j : Int) < (l.length : Int); omega⟩) ?_
      first | refine g_elem Tk Tryd.func30 (hg) ?_ | refine s_elem Tk (hg) ?_
      refine g_loop ?_
      refine rch_wk (wk_nil 11 65 53 1 rfl rfl rfl) ?_
      refine rch_loop2 (fun x : Nat × List (List Int) => [(0, vrs l), (8, intss out), (38, vrs l), (39, ii l.length), (40, ii j), (10, .own 0 10 0 0), (11, .osl 0 65), (44, intss out), (45, ii out.length), (46, ii x.1)])
        (fun x => [(10, .box [.i (strI v.name), ii v.low, ii v.high, ii v.init]), (65, ointss x.2)]) (fun _ => O) 70
        (fun x => x.1 ≤ out.length ∧ x.2 = allStep (out.take x.1) v) (fun x => out.length - x.1) (0, []) ⟨Nat.zero_le _, rfl⟩ ⟨rfl, rfl, rfl, rfl, rfl, rfl, rfl, rfl, rfl, rfl, trivial⟩ rfl ⟨rfl, rfl, trivial⟩ rfl rfl ?_
      rintro ⟨i, acc⟩ ⟨hi, hacc⟩ ih2
      simp only at hi hacc
      refine g_run Tk Tryd.func30 ?_
      first | refine g_cnd Tk Tryd.func30 rfl (fun g2 => ?_) (fun g2 => ?_) | refine g_know Tk Tryd.func30 rfl (fun g2 => ?_) (fun g2 => ?_) | refine s_know Tk (fun g2 => ?_) (fun g2 => ?_)
      · have h2 : i < out.length := by simpa using g2
        clear g2
        have hgo : (out.map fun x => [intsI x])[(i : Int).toNat]? = some [intsI out[i]] := get_mapZ (f := fun x => [intsI x]) h2
        have hxl := hvals _ (List.getElem_mem h2)
        have hnx : allStep (out.take (i + 1)) v = acc ++ (rangeI v.low v.high).map fun n => out[i] ++ [n] := by
          rw [hacc]
          unfold allStep
          rw [List.take_add_one, List.getElem?_eq_getElem h2, List.flatMap_append]
          simp
        have hal : acc.length ≤ 4096 := by
          rw [hacc]
          exact hpre i
        generalize out[i] = vals at *
        first | refine g_need Tk Tryd.func30 (by exact ⟨by omega, by show (i : Int) < (out.length : Int); omega⟩) ?_ | refine s_need Tk (by exact ⟨by omega, by show (i : Int) < (out.length : Int); omega⟩) ?_
        first | refine g_elem Tk Tryd.func30 (hgo) ?_ | refine s_elem Tk (hgo) ?_
        have hk0 : rangeI v.low (v.low + ((0 : Nat) : Int) - 1) = [] := by
          unfold rangeI
          rw [show (v.low + ((0 : Nat) : Int) - 1 - v.low + 1).toNat = 0 by omega]
          rfl
        refine g_loop ?_
        refine rch_loop2 (fun k : Nat => [(0, vrs l), (8, intss out), (38, vrs l), (39, ii l.length), (40, ii j), (10, .own 0 10 0 0), (11, .osl 0 65), (44, intss out), (45, ii out.length), (46, ii i), (13, ints vals), (14, ii (v.low + k))])
          (fun k => [(10, .box [.i (strI v.name), ii v.low, ii v.high, ii v.init]), (65, ointss (acc ++ (rangeI v.low (v.low + k - 1)).map fun n => vals ++ [n]))]) (fun _ => O) 70
          (fun k => (k : Int) ≤ v.high - v.low + 1) (fun k => (v.high - v.low + 1).toNat - k) 0 (show ((0 : Nat) : Int) ≤ v.high - v.low + 1 by omega) ⟨rfl, rfl, rfl, rfl, rfl, rfl, rfl, rfl, rfl, rfl, rfl, congrArg ii (by simp), trivial⟩ rfl ⟨rfl, by show some (ointss acc) = some (ointss (acc ++ (rangeI v.low (v.low + ((0 : Nat) : Int) - 1)).map fun n => vals ++ [n])); rw [hk0]; simp, trivial⟩ rfl rfl ?_
        rintro k hk ih3
        have hk : (k : Int) ≤ v.high - v.low + 1 := hk
        have hks : (rangeI v.low (v.low + ((k + 1 : Nat) : Int) - 1)).map (fun n => vals ++ [n]) = (rangeI v.low (v.low + k - 1)).map (fun n => vals ++ [n]) ++ [vals ++ [v.low + k]] := by
          unfold rangeI
          rw [show (v.low + ((k + 1 : Nat) : Int) - 1 - v.low + 1).toNat = k + 1 by omega, show (v.low + (k : Int) - 1 - v.low + 1).toNat = k by omega, List.range_succ, List.map_append, List.map_append]
          rfl
        have hkl : ((rangeI v.low (v.low + k - 1)).map fun n => vals ++ [n]).length = k := by
          unfold rangeI
          simp
          omega
        have hke : (k : Int) = v.high - v.low + 1 → (rangeI v.low (v.low + k - 1)).map (fun n => vals ++ [n]) = (rangeI v.low v.high).map fun n => vals ++ [n] := fun e => by rw [e, show v.low + (v.high - v.low + 1) - 1 = v.high by omega]
        generalize (rangeI v.low (v.low + k - 1)).map (fun n => vals ++ [n]) = part at *
        refine g_run Tk Tryd.func30 ?_
        first | refine g_cnd Tk Tryd.func30 rfl (fun g3 => ?_) (fun g3 => ?_) | refine g_know Tk Tryd.func30 rfl (fun g3 => ?_) (fun g3 => ?_) | refine s_know Tk (fun g3 => ?_) (fun g3 => ?_)
        · have h3 : v.low + k ≤ v.high := of_decide_eq_true g3
          clear g3
          first | refine g_call Tk Tryd.func30 (clone57 60 _ vals (by simp only [big]; omega)) rfl rfl rfl rfl rfl ?_ | refine s_callq Tk (fun _ => clone57 60 _ vals (by simp only [big]; omega)) rfl rfl rfl ?_
          first | refine g_need Tk Tryd.func30 (by exact ⟨by show (vals.length + 1) * 8 ≤ 140737488355328; omega, by show vals.length + 1 ≤ 9223372036854775807; omega⟩) ?_ | refine s_need Tk (by exact ⟨by show (vals.length + 1) * 8 ≤ 140737488355328; omega, by show vals.length + 1 ≤ 9223372036854775807; omega⟩) ?_
          refine g_pause Tk Tryd.func30 rfl rfl (Wk.trans (wk_freeze 63 rfl rfl) (wk_imm rfl)) ?_
          first | refine g_need Tk Tryd.func30 (by exact ⟨by show ((acc ++ part).length + 1) * 24 ≤ 140737488355328; simp only [List.length_append]; omega, by show (acc ++ part).length + 1 ≤ 9223372036854775807; simp only [List.length_append]; omega⟩) ?_ | refine s_need Tk (by exact ⟨by show ((acc ++ part).length + 1) * 24 ≤ 140737488355328; simp only [List.length_append]; omega, by show (acc ++ part).length + 1 ≤ 9223372036854775807; simp only [List.length_append]; omega⟩) ?_
          refine g_loop ?_
          refine ih3 (k + 1) _ _ (show ((k + 1 : Nat) : Int) ≤ v.high - v.low + 1 by omega) (by omega) ⟨rfl, rfl, rfl, rfl, rfl, rfl, rfl, rfl, rfl, rfl, rfl, congrArg ii ?_, trivial⟩ rfl ⟨rfl, ?_, trivial⟩ rfl rfl
          · rw [w64 (by omega) (by omega)]; omega
          · rw [hks]
            have e : (vals ++ [v.low + (k : Int)]).map (fun x => [vi x]) = vals.map (fun x => [vi x]) ++ [[vi (v.low + k)]] := by simp
            show some (Ob.arr 53 1 ((acc ++ part).length + 1) ((acc ++ part).map (fun x => [intsI x]) ++ [[.sl 1 (vals.length + 1) (vals.map (fun x => [vi x]) ++ [[vi (v.low + k)]])]]) true) = some (ointss (acc ++ (part ++ [vals ++ [v.low + (k : Int)]])))
            rw [← List.append_assoc acc part]
            have e2 : vals.length + 1 = (vals ++ [v.low + (k : Int)]).length := by simp
            rw [← e, e2]
            exact congrArg some (ointss_app _ _)
        · have h3 : ¬ v.low + k ≤ v.high := of_decide_eq_false g3
          clear g3
          rw [hke (by omega)]
          refine g_loop ?_
          refine ih2 (i + 1, acc ++ (rangeI v.low v.high).map fun n => vals ++ [n]) _ _ ⟨h2, hnx.symm⟩ (by simp only; omega) ⟨rfl, rfl, rfl, rfl, rfl, rfl, rfl, rfl, rfl, congrArg ii (wsucc (n := 4096) (by omega) (by decide)), trivial⟩ rfl ⟨rfl, rfl, trivial⟩ rfl rfl
      · have h2 : out.length ≤ i := by simpa using g2
        clear g2
        rw [List.take_of_length_le h2] at hacc
        refine g_loop ?_
        refine rch_wk (wk_freeze 65 rfl rfl) ?_
        refine rch_wk (wk_imm rfl) ?_
        rw [hacc] at *
        refine ih (j + 1, allStep out v) _ _ ⟨h1, hnext, hsv⟩ (by simp only; omega) ⟨rfl, rfl, rfl, rfl, congrArg ii (wsucc (n := 16) (by omega) (by decide)), trivial⟩ rfl trivial rfl rfl
    · have h1 : l.length ≤ j := by simpa using g1
      rw [List.take_of_length_le h1] at hout
      subst hout
      refine g_ret Tk (r := .tup [intss (allV l), ii 0]) rfl rfl rfl trivial rfl rfl ?_
      rfl
end Go.AI


/- Tables of guards; boxes that contain values; equal lists. -/
namespace Go.AI
open Go.Proofs
set_option maxRecDepth 20000
abbrev bools (l : List Bool) : D := .i (.sl 1 l.length (l.map fun b => [.v (.bool b)]))
abbrev obools (l : List Bool) : Ob := .arr 4 1 l.length (l.map fun b => [.v (.bool b)]) true
theorem obools_app (l : List Bool) (x : Bool) : Ob.arr 4 1 (l.length + 1) ((l.map fun b => [I.v (.bool b)]) ++ [[.v (.bool x)]]) true = obools (l ++ [x]) := by simp
def tabL (x : Ex) : List (List Int) → List Bool → List Bool × Int
  | [], acc => (acc, 0)
  | v :: r, acc => if (evalX x v).2 ≠ 0 then ([], (evalX x v).2) else tabL x r (acc ++ [(evalX x v).1 == 1])
/-- table: the values of a guard over a domain, or the error. -/
def tableR (n : Int) (dom : List (List Int)) (x : Ex) : List Bool × Int :=
  if (checkX x n).2 ≠ 0 then ([], (checkX x n).2) else if (checkX x n).1 ≠ 2 then ([], 16) else tabL x dom []
theorem table75 (O : List Heap) (l : List Vr) (dom : List (List Int)) (x : Ex) (hok : exOk x) (hd : dom.length ≤ 4096) (hv : ∀ v ∈ dom, v.length ≤ max63) : ASpec Tryd.prog 75 [vrs l, intss dom, exA x] O (.tup [bools (tableR l.length dom x).1, ii (tableR l.length dom x).2]) [] O := by
  have hck := fun O => check67A O x l.length hok
  have hev := fun O v hl => evaluate51A O x v hok hl
  generalize hR : tableR l.length dom x = R
  unfold tableR at hR
  obtain ⟨op, xv, ix, args⟩ := x
  generalize checkX (.mk op xv ix args) l.length = K at *
  obtain ⟨kk, ke⟩ := K
  simp only at hck hR
  refine aspec_intro Tk Tryd.func75 rfl Tryd.call75 Tryd.ntmps75 (Nat.le_of_ble_eq_true rfl) fun E => ?_
  refine g_run Tk Tryd.func75 ?_
  first | refine g_call Tk Tryd.func75 (hck _) rfl rfl rfl rfl rfl ?_ | refine s_callq Tk (fun _ => hck _) rfl rfl rfl ?_
  first | refine g_cnd Tk Tryd.func75 rfl (fun h1 => ?_) (fun h1 => ?_) | refine g_know Tk Tryd.func75 rfl (fun h1 => ?_) (fun h1 => ?_) | refine s_know Tk (fun h1 => ?_) (fun h1 => ?_)
  · have h1 := bneT h1
    rw [if_pos h1] at hR
    subst hR
    refine g_ret_co Tk (r := _) rfl rfl rfl trivial rfl rfl ?_
    repeat' (first | refine coD_tup ?_ | refine coD_agg ?_ | refine coD_i ?_ | refine CoDL.cons ?_ ?_ | exact CoDL.nil | exact coI_nil | refine coI_sl ?_ | refine CoLL.cons ?_ ?_ | exact CoLL.nil | refine CoL.cons ?_ ?_ | exact CoL.nil | exact CoI.refl _ | exact CoL.refl _ | exact CoLL.refl _ | exact CoDL.refl _ | exact CoD.refl _)
  have h1 := bneF h1
  rw [if_neg (by simpa using h1)] at hR
  first | refine g_cnd Tk Tryd.func75 rfl (fun h2 => ?_) (fun h2 => ?_) | refine g_know Tk Tryd.func75 rfl (fun h2 => ?_) (fun h2 => ?_) | refine s_know Tk (fun h2 => ?_) (fun h2 => ?_)
  · have h2 := bneT h2
    rw [if_pos h2] at hR
    subst hR
    refine g_ret_co Tk (r := _) rfl rfl rfl trivial rfl rfl ?_
    repeat' (first | refine coD_tup ?_ | refine coD_agg ?_ | refine coD_i ?_ | refine CoDL.cons ?_ ?_ | exact CoDL.nil | exact coI_nil | refine coI_sl ?_ | refine CoLL.cons ?_ ?_ | exact CoLL.nil | refine CoL.cons ?_ ?_ | exact CoL.nil | exact CoI.refl _ | exact CoL.refl _ | exact CoLL.refl _ | exact CoDL.refl _ | exact CoD.refl _)
  have h2 := bneF h2
  rw [if_neg (by simpa using h2)] at hR
  clear h1 h2 hck
  refine g_loop ?_
  refine rch_wk (wk_nil 10 46 4 1 rfl rfl rfl) ?_
  refine rch_loop2 (fun x : Nat × List Bool => [(5, .own 0 5 0 0), (10, .osl 0 46), (27, intss dom), (28, ii dom.length), (29, ii x.1)]) (fun x => [(5, .box [ii op, ii xv, ii ix, exs args]), (46, obools x.2)]) (fun _ => O) 49
    (fun x => x.1 ≤ dom.length ∧ x.2.length ≤ x.1 ∧ tabL (.mk op xv ix args) (dom.drop x.1) x.2 = R) (fun x => dom.length - x.1) (0, []) ⟨Nat.zero_le _, by simp, hR⟩ ⟨rfl, rfl, rfl, rfl, rfl, trivial⟩ rfl ⟨rfl, rfl, trivial⟩ rfl rfl ?_
  rintro ⟨i, acc⟩ ⟨hi, hal, hno⟩ ih
  clear hR
  simp only at hi hal hno
  refine g_run Tk Tryd.func75 ?_
  first | refine g_cnd Tk Tryd.func75 rfl (fun g1 => ?_) (fun g1 => ?_) | refine g_know Tk Tryd.func75 rfl (fun g1 => ?_) (fun g1 => ?_) | refine s_know Tk (fun g1 => ?_) (fun g1 => ?_)
  · have h1 : i < dom.length := by simpa using g1
    clear g1
    have hdr : dom.drop i = dom[i] :: dom.drop (i + 1) := List.drop_eq_getElem_cons h1
    have hg : (dom.map fun x => [intsI x])[(i : Int).toNat]? = some [intsI dom[i]] := get_mapZ (f := fun x => [intsI x]) h1
    have hvl := hv _ (List.getElem_mem h1)
    rw [hdr] at hno
    simp only [tabL] at hno
    generalize dom[i] = v at *
    have hev := fun O => hev O v hvl
    generalize evalX (.mk op xv ix args) v = V at *
    obtain ⟨w, we⟩ := V
    simp only at hno hev
    first | refine g_need Tk Tryd.func75 (by omega) ?_ | refine s_need Tk (by omega) ?_
    first | refine g_elem Tk Tryd.func75 (hg) ?_ | refine s_elem Tk (hg) ?_
    first | refine g_call Tk Tryd.func75 (hev _) rfl rfl rfl rfl rfl ?_ | refine s_callq Tk (fun _ => hev _) rfl rfl rfl ?_
    first | refine g_cnd Tk Tryd.func75 rfl (fun h2 => ?_) (fun h2 => ?_) | refine g_know Tk Tryd.func75 rfl (fun h2 => ?_) (fun h2 => ?_) | refine s_know Tk (fun h2 => ?_) (fun h2 => ?_)
    · have h2 := bneT h2
      rw [if_pos h2] at hno
      subst hno
      refine g_ret_co Tk (r := _) rfl rfl rfl trivial rfl rfl ?_
      repeat' (first | refine coD_tup ?_ | refine coD_agg ?_ | refine coD_i ?_ | refine CoDL.cons ?_ ?_ | exact CoDL.nil | exact coI_nil | refine coI_sl ?_ | refine CoLL.cons ?_ ?_ | exact CoLL.nil | refine CoL.cons ?_ ?_ | exact CoL.nil | exact CoI.refl _ | exact CoL.refl _ | exact CoLL.refl _ | exact CoDL.refl _ | exact CoD.refl _)
    have h2 := bneF h2
    rw [if_neg (by simpa using h2)] at hno
    first | refine g_need Tk Tryd.func75 (by exact ⟨by show (acc.length + 1) * 1 ≤ 140737488355328; omega, by show acc.length + 1 ≤ 9223372036854775807; omega⟩) ?_ | refine s_need Tk (by exact ⟨by show (acc.length + 1) * 1 ≤ 140737488355328; omega, by show acc.length + 1 ≤ 9223372036854775807; omega⟩) ?_
    refine g_loop ?_
    refine ih (i + 1, acc ++ [w == 1]) _ _ ⟨h1, by simp only [List.length_append, List.length_cons, List.length_nil]; omega, hno⟩ (by simp only; omega) ⟨rfl, rfl, rfl, rfl, congrArg ii (wsucc (n := 4096) (by omega) (by decide)), trivial⟩ rfl ⟨rfl, congrArg some (obools_app acc (w == 1)), trivial⟩ rfl rfl
  · have h1 : dom.length ≤ i := by simpa using g1
    rw [List.drop_eq_nil_of_le h1] at hno
    simp only [tabL] at hno
    subst hno
    refine g_rwk (wk_freeze 46 rfl rfl) ?_
    refine g_rwk (wk_imm rfl) ?_
    refine g_ret_co Tk (r := _) rfl rfl rfl trivial rfl rfl ?_
    repeat' (first | refine coD_tup ?_ | refine coD_agg ?_ | refine coD_i ?_ | refine CoDL.cons ?_ ?_ | exact CoDL.nil | exact coI_nil | refine coI_sl ?_ | refine CoLL.cons ?_ ?_ | exact CoLL.nil | refine CoL.cons ?_ ?_ | exact CoL.nil | exact CoI.refl _ | exact CoL.refl _ | exact CoLL.refl _ | exact CoDL.refl _ | exact CoD.refl _)
/-- Table. -/
def tableG (l : List Vr) (x : Ex) : List Bool × Int := if (allG l).2 ≠ 0 then ([], (allG l).2) else tableR l.length (allG l).1 x
theorem allG_len (l : List Vr) : (allG l).1.length ≤ 4096 ∧ ∀ v ∈ (allG l).1, v.length ≤ max63 := by
  unfold allG
  by_cases h : varsErr l ≠ 0
  · rw [if_pos h]; exact ⟨by simp, by simp⟩
  rw [if_neg h]
  have hv := vars_ok (l := l) (by simpa using h)
  have hl := vars_len (l := l) (by simpa using h)
  cases hc : cntR l 1 with
  | none => exact ⟨by simp, by simp⟩
  | some d =>
    have h1 := cntR_len (fun v h => by have := hv v h; omega) hc (by decide) (out := [[]]) rfl l.length
    rw [List.take_length] at h1
    refine ⟨h1, fun v hv => ?_⟩
    have := inV_len ((allV_dom l).mem v |>.1 hv)
    simp only [max63]; omega
theorem table31 (O : List Heap) (l : List Vr) (x : Ex) (hl : l.length ≤ max63) (hn : ∀ v ∈ l, v.name.size ≤ max63) (hok : exOk x) : ASpec Tryd.prog 31 [vrs l, exA x] O (.tup [bools (tableG l x).1, ii (tableG l x).2]) [] O := by
  have ha := fun O => allG30 O l hl hn
  have hlen := allG_len l
  generalize hR : tableG l x = R
  unfold tableG at hR
  generalize allG l = A at *
  obtain ⟨dom, e⟩ := A
  simp only at ha hlen hR
  have ht := fun O => table75 O l dom x hok hlen.1 hlen.2
  obtain ⟨op, xv, ix, args⟩ := x
  refine aspec_intro Tk Tryd.func31 rfl Tryd.call31 Tryd.ntmps31 (Nat.le_of_ble_eq_true rfl) fun E => ?_
  refine g_run Tk Tryd.func31 ?_
  first | refine g_call Tk Tryd.func31 (ha _) rfl rfl rfl rfl rfl ?_ | refine s_callq Tk (fun _ => ha _) rfl rfl rfl ?_
  first | refine g_cnd Tk Tryd.func31 rfl (fun h1 => ?_) (fun h1 => ?_) | refine g_know Tk Tryd.func31 rfl (fun h1 => ?_) (fun h1 => ?_) | refine s_know Tk (fun h1 => ?_) (fun h1 => ?_)
  · have h1 := bneT h1
    rw [if_pos h1] at hR
    subst hR
    refine g_ret_co Tk (r := _) rfl rfl rfl trivial rfl rfl ?_
    repeat' (first | refine coD_tup ?_ | refine coD_agg ?_ | refine coD_i ?_ | refine CoDL.cons ?_ ?_ | exact CoDL.nil | exact coI_nil | refine coI_sl ?_ | refine CoLL.cons ?_ ?_ | exact CoLL.nil | refine CoL.cons ?_ ?_ | exact CoL.nil | exact CoI.refl _ | exact CoL.refl _ | exact CoLL.refl _ | exact CoDL.refl _ | exact CoD.refl _)
  have h1 := bneF h1
  rw [if_neg (by simpa using h1)] at hR
  rw [hR] at ht
  first | refine g_call Tk Tryd.func31 (ht _) rfl rfl rfl rfl rfl ?_ | refine s_callq Tk (fun _ => ht _) rfl rfl rfl ?_
  refine g_ret Tk (r := .tup [bools R.1, ii R.2]) rfl rfl rfl trivial rfl rfl ?_
  rfl
end Go.AI


/- Equal lists, boxes that contain values, searches in lists of boxes and of values. -/
namespace Go.AI
open Go.Proofs
set_option maxRecDepth 20000
abbrev bxI (b : Bx) : List I := [intsI b.low, intsI b.high]
abbrev bxD (b : Bx) : D := .agg [ints b.low, ints b.high]
abbrev bxs (l : List Bx) : D := .i (.sl 2 l.length (l.map bxI))
abbrev obxs (l : List Bx) : Ob := .arr 55 2 l.length (l.map bxI) true
theorem obxs_app (l : List Bx) (x : Bx) : Ob.arr 55 2 (l.length + 1) (l.map bxI ++ [bxI x]) true = obxs (l ++ [x]) := by simp
theorem sameInts36 (O : List Heap) (a b : List Int) (ha : a.length ≤ max63) : ASpec Tryd.prog 36 [ints a, ints b] O (bb (decide (a = b))) [] O := by
  refine aspec_intro Tk Tryd.func36 rfl Tryd.call36 Tryd.ntmps36 (Nat.le_of_ble_eq_true rfl) fun E => ?_
  refine g_run Tk Tryd.func36 ?_
  first | refine g_cnd Tk Tryd.func36 rfl (fun h1 => ?_) (fun h1 => ?_) | refine g_know Tk Tryd.func36 rfl (fun h1 => ?_) (fun h1 => ?_) | refine s_know Tk (fun h1 => ?_) (fun h1 => ?_)
  · have h1 := bneT h1
    rw [decide_eq_false fun e => h1 (by rw [e])]
    refine g_ret Tk (r := bb false) rfl rfl rfl trivial rfl rfl ?_
    rfl
  have h1 := bneF h1
  have hlen : a.length = b.length := by
    have : ((a.length : Nat) : Int) = b.length := by simpa using h1
    omega
  refine g_loop ?_
  refine rch_loop2 (fun i : Nat => [(0, ints a), (1, ints b), (5, ii i)]) (fun _ => []) (fun _ => O) 26
    (fun i => i ≤ a.length ∧ ∀ (j : Nat) (h : j < a.length), j < i → a[j] = b[j]'(by omega)) (fun i => a.length - i) 0 ⟨Nat.zero_le _, fun j _ h => by omega⟩ ⟨rfl, rfl, rfl, trivial⟩ rfl trivial rfl rfl ?_
  rintro i ⟨hi, hno⟩ ih
  refine g_run Tk Tryd.func36 ?_
  first | refine g_cnd Tk Tryd.func36 rfl (fun h2 => ?_) (fun h2 => ?_) | refine g_know Tk Tryd.func36 rfl (fun h2 => ?_) (fun h2 => ?_) | refine s_know Tk (fun h2 => ?_) (fun h2 => ?_)
  · have h2 : i < a.length := by simpa using h2
    have ga : (a.map fun x => [vi x])[(i : Int).toNat]? = some [(fun x => vi x) a[i]] := get_mapZ (f := fun x => [vi x]) h2
    have gb : (b.map fun x => [vi x])[(i : Int).toNat]? = some [(fun x => vi x) (b[i]'(by omega))] := get_mapZ (f := fun x => [vi x]) (by omega)
    have hne : a[i] ≠ b[i]'(by omega) → a ≠ b := fun h e => by subst e; exact h rfl
    have hstep : a[i] = b[i]'(by omega) → ∀ (j : Nat) (h : j < a.length), j < i + 1 → a[j] = b[j]'(by omega) := fun h j hj hji => by
      by_cases e : j = i
      · subst e; exact h
      · exact hno j hj (by omega)
    generalize a[i] = x at *
    generalize b[i]'(by omega) = y at *
    refine g_drawn Tk Tryd.func36 mixedT rfl ?_
    first | refine g_need Tk Tryd.func36 (by exact ⟨by omega, by show (i : Int) < (a.length : Int); omega⟩) ?_ | refine s_need Tk (by exact ⟨by omega, by show (i : Int) < (a.length : Int); omega⟩) ?_
    first | refine g_elem Tk Tryd.func36 (ga) ?_ | refine s_elem Tk (ga) ?_
    first | refine g_need Tk Tryd.func36 (by exact ⟨by omega, by show (i : Int) < (b.length : Int); omega⟩) ?_ | refine s_need Tk (by exact ⟨by omega, by show (i : Int) < (b.length : Int); omega⟩) ?_
    first | refine g_elem Tk Tryd.func36 (gb) ?_ | refine s_elem Tk (gb) ?_
    refine e_done Tk Tryd.func36 (by kernel_rfl) ?_
    first | refine g_cnd Tk Tryd.func36 rfl (fun h3 => ?_) (fun h3 => ?_) | refine g_know Tk Tryd.func36 rfl (fun h3 => ?_) (fun h3 => ?_) | refine s_know Tk (fun h3 => ?_) (fun h3 => ?_)
    · have h3 : x ≠ y := by simpa using h3
      rw [decide_eq_false (hne h3)]
      refine g_ret Tk (r := bb false) rfl rfl rfl trivial rfl rfl ?_
      rfl
    · have h3 : x = y := by simpa using h3
      refine g_loop ?_
      exact ih (i + 1) _ _ ⟨h2, hstep h3⟩ (by omega) ⟨rfl, rfl, congrArg ii (wsucc h2 ha), trivial⟩ rfl trivial rfl rfl
  · have h2 : a.length ≤ i := by simpa using h2
    have : a = b := List.ext_getElem hlen fun j h h' => hno j h (by omega)
    rw [decide_eq_true this]
    refine g_ret Tk (r := bb true) rfl rfl rfl trivial rfl rfl ?_
    rfl
theorem contains152 (O : List Heap) (b : Bx) (v : List Int) (h1 : v.length ≤ b.low.length) (h2 : v.length ≤ b.high.length) (hl : v.length ≤ max63) : ASpec Tryd.prog 152 [bxD b, ints v] O (bb (b.has v)) [] O := by
  obtain ⟨lo, hi⟩ := b
  unfold Bx.has
  simp only at h1 h2 ⊢
  generalize hR : contB v lo hi = R
  refine aspec_intro Tk Tryd.func152 rfl Tryd.call152 Tryd.ntmps152 (Nat.le_of_ble_eq_true rfl) fun E => ?_
  refine g_run Tk Tryd.func152 ?_
  refine g_loop ?_
  refine rch_loop2 (fun i : Nat => [(2, .own 0 2 0 0), (7, ints v), (8, ii v.length), (9, ii i)]) (fun i => [(2, .box [ints lo, ints hi])]) (fun _ => O) 31
    (fun i => i ≤ v.length ∧ contB (v.drop i) (lo.drop i) (hi.drop i) = R) (fun i => v.length - i) 0 ⟨Nat.zero_le _, hR⟩ ⟨rfl, rfl, rfl, rfl, trivial⟩ rfl ⟨rfl, trivial⟩ rfl rfl ?_
  rintro i ⟨hi', hno⟩ ih
  clear hR
  refine g_run Tk Tryd.func152 ?_
  first | refine g_cnd Tk Tryd.func152 rfl (fun g1 => ?_) (fun g1 => ?_) | refine g_know Tk Tryd.func152 rfl (fun g1 => ?_) (fun g1 => ?_) | refine s_know Tk (fun g1 => ?_) (fun g1 => ?_)
  · have h3 : i < v.length := by simpa using g1
    have gv : (v.map fun x => [vi x])[(i : Int).toNat]? = some [vi v[i]] := get_mapZ (f := fun x => [vi x]) h3
    have gl : (lo.map fun x => [vi x])[(i : Int).toNat]? = some [vi (lo[i]'(by omega))] := get_mapZ (f := fun x => [vi x]) (by omega)
    have gh : (hi.map fun x => [vi x])[(i : Int).toNat]? = some [vi (hi[i]'(by omega))] := get_mapZ (f := fun x => [vi x]) (by omega)
    have dv : v.drop i = v[i] :: v.drop (i + 1) := List.drop_eq_getElem_cons h3
    have dl : lo.drop i = (lo[i]'(by omega)) :: lo.drop (i + 1) := List.drop_eq_getElem_cons (by omega)
    have dh : hi.drop i = (hi[i]'(by omega)) :: hi.drop (i + 1) := List.drop_eq_getElem_cons (by omega)
    rw [dv, dl, dh] at hno
    simp only [contB] at hno
    clear dv dl dh
    generalize v[i] = x at *
    generalize lo[i]'(by omega) = a at *
    generalize hi[i]'(by omega) = c at *
    first | refine g_need Tk Tryd.func152 (by exact ⟨by omega, by show (i : Int) < (v.length : Int); omega⟩) ?_ | refine s_need Tk (by exact ⟨by omega, by show (i : Int) < (v.length : Int); omega⟩) ?_
    first | refine g_elem Tk Tryd.func152 (gv) ?_ | refine s_elem Tk (gv) ?_
    first | refine g_need Tk Tryd.func152 (by exact ⟨by omega, by show (i : Int) < (lo.length : Int); omega⟩) ?_ | refine s_need Tk (by exact ⟨by omega, by show (i : Int) < (lo.length : Int); omega⟩) ?_
    first | refine g_elem Tk Tryd.func152 (gl) ?_ | refine s_elem Tk (gl) ?_
    first | refine g_cnd Tk Tryd.func152 rfl (fun h4 => ?_) (fun h4 => ?_) | refine g_know Tk Tryd.func152 rfl (fun h4 => ?_) (fun h4 => ?_) | refine s_know Tk (fun h4 => ?_) (fun h4 => ?_)
    · have h4 : x < a := of_decide_eq_true h4
      have : R = false := by rw [← hno]; simp [h4]
      subst this
      repeat (first | refine g_cnd Tk Tryd.func152 rfl (fun _ => ?_) (fun h => absurd h (by decide)) | refine g_cnd Tk Tryd.func152 rfl (fun h => absurd h (by decide)) (fun _ => ?_) | refine g_know Tk Tryd.func152 rfl (fun _ => ?_) (fun h => absurd h (by decide)) | refine g_know Tk Tryd.func152 rfl (fun h => absurd h (by decide)) (fun _ => ?_) | refine s_know Tk (fun _ => ?_) (fun h => absurd h (by decide)) | refine s_know Tk (fun h => absurd h (by decide)) (fun _ => ?_))
      refine g_ret Tk (r := bb false) rfl rfl rfl trivial rfl rfl ?_
      rfl
    have h4 : ¬ x < a := of_decide_eq_false h4
    first | refine g_need Tk Tryd.func152 (by exact ⟨by omega, by show (i : Int) < (hi.length : Int); omega⟩) ?_ | refine s_need Tk (by exact ⟨by omega, by show (i : Int) < (hi.length : Int); omega⟩) ?_
    first | refine g_elem Tk Tryd.func152 (gh) ?_ | refine s_elem Tk (gh) ?_
    first | refine g_cnd Tk Tryd.func152 rfl (fun h5 => ?_) (fun h5 => ?_) | refine g_know Tk Tryd.func152 rfl (fun h5 => ?_) (fun h5 => ?_) | refine s_know Tk (fun h5 => ?_) (fun h5 => ?_)
    · have h5 : c < x := of_decide_eq_true h5
      have : R = false := by rw [← hno]; simp [h5]
      subst this
      refine g_ret Tk (r := bb false) rfl rfl rfl trivial rfl rfl ?_
      rfl
    have h5 : ¬ c < x := of_decide_eq_false h5
    have hno : contB (v.drop (i + 1)) (lo.drop (i + 1)) (hi.drop (i + 1)) = R := by rw [← hno]; simp [h4, h5]
    refine g_loop ?_
    exact ih (i + 1) _ _ ⟨h3, hno⟩ (by omega) ⟨rfl, rfl, rfl, congrArg ii (wsucc h3 hl), trivial⟩ rfl ⟨rfl, trivial⟩ rfl rfl
  · have h3 : v.length ≤ i := by simpa using g1
    rw [List.drop_eq_nil_of_le h3] at hno
    have : R = true := by rw [← hno]; cases lo.drop i <;> cases hi.drop i <;> rfl
    subst this
    refine g_ret Tk (r := bb true) rfl rfl rfl trivial rfl rfl ?_
    rfl
theorem contains152o (O : List Heap) (b : Bx) (v : List Int) (d n1 n2 : Nat) (ho1 : objAt O d n1 = some (oints b.low)) (ho2 : objAt O d n2 = some (oints b.high)) (h1 : v.length ≤ b.low.length) (h2 : v.length ≤ b.high.length) (hl : v.length ≤ max63) : ASpec Tryd.prog 152 [.agg [.osl d n1, .osl d n2], ints v] O (bb (b.has v)) [] O := by
  obtain ⟨lo, hi⟩ := b
  unfold Bx.has
  simp only at h1 h2 ho1 ho2 ⊢
  generalize hR : contB v lo hi = R
  refine aspec_intro Tk Tryd.func152 rfl Tryd.call152 Tryd.ntmps152 (Nat.le_of_ble_eq_true rfl) fun E => ?_
  refine g_run Tk Tryd.func152 ?_
  refine g_loop ?_
  refine rch_loop2 (fun i : Nat => [(2, .own 0 2 0 0), (7, ints v), (8, ii v.length), (9, ii i)]) (fun i => [(2, .box [.osl (d + 1) n1, .osl (d + 1) n2])]) (fun _ => O) 31
    (fun i => i ≤ v.length ∧ contB (v.drop i) (lo.drop i) (hi.drop i) = R) (fun i => v.length - i) 0 ⟨Nat.zero_le _, hR⟩ ⟨rfl, rfl, rfl, rfl, trivial⟩ rfl ⟨rfl, trivial⟩ rfl rfl ?_
  rintro i ⟨hi', hno⟩ ih
  clear hR
  refine g_run Tk Tryd.func152 ?_
  first | refine g_cnd Tk Tryd.func152 rfl (fun g1 => ?_) (fun g1 => ?_) | refine g_know Tk Tryd.func152 rfl (fun g1 => ?_) (fun g1 => ?_) | refine s_know Tk (fun g1 => ?_) (fun g1 => ?_)
  · have h3 : i < v.length := by simpa using g1
    have gv : (v.map fun x => [vi x])[(i : Int).toNat]? = some [vi v[i]] := get_mapZ (f := fun x => [vi x]) h3
    have gl : (lo.map fun x => [vi x])[(i : Int).toNat]? = some [vi (lo[i]'(by omega))] := get_mapZ (f := fun x => [vi x]) (by omega)
    have gh : (hi.map fun x => [vi x])[(i : Int).toNat]? = some [vi (hi[i]'(by omega))] := get_mapZ (f := fun x => [vi x]) (by omega)
    have dv : v.drop i = v[i] :: v.drop (i + 1) := List.drop_eq_getElem_cons h3
    have dl : lo.drop i = (lo[i]'(by omega)) :: lo.drop (i + 1) := List.drop_eq_getElem_cons (by omega)
    have dh : hi.drop i = (hi[i]'(by omega)) :: hi.drop (i + 1) := List.drop_eq_getElem_cons (by omega)
    rw [dv, dl, dh] at hno
    simp only [contB] at hno
    clear dv dl dh
    generalize v[i] = x at *
    generalize lo[i]'(by omega) = a at *
    generalize hi[i]'(by omega) = c at *
    first | refine g_need Tk Tryd.func152 (by exact ⟨by omega, by show (i : Int) < (v.length : Int); omega⟩) ?_ | refine s_need Tk (by exact ⟨by omega, by show (i : Int) < (v.length : Int); omega⟩) ?_
    first | refine g_elem Tk Tryd.func152 (gv) ?_ | refine s_elem Tk (gv) ?_
    first | refine g_obj Tk Tryd.func152 (up_obj ho1) ?_ | refine s_obj Tk (up_obj ho1) ?_
    first | refine g_need Tk Tryd.func152 (by exact ⟨by omega, by show (i : Int) < (lo.length : Int); omega⟩) ?_ | refine s_need Tk (by exact ⟨by omega, by show (i : Int) < (lo.length : Int); omega⟩) ?_
    first | refine g_obj Tk Tryd.func152 (up_obj ho1) ?_ | refine s_obj Tk (up_obj ho1) ?_
    first | refine g_elem Tk Tryd.func152 (gl) ?_ | refine s_elem Tk (gl) ?_
    first | refine g_cnd Tk Tryd.func152 rfl (fun h4 => ?_) (fun h4 => ?_) | refine g_know Tk Tryd.func152 rfl (fun h4 => ?_) (fun h4 => ?_) | refine s_know Tk (fun h4 => ?_) (fun h4 => ?_)
    · have h4 : x < a := of_decide_eq_true h4
      have : R = false := by rw [← hno]; simp [h4]
      subst this
      repeat (first | refine g_cnd Tk Tryd.func152 rfl (fun _ => ?_) (fun h => absurd h (by decide)) | refine g_cnd Tk Tryd.func152 rfl (fun h => absurd h (by decide)) (fun _ => ?_) | refine g_know Tk Tryd.func152 rfl (fun _ => ?_) (fun h => absurd h (by decide)) | refine g_know Tk Tryd.func152 rfl (fun h => absurd h (by decide)) (fun _ => ?_) | refine s_know Tk (fun _ => ?_) (fun h => absurd h (by decide)) | refine s_know Tk (fun h => absurd h (by decide)) (fun _ => ?_))
      refine g_ret Tk (r := bb false) rfl rfl rfl trivial rfl rfl ?_
      rfl
    have h4 : ¬ x < a := of_decide_eq_false h4
    first | refine g_obj Tk Tryd.func152 (up_obj ho2) ?_ | refine s_obj Tk (up_obj ho2) ?_
    first | refine g_need Tk Tryd.func152 (by exact ⟨by omega, by show (i : Int) < (hi.length : Int); omega⟩) ?_ | refine s_need Tk (by exact ⟨by omega, by show (i : Int) < (hi.length : Int); omega⟩) ?_
    first | refine g_obj Tk Tryd.func152 (up_obj ho2) ?_ | refine s_obj Tk (up_obj ho2) ?_
    first | refine g_elem Tk Tryd.func152 (gh) ?_ | refine s_elem Tk (gh) ?_
    first | refine g_cnd Tk Tryd.func152 rfl (fun h5 => ?_) (fun h5 => ?_) | refine g_know Tk Tryd.func152 rfl (fun h5 => ?_) (fun h5 => ?_) | refine s_know Tk (fun h5 => ?_) (fun h5 => ?_)
    · have h5 : c < x := of_decide_eq_true h5
      have : R = false := by rw [← hno]; simp [h5]
      subst this
      refine g_ret Tk (r := bb false) rfl rfl rfl trivial rfl rfl ?_
      rfl
    have h5 : ¬ c < x := of_decide_eq_false h5
    have hno : contB (v.drop (i + 1)) (lo.drop (i + 1)) (hi.drop (i + 1)) = R := by rw [← hno]; simp [h4, h5]
    refine g_loop ?_
    exact ih (i + 1) _ _ ⟨h3, hno⟩ (by omega) ⟨rfl, rfl, rfl, congrArg ii (wsucc h3 hl), trivial⟩ rfl ⟨rfl, trivial⟩ rfl rfl
  · have h3 : v.length ≤ i := by simpa using g1
    rw [List.drop_eq_nil_of_le h3] at hno
    have : R = true := by rw [← hno]; cases lo.drop i <;> cases hi.drop i <;> rfl
    subst this
    refine g_ret Tk (r := bb true) rfl rfl rfl trivial rfl rfl ?_
    rfl
end Go.AI
