/- The layer of abstract runs, part 45. -/
import Derived.Test.YtonnakcgopcfnaaDoorJilZR
set_option linter.unusedSimpArgs false
set_option linter.unusedVariables false
set_option linter.all false

/- Expr and Holds. -/
namespace Go.AI
open Go.Proofs
set_option maxRecDepth 20000
def exprR (l : List Vr) (boxes : List Bx) : Ex × Int := if checkBoxesR l boxes ≠ 0 then (zeroE, checkBoxesR l boxes) else joinedR l boxes
theorem expr39 (O : List Heap) (l : List Vr) (boxes : List Bx) (hl : l.length ≤ max63) (hn : ∀ v ∈ l, v.name.size ≤ max63) (hbl : boxes.length ≤ 4096) : ASpec Tryd.prog 39 [vrs l, bxs boxes] O (.tup [exA (exprR l boxes).1, ii (exprR l boxes).2]) [] O := by
  have hck := fun O => checkBoxes89 O l boxes hl hn (by simp only [max63]; omega)
  have hok := @checkBoxes_ok l boxes
  have hjo := fun h1 h2 O => joined76 O l boxes h1 h2 hbl
  generalize hR : exprR l boxes = R
  unfold exprR at hR
  generalize checkBoxesR l boxes = e at *
  generalize joinedR l boxes = J at *
  refine aspec_intro Tk Tryd.func39 rfl Tryd.call39 Tryd.ntmps39 (Nat.le_of_ble_eq_true rfl) fun E => ?_
  refine g_run Tk Tryd.func39 ?_
  first | refine g_call Tk Tryd.func39 (hck _) rfl rfl rfl rfl rfl ?_ | refine s_callq Tk (fun _ => hck _) rfl rfl rfl ?_
  first | refine g_cnd Tk Tryd.func39 rfl (fun h1 => ?_) (fun h1 => ?_) | refine g_know Tk Tryd.func39 rfl (fun h1 => ?_) (fun h1 => ?_) | refine s_know Tk (fun h1 => ?_) (fun h1 => ?_)
  · have h1 := bneT h1
    rw [if_pos h1] at hR
    subst hR
    refine g_ret_co Tk (r := .tup [.agg [ii 0, ii 0, ii 0, .i (.v (.slice none 0 0))], ii e]) rfl rfl rfl trivial rfl rfl ?_
    exact coZeroE
  have h1 := bneF h1
  rw [if_neg (by simpa using h1)] at hR
  subst hR
  have hd := hok h1
  obtain ⟨⟨jo, jv, ji, ja⟩, je⟩ := J
  have hjo := hjo hd.1.len fun b hb => ⟨(hd.2 b hb).1, (hd.2 b hb).2.1⟩
  first | refine g_call Tk Tryd.func39 (hjo _) rfl rfl rfl rfl rfl ?_ | refine s_callq Tk (fun _ => hjo _) rfl rfl rfl ?_
  refine g_ret Tk (r := .tup [exA (.mk jo jv ji ja), ii je]) rfl rfl rfl trivial rfl rfl ?_
  rfl
def holdsR (l : List Vr) (boxes : List Bx) (v : List Int) : Bool × Int := if checkBoxesR l boxes ≠ 0 then (false, checkBoxesR l boxes) else if within l v = false then (false, 2) else (inBs boxes v, 0)
theorem within_length {l : List Vr} {v : List Int} (h : within l v = true) : l.length = v.length := by
  apply Classical.byContradiction
  intro hc
  rw [within_len l v hc] at h
  cases h
theorem holds42 (O : List Heap) (l : List Vr) (boxes : List Bx) (v : List Int) (hl : l.length ≤ max63) (hn : ∀ v ∈ l, v.name.size ≤ max63) (hbl : boxes.length ≤ max63) : ASpec Tryd.prog 42 [vrs l, bxs boxes, ints v] O (.tup [bb (holdsR l boxes v).1, ii (holdsR l boxes v).2]) [] O := by
  have hck := fun O => checkBoxes89 O l boxes hl hn hbl
  have hok := @checkBoxes_ok l boxes
  have hwi := fun O => within52 O l v hl
  have hwl := @within_length l v
  generalize hR : holdsR l boxes v = R
  unfold holdsR at hR
  generalize checkBoxesR l boxes = e at *
  refine aspec_intro Tk Tryd.func42 rfl Tryd.call42 Tryd.ntmps42 (Nat.le_of_ble_eq_true rfl) fun E => ?_
  refine g_run Tk Tryd.func42 ?_
  first | refine g_call Tk Tryd.func42 (hck _) rfl rfl rfl rfl rfl ?_ | refine s_callq Tk (fun _ => hck _) rfl rfl rfl ?_
  first | refine g_cnd Tk Tryd.func42 rfl (fun h1 => ?_) (fun h1 => ?_) | refine g_know Tk Tryd.func42 rfl (fun h1 => ?_) (fun h1 => ?_) | refine s_know Tk (fun h1 => ?_) (fun h1 => ?_)
  · have h1 := bneT h1
    rw [if_pos h1] at hR
    subst hR
    refine g_ret Tk (r := .tup [bb false, ii e]) rfl rfl rfl trivial rfl rfl ?_
    rfl
  have h1 := bneF h1
  rw [if_neg (by simpa using h1)] at hR
  have hd := hok h1
  first | refine g_call Tk Tryd.func42 (hwi _) rfl rfl rfl rfl rfl ?_ | refine s_callq Tk (fun _ => hwi _) rfl rfl rfl ?_
  cases hw : within l v with
  | false =>
    rw [hw, if_pos rfl] at hR
    subst hR
    repeat (first | refine g_cnd Tk Tryd.func42 rfl (fun _ => ?_) (fun h => absurd h (by decide)) | refine g_know Tk Tryd.func42 rfl (fun _ => ?_) (fun h => absurd h (by decide)) | refine s_know Tk (fun _ => ?_) (fun h => absurd h (by decide)) | refine g_cnd Tk Tryd.func42 rfl (fun h => absurd h (by decide)) (fun _ => ?_) | refine g_know Tk Tryd.func42 rfl (fun h => absurd h (by decide)) (fun _ => ?_) | refine s_know Tk (fun h => absurd h (by decide)) (fun _ => ?_) | refine g_cnd Tk Tryd.func42 rfl (fun _ => ?_) (fun h => absurd (show true = false from h) (by decide)) | refine g_know Tk Tryd.func42 rfl (fun _ => ?_) (fun h => absurd (show true = false from h) (by decide)) | refine s_know Tk (fun _ => ?_) (fun h => absurd (show true = false from h) (by decide)) | refine g_cnd Tk Tryd.func42 rfl (fun h => absurd (show false = true from h) (by decide)) (fun _ => ?_) | refine g_know Tk Tryd.func42 rfl (fun h => absurd (show false = true from h) (by decide)) (fun _ => ?_) | refine s_know Tk (fun h => absurd (show false = true from h) (by decide)) (fun _ => ?_))
    refine g_ret Tk (r := .tup [bb false, ii 2]) rfl rfl rfl trivial rfl rfl ?_
    rfl
  | true =>
    rw [hw, if_neg (by decide)] at hR
    subst hR
    have hlen := hwl hw
    have hin := fun O => in94 O boxes v hbl (fun b hb => ⟨by rw [(hd.2 b hb).1]; omega, by rw [(hd.2 b hb).2.1]; omega⟩) (by omega)
    repeat (first | refine g_cnd Tk Tryd.func42 rfl (fun _ => ?_) (fun h => absurd h (by decide)) | refine g_know Tk Tryd.func42 rfl (fun _ => ?_) (fun h => absurd h (by decide)) | refine s_know Tk (fun _ => ?_) (fun h => absurd h (by decide)) | refine g_cnd Tk Tryd.func42 rfl (fun h => absurd h (by decide)) (fun _ => ?_) | refine g_know Tk Tryd.func42 rfl (fun h => absurd h (by decide)) (fun _ => ?_) | refine s_know Tk (fun h => absurd h (by decide)) (fun _ => ?_) | refine g_cnd Tk Tryd.func42 rfl (fun _ => ?_) (fun h => absurd (show true = false from h) (by decide)) | refine g_know Tk Tryd.func42 rfl (fun _ => ?_) (fun h => absurd (show true = false from h) (by decide)) | refine s_know Tk (fun _ => ?_) (fun h => absurd (show true = false from h) (by decide)) | refine g_cnd Tk Tryd.func42 rfl (fun h => absurd (show false = true from h) (by decide)) (fun _ => ?_) | refine g_know Tk Tryd.func42 rfl (fun h => absurd (show false = true from h) (by decide)) (fun _ => ?_) | refine s_know Tk (fun h => absurd (show false = true from h) (by decide)) (fun _ => ?_))
    first | refine g_call Tk Tryd.func42 (hin _) rfl rfl rfl rfl rfl ?_ | refine s_callq Tk (fun _ => hin _) rfl rfl rfl ?_
    refine g_ret Tk (r := .tup [bb (inBs boxes v), ii 0]) rfl rfl rfl trivial rfl rfl ?_
    rfl
end Go.AI


/- GuardRefuses. -/
namespace Go.AI
open Go.Proofs
set_option maxRecDepth 20000
end Go.AI


/- GuardExprs. -/
namespace Go.AI
open Go.Proofs
set_option maxRecDepth 20000
theorem box_in {v : Vr} {p : Int × Int} (h : bvOk v p.1 p.2) : v.low ≤ (boxV v p).1 ∧ (boxV v p).1 ≤ (boxV v p).2 ∧ (boxV v p).2 ≤ v.high := by
  have h1 := h.v
  have h4 := h.b
  obtain ⟨_, h2, h3⟩ := rawS_eq h
  have h5 := Int.tmod_lt_of_pos p.2 (show 0 < v.high - v.low + 1 - p.1.tmod (v.high - v.low + 1) by omega)
  have h6 := Int.tmod_nonneg (v.high - v.low + 1 - p.1.tmod (v.high - v.low + 1)) h4.1
  unfold boxV
  simp only
  omega
abbrev vB (l : List Vr) : Prop := ∀ v ∈ l, (-1000 ≤ v.low ∧ v.high ≤ 1000) ∧ v.low ≤ v.high
theorem row_ok : ∀ (l : List Vr) (k : Nat) (t : Tri), vB l → t.byte → chkV l ((rowR l k t).map (·.1)) ((rowR l k t).map (·.2)) = 0 ∧ ∀ p ∈ rowR l k t, (-1000 ≤ p.1 ∧ p.1 ≤ 1000) ∧ -1000 ≤ p.2 ∧ p.2 ≤ 1000
  | [], _, _, _, _ => ⟨rfl, by simp [rowR]⟩
  | v :: r, k, t, hv, ht => by
    have hb := box_in (v := v) (p := t.at k) ⟨hv v (by simp), (ht k).1, (ht k).2⟩
    have hv1 := hv v (by simp)
    obtain ⟨h1, h2⟩ := row_ok r (k + 1) t (fun w hw => hv w (by simp [hw])) ht
    simp only [rowR, List.map_cons, chkV]
    refine ⟨?_, ?_⟩
    · rw [if_neg (by omega)]
      exact h1
    · intro p hp
      rcases List.mem_cons.1 hp with rfl | hp
      · omega
      · exact h2 p hp
structure rightB (l : List Vr) (b : Bx) : Prop where
  lo : b.low.length = l.length
  hi : b.high.length = l.length
  blo : ∀ x ∈ b.low, -1000 ≤ x ∧ x ≤ 1000
  bhi : ∀ x ∈ b.high, -1000 ≤ x ∧ x ≤ 1000
  chk : chkBx l b = 0
theorem boxT_ok {l : List Vr} {t : Tri} (hv : vB l) (ht : t.byte) : rightB l (boxT l t) := by
  obtain ⟨h1, h2⟩ := row_ok l 0 t hv ht
  have hlen := rowR_len l 0 t
  refine ⟨by simp [boxT, hlen], by simp [boxT, hlen], fun x hx => ?_, fun x hx => ?_, ?_⟩
  · obtain ⟨p, hp, rfl⟩ := List.mem_map.1 hx
    exact (h2 p hp).1
  · obtain ⟨p, hp, rfl⟩ := List.mem_map.1 hx
    exact (h2 p hp).2
  · unfold chkBx
    rw [if_neg (by simp [boxT, hlen])]
    exact h1
theorem chkBs_right {l : List Vr} : ∀ {B : List Bx}, (∀ b ∈ B, rightB l b) → chkBs l B = 0
  | [], _ => rfl
  | b :: r, h => by
    unfold chkBs
    rw [(h b (by simp)).chk, if_neg (by simp)]
    exact chkBs_right fun c hc => h c (by simp [hc])
theorem within_inV : ∀ {l : List Vr} {v : List Int}, inV l v → within l v = true
  | [], [], _ => rfl
  | [], _ :: _, h => h.elim
  | _ :: _, [], h => h.elim
  | a :: l, x :: v, h => by
    simp only [within, Bool.and_eq_true, decide_eq_true_eq]
    exact ⟨⟨h.1.1, h.1.2⟩, within_inV h.2⟩
theorem textR_ok {l : List Vr} {B : List Bx} (h : checkBoxesR l B = 0) : textR l B = (bText l B, 0) := by
  unfold textR bText
  rw [if_neg (by simpa using h)]
  split <;> rfl
theorem cnt_step {l : List Vr} {B : List Bx} {i : Nat} {c : Nat} (h : i < B.length) : ((B.drop i).map fun b => (b.lits l).length).foldl (· + ·) c = ((B.drop (i + 1)).map fun b => (b.lits l).length).foldl (· + ·) (c + (B[i].lits l).length) := by
  rw [List.drop_eq_getElem_cons h]
  rfl
set_option maxHeartbeats 4000000 in
theorem guardExprs8 {g : Nat} (hg : IsTab g) {ty : TypeId} {fr : Nat × Nat} (O : List Heap) (r : List (Int × Int)) (d : List Tri) (hr : r.length ≤ max63) (hp : ∀ p ∈ r, pairOk p) (hd : ∀ t ∈ d, t.byte) (hdl : d.length ≤ max63) : ASpecT g (ptab ty fr) Tryd.prog 8 [r8s r, dft d] O (bb true) [] O := by
  have hkn := fun O => known15 hg (ty := ty) (fr := fr) O
  have hrg := fun O => ranges45 O r hr hp
  have hs := rngs_small hp
  generalize rngsR r = l at *
  have hl3 := hs.len
  have hmx := hs.max
  have hnm : ∀ v ∈ l, v.name.size ≤ 1000 := fun v hv => by rw [(hs.v v hv).nm]; decide
  have hvb : vB l := fun v hv => by
    have h1 := (hs.v v hv).lo
    have h2 := (hs.v v hv).hi
    have h3 := (hs.v v hv).w
    omega
  have hbx := fun O => boxes37 O l d hl3 hvb hd hdl
  have hB : ∀ b ∈ (d.take 4).map (boxT l), rightB l b := fun b hb => by
    obtain ⟨t, ht, rfl⟩ := List.mem_map.1 hb
    exact boxT_ok hvb (hd t (List.mem_of_mem_take ht))
  have hBl : ((d.take 4).map (boxT l)).length ≤ 4 := by simp; omega
  generalize (d.take 4).map (boxT l) = B at *
  have hcb : checkBoxesR l B = 0 := by unfold checkBoxesR; rw [hs.all, if_neg (by simp)]; exact chkBs_right hB
  have hbl2 : ∀ b ∈ B, b.low.length = l.length ∧ b.high.length = l.length := fun b hb => ⟨(hB b hb).lo, (hB b hb).hi⟩
  have hwh := fun O => whole25 O l B (by omega) hnm (fun b hb => ⟨⟨(hB b hb).lo, (hB b hb).hi⟩, (hB b hb).blo, (hB b hb).bhi⟩) (by omega)
  have hxp := fun O => expr39 O l B hmx.1 hmx.2 (by omega)
  have htx := fun O => text40 hg (ty := ty) (fr := fr) O l B hmx.1 hnm (by omega)
  have hli := fun O => literals41 O l B hmx.1 hmx.2 (by omega)
  have hho := fun O v => holds42 O l B v hmx.1 hmx.2 (by simp only [max63]; omega)
  have hdm := fun O => domain17 O l hs.dom.len hs.dom.b hs.dom.cnt
  have hin : ∀ v ∈ allV l, inV l v := fun v hv => (allV_dom l).mem v |>.1 hv
  have hwi : ∀ v ∈ allV l, holdsR l B v = (inBs B v, 0) := fun v hv => by
    unfold holdsR
    rw [if_neg (by simpa using hcb), if_neg (by rw [within_inV (hin v hv)]; simp)]
  have hvl : ∀ v ∈ allV l, v.length = l.length := fun v hv => inV_len (hin v hv)
  have hmost := hs.most
  have hdl4 := hs.dom.len
  rw [textR_ok hcb] at htx
  unfold exprR at hxp
  unfold literalsR at hli
  rw [if_neg (by simpa using hcb)] at hxp hli
  have hlt := fun O b hb => literals38 O l b (hB b hb).lo (hB b hb).hi (by omega) hnm (hB b hb).blo (hB b hb).bhi
  have hck := fun O => check67A O (wholeR l B) l.length (exOk_whole l B)
  have heqw := fun O => equalSame O (wholeR l B) (exOk_whole l B)
  have hev := fun v hv hc => evalX_whole (boxes := B) hbl2 (hin v hv) hs.bd hc
  have hea := fun O v hv => evaluate51A O (wholeR l B) v (exOk_whole l B) hv
  have hj1 := @joined_bad l B (by omega)
  have hj2 := @joined_good l B
  have hcn : cntLits l B = ((B.drop 0).map fun b => (b.lits l).length).foldl (· + ·) 0 := rfl
  have hlb : ∀ b : Bx, (b.lits l).length ≤ 2 * l.length := fun b => lits_len l 0 b.low b.high
  have hwb := fun O b v h1 h2 h3 => within28 O b v h1 h2 h3
  generalize cntLits l B = N at *
  generalize bText l B = T at *
  generalize joinedR l B = J at *
  generalize wholeR l B = W at *
  generalize checkX W l.length = K at *
  obtain ⟨kk, ke⟩ := K
  obtain ⟨jx, je⟩ := J
  simp only at hck hev hj1 hj2 hxp hli htx
  generalize allV l = dom at *
  obtain ⟨wo, wv, wi, wa⟩ := W
  refine aspecT_stop [12, 21] Tk Tryd.func8 rfl Tryd.call8 Tryd.ntmps8 (Nat.le_of_ble_eq_true rfl) fun E hE => ?_
  refine g_run Tk Tryd.func8 ?_
  refine g_callT Tk Tryd.func8 hE (hkn _) rfl rfl rfl rfl rfl rfl ?_
  repeat (first | refine g_cnd Tk Tryd.func8 rfl (fun _ => ?_) (fun h => absurd h (by decide)) | refine g_know Tk Tryd.func8 rfl (fun _ => ?_) (fun h => absurd h (by decide)) | refine s_know Tk (fun _ => ?_) (fun h => absurd h (by decide)) | refine g_cnd Tk Tryd.func8 rfl (fun h => absurd h (by decide)) (fun _ => ?_) | refine g_know Tk Tryd.func8 rfl (fun h => absurd h (by decide)) (fun _ => ?_) | refine s_know Tk (fun h => absurd h (by decide)) (fun _ => ?_) | refine g_cnd Tk Tryd.func8 rfl (fun _ => ?_) (fun h => absurd (show true = false from h) (by decide)) | refine g_know Tk Tryd.func8 rfl (fun _ => ?_) (fun h => absurd (show true = false from h) (by decide)) | refine s_know Tk (fun _ => ?_) (fun h => absurd (show true = false from h) (by decide)) | refine g_cnd Tk Tryd.func8 rfl (fun h => absurd (show false = true from h) (by decide)) (fun _ => ?_) | refine g_know Tk Tryd.func8 rfl (fun h => absurd (show false = true from h) (by decide)) (fun _ => ?_) | refine s_know Tk (fun h => absurd (show false = true from h) (by decide)) (fun _ => ?_))
  first | refine g_call Tk Tryd.func8 (hrg _) rfl rfl rfl rfl rfl ?_ | refine s_callq Tk (fun _ => hrg _) rfl rfl rfl ?_
  first | refine g_call Tk Tryd.func8 (hbx _) rfl rfl rfl rfl rfl ?_ | refine s_callq Tk (fun _ => hbx _) rfl rfl rfl ?_
  first | refine g_call Tk Tryd.func8 (hwh _) rfl rfl rfl rfl rfl ?_ | refine s_callq Tk (fun _ => hwh _) rfl rfl rfl ?_
  refine g_loop ?_
  refine rch_loop2 (fun z : Nat × Nat => [(5, vrs l), (6, bxs B), (7, .own 0 7 0 0), (8, strD T), (9, ii z.2), (10, ii z.1)]) (fun _ => [(7, exBx (Ex.mk wo wv wi wa))]) (fun _ => O) 185
    (fun z => z.1 ≤ B.length ∧ z.2 ≤ 100 * z.1 ∧ N = ((B.drop z.1).map fun b => (b.lits l).length).foldl (· + ·) z.2) (fun z => B.length - z.1) (0, 0) ⟨Nat.zero_le _, by simp, hcn⟩ ⟨rfl, rfl, rfl, rfl, rfl, rfl, trivial⟩ rfl ⟨rfl, trivial⟩ rfl rfl ?_
  clear hcn
  rintro ⟨i, c⟩ ⟨hi, hc, hno⟩ ih
  simp only at hi hc hno
  refine g_run Tk Tryd.func8 ?_
  first | refine g_cnd Tk Tryd.func8 rfl (fun g1 => ?_) (fun g1 => ?_) | refine g_know Tk Tryd.func8 rfl (fun g1 => ?_) (fun g1 => ?_) | refine s_know Tk (fun g1 => ?_) (fun g1 => ?_)
  · have h1 : i < B.length := by simpa using g1
    clear g1
    have gb : (B.map bxI)[(i : Int).toNat]? = some (bxI B[i]) := get_mapZ h1
    have hlt := fun O => hlt O B[i] (List.getElem_mem h1)
    have hlb := hlb B[i]
    rw [cnt_step h1] at hno
    generalize B[i] = b at *
    obtain ⟨lo, hi2⟩ := b
    first | refine g_need Tk Tryd.func8 (by exact ⟨by omega, by show (i : Int) < (B.length : Int); omega⟩) ?_ | refine s_need Tk (by exact ⟨by omega, by show (i : Int) < (B.length : Int); omega⟩) ?_
    first | refine g_elem Tk Tryd.func8 (gb) ?_ | refine s_elem Tk (gb) ?_
    first | refine g_call Tk Tryd.func8 (hlt _) rfl rfl rfl rfl rfl ?_ | refine s_callq Tk (fun _ => hlt _) rfl rfl rfl ?_
    refine g_loop ?_
    refine ih (i + 1, c + ((Bx.mk lo hi2).lits l).length) _ _ ⟨h1, by simp only; omega, hno⟩ (by simp only; omega) ⟨rfl, rfl, rfl, rfl, ?_, congrArg ii (wsucc (n := 4096) (by omega) (by decide)), trivial⟩ rfl ⟨rfl, trivial⟩ rfl rfl
    show ii (IntKind.i64.wrap ((c : Int) + ((((Bx.mk lo hi2).lits l).map litX).length : Int))) = ii ((c + ((Bx.mk lo hi2).lits l).length : Nat) : Int)
    rw [List.length_map, w64 (by omega) (by omega)]
    simp
  have h1 : B.length ≤ i := by simpa using g1
  rw [List.drop_eq_nil_of_le h1] at hno
  simp only [List.map_nil, List.foldl_nil] at hno
  subst hno
  clear ih g1
  obtain ⟨xo, xv, xi, xa⟩ := jx
  apply join_p (P := je = ke) (s6 := { σ := [(5, vrs l), (6, bxs B), (7, .own 0 7 0 0), (8, strD T), (9, ii N), (14, ii ke), (15, strD T), (16, ii 0), (17, ii N), (18, ii 0)], S := [(7, exBx (Ex.mk wo wv wi wa))] :: O, n := 185 })
  · intro J
    refine g_go Tk Tryd.func8 ?_
    first | refine g_call Tk Tryd.func8 (hxp _) rfl rfl rfl rfl rfl ?_ | refine s_callq Tk (fun _ => hxp _) rfl rfl rfl ?_
    refine g_callT Tk Tryd.func8 hE (htx _) rfl rfl rfl rfl rfl rfl ?_
    first | refine g_call Tk Tryd.func8 (hli _) rfl rfl rfl rfl rfl ?_ | refine s_callq Tk (fun _ => hli _) rfl rfl rfl ?_
    first | refine g_call Tk Tryd.func8 (hck _) rfl rfl rfl rfl rfl ?_ | refine s_callq Tk (fun _ => hck _) rfl rfl rfl ?_
    first | refine g_cnd Tk Tryd.func8 rfl (fun g2 => ?_) (fun g2 => ?_) | refine g_know Tk Tryd.func8 rfl (fun g2 => ?_) (fun g2 => ?_) | refine s_know Tk (fun g2 => ?_) (fun g2 => ?_)
    · have g2 : ke ≠ 0 := bneT g2
      have hj1 := hj1 g2
      have e1 : xo = 0 ∧ xv = 0 ∧ xi = 0 ∧ xa = [] := by
        have := congrArg Prod.fst hj1
        simp only [zeroE, Ex.mk.injEq] at this
        exact this
      have e2 : je = ke := congrArg Prod.snd hj1
      obtain ⟨rfl, rfl, rfl, rfl⟩ := e1
      subst e2
      first | refine g_call Tk Tryd.func8 (eqZero _) rfl rfl rfl rfl rfl ?_ | refine s_callq Tk (fun _ => eqZero _) rfl rfl rfl ?_
      repeat (first | refine g_cnd Tk Tryd.func8 rfl (fun _ => ?_) (fun h => absurd h (by decide)) | refine g_know Tk Tryd.func8 rfl (fun _ => ?_) (fun h => absurd h (by decide)) | refine s_know Tk (fun _ => ?_) (fun h => absurd h (by decide)) | refine g_cnd Tk Tryd.func8 rfl (fun h => absurd h (by decide)) (fun _ => ?_) | refine g_know Tk Tryd.func8 rfl (fun h => absurd h (by decide)) (fun _ => ?_) | refine s_know Tk (fun h => absurd h (by decide)) (fun _ => ?_) | refine g_cnd Tk Tryd.func8 rfl (fun _ => ?_) (fun h => absurd (show true = false from h) (by decide)) | refine g_know Tk Tryd.func8 rfl (fun _ => ?_) (fun h => absurd (show true = false from h) (by decide)) | refine s_know Tk (fun _ => ?_) (fun h => absurd (show true = false from h) (by decide)) | refine g_cnd Tk Tryd.func8 rfl (fun h => absurd (show false = true from h) (by decide)) (fun _ => ?_) | refine g_know Tk Tryd.func8 rfl (fun h => absurd (show false = true from h) (by decide)) (fun _ => ?_) | refine s_know Tk (fun h => absurd (show false = true from h) (by decide)) (fun _ => ?_))
      first | refine g_cnd Tk Tryd.func8 rfl (fun g3 => ?_) (fun g3 => ?_) | refine g_know Tk Tryd.func8 rfl (fun g3 => ?_) (fun g3 => ?_) | refine s_know Tk (fun g3 => ?_) (fun g3 => ?_)
      · exact absurd rfl (bneT g3)
      refine g_stop ?_
      refine rch_meet (J rfl) ⟨rfl, rfl, rfl, rfl, rfl, rfl, rfl, rfl, rfl, rfl, trivial⟩ rfl ⟨rfl, trivial⟩ rfl rfl
    have g2 : ke = 0 := bneF g2
    have hj2 := hj2 g2
    have e1 : xo = wo ∧ xv = wv ∧ xi = wi ∧ xa = wa := by
      have := congrArg Prod.fst hj2
      simp only [Ex.mk.injEq] at this
      exact this
    have e2 : je = 0 := congrArg Prod.snd hj2
    obtain ⟨rfl, rfl, rfl, rfl⟩ := e1
    subst e2 g2
    first | refine g_call Tk Tryd.func8 (heqw _) rfl rfl rfl rfl rfl ?_ | refine s_callq Tk (fun _ => heqw _) rfl rfl rfl ?_
    repeat (first | refine g_cnd Tk Tryd.func8 rfl (fun _ => ?_) (fun h => absurd h (by decide)) | refine g_know Tk Tryd.func8 rfl (fun _ => ?_) (fun h => absurd h (by decide)) | refine s_know Tk (fun _ => ?_) (fun h => absurd h (by decide)) | refine g_cnd Tk Tryd.func8 rfl (fun h => absurd h (by decide)) (fun _ => ?_) | refine g_know Tk Tryd.func8 rfl (fun h => absurd h (by decide)) (fun _ => ?_) | refine s_know Tk (fun h => absurd h (by decide)) (fun _ => ?_) | refine g_cnd Tk Tryd.func8 rfl (fun _ => ?_) (fun h => absurd (show true = false from h) (by decide)) | refine g_know Tk Tryd.func8 rfl (fun _ => ?_) (fun h => absurd (show true = false from h) (by decide)) | refine s_know Tk (fun _ => ?_) (fun h => absurd (show true = false from h) (by decide)) | refine g_cnd Tk Tryd.func8 rfl (fun h => absurd (show false = true from h) (by decide)) (fun _ => ?_) | refine g_know Tk Tryd.func8 rfl (fun h => absurd (show false = true from h) (by decide)) (fun _ => ?_) | refine s_know Tk (fun h => absurd (show false = true from h) (by decide)) (fun _ => ?_))
    refine g_stop ?_
    refine rch_meet (J rfl) ⟨rfl, rfl, rfl, rfl, rfl, rfl, rfl, rfl, rfl, rfl, trivial⟩ rfl ⟨rfl, trivial⟩ rfl rfl
  intro _
  clear hxp htx hli hck heqw hj1 hj2
  refine g_run Tk Tryd.func8 ?_
  refine g_go Tk Tryd.func8 ?_
  first | refine g_call Tk Tryd.func8 (hdm _) rfl rfl rfl rfl rfl ?_ | refine s_callq Tk (fun _ => hdm _) rfl rfl rfl ?_
  refine g_loop ?_
  refine rch_loop2 (fun z : Nat => [(5, vrs l), (6, bxs B), (7, .own 0 7 0 0), (8, strD T), (9, ii N), (14, ii ke), (15, strD T), (16, ii 0), (17, ii N), (18, ii 0), (21, intss dom), (22, ii z)]) (fun _ => [(7, exBx (Ex.mk wo wv wi wa))]) (fun _ => O) 185
    (fun z => z ≤ dom.length) (fun z => dom.length - z) 0 (Nat.zero_le _) ⟨rfl, rfl, rfl, rfl, rfl, rfl, rfl, rfl, rfl, rfl, rfl, rfl, trivial⟩ rfl ⟨rfl, trivial⟩ rfl rfl ?_
  rintro i hi ih
  refine g_run Tk Tryd.func8 ?_
  first | refine g_cnd Tk Tryd.func8 rfl (fun g1 => ?_) (fun g1 => ?_) | refine g_know Tk Tryd.func8 rfl (fun g1 => ?_) (fun g1 => ?_) | refine s_know Tk (fun g1 => ?_) (fun g1 => ?_)
  rotate_left
  · repeat (first | refine g_cnd Tk Tryd.func8 rfl (fun _ => ?_) (fun h => absurd h (by decide)) | refine g_know Tk Tryd.func8 rfl (fun _ => ?_) (fun h => absurd h (by decide)) | refine s_know Tk (fun _ => ?_) (fun h => absurd h (by decide)) | refine g_cnd Tk Tryd.func8 rfl (fun h => absurd h (by decide)) (fun _ => ?_) | refine g_know Tk Tryd.func8 rfl (fun h => absurd h (by decide)) (fun _ => ?_) | refine s_know Tk (fun h => absurd h (by decide)) (fun _ => ?_) | refine g_cnd Tk Tryd.func8 rfl (fun _ => ?_) (fun h => absurd (show true = false from h) (by decide)) | refine g_know Tk Tryd.func8 rfl (fun _ => ?_) (fun h => absurd (show true = false from h) (by decide)) | refine s_know Tk (fun _ => ?_) (fun h => absurd (show true = false from h) (by decide)) | refine g_cnd Tk Tryd.func8 rfl (fun h => absurd (show false = true from h) (by decide)) (fun _ => ?_) | refine g_know Tk Tryd.func8 rfl (fun h => absurd (show false = true from h) (by decide)) (fun _ => ?_) | refine s_know Tk (fun h => absurd (show false = true from h) (by decide)) (fun _ => ?_))
    first | refine g_cnd Tk Tryd.func8 rfl (fun g2 => ?_) (fun g2 => ?_) | refine g_know Tk Tryd.func8 rfl (fun g2 => ?_) (fun g2 => ?_) | refine s_know Tk (fun g2 => ?_) (fun g2 => ?_)
    rotate_left
    · simp at g2
    repeat (first | refine g_cnd Tk Tryd.func8 rfl (fun _ => ?_) (fun h => absurd h (by decide)) | refine g_know Tk Tryd.func8 rfl (fun _ => ?_) (fun h => absurd h (by decide)) | refine s_know Tk (fun _ => ?_) (fun h => absurd h (by decide)) | refine g_cnd Tk Tryd.func8 rfl (fun h => absurd h (by decide)) (fun _ => ?_) | refine g_know Tk Tryd.func8 rfl (fun h => absurd h (by decide)) (fun _ => ?_) | refine s_know Tk (fun h => absurd h (by decide)) (fun _ => ?_) | refine g_cnd Tk Tryd.func8 rfl (fun _ => ?_) (fun h => absurd (show true = false from h) (by decide)) | refine g_know Tk Tryd.func8 rfl (fun _ => ?_) (fun h => absurd (show true = false from h) (by decide)) | refine s_know Tk (fun _ => ?_) (fun h => absurd (show true = false from h) (by decide)) | refine g_cnd Tk Tryd.func8 rfl (fun h => absurd (show false = true from h) (by decide)) (fun _ => ?_) | refine g_know Tk Tryd.func8 rfl (fun h => absurd (show false = true from h) (by decide)) (fun _ => ?_) | refine s_know Tk (fun h => absurd (show false = true from h) (by decide)) (fun _ => ?_))
    first | refine g_cnd Tk Tryd.func8 rfl (fun g3 => ?_) (fun g3 => ?_) | refine g_know Tk Tryd.func8 rfl (fun g3 => ?_) (fun g3 => ?_) | refine s_know Tk (fun g3 => ?_) (fun g3 => ?_)
    rotate_left
    · exact absurd rfl (beqF g3)
    repeat (first | refine g_cnd Tk Tryd.func8 rfl (fun _ => ?_) (fun h => absurd h (by decide)) | refine g_know Tk Tryd.func8 rfl (fun _ => ?_) (fun h => absurd h (by decide)) | refine s_know Tk (fun _ => ?_) (fun h => absurd h (by decide)) | refine g_cnd Tk Tryd.func8 rfl (fun h => absurd h (by decide)) (fun _ => ?_) | refine g_know Tk Tryd.func8 rfl (fun h => absurd h (by decide)) (fun _ => ?_) | refine s_know Tk (fun h => absurd h (by decide)) (fun _ => ?_) | refine g_cnd Tk Tryd.func8 rfl (fun _ => ?_) (fun h => absurd (show true = false from h) (by decide)) | refine g_know Tk Tryd.func8 rfl (fun _ => ?_) (fun h => absurd (show true = false from h) (by decide)) | refine s_know Tk (fun _ => ?_) (fun h => absurd (show true = false from h) (by decide)) | refine g_cnd Tk Tryd.func8 rfl (fun h => absurd (show false = true from h) (by decide)) (fun _ => ?_) | refine g_know Tk Tryd.func8 rfl (fun h => absurd (show false = true from h) (by decide)) (fun _ => ?_) | refine s_know Tk (fun h => absurd (show false = true from h) (by decide)) (fun _ => ?_))
    refine g_ret Tk (r := bb true) rfl rfl rfl trivial rfl rfl ?_
    rfl
  have h1 : i < dom.length := by simpa using g1
  clear g1
  have gv : (dom.map fun x => [intsI x])[(i : Int).toNat]? = some [intsI dom[i]] := get_mapZ (f := fun x => [intsI x]) h1
  have hm := List.getElem_mem h1
  have hvl := hvl _ hm
  have hwi := hwi _ hm
  have hev := hev _ hm
  have hho := fun O => hho O dom[i]
  have hea := fun O => hea O dom[i] (by rw [hvl]; simp only [max63]; omega)
  have hwb := fun O b (h : b ∈ B) => hwb O b dom[i] (by rw [hvl, (hB b h).lo]; exact Nat.le_refl _) (by rw [hvl, (hB b h).hi]; exact Nat.le_refl _) (by rw [hvl]; simp only [max63]; omega)
  rw [hwi] at hho
  have hi1 : ii (IntKind.i64.wrap ((i : Int) + 1)) = ii ((i + 1 : Nat) : Int) := congrArg ii (wsucc (n := 4096) (by omega) (by decide))
  have hb1 : 0 ≤ (i : Int) ∧ (i : Int) < (dom.length : Int) := by omega
  clear hwi hm
  have hin0 : inBs B dom[i] = (false || inBs (B.drop 0) dom[i]) := rfl
  generalize dom[i] = v at *
  generalize hq : inBs B v = q at *
  generalize evalX (Ex.mk wo wv wi wa) v = V at *
  obtain ⟨y, e⟩ := V
  simp only at hea hho hev
  first | refine g_need Tk Tryd.func8 (hb1) ?_ | refine s_need Tk (hb1) ?_
  first | refine g_elem Tk Tryd.func8 (gv) ?_ | refine s_elem Tk (gv) ?_
  first | refine g_call Tk Tryd.func8 (hho _) rfl rfl rfl rfl rfl ?_ | refine s_callq Tk (fun _ => hho _) rfl rfl rfl ?_
  refine g_loop ?_
  refine rch_loop2 (fun z : Nat × Bool => [(5, vrs l), (6, bxs B), (7, .own 0 7 0 0), (8, strD T), (9, ii N), (14, ii ke), (15, strD T), (16, ii 0), (17, ii N), (18, ii 0), (21, intss dom), (22, ii i), (23, bb q), (24, ii 0), (25, bb z.2), (26, ii z.1)]) (fun _ => [(7, exBx (Ex.mk wo wv wi wa))]) (fun _ => O) 185
    (fun z => z.1 ≤ B.length ∧ q = (z.2 || inBs (B.drop z.1) v)) (fun z => B.length - z.1) (0, false) ⟨Nat.zero_le _, hin0⟩ ⟨rfl, rfl, rfl, rfl, rfl, rfl, rfl, rfl, rfl, rfl, rfl, rfl, rfl, rfl, rfl, rfl, trivial⟩ rfl ⟨rfl, trivial⟩ rfl rfl ?_
  clear hin0
  rintro ⟨k, p⟩ ⟨hk, hno⟩ ih2
  simp only at hk hno
  refine g_run Tk Tryd.func8 ?_
  first | refine g_cnd Tk Tryd.func8 rfl (fun g2 => ?_) (fun g2 => ?_) | refine g_know Tk Tryd.func8 rfl (fun g2 => ?_) (fun g2 => ?_) | refine s_know Tk (fun g2 => ?_) (fun g2 => ?_)
  · have h2 : k < B.length := by simpa using g2
    clear g2
    have gb : (B.map bxI)[(k : Int).toNat]? = some (bxI B[k]) := get_mapZ h2
    have hwb := fun O => hwb O B[k] (List.getElem_mem h2)
    rw [List.drop_eq_getElem_cons h2, inBs_cons] at hno
    generalize B[k] = b at *
    obtain ⟨lo, hi2⟩ := b
    have hk1 : ii (IntKind.i64.wrap ((k : Int) + 1)) = ii ((k + 1 : Nat) : Int) := congrArg ii (wsucc (n := 4096) (by omega) (by decide))
    cases p with
    | true =>
      refine g_drawn Tk Tryd.func8 mixedT rfl ?_
      repeat (first | refine g_cnd Tk Tryd.func8 rfl (fun _ => ?_) (fun h => absurd h (by decide)) | refine g_know Tk Tryd.func8 rfl (fun _ => ?_) (fun h => absurd h (by decide)) | refine s_know Tk (fun _ => ?_) (fun h => absurd h (by decide)) | refine g_cnd Tk Tryd.func8 rfl (fun h => absurd h (by decide)) (fun _ => ?_) | refine g_know Tk Tryd.func8 rfl (fun h => absurd h (by decide)) (fun _ => ?_) | refine s_know Tk (fun h => absurd h (by decide)) (fun _ => ?_) | refine g_cnd Tk Tryd.func8 rfl (fun _ => ?_) (fun h => absurd (show true = false from h) (by decide)) | refine g_know Tk Tryd.func8 rfl (fun _ => ?_) (fun h => absurd (show true = false from h) (by decide)) | refine s_know Tk (fun _ => ?_) (fun h => absurd (show true = false from h) (by decide)) | refine g_cnd Tk Tryd.func8 rfl (fun h => absurd (show false = true from h) (by decide)) (fun _ => ?_) | refine g_know Tk Tryd.func8 rfl (fun h => absurd (show false = true from h) (by decide)) (fun _ => ?_) | refine s_know Tk (fun h => absurd (show false = true from h) (by decide)) (fun _ => ?_))
      refine e_done Tk Tryd.func8 (by kernel_rfl) ?_
      refine g_loop ?_
      exact ih2 (k + 1, true) _ _ ⟨h2, by rw [hno]; rfl⟩ (by simp only; omega) ⟨rfl, rfl, rfl, rfl, rfl, rfl, rfl, rfl, rfl, rfl, rfl, rfl, rfl, rfl, rfl, hk1, trivial⟩ rfl ⟨rfl, trivial⟩ rfl rfl
    | false =>
      refine g_drawn Tk Tryd.func8 mixedT rfl ?_
      repeat (first | refine g_cnd Tk Tryd.func8 rfl (fun _ => ?_) (fun h => absurd h (by decide)) | refine g_know Tk Tryd.func8 rfl (fun _ => ?_) (fun h => absurd h (by decide)) | refine s_know Tk (fun _ => ?_) (fun h => absurd h (by decide)) | refine g_cnd Tk Tryd.func8 rfl (fun h => absurd h (by decide)) (fun _ => ?_) | refine g_know Tk Tryd.func8 rfl (fun h => absurd h (by decide)) (fun _ => ?_) | refine s_know Tk (fun h => absurd h (by decide)) (fun _ => ?_) | refine g_cnd Tk Tryd.func8 rfl (fun _ => ?_) (fun h => absurd (show true = false from h) (by decide)) | refine g_know Tk Tryd.func8 rfl (fun _ => ?_) (fun h => absurd (show true = false from h) (by decide)) | refine s_know Tk (fun _ => ?_) (fun h => absurd (show true = false from h) (by decide)) | refine g_cnd Tk Tryd.func8 rfl (fun h => absurd (show false = true from h) (by decide)) (fun _ => ?_) | refine g_know Tk Tryd.func8 rfl (fun h => absurd (show false = true from h) (by decide)) (fun _ => ?_) | refine s_know Tk (fun h => absurd (show false = true from h) (by decide)) (fun _ => ?_))
      first | refine g_need Tk Tryd.func8 (by exact ⟨by omega, by show (k : Int) < (B.length : Int); omega⟩) ?_ | refine s_need Tk (by exact ⟨by omega, by show (k : Int) < (B.length : Int); omega⟩) ?_
      first | refine g_elem Tk Tryd.func8 (gb) ?_ | refine s_elem Tk (gb) ?_
      first | refine g_need Tk Tryd.func8 (hb1) ?_ | refine s_need Tk (hb1) ?_
      first | refine g_elem Tk Tryd.func8 (gv) ?_ | refine s_elem Tk (gv) ?_
      first | refine g_call Tk Tryd.func8 (hwb _) rfl rfl rfl rfl rfl ?_ | refine s_callq Tk (fun _ => hwb _) rfl rfl rfl ?_
      refine e_done Tk Tryd.func8 (by kernel_rfl) ?_
      refine g_loop ?_
      exact ih2 (k + 1, (Bx.mk lo hi2).has v) _ _ ⟨h2, by rw [hno]; rfl⟩ (by simp only; omega) ⟨rfl, rfl, rfl, rfl, rfl, rfl, rfl, rfl, rfl, rfl, rfl, rfl, rfl, rfl, rfl, hk1, trivial⟩ rfl ⟨rfl, trivial⟩ rfl rfl
  have h2 : B.length ≤ k := by simpa using g2
  rw [List.drop_eq_nil_of_le h2] at hno
  have hqp : q = p := by rw [hno]; simp [inBs]
  subst hqp
  clear hno hq g2 ih2
  first | refine g_cnd Tk Tryd.func8 rfl (fun g2 => ?_) (fun g2 => ?_) | refine g_know Tk Tryd.func8 rfl (fun g2 => ?_) (fun g2 => ?_) | refine s_know Tk (fun g2 => ?_) (fun g2 => ?_)
  · clear hev; revert g2; cases q <;> simp
  repeat (first | refine g_cnd Tk Tryd.func8 rfl (fun _ => ?_) (fun h => absurd h (by decide)) | refine g_know Tk Tryd.func8 rfl (fun _ => ?_) (fun h => absurd h (by decide)) | refine s_know Tk (fun _ => ?_) (fun h => absurd h (by decide)) | refine g_cnd Tk Tryd.func8 rfl (fun h => absurd h (by decide)) (fun _ => ?_) | refine g_know Tk Tryd.func8 rfl (fun h => absurd h (by decide)) (fun _ => ?_) | refine s_know Tk (fun h => absurd h (by decide)) (fun _ => ?_) | refine g_cnd Tk Tryd.func8 rfl (fun _ => ?_) (fun h => absurd (show true = false from h) (by decide)) | refine g_know Tk Tryd.func8 rfl (fun _ => ?_) (fun h => absurd (show true = false from h) (by decide)) | refine s_know Tk (fun _ => ?_) (fun h => absurd (show true = false from h) (by decide)) | refine g_cnd Tk Tryd.func8 rfl (fun h => absurd (show false = true from h) (by decide)) (fun _ => ?_) | refine g_know Tk Tryd.func8 rfl (fun h => absurd (show false = true from h) (by decide)) (fun _ => ?_) | refine s_know Tk (fun h => absurd (show false = true from h) (by decide)) (fun _ => ?_))
  refine g_drawn Tk Tryd.func8 mixedT rfl ?_
  first | refine g_need Tk Tryd.func8 (hb1) ?_ | refine s_need Tk (hb1) ?_
  first | refine g_elem Tk Tryd.func8 (gv) ?_ | refine s_elem Tk (gv) ?_
  first | refine g_call Tk Tryd.func8 (hea _) rfl rfl rfl rfl rfl ?_ | refine s_callq Tk (fun _ => hea _) rfl rfl rfl ?_
  refine e_done Tk Tryd.func8 (by kernel_rfl) ?_
  first | refine g_cnd Tk Tryd.func8 rfl (fun g3 => ?_) (fun g3 => ?_) | refine g_know Tk Tryd.func8 rfl (fun g3 => ?_) (fun g3 => ?_) | refine s_know Tk (fun g3 => ?_) (fun g3 => ?_)
  · have g3 : ke = 0 := beqT g3
    have hv := hev g3
    obtain ⟨rfl, rfl⟩ : y = tr (q = true) ∧ e = 0 := ⟨congrArg Prod.fst hv, congrArg Prod.snd hv⟩
    repeat (first | refine g_cnd Tk Tryd.func8 rfl (fun _ => ?_) (fun h => absurd h (by decide)) | refine g_know Tk Tryd.func8 rfl (fun _ => ?_) (fun h => absurd h (by decide)) | refine s_know Tk (fun _ => ?_) (fun h => absurd h (by decide)) | refine g_cnd Tk Tryd.func8 rfl (fun h => absurd h (by decide)) (fun _ => ?_) | refine g_know Tk Tryd.func8 rfl (fun h => absurd h (by decide)) (fun _ => ?_) | refine s_know Tk (fun h => absurd h (by decide)) (fun _ => ?_) | refine g_cnd Tk Tryd.func8 rfl (fun _ => ?_) (fun h => absurd (show true = false from h) (by decide)) | refine g_know Tk Tryd.func8 rfl (fun _ => ?_) (fun h => absurd (show true = false from h) (by decide)) | refine s_know Tk (fun _ => ?_) (fun h => absurd (show true = false from h) (by decide)) | refine g_cnd Tk Tryd.func8 rfl (fun h => absurd (show false = true from h) (by decide)) (fun _ => ?_) | refine g_know Tk Tryd.func8 rfl (fun h => absurd (show false = true from h) (by decide)) (fun _ => ?_) | refine s_know Tk (fun h => absurd (show false = true from h) (by decide)) (fun _ => ?_))
    first | refine g_cnd Tk Tryd.func8 rfl (fun g4 => ?_) (fun g4 => ?_) | refine g_know Tk Tryd.func8 rfl (fun g4 => ?_) (fun g4 => ?_) | refine s_know Tk (fun g4 => ?_) (fun g4 => ?_)
    · clear hev hv hea hho; revert g4; cases q <;> simp [tr]
    refine g_loop ?_
    exact ih (i + 1) _ _ h1 (by omega) ⟨rfl, rfl, rfl, rfl, rfl, rfl, rfl, rfl, rfl, rfl, rfl, hi1, trivial⟩ rfl ⟨rfl, trivial⟩ rfl rfl
  · repeat (first | refine g_cnd Tk Tryd.func8 rfl (fun _ => ?_) (fun h => absurd h (by decide)) | refine g_know Tk Tryd.func8 rfl (fun _ => ?_) (fun h => absurd h (by decide)) | refine s_know Tk (fun _ => ?_) (fun h => absurd h (by decide)) | refine g_cnd Tk Tryd.func8 rfl (fun h => absurd h (by decide)) (fun _ => ?_) | refine g_know Tk Tryd.func8 rfl (fun h => absurd h (by decide)) (fun _ => ?_) | refine s_know Tk (fun h => absurd h (by decide)) (fun _ => ?_) | refine g_cnd Tk Tryd.func8 rfl (fun _ => ?_) (fun h => absurd (show true = false from h) (by decide)) | refine g_know Tk Tryd.func8 rfl (fun _ => ?_) (fun h => absurd (show true = false from h) (by decide)) | refine s_know Tk (fun _ => ?_) (fun h => absurd (show true = false from h) (by decide)) | refine g_cnd Tk Tryd.func8 rfl (fun h => absurd (show false = true from h) (by decide)) (fun _ => ?_) | refine g_know Tk Tryd.func8 rfl (fun h => absurd (show false = true from h) (by decide)) (fun _ => ?_) | refine s_know Tk (fun h => absurd (show false = true from h) (by decide)) (fun _ => ?_))
    refine g_loop ?_
    exact ih (i + 1) _ _ h1 (by omega) ⟨rfl, rfl, rfl, rfl, rfl, rfl, rfl, rfl, rfl, rfl, rfl, hi1, trivial⟩ rfl ⟨rfl, trivial⟩ rfl rfl
end Go.AI
