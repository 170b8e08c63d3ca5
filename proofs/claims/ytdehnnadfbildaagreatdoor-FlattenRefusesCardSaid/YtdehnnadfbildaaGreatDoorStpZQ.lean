/- The layer of abstract runs, part 43. -/
import Derived.Test.YtdehnnadfbildaaGreatDoorStpZP
import Derived.KernelRfl
import Derived.Laws.Strings
set_option linter.unusedSimpArgs false
set_option linter.unusedVariables false
set_option linter.all false

/- The step of a joint list: flatten.step. -/
namespace Go.AI
open Go.Proofs
set_option maxRecDepth 20000
theorem scan_ne {loc ev : Int} {vals : List Int} : ∀ {l : List Mv} {i c : Nat} {k : Option Nat}, ∀ e, (scanMv loc ev vals l i c k).1 = some e → e ≠ 0
  | [], i, c, k, e, h => by simp [scanMv] at h
  | x :: r, i, c, k, e, h => by
    simp only [scanMv] at h
    split at h
    · exact scan_ne e h
    split at h
    · rename_i h1
      simp only [Option.some.injEq] at h
      rw [← h]
      exact h1
    split at h <;> exact scan_ne e h
theorem chos_sel {m : Ext} {loc ev : Int} {vals : List Int} : match selK m loc ev vals with
    | .error e => e ≠ 0 ∧ (chosR m loc ev vals).2 = (false, e)
    | .ok k => chosR m loc ev vals = (mvAt m.moves k, k.isSome, 0) := by
  have h1 := @scan_ne loc ev vals m.moves 0 0 none
  have h2 := @scan_cnt loc ev vals m.moves 0 0 none rfl
  unfold selK chosR
  generalize scanMv loc ev vals m.moves 0 0 none = S at *
  obtain ⟨e, c, k⟩ := S
  cases e with
  | some e => exact ⟨h1 e rfl, rfl⟩
  | none =>
    have h2 := h2 rfl
    simp only at h2 ⊢
    by_cases hc : c > 1
    · simp only [if_pos hc]
      exact ⟨by decide, trivial⟩
    · simp only [if_neg hc]
      rw [h2]
      congr 2
      apply decide_eq_decide.2
      omega
theorem mvAt_mem (l : List Mv) (k : Option Nat) : mvAt l k = zeroMv ∨ mvAt l k ∈ l := by
  cases k with
  | none => exact .inl rfl
  | some k =>
    simp only [mvAt, List.getD_eq_getElem?_getD]
    cases h : l[k]? with
    | none => exact .inl rfl
    | some x => exact .inr (List.mem_of_getElem? h)
theorem mvsO_mem : ∀ {l : List Ext} {ps : List (Option (Option Nat))}, ∀ x ∈ mvsO l ps, x = zeroMv ∨ ∃ m ∈ l, x ∈ m.moves
  | [], ps, x, h => by simp [mvsO] at h
  | m :: r, [], x, h => by simp [mvsO] at h
  | m :: r, none :: ps, x, h => by
    simp only [mvsO] at h
    rcases mvsO_mem x h with h | ⟨n, hn, hx⟩
    · exact .inl h
    · exact .inr ⟨n, by simp [hn], hx⟩
  | m :: r, some k :: ps, x, h => by
    simp only [mvsO, List.mem_cons] at h
    rcases h with rfl | h
    · rcases mvAt_mem m.moves k with h | h
      · exact .inl h
      · exact .inr ⟨m, by simp, h⟩
    · rcases mvsO_mem x h with h | ⟨n, hn, hx⟩
      · exact .inl h
      · exact .inr ⟨n, by simp [hn], hx⟩
theorem mvsO_len : ∀ (l : List Ext) (ps : List (Option (Option Nat))), (mvsO l ps).length ≤ l.length
  | [], ps => by simp [mvsO]
  | m :: r, [] => by simp [mvsO]
  | m :: r, none :: ps => by have := mvsO_len r ps; simp only [mvsO, List.length_cons]; omega
  | m :: r, some k :: ps => by have := mvsO_len r ps; simp only [mvsO, List.length_cons]; omega
theorem mvsO_us {l : List Ext} (hj : jntOk l) {ps : List (Option (Option Nat))} : ∀ x ∈ mvsO l ps, x.us.length ≤ max63 ∧ ∀ u ∈ x.us, exOk u.x ∧ 0 ≤ u.v ∧ u.v < (vars0 l).length := by
  intro x hx
  rcases mvsO_mem x hx with rfl | ⟨m, hm, hx⟩
  · exact ⟨Nat.zero_le _, fun u hu => by simp [zeroMv] at hu⟩
  · have h1 := (hj.ok m hm).mv x hx
    have h2 := updErr_range ((hj.right m hm).mv x hx).us
    rw [hj.same m hm] at h2
    exact ⟨h1.2.1, fun u hu => ⟨h1.2.2 u hu, (h2 u hu).1, (h2 u hu).2.1⟩⟩
theorem asgU_err {vars : List Vr} {vals : List Int} : ∀ {us : List Upd} {out G : List Int} {e : Int}, asgU vars vals us out G = .error e → e = 17 ∨ e = 13
  | [], out, G, e, h => by simp [asgU] at h
  | u :: r, out, G, e, h => by
    simp only [asgU] at h
    split at h
    · simp only [Except.error.injEq] at h; exact .inl h.symm
    split at h
    · simp only [Except.error.injEq] at h; exact .inr h.symm
    · exact asgU_err h
theorem asgM_err {vars : List Vr} {vals : List Int} : ∀ {ms : List Mv} {out G : List Int} {e : Int}, asgM vars vals ms out G = .error e → e = 17 ∨ e = 13
  | [], out, G, e, h => by simp [asgM] at h
  | x :: r, out, G, e, h => by
    simp only [asgM] at h
    cases hu : asgU vars vals x.us out G with
    | error e' =>
      rw [hu] at h
      simp only [Except.error.injEq] at h
      subst h
      exact asgU_err hu
    | ok p =>
      rw [hu] at h
      exact asgM_err h
abbrev omvs (l : List Mv) : Ob := .arr 107 8 l.length (l.map mvI) true
theorem omvs_app (l : List Mv) (x : Mv) : Ob.arr 107 8 (l.length + 1) (l.map mvI ++ [mvI x]) true = omvs (l ++ [x]) := by simp
theorem coZO {b : Bool} {e : Int} : CoD (.tup [.agg [.i (.v (.slice none 0 0)), .i (.v (.slice none 0 0))], bb b, ii e]) (.tup [orgD zeroO, bb b, ii e]) := by
  show CoD _ (.tup [.agg [.i (.sl 1 0 []), .i (.sl 1 0 [])], bb b, ii e])
  repeat' (first | refine coD_tup ?_ | refine coD_agg ?_ | refine coD_i ?_ | refine CoDL.cons ?_ ?_ | exact CoDL.nil | exact coI_nil | refine coI_sl ?_ | refine CoLL.cons ?_ ?_ | exact CoLL.nil | refine CoL.cons ?_ ?_ | exact CoL.nil | exact CoI.refl _ | exact CoL.refl _ | exact CoLL.refl _ | exact CoDL.refl _ | exact CoD.refl _)
set_option maxHeartbeats 4000000 in
theorem step40 (O : List Heap) (l : List Ext) (o : Org) (ev : Int) (hj : jntOk l) (hlo : o.locs.length = l.length) (hlv : o.vals.length = (vars0 l).length) :
    ASpec Tryz.prog 40 [exts l, orgD o, ii ev] O (.tup [orgD (stepO l o ev).1, bb (stepO l o ev).2.1, ii (stepO l o ev).2.2]) [] O := by
  have hl12 := hj.len
  have hv16 : (vars0 l).length ≤ 16 := by
    match l, hj with
    | [], hj => exact absurd rfl hj.pos
    | m :: r, hj => exact vars_len (hj.right m (by simp)).vars
  unfold stepO
  have hP : pickO o ev l 0 [] = pickO o ev (l.drop 0) 0 [] := rfl
  generalize pickO o ev l 0 [] = R at *
  refine aspec_stop [15, 20] Tk Tryz.func40 rfl Tryz.call40 Tryz.ntmps40 (Nat.le_of_ble_eq_true rfl) fun E => ?_
  refine g_run Tk Tryz.func40 ?_
  first | refine g_call Tk Tryz.func40 (clone57 90 _ o.locs (by simp only [big]; omega)) rfl rfl rfl rfl rfl ?_ | refine s_callq Tk (fun _ => clone57 90 _ o.locs (by simp only [big]; omega)) rfl rfl rfl ?_
  refine g_loop ?_
  refine rch_wk (wk_nil 9 62 107 8 rfl rfl rfl) ?_
  refine rch_loop2 (fun x : Nat × List (Option (Option Nat)) => [(0, exts l), (2, ii ev), (4, .own 0 4 0 0), (6, .own 0 6 0 0), (7, bb (canO x.2)), (8, ii 0), (9, .osl 0 62), (19, exts l), (20, ii l.length), (21, ii x.1)])
    (fun x => [(4, .box [ints o.locs, ints o.vals]), (6, .box [.osl 0 90, .i (.v (.slice none 0 0))]), (90, oints (locsO l o.locs x.2)), (62, omvs (mvsO l x.2))]) (fun _ => O) 84
    (fun x => x.1 ≤ l.length ∧ x.2.length = x.1 ∧ R = pickO o ev (l.drop x.1) x.1 x.2) (fun x => l.length - x.1) (0, []) ⟨Nat.zero_le _, rfl, hP⟩ ⟨rfl, rfl, rfl, rfl, rfl, rfl, rfl, rfl, rfl, rfl, trivial⟩ rfl ⟨rfl, rfl, congrArg (fun x => some (oints x)) (locsO_nil l o.locs).symm, congrArg (fun x => some (omvs x)) (mvsO_nil l).symm, trivial⟩ rfl rfl ?_
  clear hP
  rintro ⟨i, ps⟩ ⟨hi, hpl, hno⟩ ih
  simp only at hi hpl hno
  refine g_run Tk Tryz.func40 ?_
  first | refine g_cnd Tk Tryz.func40 rfl (fun g1 => ?_) (fun g1 => ?_) | refine g_know Tk Tryz.func40 rfl (fun g1 => ?_) (fun g1 => ?_) | refine s_know Tk (fun g1 => ?_) (fun g1 => ?_)
  · have h1 : i < l.length := by simpa using g1
    clear g1
    have gm : (l.map extI)[(i : Int).toNat]? = some (extI l[i]) := get_mapZ h1
    have dm : l.drop i = l[i] :: l.drop (i + 1) := List.drop_eq_getElem_cons h1
    have hok := hj.ok _ (List.getElem_mem h1)
    have gx : (o.locs.map fun x => [vi x])[(i : Int).toNat]? = some [vi (o.locs.getD i 0)] := by
      rw [get_mapZ (f := fun x => [vi x]) (show i < o.locs.length by omega), List.getD_eq_getElem?_getD, List.getElem?_eq_getElem (show i < o.locs.length by omega)]
      rfl
    rw [dm] at hno
    simp only [pickO] at hno
    clear dm
    have hcl := fun O => contains110 O l[i].alpha ev hok.al
    have hch := fun O => chosen78 O l[i] (o.locs.getD i 0) ev o.vals hok (by simp only [max63]; omega)
    have hsel := @chos_sel l[i] (o.locs.getD i 0) ev o.vals
    have hL := fun k => locsO_app l o.locs ps k (by omega)
    have hM := fun k => mvsO_app l ps k (by omega)
    simp only [hpl] at hL hM
    generalize o.locs.getD i 0 = loc at *
    generalize l[i] = m at *
    have n1 : 0 ≤ (i : Int) ∧ (i : Int) < (l.length : Int) := by omega
    have n2 : 0 ≤ (i : Int) ∧ (i : Int) < (o.locs.length : Int) := by omega
    have hi1 : ii (IntKind.i64.wrap ((i : Int) + 1)) = ii ((i + 1 : Nat) : Int) := congrArg ii (wsucc (n := 4096) (by omega) (by decide))
    first | refine g_need Tk Tryz.func40 (n1) ?_ | refine s_need Tk (n1) ?_
    first | refine g_elem Tk Tryz.func40 (gm) ?_ | refine s_elem Tk (gm) ?_
    first | refine g_call Tk Tryz.func40 (hcl _) rfl rfl rfl rfl rfl ?_ | refine s_callq Tk (fun _ => hcl _) rfl rfl rfl ?_
    first | refine g_cnd Tk Tryz.func40 rfl (fun g2 => ?_) (fun g2 => ?_) | refine g_know Tk Tryz.func40 rfl (fun g2 => ?_) (fun g2 => ?_) | refine s_know Tk (fun g2 => ?_) (fun g2 => ?_)
    · have g2 : ev ∉ m.alpha := by simpa using g2
      rw [if_pos g2] at hno
      refine g_loop ?_
      refine ih (i + 1, ps ++ [none]) _ _ ⟨h1, by simp [hpl], hno⟩ (by simp only; omega) ⟨rfl, rfl, rfl, rfl, congrArg bb (canO_none ps).symm, rfl, rfl, rfl, rfl, hi1, trivial⟩ rfl ⟨rfl, rfl, congrArg (fun x => some (oints x)) (locsO_none l o.locs ps).symm, congrArg (fun x => some (omvs x)) (mvsO_none l ps).symm, trivial⟩ rfl rfl
    have g2 : ev ∈ m.alpha := by simpa using g2
    rw [if_neg (by simpa using g2)] at hno
    generalize selK m loc ev o.vals = K at *
    generalize chosR m loc ev o.vals = C at *
    obtain ⟨x, f, e⟩ := C
    simp only at hch
    refine g_drawn Tk Tryz.func40 mixedT rfl ?_
    first | refine g_need Tk Tryz.func40 (n2) ?_ | refine s_need Tk (n2) ?_
    first | refine g_elem Tk Tryz.func40 (gx) ?_ | refine s_elem Tk (gx) ?_
    first | refine g_call Tk Tryz.func40 (hch _) rfl rfl rfl rfl rfl ?_ | refine s_callq Tk (fun _ => hch _) rfl rfl rfl ?_
    refine s_put Tk rfl rfl rfl ?_
    refine e_done Tk Tryz.func40 (by kernel_rfl) ?_
    first | refine g_cnd Tk Tryz.func40 rfl (fun g3 => ?_) (fun g3 => ?_) | refine g_know Tk Tryz.func40 rfl (fun g3 => ?_) (fun g3 => ?_) | refine s_know Tk (fun g3 => ?_) (fun g3 => ?_)
    · have g3 : e ≠ 0 := bneT g3
      cases K with
      | ok k =>
        simp only [Prod.mk.injEq] at hsel
        exact absurd hsel.2.2 g3
      | error e' =>
        obtain ⟨_, h⟩ := hsel
        simp only [Prod.mk.injEq] at h
        obtain ⟨_, rfl⟩ := h
        simp only at hno
        subst hno
        refine g_ret_co Tk (r := _) rfl rfl rfl trivial rfl rfl ?_
        exact coZO
    have g3 : e = 0 := bneF g3
    cases K with
    | error e' =>
      obtain ⟨h0, h⟩ := hsel
      simp only [Prod.mk.injEq] at h
      exact absurd (h.2.symm.trans g3) h0
    | ok k =>
      simp only [Prod.mk.injEq] at hsel
      obtain ⟨hx, rfl, _⟩ := hsel
      simp only at hno
      have hL := hL k
      have hM := hM k
      have hC := canO_app ps k
      rw [← hx] at hL hM
      clear hx
      obtain ⟨xf, xe, xt, xg, xu⟩ := x
      have hcb : bb (canO (ps ++ [some k])) = bb (bif canO ps then k.isSome else false) := by rw [hC]; cases canO ps <;> rfl
      have hol : (locsO l o.locs ps).length = o.locs.length := locsO_len l o.locs ps
      have n3 : 0 ≤ (i : Int) ∧ (i : Int) < ((locsO l o.locs ps).length : Int) := by omega
      have hml := mvsO_len l ps
      generalize locsO l o.locs ps = L1 at *
      generalize mvsO l ps = M1 at *
      have hfin : ∀ s : St, Sub s [(0, exts l), (2, ii ev), (4, .own 0 4 0 0), (6, .own 0 6 0 0), (7, bb (canO (ps ++ [some k]))), (8, ii 0), (9, .osl 0 62), (19, exts l), (20, ii l.length), (21, ii ((i + 1 : Nat) : Int))] → True := fun _ _ => trivial
      cases hcp : canO ps with
      | true =>
        rw [hcp] at hcb
        repeat (first | refine g_cnd Tk Tryz.func40 rfl (fun _ => ?_) (fun h => absurd h (by decide)) | refine g_know Tk Tryz.func40 rfl (fun _ => ?_) (fun h => absurd h (by decide)) | refine s_know Tk (fun _ => ?_) (fun h => absurd h (by decide)) | refine g_cnd Tk Tryz.func40 rfl (fun h => absurd h (by decide)) (fun _ => ?_) | refine g_know Tk Tryz.func40 rfl (fun h => absurd h (by decide)) (fun _ => ?_) | refine s_know Tk (fun h => absurd h (by decide)) (fun _ => ?_) | refine g_cnd Tk Tryz.func40 rfl (fun _ => ?_) (fun h => absurd (show true = false from h) (by decide)) | refine g_know Tk Tryz.func40 rfl (fun _ => ?_) (fun h => absurd (show true = false from h) (by decide)) | refine s_know Tk (fun _ => ?_) (fun h => absurd (show true = false from h) (by decide)) | refine g_cnd Tk Tryz.func40 rfl (fun h => absurd (show false = true from h) (by decide)) (fun _ => ?_) | refine g_know Tk Tryz.func40 rfl (fun h => absurd (show false = true from h) (by decide)) (fun _ => ?_) | refine s_know Tk (fun h => absurd (show false = true from h) (by decide)) (fun _ => ?_))
        first | refine g_need Tk Tryz.func40 (n3) ?_ | refine s_need Tk (n3) ?_
        first | refine g_need Tk Tryz.func40 (by exact ⟨by show (M1.length + 1) * 96 ≤ 140737488355328; omega, by show M1.length + 1 ≤ 9223372036854775807; omega⟩) ?_ | refine s_need Tk (by exact ⟨by show (M1.length + 1) * 96 ≤ 140737488355328; omega, by show M1.length + 1 ≤ 9223372036854775807; omega⟩) ?_
        refine g_loop ?_
        refine ih (i + 1, ps ++ [some k]) _ _ ⟨h1, by simp [hpl], hno⟩ (by simp only; omega) ⟨rfl, rfl, rfl, rfl, hcb.symm, rfl, rfl, rfl, rfl, hi1, trivial⟩ rfl ⟨rfl, rfl, ?_, ?_, trivial⟩ rfl rfl
        · rw [hL]
          show some (Ob.arr 3 1 L1.length ((L1.map fun x => [vi x]).set i [vi xt]) true) = some (oints (L1.set i xt))
          simp [List.map_set]
        · rw [hM]
          exact congrArg some (omvs_app M1 ⟨xf, xe, xt, xg, xu⟩)
      | false =>
        rw [hcp] at hcb
        repeat (first | refine g_cnd Tk Tryz.func40 rfl (fun _ => ?_) (fun h => absurd h (by decide)) | refine g_know Tk Tryz.func40 rfl (fun _ => ?_) (fun h => absurd h (by decide)) | refine s_know Tk (fun _ => ?_) (fun h => absurd h (by decide)) | refine g_cnd Tk Tryz.func40 rfl (fun h => absurd h (by decide)) (fun _ => ?_) | refine g_know Tk Tryz.func40 rfl (fun h => absurd h (by decide)) (fun _ => ?_) | refine s_know Tk (fun h => absurd h (by decide)) (fun _ => ?_) | refine g_cnd Tk Tryz.func40 rfl (fun _ => ?_) (fun h => absurd (show true = false from h) (by decide)) | refine g_know Tk Tryz.func40 rfl (fun _ => ?_) (fun h => absurd (show true = false from h) (by decide)) | refine s_know Tk (fun _ => ?_) (fun h => absurd (show true = false from h) (by decide)) | refine g_cnd Tk Tryz.func40 rfl (fun h => absurd (show false = true from h) (by decide)) (fun _ => ?_) | refine g_know Tk Tryz.func40 rfl (fun h => absurd (show false = true from h) (by decide)) (fun _ => ?_) | refine s_know Tk (fun h => absurd (show false = true from h) (by decide)) (fun _ => ?_))
        first | refine g_need Tk Tryz.func40 (n3) ?_ | refine s_need Tk (n3) ?_
        first | refine g_need Tk Tryz.func40 (by exact ⟨by show (M1.length + 1) * 96 ≤ 140737488355328; omega, by show M1.length + 1 ≤ 9223372036854775807; omega⟩) ?_ | refine s_need Tk (by exact ⟨by show (M1.length + 1) * 96 ≤ 140737488355328; omega, by show M1.length + 1 ≤ 9223372036854775807; omega⟩) ?_
        refine g_loop ?_
        refine ih (i + 1, ps ++ [some k]) _ _ ⟨h1, by simp [hpl], hno⟩ (by simp only; omega) ⟨rfl, rfl, rfl, rfl, hcb.symm, rfl, rfl, rfl, rfl, hi1, trivial⟩ rfl ⟨rfl, rfl, ?_, ?_, trivial⟩ rfl rfl
        · rw [hL]
          show some (Ob.arr 3 1 L1.length ((L1.map fun x => [vi x]).set i [vi xt]) true) = some (oints (L1.set i xt))
          simp [List.map_set]
        · rw [hM]
          exact congrArg some (omvs_app M1 ⟨xf, xe, xt, xg, xu⟩)
  · have h1 : l.length ≤ i := by simpa using g1
    rw [List.drop_eq_nil_of_le h1] at hno
    simp only [pickO] at hno
    subst hno
    simp only
    clear ih g1
    have hus := @mvsO_us l hj ps
    have hml := mvsO_len l ps
    have has := fun O => assigned79 O (vars0 l) (mvsO l ps) o.vals hlv hv16 (by simp only [max63]; omega) hus
    have h0 : 0 < l.length := List.length_pos_iff.2 hj.pos
    have g0 : (l.map extI)[(0 : Int).toNat]? = some (extI l[0]) := get_mapZ (i := 0) h0
    have e0 : (l.getD 0 ⟨[], 0, 0, [], [], []⟩) = l[0] := by rw [List.getD_eq_getElem?_getD, List.getElem?_eq_getElem h0]; rfl
    unfold vars0 at has
    rw [e0] at has ⊢
    generalize l[0] = m0 at *
    have hne := fun e => @asgM_err m0.vars o.vals (mvsO l ps) o.vals [] e
    generalize asgM m0.vars o.vals (mvsO l ps) o.vals [] = A at *
    have hol : (locsO l o.locs ps).length = o.locs.length := locsO_len l o.locs ps
    generalize locsO l o.locs ps = L1 at *
    generalize mvsO l ps = M1 at *
    refine g_stop ?_
    refine rch_wk (wk_freeze 62 rfl rfl) ?_
    cases hcp : canO ps with
    | false =>
      refine g_run Tk Tryz.func40 ?_
      refine g_go Tk Tryz.func40 ?_
      repeat (first | refine g_cnd Tk Tryz.func40 rfl (fun _ => ?_) (fun h => absurd h (by decide)) | refine g_know Tk Tryz.func40 rfl (fun _ => ?_) (fun h => absurd h (by decide)) | refine s_know Tk (fun _ => ?_) (fun h => absurd h (by decide)) | refine g_cnd Tk Tryz.func40 rfl (fun h => absurd h (by decide)) (fun _ => ?_) | refine g_know Tk Tryz.func40 rfl (fun h => absurd h (by decide)) (fun _ => ?_) | refine s_know Tk (fun h => absurd h (by decide)) (fun _ => ?_) | refine g_cnd Tk Tryz.func40 rfl (fun _ => ?_) (fun h => absurd (show true = false from h) (by decide)) | refine g_know Tk Tryz.func40 rfl (fun _ => ?_) (fun h => absurd (show true = false from h) (by decide)) | refine s_know Tk (fun _ => ?_) (fun h => absurd (show true = false from h) (by decide)) | refine g_cnd Tk Tryz.func40 rfl (fun h => absurd (show false = true from h) (by decide)) (fun _ => ?_) | refine g_know Tk Tryz.func40 rfl (fun h => absurd (show false = true from h) (by decide)) (fun _ => ?_) | refine s_know Tk (fun h => absurd (show false = true from h) (by decide)) (fun _ => ?_))
      refine g_ret_co Tk (r := _) rfl rfl rfl trivial rfl rfl ?_
      exact coZO
    | true =>
      simp only [Bool.true_eq_false, if_false]
      refine g_run Tk Tryz.func40 ?_
      refine g_go Tk Tryz.func40 ?_
      repeat (first | refine g_cnd Tk Tryz.func40 rfl (fun _ => ?_) (fun h => absurd h (by decide)) | refine g_know Tk Tryz.func40 rfl (fun _ => ?_) (fun h => absurd h (by decide)) | refine s_know Tk (fun _ => ?_) (fun h => absurd h (by decide)) | refine g_cnd Tk Tryz.func40 rfl (fun h => absurd h (by decide)) (fun _ => ?_) | refine g_know Tk Tryz.func40 rfl (fun h => absurd h (by decide)) (fun _ => ?_) | refine s_know Tk (fun h => absurd h (by decide)) (fun _ => ?_) | refine g_cnd Tk Tryz.func40 rfl (fun _ => ?_) (fun h => absurd (show true = false from h) (by decide)) | refine g_know Tk Tryz.func40 rfl (fun _ => ?_) (fun h => absurd (show true = false from h) (by decide)) | refine s_know Tk (fun _ => ?_) (fun h => absurd (show true = false from h) (by decide)) | refine g_cnd Tk Tryz.func40 rfl (fun h => absurd (show false = true from h) (by decide)) (fun _ => ?_) | refine g_know Tk Tryz.func40 rfl (fun h => absurd (show false = true from h) (by decide)) (fun _ => ?_) | refine s_know Tk (fun h => absurd (show false = true from h) (by decide)) (fun _ => ?_))
      cases A with
      | error e =>
        have hne : e ≠ 0 := by rcases hne e rfl with rfl | rfl <;> decide
        refine g_drawn Tk Tryz.func40 mixedT rfl ?_
        first | refine g_need Tk Tryz.func40 (by exact ⟨by omega, by show (0 : Int) < (l.length : Int); omega⟩) ?_ | refine s_need Tk (by exact ⟨by omega, by show (0 : Int) < (l.length : Int); omega⟩) ?_
        first | refine g_elem Tk Tryz.func40 (g0) ?_ | refine s_elem Tk (g0) ?_
        first | refine g_call Tk Tryz.func40 (has _) rfl rfl rfl rfl rfl ?_ | refine s_callq Tk (fun _ => has _) rfl rfl rfl ?_
        refine s_put Tk rfl rfl rfl ?_
        refine e_done Tk Tryz.func40 (by kernel_rfl) ?_
        first | refine g_cnd Tk Tryz.func40 rfl (fun g4 => ?_) (fun g4 => ?_) | refine g_know Tk Tryz.func40 rfl (fun g4 => ?_) (fun g4 => ?_) | refine s_know Tk (fun g4 => ?_) (fun g4 => ?_)
        rotate_left
        · exact absurd (bneF g4) hne
        refine g_ret_co Tk (r := _) rfl rfl rfl trivial rfl rfl ?_
        exact coZO
      | ok p =>
        obtain ⟨a, G⟩ := p
        refine g_drawn Tk Tryz.func40 mixedT rfl ?_
        first | refine g_need Tk Tryz.func40 (by exact ⟨by omega, by show (0 : Int) < (l.length : Int); omega⟩) ?_ | refine s_need Tk (by exact ⟨by omega, by show (0 : Int) < (l.length : Int); omega⟩) ?_
        first | refine g_elem Tk Tryz.func40 (g0) ?_ | refine s_elem Tk (g0) ?_
        first | refine g_call Tk Tryz.func40 (has _) rfl rfl rfl rfl rfl ?_ | refine s_callq Tk (fun _ => has _) rfl rfl rfl ?_
        refine s_put Tk rfl rfl rfl ?_
        refine e_done Tk Tryz.func40 (by kernel_rfl) ?_
        repeat (first | refine g_cnd Tk Tryz.func40 rfl (fun _ => ?_) (fun h => absurd h (by decide)) | refine g_know Tk Tryz.func40 rfl (fun _ => ?_) (fun h => absurd h (by decide)) | refine s_know Tk (fun _ => ?_) (fun h => absurd h (by decide)) | refine g_cnd Tk Tryz.func40 rfl (fun h => absurd h (by decide)) (fun _ => ?_) | refine g_know Tk Tryz.func40 rfl (fun h => absurd h (by decide)) (fun _ => ?_) | refine s_know Tk (fun h => absurd h (by decide)) (fun _ => ?_) | refine g_cnd Tk Tryz.func40 rfl (fun _ => ?_) (fun h => absurd (show true = false from h) (by decide)) | refine g_know Tk Tryz.func40 rfl (fun _ => ?_) (fun h => absurd (show true = false from h) (by decide)) | refine s_know Tk (fun _ => ?_) (fun h => absurd (show true = false from h) (by decide)) | refine g_cnd Tk Tryz.func40 rfl (fun h => absurd (show false = true from h) (by decide)) (fun _ => ?_) | refine g_know Tk Tryz.func40 rfl (fun h => absurd (show false = true from h) (by decide)) (fun _ => ?_) | refine s_know Tk (fun h => absurd (show false = true from h) (by decide)) (fun _ => ?_))
        refine g_stop ?_
        refine rch_wk (wk_freeze 90 rfl rfl) ?_
        refine rch_wk (wk_imm rfl) ?_
        refine g_run Tk Tryz.func40 ?_
        refine g_go Tk Tryz.func40 ?_
        refine g_ret Tk (r := .tup [orgD ⟨L1, a⟩, bb true, ii 0]) rfl rfl rfl trivial rfl rfl ?_
        rfl
end Go.AI


/- The law's own functions (19): has, none, same, sameStates, place, unfold. -/
namespace Go.AI
open Go.Proofs
set_option maxRecDepth 20000
theorem has68 (O : List Heap) (l : List Int) (x : Int) (hl : l.length ≤ max63) : ASpec Tryz.prog 45 [ints l, ii x] O (bb (decide (x ∈ l))) [] O := by
  have hR : decide (x ∈ l) = decide (x ∈ l.drop 0) := rfl
  generalize decide (x ∈ l) = R at *
  refine aspec_intro Tk Tryz.func45 rfl Tryz.call45 Tryz.ntmps45 (Nat.le_of_ble_eq_true rfl) fun E => ?_
  refine g_run Tk Tryz.func45 ?_
  refine g_loop ?_
  refine rch_loop2 (fun i : Nat => [(0, ints l), (1, ii x), (5, ii i)]) (fun _ => []) (fun _ => O) 18
    (fun i => i ≤ l.length ∧ R = decide (x ∈ l.drop i)) (fun i => l.length - i) 0 ⟨Nat.zero_le _, hR⟩ ⟨rfl, rfl, rfl, trivial⟩ rfl trivial rfl rfl ?_
  rintro i ⟨hi, hno⟩ ih
  clear hR
  refine g_run Tk Tryz.func45 ?_
  first | refine g_cnd Tk Tryz.func45 rfl (fun g1 => ?_) (fun g1 => ?_) | refine g_know Tk Tryz.func45 rfl (fun g1 => ?_) (fun g1 => ?_) | refine s_know Tk (fun g1 => ?_) (fun g1 => ?_)
  · have h1 : i < l.length := by simpa using g1
    have gl : (l.map fun x => [vi x])[(i : Int).toNat]? = some [vi l[i]] := get_mapZ (f := fun x => [vi x]) h1
    have dl : l.drop i = l[i] :: l.drop (i + 1) := List.drop_eq_getElem_cons h1
    simp only [dl, List.mem_cons] at hno
    clear dl
    generalize l[i] = y at *
    first | refine g_need Tk Tryz.func45 (by exact ⟨by omega, by show (i : Int) < (l.length : Int); omega⟩) ?_ | refine s_need Tk (by exact ⟨by omega, by show (i : Int) < (l.length : Int); omega⟩) ?_
    first | refine g_elem Tk Tryz.func45 (gl) ?_ | refine s_elem Tk (gl) ?_
    first | refine g_cnd Tk Tryz.func45 rfl (fun g2 => ?_) (fun g2 => ?_) | refine g_know Tk Tryz.func45 rfl (fun g2 => ?_) (fun g2 => ?_) | refine s_know Tk (fun g2 => ?_) (fun g2 => ?_)
    · have g2 : y = x := beqT g2
      subst g2
      refine g_ret Tk (r := bb true) rfl rfl rfl trivial rfl rfl ?_
      rw [hno]
      simp
    · have g2 : y ≠ x := beqF g2
      have hno : R = decide (x ∈ l.drop (i + 1)) := by
        rw [hno]
        exact decide_eq_decide.2 ⟨fun h => h.resolve_left (Ne.symm g2), .inr⟩
      refine g_loop ?_
      exact ih (i + 1) _ _ ⟨h1, hno⟩ (by omega) ⟨rfl, rfl, congrArg ii (wsucc h1 hl), trivial⟩ rfl trivial rfl rfl
  · have h1 : l.length ≤ i := by simpa using g1
    simp only [List.drop_eq_nil_of_le h1] at hno
    refine g_ret Tk (r := bb false) rfl rfl rfl trivial rfl rfl ?_
    rw [hno]
    simp
theorem none60 (O : List Heap) : ASpec Tryz.prog 12 [autD ⟨[], 0, [], []⟩] O (bb true) [] O := by
  refine aspec_intro Tk Tryz.func12 rfl Tryz.call12 Tryz.ntmps12 (Nat.le_of_ble_eq_true rfl) fun E => ?_
  refine g_run Tk Tryz.func12 ?_
  refine g_ret Tk (r := bb true) rfl rfl rfl trivial rfl rfl ?_
  rfl
end Go.AI


/- The law's choice of a move, and its small functions. -/
namespace Go.AI
open Go.Proofs
set_option maxRecDepth 20000
def kI : Option Nat → Int
  | none => -1
  | some k => k
def selD : Except Int (Option Nat) → D
  | .error e => .tup [ii (-1), ii e]
  | .ok k => .tup [ii (kI k), ii 0]
theorem sel_scan {m : Ext} {loc ev : Int} {vals : List Int} (hx : ∀ x ∈ m.moves, (evalX x.g vals).2 = 0 ∨ (evalX x.g vals).2 = 17) : selK m loc ev vals = match scanMv loc ev vals m.moves 0 0 none with
    | (some _, _, _) => .error 17
    | (none, c, k) => if c > 1 then .error 18 else .ok k := by
  have he := @scan_err loc ev vals m.moves 0 0 none hx
  unfold selK
  generalize scanMv loc ev vals m.moves 0 0 none = S at *
  obtain ⟨e, c, k⟩ := S
  cases e with
  | some e => simp only; rw [he e rfl]
  | none => rfl
set_option maxHeartbeats 4000000 in
theorem choose61 (O : List Heap) (m : Ext) (loc ev : Int) (vals : List Int) (hok : extOk m) (hl : vals.length ≤ max63) (hx : ∀ x ∈ m.moves, (evalX x.g vals).2 = 0 ∨ (evalX x.g vals).2 = 17) : ASpec Tryz.prog 61 [extD m, ii loc, ii ev, ints vals] O (selD (selK m loc ev vals)) [] O := by
  have hmo := hok.mo
  rw [sel_scan hx]
  have hR : scanMv loc ev vals m.moves 0 0 none = scanMv loc ev vals (m.moves.drop 0) 0 0 none := rfl
  generalize scanMv loc ev vals m.moves 0 0 none = R at *
  refine aspec_intro Tk Tryz.func61 rfl Tryz.call61 Tryz.ntmps61 (Nat.le_of_ble_eq_true rfl) fun E => ?_
  refine g_run Tk Tryz.func61 ?_
  refine g_loop ?_
  refine rch_loop2 (fun x : Nat × Nat × Option Nat × Bool => [(1, ii loc), (2, ii ev), (3, ints vals), (4, .own 0 4 0 0), (8, ii 0), (9, ii 0), (10, ii (kI x.2.2.1)), (11, bb x.2.2.2), (12, ii x.1)]) (fun x => [(4, .box (extC m))]) (fun _ => O) 63
    (fun x => x.1 ≤ m.moves.length ∧ x.2.2.1.isSome = decide (1 ≤ x.2.1) ∧ x.2.2.2 = decide (1 < x.2.1) ∧ R = scanMv loc ev vals (m.moves.drop x.1) x.1 x.2.1 x.2.2.1) (fun x => m.moves.length - x.1) (0, 0, none, false) ⟨Nat.zero_le _, rfl, rfl, hR⟩ ⟨rfl, rfl, rfl, rfl, rfl, rfl, rfl, rfl, rfl, trivial⟩ rfl ⟨rfl, trivial⟩ rfl rfl ?_
  clear hR
  rintro ⟨i, c, k, b⟩ ⟨hi, hk, hb, hno⟩ ih
  simp only at hi hk hb hno
  refine g_run Tk Tryz.func61 ?_
  first | refine g_cnd Tk Tryz.func61 rfl (fun g1 => ?_) (fun g1 => ?_) | refine g_know Tk Tryz.func61 rfl (fun g1 => ?_) (fun g1 => ?_) | refine s_know Tk (fun g1 => ?_) (fun g1 => ?_)
  · have h1 : i < m.moves.length := by simpa using g1
    clear g1
    have hd : m.moves.drop i = m.moves[i] :: m.moves.drop (i + 1) := List.drop_eq_getElem_cons h1
    have hg : (m.moves.map mvI)[(i : Int).toNat]? = some (mvI m.moves[i]) := get_mapZ h1
    have hxo := (hok.mv _ (List.getElem_mem h1)).1
    generalize m.moves[i] = x at *
    obtain ⟨xf, xe, xt, xg, xu⟩ := x
    simp only at hxo
    rw [hd] at hno
    simp only [scanMv] at hno
    have hev := fun O => evaluate51A O xg vals hxo hl
    generalize evalX xg vals = V at *
    obtain ⟨y, e⟩ := V
    simp only at hno hev
    have hi1 : ii (IntKind.i64.wrap ((i : Int) + 1)) = ii ((i + 1 : Nat) : Int) := congrArg ii (wsucc h1 hmo)
    have n1 : 0 ≤ (i : Int) ∧ (i : Int) < (m.moves.length : Int) := by omega
    clear hd
    first | refine g_need Tk Tryz.func61 (n1) ?_ | refine s_need Tk (n1) ?_
    first | refine g_elem Tk Tryz.func61 (hg) ?_ | refine s_elem Tk (hg) ?_
    first | refine g_cnd Tk Tryz.func61 rfl (fun h2 => ?_) (fun h2 => ?_) | refine g_know Tk Tryz.func61 rfl (fun h2 => ?_) (fun h2 => ?_) | refine s_know Tk (fun h2 => ?_) (fun h2 => ?_)
    · have h2 : xf ≠ loc := bneT h2
      rw [if_pos (.inl h2)] at hno
      repeat (first | refine g_cnd Tk Tryz.func61 rfl (fun _ => ?_) (fun h => absurd h (by decide)) | refine g_know Tk Tryz.func61 rfl (fun _ => ?_) (fun h => absurd h (by decide)) | refine s_know Tk (fun _ => ?_) (fun h => absurd h (by decide)) | refine g_cnd Tk Tryz.func61 rfl (fun h => absurd h (by decide)) (fun _ => ?_) | refine g_know Tk Tryz.func61 rfl (fun h => absurd h (by decide)) (fun _ => ?_) | refine s_know Tk (fun h => absurd h (by decide)) (fun _ => ?_) | refine g_cnd Tk Tryz.func61 rfl (fun _ => ?_) (fun h => absurd (show true = false from h) (by decide)) | refine g_know Tk Tryz.func61 rfl (fun _ => ?_) (fun h => absurd (show true = false from h) (by decide)) | refine s_know Tk (fun _ => ?_) (fun h => absurd (show true = false from h) (by decide)) | refine g_cnd Tk Tryz.func61 rfl (fun h => absurd (show false = true from h) (by decide)) (fun _ => ?_) | refine g_know Tk Tryz.func61 rfl (fun h => absurd (show false = true from h) (by decide)) (fun _ => ?_) | refine s_know Tk (fun h => absurd (show false = true from h) (by decide)) (fun _ => ?_))
      refine g_loop ?_
      exact ih (i + 1, c, k, b) _ _ ⟨h1, hk, hb, hno⟩ (by simp only; omega) ⟨rfl, rfl, rfl, rfl, rfl, rfl, rfl, rfl, hi1, trivial⟩ rfl ⟨rfl, trivial⟩ rfl rfl
    have h2 : xf = loc := bneF h2
    first | refine g_need Tk Tryz.func61 (n1) ?_ | refine s_need Tk (n1) ?_
    first | refine g_elem Tk Tryz.func61 (hg) ?_ | refine s_elem Tk (hg) ?_
    first | refine g_cnd Tk Tryz.func61 rfl (fun h3 => ?_) (fun h3 => ?_) | refine g_know Tk Tryz.func61 rfl (fun h3 => ?_) (fun h3 => ?_) | refine s_know Tk (fun h3 => ?_) (fun h3 => ?_)
    · have h3 : xe ≠ ev := bneT h3
      rw [if_pos (.inr h3)] at hno
      refine g_loop ?_
      exact ih (i + 1, c, k, b) _ _ ⟨h1, hk, hb, hno⟩ (by simp only; omega) ⟨rfl, rfl, rfl, rfl, rfl, rfl, rfl, rfl, hi1, trivial⟩ rfl ⟨rfl, trivial⟩ rfl rfl
    have h3 : xe = ev := bneF h3
    rw [if_neg (by simp [h2, h3])] at hno
    first | refine g_need Tk Tryz.func61 (n1) ?_ | refine s_need Tk (n1) ?_
    first | refine g_elem Tk Tryz.func61 (hg) ?_ | refine s_elem Tk (hg) ?_
    first | refine g_call Tk Tryz.func61 (hev _) rfl rfl rfl rfl rfl ?_ | refine s_callq Tk (fun _ => hev _) rfl rfl rfl ?_
    first | refine g_cnd Tk Tryz.func61 rfl (fun h4 => ?_) (fun h4 => ?_) | refine g_know Tk Tryz.func61 rfl (fun h4 => ?_) (fun h4 => ?_) | refine s_know Tk (fun h4 => ?_) (fun h4 => ?_)
    · have h4 : e ≠ 0 := bneT h4
      rw [if_pos h4] at hno
      subst hno
      refine g_ret Tk (r := .tup [ii (-1), ii 17]) rfl rfl rfl trivial rfl rfl ?_
      rfl
    have h4 : e = 0 := bneF h4
    rw [if_neg (by simpa using h4)] at hno
    first | refine g_cnd Tk Tryz.func61 rfl (fun h5 => ?_) (fun h5 => ?_) | refine g_know Tk Tryz.func61 rfl (fun h5 => ?_) (fun h5 => ?_) | refine s_know Tk (fun h5 => ?_) (fun h5 => ?_)
    · have h5 : y = 1 := beqT h5
      rw [if_pos h5] at hno
      have hb2 : (b || k.isSome) = decide (1 < c + 1) := by
        rw [hb, hk, ← Bool.decide_or]
        apply decide_eq_decide.2
        omega
      have hk2 : (some i : Option Nat).isSome = decide (1 ≤ c + 1) := by simp
      cases b with
      | true =>
        repeat (first | refine g_cnd Tk Tryz.func61 rfl (fun _ => ?_) (fun h => absurd h (by decide)) | refine g_know Tk Tryz.func61 rfl (fun _ => ?_) (fun h => absurd h (by decide)) | refine s_know Tk (fun _ => ?_) (fun h => absurd h (by decide)) | refine g_cnd Tk Tryz.func61 rfl (fun h => absurd h (by decide)) (fun _ => ?_) | refine g_know Tk Tryz.func61 rfl (fun h => absurd h (by decide)) (fun _ => ?_) | refine s_know Tk (fun h => absurd h (by decide)) (fun _ => ?_) | refine g_cnd Tk Tryz.func61 rfl (fun _ => ?_) (fun h => absurd (show true = false from h) (by decide)) | refine g_know Tk Tryz.func61 rfl (fun _ => ?_) (fun h => absurd (show true = false from h) (by decide)) | refine s_know Tk (fun _ => ?_) (fun h => absurd (show true = false from h) (by decide)) | refine g_cnd Tk Tryz.func61 rfl (fun h => absurd (show false = true from h) (by decide)) (fun _ => ?_) | refine g_know Tk Tryz.func61 rfl (fun h => absurd (show false = true from h) (by decide)) (fun _ => ?_) | refine s_know Tk (fun h => absurd (show false = true from h) (by decide)) (fun _ => ?_))
        refine g_loop ?_
        exact ih (i + 1, c + 1, some i, true) _ _ ⟨h1, hk2, hb2, hno⟩ (by simp only; omega) ⟨rfl, rfl, rfl, rfl, rfl, rfl, rfl, rfl, hi1, trivial⟩ rfl ⟨rfl, trivial⟩ rfl rfl
      | false =>
        cases k with
        | none =>
          repeat (first | refine g_cnd Tk Tryz.func61 rfl (fun _ => ?_) (fun h => absurd h (by decide)) | refine g_know Tk Tryz.func61 rfl (fun _ => ?_) (fun h => absurd h (by decide)) | refine s_know Tk (fun _ => ?_) (fun h => absurd h (by decide)) | refine g_cnd Tk Tryz.func61 rfl (fun h => absurd h (by decide)) (fun _ => ?_) | refine g_know Tk Tryz.func61 rfl (fun h => absurd h (by decide)) (fun _ => ?_) | refine s_know Tk (fun h => absurd h (by decide)) (fun _ => ?_) | refine g_cnd Tk Tryz.func61 rfl (fun _ => ?_) (fun h => absurd (show true = false from h) (by decide)) | refine g_know Tk Tryz.func61 rfl (fun _ => ?_) (fun h => absurd (show true = false from h) (by decide)) | refine s_know Tk (fun _ => ?_) (fun h => absurd (show true = false from h) (by decide)) | refine g_cnd Tk Tryz.func61 rfl (fun h => absurd (show false = true from h) (by decide)) (fun _ => ?_) | refine g_know Tk Tryz.func61 rfl (fun h => absurd (show false = true from h) (by decide)) (fun _ => ?_) | refine s_know Tk (fun h => absurd (show false = true from h) (by decide)) (fun _ => ?_))
          refine g_loop ?_
          exact ih (i + 1, c + 1, some i, false) _ _ ⟨h1, hk2, hb2, hno⟩ (by simp only; omega) ⟨rfl, rfl, rfl, rfl, rfl, rfl, rfl, rfl, hi1, trivial⟩ rfl ⟨rfl, trivial⟩ rfl rfl
        | some j =>
          have hj : decide (((j : Nat) : Int) ≥ 0) = true := decide_eq_true (by omega)
          repeat (first | refine g_cnd Tk Tryz.func61 rfl (fun _ => ?_) (fun h => absurd h (by decide)) | refine g_know Tk Tryz.func61 rfl (fun _ => ?_) (fun h => absurd h (by decide)) | refine s_know Tk (fun _ => ?_) (fun h => absurd h (by decide)) | refine g_cnd Tk Tryz.func61 rfl (fun h => absurd h (by decide)) (fun _ => ?_) | refine g_know Tk Tryz.func61 rfl (fun h => absurd h (by decide)) (fun _ => ?_) | refine s_know Tk (fun h => absurd h (by decide)) (fun _ => ?_) | refine g_cnd Tk Tryz.func61 rfl (fun _ => ?_) (fun h => absurd (show true = false from h) (by decide)) | refine g_know Tk Tryz.func61 rfl (fun _ => ?_) (fun h => absurd (show true = false from h) (by decide)) | refine s_know Tk (fun _ => ?_) (fun h => absurd (show true = false from h) (by decide)) | refine g_cnd Tk Tryz.func61 rfl (fun h => absurd (show false = true from h) (by decide)) (fun _ => ?_) | refine g_know Tk Tryz.func61 rfl (fun h => absurd (show false = true from h) (by decide)) (fun _ => ?_) | refine s_know Tk (fun h => absurd (show false = true from h) (by decide)) (fun _ => ?_))
          refine g_loop ?_
          exact ih (i + 1, c + 1, some i, true) _ _ ⟨h1, hk2, hb2, hno⟩ (by simp only; omega) ⟨rfl, rfl, rfl, rfl, rfl, rfl, rfl, congrArg bb hj, hi1, trivial⟩ rfl ⟨rfl, trivial⟩ rfl rfl
    · have h5 : y ≠ 1 := beqF h5
      rw [if_neg h5] at hno
      refine g_loop ?_
      exact ih (i + 1, c, k, b) _ _ ⟨h1, hk, hb, hno⟩ (by simp only; omega) ⟨rfl, rfl, rfl, rfl, rfl, rfl, rfl, rfl, hi1, trivial⟩ rfl ⟨rfl, trivial⟩ rfl rfl
  · have h1 : m.moves.length ≤ i := by simpa using g1
    rw [List.drop_eq_nil_of_le h1] at hno
    simp only [scanMv] at hno
    subst hno
    first | refine g_cnd Tk Tryz.func61 rfl (fun h2 => ?_) (fun h2 => ?_) | refine g_know Tk Tryz.func61 rfl (fun h2 => ?_) (fun h2 => ?_) | refine s_know Tk (fun h2 => ?_) (fun h2 => ?_)
    · have h2 : c > 1 := of_decide_eq_true (hb.symm.trans h2)
      simp only [if_pos h2]
      refine g_ret Tk (r := .tup [ii (-1), ii 18]) rfl rfl rfl trivial rfl rfl ?_
      rfl
    · have h2 : ¬ c > 1 := of_decide_eq_false (hb.symm.trans h2)
      simp only [if_neg h2]
      refine g_ret Tk (r := .tup [ii (kI k), ii 0]) rfl rfl rfl trivial rfl rfl ?_
      rfl
theorem sameOrigin14 (O : List Heap) (a b : Org) (h1 : a.locs.length ≤ max63) (h2 : a.vals.length ≤ max63) : ASpec Tryz.prog 14 [orgD a, orgD b] O (bb (decide (a = b))) [] O := by
  obtain ⟨al, av⟩ := a
  obtain ⟨bl, bv⟩ := b
  have hl := fun O => sameInts36 O al bl h1
  have hv := fun O => sameInts36 O av bv h2
  refine aspec_intro Tk Tryz.func14 rfl Tryz.call14 Tryz.ntmps14 (Nat.le_of_ble_eq_true rfl) fun E => ?_
  refine g_run Tk Tryz.func14 ?_
  first | refine g_call Tk Tryz.func14 (hl _) rfl rfl rfl rfl rfl ?_ | refine s_callq Tk (fun _ => hl _) rfl rfl rfl ?_
  first | refine g_cnd Tk Tryz.func14 rfl (fun g1 => ?_) (fun g1 => ?_) | refine g_know Tk Tryz.func14 rfl (fun g1 => ?_) (fun g1 => ?_) | refine s_know Tk (fun g1 => ?_) (fun g1 => ?_)
  · have g1 : al = bl := of_decide_eq_true g1
    first | refine g_call Tk Tryz.func14 (hv _) rfl rfl rfl rfl rfl ?_ | refine s_callq Tk (fun _ => hv _) rfl rfl rfl ?_
    subst g1
    refine g_ret Tk (r := bb (decide (av = bv))) rfl rfl rfl trivial rfl rfl ?_
    simp
  · have g1 : al ≠ bl := of_decide_eq_false g1
    refine g_ret Tk (r := bb false) rfl rfl rfl trivial rfl rfl ?_
    simp [g1]
end Go.AI


/- The closures of flatten.Joint. -/
namespace Go.AI
open Go.Proofs
set_option maxRecDepth 20000
theorem jnt_vals {l : List Ext} (hj : jntOk l) {o : Org} (h : okO l o) : o.locs.length = l.length ∧ o.vals.length = (vars0 l).length := ⟨okLo_len h.locs, (within_eqLen h.vals).symm⟩
theorem jnt_v16 {l : List Ext} (hj : jntOk l) : (vars0 l).length ≤ 16 := by
  match l, hj with
  | [], hj => exact absurd rfl hj.pos
  | m :: r, hj => exact vars_len (hj.right m (by simp)).vars
theorem keyNameO {g : Nat} (hg : IsTab g) {ty : TypeId} {fr : Nat × Nat} (O : List Heap) {l : List Ext} (hj : jntOk l) (o : Org) (h : okO l o) : ASpecT g (ptab ty fr) Tryz.prog 37 [orgD o] O (.i (.v (.string (keyO o)))) [] O := by
  have hk := fun O => key106 hg (ty := ty) (fr := fr) O [o.locs, o.vals] (by simp) (by simp) (okO_key hj h)
  unfold keyO
  generalize fkeyB [o.locs, o.vals] = K at *
  obtain ⟨a, b⟩ := o
  refine aspecT_stop [] Tk Tryz.func37 rfl Tryz.call37 Tryz.ntmps37 (Nat.le_of_ble_eq_true rfl) fun E hE => ?_
  refine g_run Tk Tryz.func37 ?_
  refine g_callT Tk Tryz.func37 hE (hk _) rfl rfl rfl rfl rfl rfl ?_
  refine g_ret Tk (r := .i (.v (.string K))) rfl rfl rfl trivial rfl rfl ?_
  rfl
theorem keyStepO (O : List Heap) (l : List Ext) (o : Org) (ev : Int) (d nm : Nat) (ho : objAt O d nm = some (.box [exts l])) (hj : jntOk l) (h : okO l o) : ASpec Tryz.prog 39 [orgD o, ii ev, .own d nm 0 0] O (.tup [orgD (stepO l o ev).1, bb (stepO l o ev).2.1, ii (stepO l o ev).2.2]) [] O := by
  have h := fun O => step40 O l o ev hj (jnt_vals hj h).1 (jnt_vals hj h).2
  generalize stepO l o ev = R at *
  obtain ⟨⟨a, b⟩, p, e⟩ := R
  obtain ⟨x, v⟩ := o
  refine aspec_intro Tk Tryz.func39 rfl Tryz.call39 Tryz.ntmps39 (Nat.le_of_ble_eq_true rfl) fun E => ?_
  refine g_run Tk Tryz.func39 ?_
  first | refine g_obj Tk Tryz.func39 (up_obj ho) ?_ | refine s_obj Tk (up_obj ho) ?_
  first | refine g_call Tk Tryz.func39 (h _) rfl rfl rfl rfl rfl ?_ | refine s_callq Tk (fun _ => h _) rfl rfl rfl ?_
  refine g_ret Tk (r := .tup [orgD ⟨a, b⟩, bb p, ii e]) rfl rfl rfl trivial rfl rfl ?_
  rfl
theorem keyMarkO (O : List Heap) (l : List Ext) (o : Org) (d nm : Nat) (ho : objAt O d nm = some (.box [exts l])) (hj : jntOk l) (h : okO l o) : ASpec Tryz.prog 41 [orgD o, .own d nm 0 0] O (bb (markO l o.locs)) [] O := by
  have hO : ∀ H, objAt (H :: O) (d + 1) nm = some (.box [exts l]) := fun H => up_obj ho
  have hll := (jnt_vals hj h).1
  have hl12 := hj.len
  have hR : markO l o.locs = markO (l.drop 0) (o.locs.drop 0) := rfl
  generalize markO l o.locs = R at *
  obtain ⟨x, v⟩ := o
  simp only at hll hR
  refine aspec_intro Tk Tryz.func41 rfl Tryz.call41 Tryz.ntmps41 (Nat.le_of_ble_eq_true rfl) fun E => ?_
  refine g_run Tk Tryz.func41 ?_
  first | refine g_obj Tk Tryz.func41 (up_obj ho) ?_ | refine s_obj Tk (up_obj ho) ?_
  refine g_loop ?_
  refine rch_loop2 (fun i : Nat => [(2, .own 0 2 0 0), (6, exts l), (7, ii l.length), (8, ii i)]) (fun _ => [(2, .box [ints x, ints v])]) (fun _ => O) 23
    (fun i => i ≤ l.length ∧ R = markO (l.drop i) (x.drop i)) (fun i => l.length - i) 0 ⟨Nat.zero_le _, hR⟩ ⟨rfl, rfl, rfl, rfl, trivial⟩ rfl ⟨rfl, trivial⟩ rfl rfl ?_
  clear hR
  rintro i ⟨hi, hno⟩ ih
  refine g_run Tk Tryz.func41 ?_
  first | refine g_cnd Tk Tryz.func41 rfl (fun g1 => ?_) (fun g1 => ?_) | refine g_know Tk Tryz.func41 rfl (fun g1 => ?_) (fun g1 => ?_) | refine s_know Tk (fun g1 => ?_) (fun g1 => ?_)
  · have h1 : i < l.length := by simpa using g1
    clear g1
    have gm : (l.map extI)[(i : Int).toNat]? = some (extI l[i]) := get_mapZ h1
    have gx : (x.map fun x => [vi x])[(i : Int).toNat]? = some [vi (x[i]'(by omega))] := get_mapZ (f := fun x => [vi x]) (by omega)
    have dm : l.drop i = l[i] :: l.drop (i + 1) := List.drop_eq_getElem_cons h1
    have dx : x.drop i = (x[i]'(by omega)) :: x.drop (i + 1) := List.drop_eq_getElem_cons (by omega)
    have hok := hj.ok _ (List.getElem_mem h1)
    rw [dm, dx] at hno
    simp only [markO] at hno
    clear dm dx
    generalize l[i] = m at *
    generalize x[i]'(by omega) = a at *
    have hc := fun O => contains110 O m.marked a hok.ma
    first | refine g_need Tk Tryz.func41 (by exact ⟨by omega, by show (i : Int) < (l.length : Int); omega⟩) ?_ | refine s_need Tk (by exact ⟨by omega, by show (i : Int) < (l.length : Int); omega⟩) ?_
    first | refine g_elem Tk Tryz.func41 (gm) ?_ | refine s_elem Tk (gm) ?_
    refine g_drawn Tk Tryz.func41 mixedT rfl ?_
    first | refine g_need Tk Tryz.func41 (by exact ⟨by omega, by show (i : Int) < (x.length : Int); omega⟩) ?_ | refine s_need Tk (by exact ⟨by omega, by show (i : Int) < (x.length : Int); omega⟩) ?_
    first | refine g_elem Tk Tryz.func41 (gx) ?_ | refine s_elem Tk (gx) ?_
    first | refine g_call Tk Tryz.func41 (hc _) rfl rfl rfl rfl rfl ?_ | refine s_callq Tk (fun _ => hc _) rfl rfl rfl ?_
    refine e_done Tk Tryz.func41 (by kernel_rfl) ?_
    first | refine g_cnd Tk Tryz.func41 rfl (fun g2 => ?_) (fun g2 => ?_) | refine g_know Tk Tryz.func41 rfl (fun g2 => ?_) (fun g2 => ?_) | refine s_know Tk (fun g2 => ?_) (fun g2 => ?_)
    · have g2 : a ∉ m.marked := by simpa using g2
      have hno : R = false := by rw [hno]; simp [g2]
      subst hno
      refine g_ret Tk (r := bb false) rfl rfl rfl trivial rfl rfl ?_
      rfl
    · have g2 : a ∈ m.marked := by simpa using g2
      have hno : R = markO (l.drop (i + 1)) (x.drop (i + 1)) := by rw [hno]; simp [g2]
      refine g_loop ?_
      exact ih (i + 1) _ _ ⟨h1, hno⟩ (by omega) ⟨rfl, rfl, rfl, congrArg ii (wsucc (n := 4096) (by omega) (by decide)), trivial⟩ rfl ⟨rfl, trivial⟩ rfl rfl
  · have h1 : l.length ≤ i := by simpa using g1
    have hno : R = true := by rw [hno, List.drop_eq_nil_of_le h1]; simp [markO]
    subst hno
    refine g_ret Tk (r := bb true) rfl rfl rfl trivial rfl rfl ?_
    rfl
end Go.AI


/- flatten.unfold for origins of several extended automata. -/
namespace Go.AI
open Go.Proofs
set_option maxRecDepth 20000
abbrev oorgs (l : List Org) : Ob := .arr 43 2 l.length (l.map orgI) true
theorem oorgs_app2 (l : List Org) (s : Org) : Ob.arr 43 2 (l.length + 1) (l.map orgI ++ [orgI s]) true = oorgs (l ++ [s]) := by simp
/-- What unfold returns: the error or the origins. -/
def unfO (m : List Ext) (alpha : List Int) (first : Org) : Except Int (Unf Org) := unfR keqO true (stepO m) (fun s => markO m s.locs) alpha first
abbrev fnSO (d nm : Nat) : D := .fn (.func 39) [] [.own d nm 0 0]
abbrev fnMO (d nm : Nat) : D := .fn (.func 41) [] [.own d nm 0 0]
def unfDO (alpha : List Int) : Except Int (Unf Org) → D
  | .error e => .tup [autD ⟨[], 0, [], []⟩, orgsD [], ii e]
  | .ok U => .tup [autD ⟨alpha, U.sts.length, U.mkl, U.eds⟩, orgsD U.sts, ii 0]
def kidxO : List Org → Nat → List (Value × Int)
  | [], _ => []
  | s :: r, i => (.string (keyO s), (i : Int)) :: kidxO r (i + 1)
theorem kidxO_look (b : ByteArray) : ∀ (l : List Org) (i : Nat), mlook (kidxO l i) (.string b) = if l.findIdx (fun t => b == keyO t) < l.length then some (((i + l.findIdx fun t => b == keyO t : Nat) : Int)) else none
  | [], i => by simp [kidxO, mlook]
  | s :: r, i => by
    simp only [kidxO, mlook, keyB, List.findIdx_cons]
    cases h : b == keyO s with
    | true => simp
    | false =>
      simp only [cond_false]
      rw [kidxO_look b r (i + 1)]
      have e : i + 1 + r.findIdx (fun t => b == keyO t) = i + (r.findIdx (fun t => b == keyO t) + 1) := by omega
      simp only [e, List.length_cons, Nat.add_lt_add_iff_right]
theorem kidxO_set {s : Org} : ∀ (l : List Org) (i : Nat), ¬ l.findIdx (keqO s) < l.length → mset (kidxO l i) (.string (keyO s)) ((i + l.length : Nat) : Int) = kidxO (l ++ [s]) i
  | [], i, _ => by simp [kidxO, mset]
  | t :: r, i, h => by
    rw [List.findIdx_cons] at h
    cases hk : keqO s t with
    | true => rw [hk] at h; simp at h
    | false =>
      rw [hk] at h
      simp only [cond_false, List.length_cons, Nat.add_lt_add_iff_right] at h
      have hk' : (keyO s == keyO t) = false := hk
      simp only [List.cons_append, kidxO, mset, keyB, hk', cond_false]
      have e : i + (t :: r).length = (i + 1) + r.length := by simp only [List.length_cons]; omega
      rw [e, kidxO_set r (i + 1) h]
/-- What the loops know. -/
structure UGoodO (m : List Ext) (U : Unf Org) : Prop where
  len : U.sts.length ≤ 4096
  ok : ∀ s ∈ U.sts, okO m s
set_option maxHeartbeats 4000000 in
theorem unfoldO43 {g : Nat} (hg : IsTab g) {ty : TypeId} {fr : Nat × Nat} (O : List Heap) (m : List Ext) (alpha : List Int) (first : Org) (d nm : Nat) (ho : objAt O d nm = some (.box [exts m])) (hJ : jntOk m) (ha : alpha.length ≤ 4096) (hf : okO m first) :
    ASpecT g (ptab ty fr) Tryz.prog 43 [ints alpha, orgD first, .fn (.func 37) [] [], fnSO d nm, fnMO d nm] O (unfDO alpha (unfO m alpha first)) [] O := by
  have hO : ∀ H, objAt (H :: O) (d + 1) nm = some (.box [exts m]) := fun H => up_obj ho
  have hno : unfO m alpha first = uloop keqO true (stepO m) (fun s => markO m s.locs) alpha (4097 - 0) 0 (unf0 first) := rfl
  generalize unfO m alpha first = R at *
  refine aspecT_stop [9, 23] Tk Tryz.func43 rfl Tryz.call43 Tryz.ntmps43 (Nat.le_of_ble_eq_true rfl) fun E hE => ?_
  refine g_run Tk Tryz.func43 ?_
  refine g_callT Tk Tryz.func43 hE (keyNameO hg _ hJ first hf) rfl rfl rfl rfl rfl rfl ?_
  refine g_loop ?_
  refine rch_wk (wk_ren 25 95 rfl rfl rfl) ?_
  refine rch_wk (wk_nilbox2 10 47 3 1 (pre := [ints alpha, ii 0]) (post := [.i (.v (.slice none 0 0))]) rfl rfl rfl) ?_
  refine rch_wk (wk_nilbox2 10 103 93 3 (pre := [ints alpha, ii 0, .osl 0 47]) (post := []) rfl rfl rfl) ?_
  refine rch_loop2 (fun x : Nat × Unf Org => [(0, ints alpha), (2, .fn (.func 37) [] []), (3, fnSO (d + 1) nm), (4, fnMO (d + 1) nm), (10, .own 0 10 0 0), (11, .osl 0 95), (13, .osl 0 26), (14, ii x.1)])
    (fun x => [(10, .box [ints alpha, ii 0, .osl 0 47, .osl 0 103]), (95, oorgs x.2.sts), (47, oints x.2.mkl), (103, oedgs x.2.eds), (26, .mp .str (.i .i64 (kidxO x.2.sts 0)))]) (fun _ => O) 111
    (fun x => x.1 ≤ x.2.sts.length ∧ UGoodO m x.2 ∧ x.2.mkl.length ≤ x.1 ∧ x.2.eds.length ≤ 4096 * x.1 ∧ R = uloop keqO true (stepO m) (fun s => markO m s.locs) alpha (4097 - x.1) x.1 x.2) (fun x => 4097 - x.1) (0, unf0 first)
    ⟨Nat.zero_le _, ⟨by simp [unf0], fun s hs => by rw [unf0, List.mem_singleton] at hs; subst hs; exact hf⟩, Nat.le_refl _, Nat.le_refl _, hno⟩ ⟨rfl, rfl, rfl, rfl, rfl, rfl, rfl, rfl, trivial⟩ rfl ⟨rfl, rfl, rfl, rfl, rfl, trivial⟩ rfl rfl ?_
  clear hno
  rintro ⟨i, U⟩ ⟨hi, hgd, hml, hel, hno⟩ ih
  simp only at hi hgd hml hel hno
  refine g_run Tk Tryz.func43 ?_
  first | refine g_cnd Tk Tryz.func43 rfl (fun g1 => ?_) (fun g1 => ?_) | refine g_know Tk Tryz.func43 rfl (fun g1 => ?_) (fun g1 => ?_) | refine s_know Tk (fun g1 => ?_) (fun g1 => ?_)
  · have h1 : i < U.sts.length := by simpa using g1
    clear g1
    have hle := hgd.len
    have hsi : U.sts[i]? = some U.sts[i] := List.getElem?_eq_getElem h1
    have gs : (U.sts.map orgI)[(i : Int).toNat]? = some (orgI U.sts[i]) := get_mapZ h1
    have hoks := hgd.ok _ (List.getElem_mem h1)
    generalize U.sts[i] = s at *
    have hno : R = match uvisits keqO true (stepO m) i s alpha (umark (fun s => markO m s.locs) i s U) with
        | .error e => .error e
        | .ok U' => uloop keqO true (stepO m) (fun s => markO m s.locs) alpha (4097 - (i + 1)) (i + 1) U' := by
      rw [hno, show 4097 - i = (4097 - (i + 1)) + 1 by omega]
      simp only [uloop, hsi]
      cases uvisits keqO true (stepO m) i s alpha (umark (fun s => markO m s.locs) i s U) <;> rfl
    have hmk := fun H => keyMarkO (H :: O) m s (d + 1) nm (hO H) hJ hoks
    obtain ⟨m1, m2⟩ := umark_sts (fun s : Org => markO m s.locs) i s U
    have hm3 : (umark (fun s : Org => markO m s.locs) i s U).mkl = if markO m s.locs = true then U.mkl ++ [(i : Int)] else U.mkl := by
      unfold umark
      by_cases h : markO m s.locs = true <;> simp [h]
    generalize umark (fun s : Org => markO m s.locs) i s U = U1 at *
    obtain ⟨sts, mkl, eds⟩ := U
    obtain ⟨sts1, mkl1, eds1⟩ := U1
    simp only at *
    subst m1 m2
    obtain ⟨sl, sv⟩ := s
    simp only at *
    first | refine g_need Tk Tryz.func43 (by exact ⟨by omega, by show (i : Int) < (sts1.length : Int); omega⟩) ?_ | refine s_need Tk (by exact ⟨by omega, by show (i : Int) < (sts1.length : Int); omega⟩) ?_
    first | refine g_elem Tk Tryz.func43 (gs) ?_ | refine s_elem Tk (gs) ?_
    first | refine g_call Tk Tryz.func43 (hmk _) rfl rfl rfl rfl rfl ?_ | refine s_callq Tk (fun _ => hmk _) rfl rfl rfl ?_
    apply join_p (P := True) (s6 := { σ := [(0, ints alpha), (2, .fn (.func 37) [] []), (3, fnSO (d + 1) nm), (4, fnMO (d + 1) nm), (10, .own 0 10 0 0), (11, .osl 0 95), (13, .osl 0 26), (14, ii i)], S := [(10, .box [ints alpha, ii 0, .osl 0 47, .osl 0 103]), (95, oorgs sts1), (47, oints mkl1), (103, oedgs eds1), (26, .mp .str (.i .i64 (kidxO sts1 0)))] :: O, n := 111 })
    · intro J
      first | refine g_cnd Tk Tryz.func43 rfl (fun c1 => ?_) (fun c1 => ?_) | refine g_know Tk Tryz.func43 rfl (fun c1 => ?_) (fun c1 => ?_) | refine s_know Tk (fun c1 => ?_) (fun c1 => ?_)
      · have c1 : markO m sl = true := c1
        rw [if_pos c1] at hm3
        subst hm3
        first | refine g_need Tk Tryz.func43 (by exact ⟨by show (mkl.length + 1) * 8 ≤ 140737488355328; omega, by show mkl.length + 1 ≤ 9223372036854775807; omega⟩) ?_ | refine s_need Tk (by exact ⟨by show (mkl.length + 1) * 8 ≤ 140737488355328; omega, by show mkl.length + 1 ≤ 9223372036854775807; omega⟩) ?_
        refine g_stop ?_
        refine rch_meet (J trivial) ⟨rfl, rfl, rfl, rfl, rfl, rfl, rfl, rfl, trivial⟩ rfl ⟨rfl, rfl, congrArg some (oints_app mkl (i : Int)), rfl, rfl, trivial⟩ rfl rfl
      · have c1 : ¬ markO m sl = true := by rw [show markO m sl = false from c1]; simp
        rw [if_neg c1] at hm3
        subst hm3
        refine g_stop ?_
        refine rch_meet (J trivial) ⟨rfl, rfl, rfl, rfl, rfl, rfl, rfl, rfl, trivial⟩ rfl ⟨rfl, rfl, rfl, rfl, rfl, trivial⟩ rfl rfl
    intro _
    have hml1 : mkl1.length ≤ i + 1 := by rw [hm3]; split; (rw [List.length_append, List.length_singleton]; omega); omega
    clear hm3 hml hmk gs
    have hV0 : uvisits keqO true (stepO m) i ⟨sl, sv⟩ alpha ⟨sts1, mkl1, eds1⟩ = uvisits keqO true (stepO m) i ⟨sl, sv⟩ (alpha.drop 0) ⟨sts1, mkl1, eds1⟩ := rfl
    generalize uvisits keqO true (stepO m) i ⟨sl, sv⟩ alpha ⟨sts1, mkl1, eds1⟩ = V at *
    refine g_run Tk Tryz.func43 ?_
    refine g_go Tk Tryz.func43 ?_
    refine g_loop ?_
    refine rch_loop2 (fun x : Nat × Unf Org => [(0, ints alpha), (2, .fn (.func 37) [] []), (3, fnSO (d + 1) nm), (4, fnMO (d + 1) nm), (10, .own 0 10 0 0), (11, .osl 0 95), (13, .osl 0 26), (14, ii i), (49, ints alpha), (50, ii alpha.length), (51, ii x.1)])
      (fun x => [(10, .box [ints alpha, ii 0, .osl 0 47, .osl 0 103]), (95, oorgs x.2.sts), (47, oints x.2.mkl), (103, oedgs x.2.eds), (26, .mp .str (.i .i64 (kidxO x.2.sts 0)))]) (fun _ => O) 111
      (fun x => x.1 ≤ alpha.length ∧ UGoodO m x.2 ∧ i < x.2.sts.length ∧ x.2.mkl.length ≤ i + 1 ∧ x.2.eds.length ≤ 4096 * i + x.1 ∧ x.2.sts[i]? = some ⟨sl, sv⟩ ∧ V = uvisits keqO true (stepO m) i ⟨sl, sv⟩ (alpha.drop x.1) x.2) (fun x => alpha.length - x.1) (0, ⟨sts1, mkl1, eds1⟩)
      ⟨Nat.zero_le _, ⟨hgd.len, hgd.ok⟩, h1, hml1, hel, hsi, hV0⟩ ⟨rfl, rfl, rfl, rfl, rfl, rfl, rfl, rfl, rfl, rfl, rfl, trivial⟩ rfl ⟨rfl, rfl, rfl, rfl, rfl, trivial⟩ rfl rfl ?_
    clear hV0 hsi hml1 hel hgd hle
    rintro ⟨j, ⟨sts, mk, eds⟩⟩ ⟨hj, hgd, hil, hml, hel, hsi, hV⟩ ih2
    simp only at hj hgd hil hml hel hsi hV
    have hle : sts.length ≤ 4096 := hgd.len
    refine g_run Tk Tryz.func43 ?_
    first | refine g_cnd Tk Tryz.func43 rfl (fun g2 => ?_) (fun g2 => ?_) | refine g_know Tk Tryz.func43 rfl (fun g2 => ?_) (fun g2 => ?_) | refine s_know Tk (fun g2 => ?_) (fun g2 => ?_)
    · have h3 : j < alpha.length := by simpa using g2
      clear g2
      have ga : (alpha.map fun x => [vi x])[(j : Int).toNat]? = some [vi alpha[j]] := get_mapZ (f := fun x => [vi x]) h3
      have da : alpha.drop j = alpha[j] :: alpha.drop (j + 1) := List.drop_eq_getElem_cons h3
      rw [da] at hV
      simp only [uvisits] at hV
      clear da
      generalize alpha[j] = ev at *
      have gs : (sts.map orgI)[(i : Int).toNat]? = some (orgI ⟨sl, sv⟩) := by simp [hsi]
      have hst := fun H => keyStepO (H :: O) m ⟨sl, sv⟩ ev (d + 1) nm (hO H) hJ hoks
      have hokn := @stepO_ok m hJ.right ⟨sl, sv⟩ ev hoks
      have hj1 : ii (IntKind.i64.wrap ((j : Int) + 1)) = ii ((j + 1 : Nat) : Int) := congrArg ii (wsucc (n := 4096) (by omega) (by decide))
      unfold uvisit at hV
      generalize stepO m ⟨sl, sv⟩ ev = N at *
      obtain ⟨⟨nl, nv⟩, np, ne⟩ := N
      simp only at hV hst hokn
      first | refine g_need Tk Tryz.func43 (by exact ⟨by omega, by show (j : Int) < (alpha.length : Int); omega⟩) ?_ | refine s_need Tk (by exact ⟨by omega, by show (j : Int) < (alpha.length : Int); omega⟩) ?_
      first | refine g_elem Tk Tryz.func43 (ga) ?_ | refine s_elem Tk (ga) ?_
      first | refine g_need Tk Tryz.func43 (by exact ⟨by omega, by show (i : Int) < (sts.length : Int); omega⟩) ?_ | refine s_need Tk (by exact ⟨by omega, by show (i : Int) < (sts.length : Int); omega⟩) ?_
      first | refine g_elem Tk Tryz.func43 (gs) ?_ | refine s_elem Tk (gs) ?_
      first | refine g_call Tk Tryz.func43 (hst _) rfl rfl rfl rfl rfl ?_ | refine s_callq Tk (fun _ => hst _) rfl rfl rfl ?_
      first | refine g_cnd Tk Tryz.func43 rfl (fun c1 => ?_) (fun c1 => ?_) | refine g_know Tk Tryz.func43 rfl (fun c1 => ?_) (fun c1 => ?_) | refine s_know Tk (fun c1 => ?_) (fun c1 => ?_)
      · have c1 : ne ≠ 0 := bneT c1
        rw [if_pos c1] at hV
        subst hV
        simp only at hno
        subst hno
        refine g_ret_co Tk (r := _) rfl rfl rfl trivial rfl rfl ?_
        exact coErr
      have c1 : ne = 0 := bneF c1
      rw [if_neg (by simpa using c1)] at hV
      first | refine g_cnd Tk Tryz.func43 rfl (fun c2 => ?_) (fun c2 => ?_) | refine g_know Tk Tryz.func43 rfl (fun c2 => ?_) (fun c2 => ?_) | refine s_know Tk (fun c2 => ?_) (fun c2 => ?_)
      · have c2 : np = false := notT c2
        rw [if_pos c2] at hV
        refine g_loop ?_
        exact ih2 (j + 1, ⟨sts, mk, eds⟩) _ _ ⟨h3, hgd, hil, hml, by simp only; omega, hsi, hV⟩ (by simp only; omega) ⟨rfl, rfl, rfl, rfl, rfl, rfl, rfl, rfl, rfl, rfl, hj1, trivial⟩ rfl ⟨rfl, rfl, rfl, rfl, rfl, trivial⟩ rfl rfl
      have c2 : np = true := notF c2
      rw [if_neg (by rw [c2]; simp)] at hV
      have hon := hokn c2
      have hlk := kidxO_look (keyO ⟨nl, nv⟩) sts 0
      have hks := @kidxO_set ⟨nl, nv⟩ sts 0
      rw [Nat.zero_add] at hks
      rw [Nat.zero_add] at hlk
      have hix : sts.findIdx (keqO ⟨nl, nv⟩) ≤ sts.length := findIdx_le
      have hlk : mlook (kidxO sts 0) (.string (keyO ⟨nl, nv⟩)) = if sts.findIdx (keqO ⟨nl, nv⟩) < sts.length then some ((sts.findIdx (keqO ⟨nl, nv⟩) : Nat) : Int) else none := hlk
      generalize sts.findIdx (keqO ⟨nl, nv⟩) = t at *
      refine g_callT Tk Tryz.func43 hE (keyNameO hg _ hJ ⟨nl, nv⟩ hon) rfl rfl rfl rfl rfl rfl ?_
      generalize hst2 : (if t < sts.length then sts else sts ++ [(⟨nl, nv⟩ : Org)]) = sts2
      apply join_p (P := t < sts.length ∨ sts.length ≠ 4096) (s6 := { σ := [(0, ints alpha), (2, .fn (.func 37) [] []), (3, fnSO (d + 1) nm), (4, fnMO (d + 1) nm), (10, .own 0 10 0 0), (11, .osl 0 95), (13, .osl 0 26), (14, ii i), (16, ii ev), (20, ii t), (49, ints alpha), (50, ii alpha.length), (51, ii j)], S := [(10, .box [ints alpha, ii 0, .osl 0 47, .osl 0 103]), (95, oorgs sts2), (47, oints mk), (103, oedgs eds), (26, .mp .str (.i .i64 (kidxO sts2 0)))] :: O, n := 111 })
      · intro J
        first | refine g_cnd Tk Tryz.func43 rfl (fun c3 => ?_) (fun c3 => ?_) | refine g_know Tk Tryz.func43 rfl (fun c3 => ?_) (fun c3 => ?_) | refine s_know Tk (fun c3 => ?_) (fun c3 => ?_)
        · have c3 : mhas (kidxO sts 0) (.string (keyO ⟨nl, nv⟩)) = false := notT c3
          have hlt : ¬ t < sts.length := fun h => by
            unfold mhas at c3
            rw [hlk, if_pos h] at c3
            cases c3
          have hte : t = sts.length := by omega
          rw [if_neg hlt] at hst2 hV
          have hks := hks hlt
          first | refine g_cnd Tk Tryz.func43 rfl (fun c4 => ?_) (fun c4 => ?_) | refine g_know Tk Tryz.func43 rfl (fun c4 => ?_) (fun c4 => ?_) | refine s_know Tk (fun c4 => ?_) (fun c4 => ?_)
          · have c4 : ((sts.length : Nat) : Int) = 4096 := beqT c4
            have c4 : sts.length = 4096 := by omega
            rw [if_pos ⟨trivial, c4⟩] at hV
            subst hV
            simp only at hno
            subst hno
            refine g_ret_co Tk (r := _) rfl rfl rfl trivial rfl rfl ?_
            exact coErr
          have c4 : ((sts.length : Nat) : Int) ≠ 4096 := beqF c4
          have c4 : sts.length ≠ 4096 := by omega
          refine g_callT Tk Tryz.func43 hE (keyNameO hg _ hJ ⟨nl, nv⟩ hon) rfl rfl rfl rfl rfl rfl ?_
          first | refine g_need Tk Tryz.func43 (by exact ⟨by show (sts.length + 1) * 48 ≤ 140737488355328; omega, by show sts.length + 1 ≤ 9223372036854775807; omega⟩) ?_ | refine s_need Tk (by exact ⟨by show (sts.length + 1) * 48 ≤ 140737488355328; omega, by show sts.length + 1 ≤ 9223372036854775807; omega⟩) ?_
          subst hst2
          refine g_stop ?_
          refine rch_meet (J (.inr c4)) ⟨rfl, rfl, rfl, rfl, rfl, rfl, rfl, rfl, rfl, by rw [hte]; rfl, rfl, rfl, rfl, trivial⟩ rfl ⟨rfl, congrArg some (oorgs_app2 sts (⟨nl, nv⟩ : Org)), rfl, rfl, congrArg (fun l => some (Ob.mp .str (.i .i64 l))) hks, trivial⟩ rfl rfl
        · have c3 : mhas (kidxO sts 0) (.string (keyO ⟨nl, nv⟩)) = true := notF c3
          have hlt : t < sts.length := Classical.byContradiction fun h => by
            unfold mhas at c3
            rw [hlk, if_neg h] at c3
            cases c3
          rw [if_pos hlt] at hst2 hlk
          subst hst2
          refine g_stop ?_
          refine rch_meet (J (.inl hlt)) ⟨rfl, rfl, rfl, rfl, rfl, rfl, rfl, rfl, rfl, by show ii (mgetI (kidxO sts 0) (.string (keyO ⟨nl, nv⟩))) = _; unfold mgetI; rw [hlk]; rfl, rfl, rfl, rfl, trivial⟩ rfl ⟨rfl, rfl, rfl, rfl, rfl, trivial⟩ rfl rfl
      · intro hP
        have hV : V = uvisits keqO true (stepO m) i ⟨sl, sv⟩ (alpha.drop (j + 1)) ⟨sts2, mk, eds ++ [((i : Int), ev, (t : Int))]⟩ := by
          rw [hV]
          by_cases hlt : t < sts.length
          · rw [if_pos hlt] at hst2 ⊢
            subst hst2
            rfl
          · rw [if_neg hlt] at hst2 ⊢
            rw [if_neg (by rintro ⟨_, h⟩; rcases hP with h' | h'; exact hlt h'; exact h' h)]
            subst hst2
            rfl
        have hg2 : UGoodO m ⟨sts2, mk, eds ++ [((i : Int), ev, (t : Int))]⟩ := by
          by_cases hlt : t < sts.length
          · rw [if_pos hlt] at hst2
            subst hst2
            exact ⟨hgd.len, hgd.ok⟩
          · rw [if_neg hlt] at hst2
            subst hst2
            refine ⟨?_, fun x hx => ?_⟩
            · show (sts ++ [(⟨nl, nv⟩ : Org)]).length ≤ 4096
              rw [List.length_append, List.length_singleton]
              rcases hP with h' | h'
              · exact absurd h' hlt
              · omega
            · rcases List.mem_append.1 hx with hx | hx
              · exact hgd.ok x hx
              · rw [List.mem_singleton] at hx
                subst hx
                exact hon
        have hi2 : i < sts2.length ∧ sts2[i]? = some ⟨sl, sv⟩ := by
          by_cases hlt : t < sts.length
          · rw [if_pos hlt] at hst2
            subst hst2
            exact ⟨hil, hsi⟩
          · rw [if_neg hlt] at hst2
            subst hst2
            refine ⟨by rw [List.length_append]; omega, ?_⟩
            rw [List.getElem?_append_left hil]
            exact hsi
        have hi4 : i < 4096 := by omega
        clear hst2 hst hlk hks hgd hil hsi
        refine g_run Tk Tryz.func43 ?_
        refine g_go Tk Tryz.func43 ?_
        first | refine g_need Tk Tryz.func43 (by exact ⟨by show (eds.length + 1) * 24 ≤ 140737488355328; omega, by show eds.length + 1 ≤ 9223372036854775807; omega⟩) ?_ | refine s_need Tk (by exact ⟨by show (eds.length + 1) * 24 ≤ 140737488355328; omega, by show eds.length + 1 ≤ 9223372036854775807; omega⟩) ?_
        refine g_loop ?_
        exact ih2 (j + 1, ⟨sts2, mk, eds ++ [((i : Int), ev, (t : Int))]⟩) _ _ ⟨h3, hg2, hi2.1, hml, by simp only [List.length_append, List.length_singleton]; omega, hi2.2, hV⟩ (by simp only; omega) ⟨rfl, rfl, rfl, rfl, rfl, rfl, rfl, rfl, rfl, rfl, hj1, trivial⟩ rfl ⟨rfl, rfl, rfl, congrArg some (oedgs_app eds ((i : Int), ev, (t : Int))), rfl, trivial⟩ rfl rfl
    · have h3 : alpha.length ≤ j := by simpa using g2
      rw [List.drop_eq_nil_of_le h3] at hV
      simp only [uvisits] at hV
      subst hV
      simp only at hno
      have hja : j ≤ 4096 := by omega
      refine g_loop ?_
      exact ih (i + 1, ⟨sts, mk, eds⟩) _ _ ⟨by simp only; omega, hgd, hml, by simp only; omega, hno⟩ (by simp only; omega) ⟨rfl, rfl, rfl, rfl, rfl, rfl, rfl, congrArg ii (wsucc (n := 4096) (by omega) (by decide)), trivial⟩ rfl ⟨rfl, rfl, rfl, rfl, rfl, trivial⟩ rfl rfl
  · have h1 : U.sts.length ≤ i := by simpa using g1
    rw [uloop_done h1] at hno
    subst hno
    obtain ⟨sts, mk, eds⟩ := U
    refine g_rwk (wk_freeze 95 rfl rfl) ?_
    refine g_rwk (wk_freeze 47 rfl rfl) ?_
    refine g_rwk (wk_freeze 103 rfl rfl) ?_
    refine g_rwk (wk_imm rfl) ?_
    refine g_ret Tk (r := unfDO alpha (.ok ⟨sts, mk, eds⟩)) rfl rfl rfl trivial rfl rfl ?_
    rfl
end Go.AI


/- slices.Sort at ints: a callee of the library that sorts its caller's object. -/
namespace Go.AI
open Go.Proofs
def sortI (l : List Int) : List Int := l.mergeSort fun x y => decide (x ≤ y)
theorem sortI_len (l : List Int) : (sortI l).length = l.length := by unfold sortI; exact List.length_mergeSort l
theorem putRow_heap {w : World} {b : Nat} {d : Array Int} {c : Array Value} {ty : TypeId} {fr : Nat × Nat} (h : w.heap[b]? = some (.cells c ty fr)) :
    (Sort.putRow (Value.int .i64) w b 0 d).heap[b]? = some (.cells (Sort.putCells (Value.int .i64) 0 d c) ty fr) ∧ ∀ b', b' ≠ b → (Sort.putRow (Value.int .i64) w b 0 d).heap[b']? = w.heap[b']? := by
  unfold Sort.putRow Sort.mapBlock
  refine ⟨?_, fun b' hb => ?_⟩
  · simp [Array.getElem?_modify, h, Sort.onCells]
  · simp only [Array.getElem?_modify]
    rw [if_neg (fun e => hb e.symm)]
theorem sort81 (O : List Heap) (d nm : Nat) (l : List Int) (hpos : 0 < l.length) (hl : l.length < 4611686018427387904) (ho : objAt O d nm = some (oints l)) : ASpec Tryz.prog 81 [.osl d nm] O (.tup []) [] (setAt O d nm (oints (sortI l))) := by
  intro E K ρ w vs hw hrep
  obtain rfl : vs = [.slice (ρ d nm).base l.length (ρ d nm).cap] := by
    cases hrep with
    | cons r rs =>
      cases rs
      rw [inv_osl (es := 1) (len := l.length) r (by simp [shape, ho, Ob.sh])]
  obtain ⟨ρ1, hρ1, hI⟩ := hinv_enter hw
  have ho1 : objAt (([] : Heap) :: O) (d + 1) nm = some (oints l) := up_obj ho
  have hown1 := own_at (s := { σ := [], S := [] :: O, n := 0 }) hI ho1
  have hsl := sortI_len l
  refine .inl ⟨Tryz.call81 _ _, ?_⟩
  obtain ⟨h1, h2, h3, h4, h5⟩ := hown1
  have hloc : ρ1 (d + 1) nm = ρ d nm := by rw [hρ1]
  rw [hloc] at h3 h4 h5
  rcases h5 with ⟨h5, h6⟩ | ⟨h5, c, h6, h7, h8, h9, h10, h11⟩
  · exfalso; omega
  · have hcl : c.toList.take l.length = l.map (Value.int .i64) := by
      rw [Nat.mul_one] at h8
      exact repL_ints h8
    have hsz : l.length ≤ c.size := by rw [h7, Nat.mul_one]; exact h3
    have hblk : (ρ d nm).block < w.heap.size := (Array.getElem?_eq_some_iff.1 h6).1
    rw [h5]
    refine (Tryz.slices_Sort_int (ρ d nm).block 0 (ρ d nm).cap l w (fun j hj => ⟨?_, ?_⟩) hblk hl).mono ?_
    · have hj : j < l.length := by simpa using hj
      rw [Nat.zero_add, cell_of_heap h6]
      have : (c.toList.take l.length)[j]? = some (.int .i64 l[j]) := by
        rw [hcl, List.getElem?_map, List.getElem?_eq_getElem hj]
        rfl
      rw [List.getElem?_take, if_pos hj] at this
      have e : l.toArray[j]! = l[j] := by simp [hj]
      rw [e]
      simpa using this
    · simp [World.frozen?, h6]
    · rintro e w' ⟨rfl, n, os, rfl⟩
      have hh : (Sort.ahead w n).heap[(ρ d nm).block]? = some (.cells c 3 (0, 0)) := h6
      obtain ⟨a1, a2⟩ := putRow_heap (d := (sortI l).toArray) hh
      have hbk : backed (ρ1 (d + 1) nm) (oints l) := by rw [hloc]; show _ ≠ none; rw [h5]; simp
      have hfin : HInv (.of K ρ w) K ρ1 (setAt ([] :: O) (d + 1) nm (oints (sortI l))) (Sort.putRow (Value.int .i64) (Sort.ahead w n) (ρ d nm).block 0 (sortI l).toArray) := by
        refine hI.put ho1 (by simp [Ob.sh, hsl]) hbk (by rw [hloc]; show _ ≠ none; rw [h5]; simp) (by simp [Sort.ahead]) (fun b hb => a2 b (by rw [← hloc]; exact hb)) ⟨rfl, rfl, rfl⟩ (fun o x hx => ?_) ?_
        · rw [hloc] at hx ⊢
          rw [h9 rfl] at hx; cases hx
        · rw [hloc]
          refine ⟨by simp [hsl], by simp, by simpa [hsl] using h3, h4, .inr ⟨h5, _, a1, by simp [Sort.putCells, h7], ?_, fun _ => h9 rfl, fun o ho => by rw [h9 rfl o], fun h => by cases h⟩⟩
          have e : (Sort.putCells (Value.int .i64) 0 (sortI l).toArray c).toList.take ((sortI l).length * 1) = (sortI l).map (Value.int .i64) := by
            apply List.ext_getElem?
            intro j
            rw [List.getElem?_take, Nat.mul_one]
            by_cases hj : j < (sortI l).length
            · rw [if_pos hj]
              have hjc : j < c.size := by omega
              simp [Sort.putCells, hj, hjc, Array.getElem?_mapIdx]
            · rw [if_neg hj]
              simp at hj
              simp [hj]
          rw [e]
          exact ints_repL _
      obtain ⟨hI2, hst⟩ := HInv.grow (S := setAt ([] :: O) (d + 1) nm (oints (sortI l))) rfl hfin (fun _ _ _ e => e) (fun _ h => by simp [look] at h) (grow_more hfin 0 os)
      exact ⟨_, rfl, K, ρ1, hI2, .tup .nil⟩
end Go.AI


/- slices.Compact at ints: a callee of the library that shortens its caller's row in place. -/
namespace Go.AI
open Go.Proofs
open Go.Shelf Go.RowKit Go.Lib Go.Sort
theorem compact_le (l : List Int) : (Lib.compact l).length ≤ l.length := Lib.compact_length_le l
set_option maxHeartbeats 1000000 in
theorem does_compact {c : Cx} (hP : c.P = Tryz.prog) {s : St} {o : Oper} {t nm : Nat} {l : List Int} {H : Heap} {O : List Heap} (hpos : 0 < l.length) (ht : o.dst = some t) (hn : t < s.n) (hS : s.S = H :: O) (ha : look H nm = some (oints l)) :
    Wp c o s 82 [.osl 0 nm] { σ := (t, .osl 0 nm) :: killσ nm s.σ, S := ((nm, oints (Lib.compact l)) :: killH nm H) :: O, n := s.n } := by
  intro K ρ a w hinv ⟨vs, hrun, hrep⟩ next Qe hnext
  have hh := hinv.h
  rw [hS] at hh hrep
  have hoa : objAt (H :: O) 0 nm = some (oints l) := by simpa [objAt] using ha
  have e0 : (fun d n => ρ (0 + d) n) = ρ := by funext d n; rw [Nat.zero_add]
  have s0 : ∀ S : List Heap, shape (S.drop 0) = shape S := fun S => by rw [List.drop_zero]
  have hwa := hh.own _ _ _ hoa
  rw [e0, s0] at hwa
  have hsha : shape (H :: O) 0 nm = some (.arr 1 l.length) := by simp [shape, hoa, Ob.sh]
  obtain ⟨rfl⟩ : vs = [.slice (ρ 0 nm).base l.length (ρ 0 nm).cap] := by
    cases hrep with
    | cons h1 h2 => cases h2; rw [inv_osl h1 hsha]
  obtain ⟨h1, h2, h3, h4, h5⟩ := hwa
  rcases h5 with ⟨h5, _⟩ | ⟨h5, cur, h6, h7, h8, h9, h10, h11⟩
  · omega
  rw [h5, hP] at hrun
  have hent : (callFunc 82 #[.slice (some ⟨(ρ 0 nm).block, 0, none⟩) l.length (ρ 0 nm).cap]).run Tryz.prog w = .ok (.enter 82 #[.slice (some ⟨(ρ 0 nm).block, 0, none⟩) l.length (ρ 0 nm).cap]) w := Tryz.call82 _ _
  simp only [Oper.wp, hP, hrun, hent, Oper.upon]
  have h4' : (ρ 0 nm).cap ≤ 9223372036854775807 := h4
  have hcl : cur.toList.take l.length = l.map (Value.int .i64) := by
    rw [Nat.mul_one] at h8
    exact repL_ints h8
  have hsz : l.length ≤ cur.size := by rw [h7, Nat.mul_one]; exact h3
  have hle := compact_le l
  refine (Tryz.slices_Compact_int_cells (ρ 0 nm).block 0 l.length (ρ 0 nm).cap l w (Nat.le_refl _) (by omega) h3 (fun j hj => ?_) (fun j hj => ?_)).mono ?_
  · rw [Nat.zero_add, Go.AI.cell_of_heap h6]
    have : (cur.toList.take l.length)[j]? = some (.int .i64 (l.getD j 0)) := by
      rw [hcl, List.getElem?_map, List.getElem?_eq_getElem hj, List.getD_eq_getElem?_getD, List.getElem?_eq_getElem hj]
      rfl
    rw [List.getElem?_take] at this
    rw [if_pos hj] at this
    simpa using this
  · simp [World.frozen?, h6]
  rintro e w' ⟨rfl, q, rfl⟩
  rw [List.take_length]
  generalize hL : Lib.compact l = L at *
  generalize hV : (L ++ List.replicate (l.length - L.length) 0).map (Value.int .i64) = V
  have hVl : V.length = l.length := by rw [← hV]; simp; omega
  have hgd : (w.drewN q).heap[(ρ 0 nm).block]? = some (.cells cur 3 (0, 0)) := h6
  obtain ⟨a1, a2, a3, a4, a5, a6⟩ := setCells_heap V 0 (w.drewN q) cur 3 (0, 0) hgd
  have hap : Apnd K w ((w.drewN q).setCells (ρ 0 nm).block 0 V) (ρ 0 nm) (ρ 0 nm) := by
    refine ⟨Nat.le_of_eq a3.symm, fun b _ hne => ?_, ⟨a4, a5, a6⟩, fun e => .inr ⟨e, rfl⟩⟩
    have hb : b ≠ (ρ 0 nm).block := hne (by rw [h5]; simp)
    exact a2 b hb
  have hrow : RepL K ((over cur 0 V).toList.take (L.length * 1)) (L.map fun x => [vi x]).flatten := by
    have e1 : (over cur 0 V).toList.take (L.length * 1) = L.map (Value.int .i64) := by
      apply List.ext_getElem?
      intro j
      rw [List.getElem?_take, Nat.mul_one]
      by_cases hj : j < L.length
      · rw [if_pos hj, Array.getElem?_toList, over_get _ _ _ _ (by rw [hVl]; omega), if_pos (by omega), ← hV, Nat.sub_zero, List.map_append, List.getElem?_append_left (by simpa using hj)]
      · rw [if_neg hj, List.getElem?_eq_none (by simpa using hj)]
    rw [e1]
    exact ints_repL _
  have hown : ∀ (ρ' : Nat → Nat → Loc) (sh' : Nat → Nat → Option Sh), OwnAt K ρ' sh' ((w.drewN q).setCells (ρ 0 nm).block 0 V) (ρ 0 nm) (oints L) := fun ρ' sh' =>
    ⟨fun d hd => by obtain ⟨x, _, rfl⟩ := List.mem_map.1 hd; rfl, by simp, by omega, h4, .inr ⟨h5, _, a1, by rw [over_size, h7], hrow, fun _ => h9 rfl, fun o ho => h9 rfl o, fun e => by cases e⟩⟩
  obtain ⟨hI3, hbut⟩ := hh.renew (nm := nm) (dst := nm) ha (by rw [look_killH]; simp) hap Iff.rfl (ob' := oints L) Iff.rfl (fun _ => h9 rfl) hown
  have hsh3 : shape (((nm, oints L) :: killH nm H) :: O) 0 nm = some (.arr 1 L.length) := by simp [shape, objAt, look_cons, Ob.sh]
  refine hnext _ _ K (upd ρ nm (ρ 0 nm)) ?_
  rw [ht]
  refine ⟨hI3, hinv.defers, by simp [Act.put]; exact hinv.size, fun t' d' e' => ?_⟩
  rw [tmps_put (by rw [hinv.size]; exact hn)]
  simp only [look_cons] at e'
  split at e'
  · rename_i e2
    simp only [Option.some.injEq] at e'
    subst e'
    rw [if_pos e2]
    have g2 := RepD.osl (K := K) (ρ := upd ρ nm (ρ 0 nm)) hsh3
    rw [upd_same, h5] at g2
    exact g2
  · rename_i e2
    rw [if_neg e2]
    rw [look_killσ] at e'
    cases hls : look s.σ t' with
    | none => simp [hls] at e'
    | some d0 =>
      simp only [hls, Option.map_some, Option.some.injEq] at e'
      subst e'
      have hr := hinv.slots _ _ hls
      rw [hS] at hr
      exact hr.kill hbut
end Go.AI


/- flatten.events. -/
namespace Go.AI
open Go.Proofs
set_option maxRecDepth 20000
def eventsR (l : List Ext) : List Int := Lib.compact (sortI (l.flatMap (·.alpha)))
set_option maxHeartbeats 1000000 in
theorem events44 (O : List Heap) (l : List Ext) (hl : l.length ≤ 4096) (ha : ∀ m ∈ l, m.alpha.length ≤ 4096) (hpos : 0 < (l.flatMap (·.alpha)).length) : ASpec Tryz.prog 44 [exts l] O (ints (eventsR l)) [] O := by
  unfold eventsR
  generalize hA : l.flatMap (·.alpha) = A at *
  have hA0 : [] ++ (l.drop 0).flatMap (·.alpha) = A := hA
  clear hA
  refine aspec_stop [7, 200020] Tk Tryz.func44 rfl Tryz.call44 Tryz.ntmps44 (Nat.le_of_ble_eq_true rfl) fun E => ?_
  refine g_run Tk Tryz.func44 ?_
  refine g_loop ?_
  refine rch_wk (wk_nil 3 15 3 1 rfl rfl rfl) ?_
  refine rch_loop2 (fun x : Nat × List Int => [(3, .osl 0 15), (6, exts l), (7, ii l.length), (8, ii x.1)]) (fun x => [(15, oints x.2)]) (fun _ => O) 21
    (fun x => x.1 ≤ l.length ∧ x.2.length ≤ 4096 * x.1 ∧ x.2 ++ (l.drop x.1).flatMap (·.alpha) = A) (fun x => l.length - x.1) (0, []) ⟨Nat.zero_le _, by simp, hA0⟩ ⟨rfl, rfl, rfl, rfl, trivial⟩ rfl ⟨rfl, trivial⟩ rfl rfl ?_
  clear hA0
  rintro ⟨i, acc⟩ ⟨hi, hal, hno⟩ ih
  simp only at hi hal hno
  refine g_run Tk Tryz.func44 ?_
  first | refine g_cnd Tk Tryz.func44 rfl (fun g1 => ?_) (fun g1 => ?_) | refine g_know Tk Tryz.func44 rfl (fun g1 => ?_) (fun g1 => ?_) | refine s_know Tk (fun g1 => ?_) (fun g1 => ?_)
  · have h1 : i < l.length := by simpa using g1
    clear g1
    have gm : (l.map extI)[(i : Int).toNat]? = some (extI l[i]) := get_mapZ h1
    have hma := ha _ (List.getElem_mem h1)
    rw [List.drop_eq_getElem_cons h1, List.flatMap_cons, ← List.append_assoc] at hno
    generalize l[i] = m at *
    first | refine g_need Tk Tryz.func44 (by exact ⟨by omega, by show (i : Int) < (l.length : Int); omega⟩) ?_ | refine s_need Tk (by exact ⟨by omega, by show (i : Int) < (l.length : Int); omega⟩) ?_
    first | refine g_elem Tk Tryz.func44 (gm) ?_ | refine s_elem Tk (gm) ?_
    first | refine g_need Tk Tryz.func44 (by exact ⟨by show (acc.length + m.alpha.length) * 8 ≤ 140737488355328; omega, by show acc.length + m.alpha.length ≤ 9223372036854775807; omega⟩) ?_ | refine s_need Tk (by exact ⟨by show (acc.length + m.alpha.length) * 8 ≤ 140737488355328; omega, by show acc.length + m.alpha.length ≤ 9223372036854775807; omega⟩) ?_
    refine g_loop ?_
    refine ih (i + 1, acc ++ m.alpha) _ _ ⟨h1, by simp only [List.length_append]; omega, hno⟩ (by simp only; omega) ⟨rfl, rfl, rfl, congrArg ii (wsucc (n := 4096) (by omega) (by decide)), trivial⟩ rfl ⟨?_, trivial⟩ rfl rfl
    show some (Ob.arr 3 1 (acc.length + m.alpha.length) ((acc.map fun x => [vi x]) ++ m.alpha.map fun x => [vi x]) true) = some (oints (acc ++ m.alpha))
    simp
  · have h1 : l.length ≤ i := by simpa using g1
    rw [List.drop_eq_nil_of_le h1] at hno
    simp only [List.flatMap_nil, List.append_nil] at hno
    subst hno
    refine g_stop ?_
    refine g_run Tk Tryz.func44 ?_
    refine g_go Tk Tryz.func44 ?_
    refine g_call Tk Tryz.func44 (sort81 _ 0 15 acc hpos (by omega) rfl) rfl rfl rfl (shape_over (ob := oints acc) rfl (by simp [Ob.sh, sortI_len])) rfl ?_
    refine g_callP Tk Tryz.func44 rfl rfl rfl rfl (does_compact rfl (by rw [sortI_len]; exact hpos) rfl (show 20 < 21 by decide) rfl rfl) ?_
    refine g_rwk (wk_freeze 15 rfl rfl) ?_
    refine g_ret Tk (r := ints (Lib.compact (sortI acc))) rfl rfl rfl trivial rfl rfl ?_
    rfl
end Go.AI


/- Equal lists of variables; flatten.CheckJoint. -/
namespace Go.AI
open Go.Proofs
set_option maxRecDepth 20000
instance vrDec : DecidableEq Vr := fun a b => decidable_of_iff (a.name = b.name ∧ a.low = b.low ∧ a.high = b.high ∧ a.init = b.init) ⟨fun ⟨h1, h2, h3, h4⟩ => by cases a; cases b; cases h1; cases h2; cases h3; cases h4; rfl, fun h => by subst h; exact ⟨rfl, rfl, rfl, rfl⟩⟩
theorem str_eqB (a b : ByteArray) : (a.toList == b.toList) = decide (a = b) := by
  rw [ByteArray.toList_eq, ByteArray.toList_eq, Bool.eq_iff_iff]
  simp only [beq_iff_eq, decide_eq_true_eq]
  constructor
  · intro h
    apply ByteArray.ext
    apply Array.ext'
    exact h
  · rintro rfl; rfl
theorem vr_eqB (a b : Vr) : ((a.name.toList == b.name.toList) && ((a.low == b.low) && ((a.high == b.high) && ((a.init == b.init) && true)))) = decide (a = b) := by
  rw [str_eqB, Bool.eq_iff_iff]
  obtain ⟨an, al, ah, ai⟩ := a
  obtain ⟨bn, bl, bh, bi⟩ := b
  simp
set_option maxHeartbeats 1000000 in
theorem equalVars59 (O : List Heap) (a b : List Vr) (ha : a.length ≤ max63) : ASpec Tryz.prog 59 [vrs a, vrs b] O (bb (decide (a = b))) [] O := by
  by_cases hl : a.length = b.length
  · have hR : decide (a = b) = decide (a.drop 0 = b.drop 0) := rfl
    generalize decide (a = b) = R at *
    refine aspec_intro Tk Tryz.func59 rfl Tryz.call59 Tryz.ntmps59 (Nat.le_of_ble_eq_true rfl) fun E => ?_
    refine g_run Tk Tryz.func59 ?_
    first | refine g_cnd Tk Tryz.func59 rfl (fun g0 => ?_) (fun g0 => ?_) | refine g_know Tk Tryz.func59 rfl (fun g0 => ?_) (fun g0 => ?_) | refine s_know Tk (fun g0 => ?_) (fun g0 => ?_)
    · exact absurd (bneT g0) (by omega)
    clear g0
    refine g_loop ?_
    refine rch_loop2 (fun i : Nat => [(0, vrs a), (1, vrs b), (12, ii a.length), (13, ii i)]) (fun _ => []) (fun _ => O) 26
      (fun i => i ≤ a.length ∧ R = decide (a.drop i = b.drop i)) (fun i => a.length - i) 0 ⟨Nat.zero_le _, hR⟩ ⟨rfl, rfl, rfl, rfl, trivial⟩ rfl trivial rfl rfl ?_
    clear hR
    rintro i ⟨hi, hno⟩ ih
    refine g_run Tk Tryz.func59 ?_
    first | refine g_cnd Tk Tryz.func59 rfl (fun g1 => ?_) (fun g1 => ?_) | refine g_know Tk Tryz.func59 rfl (fun g1 => ?_) (fun g1 => ?_) | refine s_know Tk (fun g1 => ?_) (fun g1 => ?_)
    · have h1 : i < a.length := by simpa using g1
      clear g1
      have gx : (a.map vrI)[(i : Int).toNat]? = some (vrI a[i]) := get_mapZ h1
      have gy : (b.map vrI)[(i : Int).toNat]? = some (vrI (b[i]'(by omega))) := get_mapZ (by omega)
      have dx : a.drop i = a[i] :: a.drop (i + 1) := List.drop_eq_getElem_cons h1
      have dy : b.drop i = (b[i]'(by omega)) :: b.drop (i + 1) := List.drop_eq_getElem_cons (by omega)
      rw [dx, dy] at hno
      clear dx dy
      generalize a[i] = x at *
      generalize b[i]'(by omega) = y at *
      have hxy := vr_eqB x y
      refine g_drawn Tk Tryz.func59 mixedT rfl ?_
      first | refine g_need Tk Tryz.func59 (by exact ⟨by omega, by show (i : Int) < (a.length : Int); omega⟩) ?_ | refine s_need Tk (by exact ⟨by omega, by show (i : Int) < (a.length : Int); omega⟩) ?_
      first | refine g_elem Tk Tryz.func59 (gx) ?_ | refine s_elem Tk (gx) ?_
      first | refine g_need Tk Tryz.func59 (by exact ⟨by omega, by show (i : Int) < (b.length : Int); omega⟩) ?_ | refine s_need Tk (by exact ⟨by omega, by show (i : Int) < (b.length : Int); omega⟩) ?_
      first | refine g_elem Tk Tryz.func59 (gy) ?_ | refine s_elem Tk (gy) ?_
      refine e_done Tk Tryz.func59 (by kernel_rfl) ?_
      first | refine g_cnd Tk Tryz.func59 rfl (fun g2 => ?_) (fun g2 => ?_) | refine g_know Tk Tryz.func59 rfl (fun g2 => ?_) (fun g2 => ?_) | refine s_know Tk (fun g2 => ?_) (fun g2 => ?_)
      · have g2 : decide (x = y) = false := hxy.symm.trans (notT g2)
        have g2 := of_decide_eq_false g2
        have hno : R = false := by rw [hno]; simp [g2]
        subst hno
        refine g_ret Tk (r := bb false) rfl rfl rfl trivial rfl rfl ?_
        rfl
      · have g2 : decide (x = y) = true := hxy.symm.trans (notF g2)
        have g2 := of_decide_eq_true g2
        have hno : R = decide (a.drop (i + 1) = b.drop (i + 1)) := by rw [hno]; simp [g2]
        refine g_loop ?_
        exact ih (i + 1) _ _ ⟨h1, hno⟩ (by omega) ⟨rfl, rfl, rfl, congrArg ii (wsucc h1 ha), trivial⟩ rfl trivial rfl rfl
    · have h1 : a.length ≤ i := by simpa using g1
      have hno : R = true := by rw [hno, List.drop_eq_nil_of_le h1, List.drop_eq_nil_of_le (by omega)]; simp
      subst hno
      refine g_ret Tk (r := bb true) rfl rfl rfl trivial rfl rfl ?_
      rfl
  · have hR : decide (a = b) = false := by
      apply decide_eq_false
      rintro rfl
      exact hl rfl
    rw [hR]
    refine aspec_intro Tk Tryz.func59 rfl Tryz.call59 Tryz.ntmps59 (Nat.le_of_ble_eq_true rfl) fun E => ?_
    refine g_run Tk Tryz.func59 ?_
    first | refine g_cnd Tk Tryz.func59 rfl (fun g0 => ?_) (fun g0 => ?_) | refine g_know Tk Tryz.func59 rfl (fun g0 => ?_) (fun g0 => ?_) | refine s_know Tk (fun g0 => ?_) (fun g0 => ?_)
    · refine g_ret Tk (r := bb false) rfl rfl rfl trivial rfl rfl ?_
      rfl
    · exact absurd (bneF g0) (by omega)
def chkJ (l : List Ext) : Int := if l.length = 0 then 12 else if l.length > 12 then 3 else if chkAllE l ≠ 0 then chkAllE l else if l.tail.any (fun m => decide (m.vars ≠ vars0 l)) = true then 13 else 0
theorem chkJ_ok {l : List Ext} (hok : ∀ m ∈ l, extOk m) (h : chkJ l = 0) : jntOk l := by
  unfold chkJ at h
  by_cases h1 : l.length = 0
  · rw [if_pos h1] at h; cases h
  rw [if_neg h1] at h
  by_cases h2 : l.length > 12
  · rw [if_pos h2] at h; cases h
  rw [if_neg h2] at h
  by_cases h3 : chkAllE l ≠ 0
  · rw [if_pos h3] at h; exact absurd h h3
  rw [if_neg h3] at h
  by_cases h4 : l.tail.any (fun m => decide (m.vars ≠ vars0 l)) = true
  · rw [if_pos h4] at h; cases h
  refine ⟨fun e => h1 (by rw [e]; rfl), by omega, hok, fun m hm => chk_right (chkAllE_ok (by simpa using h3) m hm), fun m hm => ?_⟩
  match l, hm with
  | n :: r, hm =>
    rcases List.mem_cons.1 hm with rfl | hm
    · rfl
    · simp only [List.tail_cons, List.any_eq_true, decide_eq_true_eq, not_exists, not_and] at h4
      exact Classical.byContradiction fun hc => h4 m hm hc
set_option maxHeartbeats 1000000 in
theorem checkJoint20 (O : List Heap) (l : List Ext) (hok : ∀ m ∈ l, extOk m) (hl63 : l.length ≤ max63) : ASpec Tryz.prog 20 [exts l] O (ii (chkJ l)) [] O := by
  generalize hR : chkJ l = R
  unfold chkJ at hR
  refine aspec_intro Tk Tryz.func20 rfl Tryz.call20 Tryz.ntmps20 (Nat.le_of_ble_eq_true rfl) fun E => ?_
  refine g_run Tk Tryz.func20 ?_
  first | refine g_cnd Tk Tryz.func20 rfl (fun g1 => ?_) (fun g1 => ?_) | refine g_know Tk Tryz.func20 rfl (fun g1 => ?_) (fun g1 => ?_) | refine s_know Tk (fun g1 => ?_) (fun g1 => ?_)
  · have g1 : l.length = 0 := by have := beqT g1; omega
    rw [if_pos g1] at hR
    subst hR
    refine g_ret Tk (r := ii 12) rfl rfl rfl trivial rfl rfl ?_
    rfl
  have g1 : l.length ≠ 0 := by have := beqF g1; omega
  rw [if_neg g1] at hR
  first | refine g_cnd Tk Tryz.func20 rfl (fun g2 => ?_) (fun g2 => ?_) | refine g_know Tk Tryz.func20 rfl (fun g2 => ?_) (fun g2 => ?_) | refine s_know Tk (fun g2 => ?_) (fun g2 => ?_)
  · have g2 : l.length > 12 := by have : (l.length : Int) > 12 := of_decide_eq_true g2; omega
    rw [if_pos g2] at hR
    subst hR
    refine g_ret Tk (r := ii 3) rfl rfl rfl trivial rfl rfl ?_
    rfl
  have g2 : ¬ l.length > 12 := by have : ¬ (l.length : Int) > 12 := of_decide_eq_false g2; omega
  rw [if_neg g2] at hR
  have hE0 : chkAllE l = chkAllE (l.drop 0) := rfl
  generalize chkAllE l = E1 at *
  refine g_loop ?_
  refine rch_loop2 (fun i : Nat => [(0, exts l), (16, exts l), (17, ii l.length), (18, ii i)]) (fun _ => []) (fun _ => O) 44
    (fun i => i ≤ l.length ∧ E1 = chkAllE (l.drop i)) (fun i => l.length - i) 0 ⟨Nat.zero_le _, hE0⟩ ⟨rfl, rfl, rfl, rfl, trivial⟩ rfl trivial rfl rfl ?_
  clear hE0
  rintro i ⟨hi, hno⟩ ih
  refine g_run Tk Tryz.func20 ?_
  first | refine g_cnd Tk Tryz.func20 rfl (fun g3 => ?_) (fun g3 => ?_) | refine g_know Tk Tryz.func20 rfl (fun g3 => ?_) (fun g3 => ?_) | refine s_know Tk (fun g3 => ?_) (fun g3 => ?_)
  · have h1 : i < l.length := by simpa using g3
    clear g3
    have gm : (l.map extI)[(i : Int).toNat]? = some (extI l[i]) := get_mapZ h1
    have hck := fun O => check40 O l[i] (hok _ (List.getElem_mem h1))
    rw [List.drop_eq_getElem_cons h1] at hno
    simp only [chkAllE] at hno
    generalize l[i] = m at *
    generalize chk m = C at *
    first | refine g_need Tk Tryz.func20 (by exact ⟨by omega, by show (i : Int) < (l.length : Int); omega⟩) ?_ | refine s_need Tk (by exact ⟨by omega, by show (i : Int) < (l.length : Int); omega⟩) ?_
    first | refine g_elem Tk Tryz.func20 (gm) ?_ | refine s_elem Tk (gm) ?_
    first | refine g_call Tk Tryz.func20 (hck _) rfl rfl rfl rfl rfl ?_ | refine s_callq Tk (fun _ => hck _) rfl rfl rfl ?_
    first | refine g_cnd Tk Tryz.func20 rfl (fun g4 => ?_) (fun g4 => ?_) | refine g_know Tk Tryz.func20 rfl (fun g4 => ?_) (fun g4 => ?_) | refine s_know Tk (fun g4 => ?_) (fun g4 => ?_)
    · have g4 : C ≠ 0 := bneT g4
      rw [if_pos g4] at hno
      rw [hno, if_pos g4] at hR
      subst hR
      refine g_ret Tk (r := ii C) rfl rfl rfl trivial rfl rfl ?_
      rfl
    have g4 : C = 0 := bneF g4
    rw [if_neg (by simpa using g4)] at hno
    refine g_loop ?_
    exact ih (i + 1) _ _ ⟨h1, hno⟩ (by omega) ⟨rfl, rfl, rfl, congrArg ii (wsucc h1 hl63), trivial⟩ rfl trivial rfl rfl
  · have h1 : l.length ≤ i := by simpa using g3
    rw [List.drop_eq_nil_of_le h1] at hno
    simp only [chkAllE] at hno
    subst hno
    clear ih g3
    rw [if_neg (by simp)] at hR
    have hpos : 0 < l.length := by omega
    have g0 : (l.map extI)[(0 : Int).toNat]? = some (extI l[0]) := get_mapZ (i := 0) hpos
    have e0 : vars0 l = l[0].vars := by
      unfold vars0
      rw [List.getD_eq_getElem?_getD, List.getElem?_eq_getElem hpos]; rfl
    have hva := (hok _ (List.getElem_mem hpos)).va
    rw [e0] at hR
    have hT0 : (if (l.drop (0 + 1)).any (fun m => decide (m.vars ≠ l[0].vars)) = true then (13 : Int) else 0) = R := by rw [← hR, List.drop_one]
    clear hR
    generalize l[0] = m0 at *
    first | refine g_need Tk Tryz.func20 (by exact ⟨by omega, by show (1 : Int) ≤ (l.length : Int); omega⟩) ?_ | refine s_need Tk (by exact ⟨by omega, by show (1 : Int) ≤ (l.length : Int); omega⟩) ?_
    refine g_loop ?_
    refine rch_loop2 (fun i : Nat => [(0, exts l), (29, .i (.sl 6 (l.length - Int.toNat 1) ((l.map extI).drop (Int.toNat 1)))), (30, ii ((l.length - Int.toNat 1 : Nat) : Int)), (31, ii i)]) (fun _ => []) (fun _ => O) 44
      (fun i => i + 1 ≤ l.length ∧ (if (l.drop (i + 1)).any (fun m => decide (m.vars ≠ m0.vars)) = true then (13 : Int) else 0) = R) (fun i => l.length - i) 0 ⟨by omega, hT0⟩ ⟨rfl, rfl, rfl, rfl, trivial⟩ rfl trivial rfl rfl ?_
    clear hT0
    rintro i ⟨hi, hno⟩ ih
    refine g_run Tk Tryz.func20 ?_
    first | refine g_cnd Tk Tryz.func20 rfl (fun g3 => ?_) (fun g3 => ?_) | refine g_know Tk Tryz.func20 rfl (fun g3 => ?_) (fun g3 => ?_) | refine s_know Tk (fun g3 => ?_) (fun g3 => ?_)
    · have h1 : i + 1 < l.length := by
        have : (i : Int) < ((l.length - Int.toNat 1 : Nat) : Int) := by simpa using g3
        have e : Int.toNat 1 = 1 := rfl
        omega
      clear g3
      have gm : ((l.map extI).drop (Int.toNat 1))[(i : Int).toNat]? = some (extI l[i + 1]) := by
        rw [show Int.toNat 1 = 1 from rfl, Int.toNat_natCast, List.getElem?_drop, Nat.add_comm 1 i, List.getElem?_map, List.getElem?_eq_getElem h1]
        rfl
      rw [List.drop_eq_getElem_cons h1] at hno
      simp only [List.any_cons, Bool.or_eq_true, decide_eq_true_eq] at hno
      have hmv := (hok _ (List.getElem_mem h1)).va
      generalize l[i + 1] = m at *
      have heq := fun O => equalVars59 O m.vars m0.vars hmv
      have n1 : 0 ≤ (i : Int) ∧ (i : Int) < ((l.length - Int.toNat 1 : Nat) : Int) := by
        have e : Int.toNat 1 = 1 := rfl
        omega
      first | refine g_need Tk Tryz.func20 (n1) ?_ | refine s_need Tk (n1) ?_
      first | refine g_elem Tk Tryz.func20 (gm) ?_ | refine s_elem Tk (gm) ?_
      refine g_drawn Tk Tryz.func20 mixedT rfl ?_
      first | refine g_need Tk Tryz.func20 (by exact ⟨by omega, by show (0 : Int) < (l.length : Int); omega⟩) ?_ | refine s_need Tk (by exact ⟨by omega, by show (0 : Int) < (l.length : Int); omega⟩) ?_
      first | refine g_elem Tk Tryz.func20 (g0) ?_ | refine s_elem Tk (g0) ?_
      first | refine g_call Tk Tryz.func20 (heq _) rfl rfl rfl rfl rfl ?_ | refine s_callq Tk (fun _ => heq _) rfl rfl rfl ?_
      refine e_done Tk Tryz.func20 (by kernel_rfl) ?_
      first | refine g_cnd Tk Tryz.func20 rfl (fun g4 => ?_) (fun g4 => ?_) | refine g_know Tk Tryz.func20 rfl (fun g4 => ?_) (fun g4 => ?_) | refine s_know Tk (fun g4 => ?_) (fun g4 => ?_)
      · have g4 : m.vars ≠ m0.vars := of_decide_eq_false (notT g4)
        rw [if_pos (.inl g4)] at hno
        subst hno
        refine g_ret Tk (r := ii 13) rfl rfl rfl trivial rfl rfl ?_
        rfl
      · have g4 : m.vars = m0.vars := of_decide_eq_true (notF g4)
        refine g_loop ?_
        refine ih (i + 1) _ _ ⟨h1, ?_⟩ (by omega) ⟨rfl, rfl, rfl, congrArg ii (wsucc (n := 4096) (by omega) (by decide)), trivial⟩ rfl trivial rfl rfl
        rw [← hno]
        simp [g4]
    · have h1 : l.length ≤ i + 1 := by
        have : ¬ (i : Int) < ((l.length - Int.toNat 1 : Nat) : Int) := by simpa using g3
        have e : Int.toNat 1 = 1 := rfl
        omega
      rw [List.drop_eq_nil_of_le h1] at hno
      simp only [List.any_nil, Bool.false_eq_true, if_false] at hno
      subst hno
      refine g_ret Tk (r := ii 0) rfl rfl rfl trivial rfl rfl ?_
      rfl
end Go.AI


/- flatten.Joint. -/
namespace Go.AI
open Go.Proofs
set_option maxRecDepth 20000
def jointR (l : List Ext) : Except Int (Unf Org) := if chkJ l ≠ 0 then .error (chkJ l) else unfO l (eventsR l) (startO l)
theorem coErrO {e : Int} : CoD (.tup [.agg [.i (.v (.slice none 0 0)), ii 0, .i (.v (.slice none 0 0)), .i (.v (.slice none 0 0))], .i (.v (.slice none 0 0)), ii e]) (unfDO [] (.error e)) :=
  coD_tup (.cons (coD_agg (.cons (coD_i coI_nil) (.cons (CoD.refl _) (.cons (coD_i coI_nil) (.cons (coD_i coI_nil) .nil))))) (.cons (coD_i coI_nil) (CoDL.refl _)))
theorem eventsR_le {l : List Ext} (hj : jntOk l) : (eventsR l).length ≤ 4096 ∧ ∀ m ∈ l, m.alpha.length ≤ 4096 := by
  have h1 : ∀ m ∈ l, m.alpha.length ≤ 32 := fun m hm => by have := checkSet_len (by decide) (hj.right m hm).alpha; omega
  have h2 : ∀ k : List Ext, (∀ m ∈ k, m.alpha.length ≤ 32) → (k.flatMap (·.alpha)).length ≤ 32 * k.length := by
    intro k
    induction k with
    | nil => intro _; simp
    | cons m r ih =>
      intro h
      have := ih fun n hn => h n (by simp [hn])
      have := h m (by simp)
      simp only [List.flatMap_cons, List.length_append, List.length_cons]
      omega
  have h3 := h2 l h1
  have h4 := hj.len
  have h5 := compact_le (sortI (l.flatMap (·.alpha)))
  rw [sortI_len] at h5
  exact ⟨by unfold eventsR; omega, fun m hm => by have := h1 m hm; omega⟩
set_option maxHeartbeats 4000000 in
theorem Joint10 {g : Nat} (hg : IsTab g) {ty : TypeId} {fr : Nat × Nat} (O : List Heap) (l : List Ext) (hok : ∀ m ∈ l, extOk m) (hl63 : l.length ≤ max63) (hpos : chkJ l = 0 → 0 < (l.flatMap (·.alpha)).length) : ASpecT g (ptab ty fr) Tryz.prog 10 [exts l] O (unfDO (eventsR l) (jointR l)) [] O := by
  have hck := fun O => checkJoint20 O l hok hl63
  unfold jointR
  by_cases h0 : chkJ l ≠ 0
  · simp only [if_pos h0]
    refine aspecT_stop [] Tk Tryz.func10 rfl Tryz.call10 Tryz.ntmps10 (Nat.le_of_ble_eq_true rfl) fun E hE => ?_
    refine g_run Tk Tryz.func10 ?_
    first | refine g_call Tk Tryz.func10 (hck _) rfl rfl rfl rfl rfl ?_ | refine s_callq Tk (fun _ => hck _) rfl rfl rfl ?_
    first | refine g_cnd Tk Tryz.func10 rfl (fun g1 => ?_) (fun g1 => ?_) | refine g_know Tk Tryz.func10 rfl (fun g1 => ?_) (fun g1 => ?_) | refine s_know Tk (fun g1 => ?_) (fun g1 => ?_)
    rotate_left
    · exact absurd (bneF g1) h0
    refine g_ret_co Tk (r := _) rfl rfl rfl trivial rfl rfl ?_
    exact coErrO
  have h0 : chkJ l = 0 := Classical.byContradiction h0
  have hj := chkJ_ok hok h0
  rw [h0] at hck
  simp only [h0, ne_eq, not_true_eq_false, if_false]
  have hev := fun O => events44 O l (by have := hj.len; omega) (eventsR_le hj).2 (hpos h0)
  have hun := fun O ho => unfoldO43 hg (ty := ty) (fr := fr) O l (eventsR l) (startO l) 0 1 ho hj (eventsR_le hj).1 (startO_ok hj)
  have hl12 := hj.len
  have hv16 := jnt_v16 hj
  have hp0 : 0 < l.length := List.length_pos_iff.2 hj.pos
  have g0 : (l.map extI)[(0 : Int).toNat]? = some (extI l[0]) := get_mapZ (i := 0) hp0
  have e0 : vars0 l = l[0].vars := by
    unfold vars0
    rw [List.getD_eq_getElem?_getD, List.getElem?_eq_getElem hp0]; rfl
  have hst : startO l = ⟨l.map (·.init), (l[0].vars).map (·.init)⟩ := by unfold startO; rw [e0]
  rw [hst] at hun ⊢
  rw [e0] at hv16
  generalize l[0] = m0 at *
  generalize eventsR l = ev at *
  refine aspecT_stop [15] Tk Tryz.func10 rfl Tryz.call10 Tryz.ntmps10 (Nat.le_of_ble_eq_true rfl) fun E hE => ?_
  refine g_run Tk Tryz.func10 ?_
  first | refine g_call Tk Tryz.func10 (hck _) rfl rfl rfl rfl rfl ?_ | refine s_callq Tk (fun _ => hck _) rfl rfl rfl ?_
  repeat (first | refine g_cnd Tk Tryz.func10 rfl (fun _ => ?_) (fun h => absurd h (by decide)) | refine g_know Tk Tryz.func10 rfl (fun _ => ?_) (fun h => absurd h (by decide)) | refine s_know Tk (fun _ => ?_) (fun h => absurd h (by decide)) | refine g_cnd Tk Tryz.func10 rfl (fun h => absurd h (by decide)) (fun _ => ?_) | refine g_know Tk Tryz.func10 rfl (fun h => absurd h (by decide)) (fun _ => ?_) | refine s_know Tk (fun h => absurd h (by decide)) (fun _ => ?_) | refine g_cnd Tk Tryz.func10 rfl (fun _ => ?_) (fun h => absurd (show true = false from h) (by decide)) | refine g_know Tk Tryz.func10 rfl (fun _ => ?_) (fun h => absurd (show true = false from h) (by decide)) | refine s_know Tk (fun _ => ?_) (fun h => absurd (show true = false from h) (by decide)) | refine g_cnd Tk Tryz.func10 rfl (fun h => absurd (show false = true from h) (by decide)) (fun _ => ?_) | refine g_know Tk Tryz.func10 rfl (fun h => absurd (show false = true from h) (by decide)) (fun _ => ?_) | refine s_know Tk (fun h => absurd (show false = true from h) (by decide)) (fun _ => ?_))
  refine g_loop ?_
  refine rch_wk (wk_nilbox2 5 30 3 1 (pre := []) (post := [.i (.v (.slice none 0 0))]) rfl rfl rfl) ?_
  refine rch_loop2 (fun i : Nat => [(1, .own 0 1 0 0), (2, .own 0 2 0 0), (3, .i (.v (.slice none 0 0))), (4, ii 0), (5, .own 0 5 0 0), (19, exts l), (20, ii l.length), (21, ii i)]) (fun i => [(1, .box [exts l]), (2, .box [.i (.v (.slice none 0 0)), ii 0, .i (.v (.slice none 0 0)), .i (.v (.slice none 0 0))]), (5, .box [.osl 0 30, .i (.v (.slice none 0 0))]), (30, oints ((l.take i).map (·.init)))]) (fun _ => O) 62
    (fun i => i ≤ l.length) (fun i => l.length - i) 0 (Nat.zero_le _) ⟨rfl, rfl, rfl, rfl, rfl, rfl, rfl, rfl, trivial⟩ rfl ⟨rfl, rfl, rfl, rfl, trivial⟩ rfl rfl ?_
  rintro i hi ih
  refine g_run Tk Tryz.func10 ?_
  first | refine g_cnd Tk Tryz.func10 rfl (fun g1 => ?_) (fun g1 => ?_) | refine g_know Tk Tryz.func10 rfl (fun g1 => ?_) (fun g1 => ?_) | refine s_know Tk (fun g1 => ?_) (fun g1 => ?_)
  · have h1 : i < l.length := by simpa using g1
    clear g1
    have gm : (l.map extI)[(i : Int).toNat]? = some (extI l[i]) := get_mapZ h1
    have e : (l.take (i + 1)).map (·.init) = (l.take i).map (·.init) ++ [l[i].init] := take_map_succ h1
    have hal : ((l.take i).map (·.init)).length = i := by simp; omega
    generalize l[i] = m at *
    generalize (l.take i).map (·.init) = acc at *
    first | refine g_need Tk Tryz.func10 (by exact ⟨by omega, by show (i : Int) < (l.length : Int); omega⟩) ?_ | refine s_need Tk (by exact ⟨by omega, by show (i : Int) < (l.length : Int); omega⟩) ?_
    first | refine g_elem Tk Tryz.func10 (gm) ?_ | refine s_elem Tk (gm) ?_
    first | refine g_need Tk Tryz.func10 (by exact ⟨by show (acc.length + 1) * 8 ≤ 140737488355328; omega, by show acc.length + 1 ≤ 9223372036854775807; omega⟩) ?_ | refine s_need Tk (by exact ⟨by show (acc.length + 1) * 8 ≤ 140737488355328; omega, by show acc.length + 1 ≤ 9223372036854775807; omega⟩) ?_
    refine g_loop ?_
    refine ih (i + 1) _ _ h1 (by omega) ⟨rfl, rfl, rfl, rfl, rfl, rfl, rfl, congrArg ii (wsucc (n := 4096) (by omega) (by decide)), trivial⟩ rfl ⟨rfl, rfl, rfl, by rw [e]; exact congrArg some (oints_app acc m.init), trivial⟩ rfl rfl
  have h1 : l.length ≤ i := by simpa using g1
  rw [List.take_of_length_le h1]
  clear ih g1
  first | refine g_need Tk Tryz.func10 (by exact ⟨by omega, by show (0 : Int) < (l.length : Int); omega⟩) ?_ | refine s_need Tk (by exact ⟨by omega, by show (0 : Int) < (l.length : Int); omega⟩) ?_
  first | refine g_elem Tk Tryz.func10 (g0) ?_ | refine s_elem Tk (g0) ?_
  refine g_loop ?_
  refine rch_wk (wk_nilbox2 5 47 3 1 (pre := [.osl 0 30]) (post := []) rfl rfl rfl) ?_
  refine rch_loop2 (fun i : Nat => [(1, .own 0 1 0 0), (2, .own 0 2 0 0), (3, .i (.v (.slice none 0 0))), (4, ii 0), (5, .own 0 5 0 0), (36, vrs m0.vars), (37, ii m0.vars.length), (38, ii i)]) (fun i => [(1, .box [exts l]), (2, .box [.i (.v (.slice none 0 0)), ii 0, .i (.v (.slice none 0 0)), .i (.v (.slice none 0 0))]), (5, .box [.osl 0 30, .osl 0 47]), (30, oints (l.map (·.init))), (47, oints ((m0.vars.take i).map (·.init)))]) (fun _ => O) 62
    (fun i => i ≤ m0.vars.length) (fun i => m0.vars.length - i) 0 (Nat.zero_le _) ⟨rfl, rfl, rfl, rfl, rfl, rfl, rfl, rfl, trivial⟩ rfl ⟨rfl, rfl, rfl, rfl, rfl, trivial⟩ rfl rfl ?_
  rintro i hi ih
  refine g_run Tk Tryz.func10 ?_
  first | refine g_cnd Tk Tryz.func10 rfl (fun g1 => ?_) (fun g1 => ?_) | refine g_know Tk Tryz.func10 rfl (fun g1 => ?_) (fun g1 => ?_) | refine s_know Tk (fun g1 => ?_) (fun g1 => ?_)
  · have h1 : i < m0.vars.length := by simpa using g1
    clear g1
    have gm : (m0.vars.map vrI)[(i : Int).toNat]? = some (vrI m0.vars[i]) := get_mapZ h1
    have e : (m0.vars.take (i + 1)).map (·.init) = (m0.vars.take i).map (·.init) ++ [m0.vars[i].init] := take_map_succ h1
    have hal : ((m0.vars.take i).map (·.init)).length = i := by simp; omega
    generalize m0.vars[i] = v at *
    generalize (m0.vars.take i).map (·.init) = acc at *
    first | refine g_need Tk Tryz.func10 (by exact ⟨by omega, by show (i : Int) < (m0.vars.length : Int); omega⟩) ?_ | refine s_need Tk (by exact ⟨by omega, by show (i : Int) < (m0.vars.length : Int); omega⟩) ?_
    first | refine g_elem Tk Tryz.func10 (gm) ?_ | refine s_elem Tk (gm) ?_
    first | refine g_need Tk Tryz.func10 (by exact ⟨by show (acc.length + 1) * 8 ≤ 140737488355328; omega, by show acc.length + 1 ≤ 9223372036854775807; omega⟩) ?_ | refine s_need Tk (by exact ⟨by show (acc.length + 1) * 8 ≤ 140737488355328; omega, by show acc.length + 1 ≤ 9223372036854775807; omega⟩) ?_
    refine g_loop ?_
    refine ih (i + 1) _ _ h1 (by omega) ⟨rfl, rfl, rfl, rfl, rfl, rfl, rfl, congrArg ii (wsucc (n := 16) (by omega) (by decide)), trivial⟩ rfl ⟨rfl, rfl, rfl, rfl, by rw [e]; exact congrArg some (oints_app acc v.init), trivial⟩ rfl rfl
  have h1 : m0.vars.length ≤ i := by simpa using g1
  rw [List.take_of_length_le h1]
  clear ih g1
  refine g_stop ?_
  refine rch_wk (wk_freeze 30 rfl rfl) ?_
  refine rch_wk (wk_freeze 47 rfl rfl) ?_
  refine rch_wk (wk_imm rfl) ?_
  generalize unfO l ev ⟨l.map (·.init), m0.vars.map (·.init)⟩ = R at *
  cases R with
  | error e =>
    refine g_run Tk Tryz.func10 ?_
    refine g_go Tk Tryz.func10 ?_
    refine g_drawn Tk Tryz.func10 mixedT rfl ?_
    first | refine g_call Tk Tryz.func10 (hev _) rfl rfl rfl rfl rfl ?_ | refine s_callq Tk (fun _ => hev _) rfl rfl rfl ?_
    refine s_callT Tk hE (hun _ rfl) rfl rfl rfl rfl ?_
    refine s_put Tk rfl rfl rfl ?_
    refine e_done Tk Tryz.func10 (by kernel_rfl) ?_
    refine g_ret_co Tk (r := _) rfl rfl rfl trivial rfl rfl ?_
    exact CoD.refl _
  | ok U =>
    obtain ⟨us, um, ue⟩ := U
    refine g_run Tk Tryz.func10 ?_
    refine g_go Tk Tryz.func10 ?_
    refine g_drawn Tk Tryz.func10 mixedT rfl ?_
    first | refine g_call Tk Tryz.func10 (hev _) rfl rfl rfl rfl rfl ?_ | refine s_callq Tk (fun _ => hev _) rfl rfl rfl ?_
    refine s_callT Tk hE (hun _ rfl) rfl rfl rfl rfl ?_
    refine s_put Tk rfl rfl rfl ?_
    refine e_done Tk Tryz.func10 (by kernel_rfl) ?_
    refine g_ret_co Tk (r := _) rfl rfl rfl trivial rfl rfl ?_
    exact CoD.refl _
end Go.AI
