/- The layer of abstract runs, part 44. -/
import Derived.Test.YtonnakcgopcfnaaDoorJilZQ
import Derived.KernelRfl
set_option linter.unusedSimpArgs false
set_option linter.unusedVariables false
set_option linter.all false

/- The text of a literal. -/
namespace Go.AI
open Go.Proofs
set_option maxRecDepth 20000
def strEq : ByteArray := ⟨#[32, 61, 32]⟩
def strLe : ByteArray := ⟨#[32, 60, 61, 32]⟩
def litTx (l : List Vr) (x : Lit) : ByteArray :=
  if x.fr then (if x.to then (match l[x.var]? with | some v => v.name | none => ⟨#[]⟩) ++ strEq ++ itoaB x.lo else itoaB x.lo ++ strLe ++ (match l[x.var]? with | some v => v.name | none => ⟨#[]⟩))
  else (match l[x.var]? with | some v => v.name | none => ⟨#[]⟩) ++ strLe ++ itoaB x.hi
theorem litText92 {g : Nat} (hg : IsTab g) {ty : TypeId} {fr : Nat × Nat} (O : List Heap) (l : List Vr) (x : Lit) (hx : x.var < l.length) (hnm : ∀ v ∈ l, v.name.size ≤ 1000) (hlo : -9223372036854775808 ≤ x.lo ∧ x.lo ≤ 9223372036854775807) (hhi : -9223372036854775808 ≤ x.hi ∧ x.hi ≤ 9223372036854775807) :
    ASpecT g (ptab ty fr) Tryd.prog 92 [litD x, vrs l] O (.i (.v (.string (litTx l x)))) [] O := by
  obtain ⟨v, lo, hi, fr', to⟩ := x
  simp only at hx hlo hhi
  have hsl := itoaB_size hlo.1 hlo.2
  have hsh := itoaB_size hhi.1 hhi.2
  have hnm := hnm _ (List.getElem_mem hx)
  have hv : l[v]? = some l[v] := List.getElem?_eq_getElem hx
  have gv : (l.map vrI)[((v : Nat) : Int).toNat]? = some (vrI l[v]) := get_mapZ hx
  unfold litTx
  simp only [hv]
  generalize l[v] = a at *
  obtain ⟨an, al, ah, ai⟩ := a
  simp only at hnm
  have e1 : (an ++ (⟨#[32, 61, 32]⟩ : ByteArray)).size = an.size + 3 := ByteArray.size_append
  have e2 : ∀ b : ByteArray, (b ++ (⟨#[32, 60, 61, 32]⟩ : ByteArray)).size = b.size + 4 := fun b => ByteArray.size_append
  have e3 := e2 an
  have e4 := e2 (itoaB lo)
  cases fr' with
  | true =>
    cases to with
    | true =>
      refine aspecT_stop [] Tk Tryd.func92 rfl Tryd.call92 Tryd.ntmps92 (Nat.le_of_ble_eq_true rfl) fun E hE => ?_
      refine g_run Tk Tryd.func92 ?_
      first | refine g_need Tk Tryd.func92 (by exact ⟨by omega, by show (v : Int) < (l.length : Int); omega⟩) ?_ | refine s_need Tk (by exact ⟨by omega, by show (v : Int) < (l.length : Int); omega⟩) ?_
      first | refine g_elem Tk Tryd.func92 (gv) ?_ | refine s_elem Tk (gv) ?_
      repeat (first | refine g_cnd Tk Tryd.func92 rfl (fun _ => ?_) (fun h => absurd h (by decide)) | refine g_know Tk Tryd.func92 rfl (fun _ => ?_) (fun h => absurd h (by decide)) | refine s_know Tk (fun _ => ?_) (fun h => absurd h (by decide)) | refine g_cnd Tk Tryd.func92 rfl (fun h => absurd h (by decide)) (fun _ => ?_) | refine g_know Tk Tryd.func92 rfl (fun h => absurd h (by decide)) (fun _ => ?_) | refine s_know Tk (fun h => absurd h (by decide)) (fun _ => ?_) | refine g_cnd Tk Tryd.func92 rfl (fun _ => ?_) (fun h => absurd (show true = false from h) (by decide)) | refine g_know Tk Tryd.func92 rfl (fun _ => ?_) (fun h => absurd (show true = false from h) (by decide)) | refine s_know Tk (fun _ => ?_) (fun h => absurd (show true = false from h) (by decide)) | refine g_cnd Tk Tryd.func92 rfl (fun h => absurd (show false = true from h) (by decide)) (fun _ => ?_) | refine g_know Tk Tryd.func92 rfl (fun h => absurd (show false = true from h) (by decide)) (fun _ => ?_) | refine s_know Tk (fun h => absurd (show false = true from h) (by decide)) (fun _ => ?_))
      first | refine g_need Tk Tryd.func92 (by show an.size + 3 ≤ 9223372036854775807; omega) ?_ | refine s_need Tk (by show an.size + 3 ≤ 9223372036854775807; omega) ?_
      refine g_callT Tk Tryd.func92 hE (itoa79 hg _ lo hlo.1 hlo.2) rfl rfl rfl rfl rfl rfl ?_
      first | refine g_need Tk Tryd.func92 (by show (an ++ (⟨#[32, 61, 32]⟩ : ByteArray)).size + (itoaB lo).size ≤ 9223372036854775807; omega) ?_ | refine s_need Tk (by show (an ++ (⟨#[32, 61, 32]⟩ : ByteArray)).size + (itoaB lo).size ≤ 9223372036854775807; omega) ?_
      refine g_ret Tk (r := .i (.v (.string _))) rfl rfl rfl trivial rfl rfl ?_
      rfl
    | false =>
      refine aspecT_stop [] Tk Tryd.func92 rfl Tryd.call92 Tryd.ntmps92 (Nat.le_of_ble_eq_true rfl) fun E hE => ?_
      refine g_run Tk Tryd.func92 ?_
      first | refine g_need Tk Tryd.func92 (by exact ⟨by omega, by show (v : Int) < (l.length : Int); omega⟩) ?_ | refine s_need Tk (by exact ⟨by omega, by show (v : Int) < (l.length : Int); omega⟩) ?_
      first | refine g_elem Tk Tryd.func92 (gv) ?_ | refine s_elem Tk (gv) ?_
      repeat (first | refine g_cnd Tk Tryd.func92 rfl (fun _ => ?_) (fun h => absurd h (by decide)) | refine g_know Tk Tryd.func92 rfl (fun _ => ?_) (fun h => absurd h (by decide)) | refine s_know Tk (fun _ => ?_) (fun h => absurd h (by decide)) | refine g_cnd Tk Tryd.func92 rfl (fun h => absurd h (by decide)) (fun _ => ?_) | refine g_know Tk Tryd.func92 rfl (fun h => absurd h (by decide)) (fun _ => ?_) | refine s_know Tk (fun h => absurd h (by decide)) (fun _ => ?_) | refine g_cnd Tk Tryd.func92 rfl (fun _ => ?_) (fun h => absurd (show true = false from h) (by decide)) | refine g_know Tk Tryd.func92 rfl (fun _ => ?_) (fun h => absurd (show true = false from h) (by decide)) | refine s_know Tk (fun _ => ?_) (fun h => absurd (show true = false from h) (by decide)) | refine g_cnd Tk Tryd.func92 rfl (fun h => absurd (show false = true from h) (by decide)) (fun _ => ?_) | refine g_know Tk Tryd.func92 rfl (fun h => absurd (show false = true from h) (by decide)) (fun _ => ?_) | refine s_know Tk (fun h => absurd (show false = true from h) (by decide)) (fun _ => ?_))
      refine g_callT Tk Tryd.func92 hE (itoa79 hg _ lo hlo.1 hlo.2) rfl rfl rfl rfl rfl rfl ?_
      first | refine g_need Tk Tryd.func92 (by show (itoaB lo).size + 4 ≤ 9223372036854775807; omega) ?_ | refine s_need Tk (by show (itoaB lo).size + 4 ≤ 9223372036854775807; omega) ?_
      first | refine g_need Tk Tryd.func92 (by show (itoaB lo ++ (⟨#[32, 60, 61, 32]⟩ : ByteArray)).size + an.size ≤ 9223372036854775807; omega) ?_ | refine s_need Tk (by show (itoaB lo ++ (⟨#[32, 60, 61, 32]⟩ : ByteArray)).size + an.size ≤ 9223372036854775807; omega) ?_
      refine g_ret Tk (r := .i (.v (.string _))) rfl rfl rfl trivial rfl rfl ?_
      rfl
  | false =>
    refine aspecT_stop [] Tk Tryd.func92 rfl Tryd.call92 Tryd.ntmps92 (Nat.le_of_ble_eq_true rfl) fun E hE => ?_
    refine g_run Tk Tryd.func92 ?_
    first | refine g_need Tk Tryd.func92 (by exact ⟨by omega, by show (v : Int) < (l.length : Int); omega⟩) ?_ | refine s_need Tk (by exact ⟨by omega, by show (v : Int) < (l.length : Int); omega⟩) ?_
    first | refine g_elem Tk Tryd.func92 (gv) ?_ | refine s_elem Tk (gv) ?_
    repeat (first | refine g_cnd Tk Tryd.func92 rfl (fun _ => ?_) (fun h => absurd h (by decide)) | refine g_know Tk Tryd.func92 rfl (fun _ => ?_) (fun h => absurd h (by decide)) | refine s_know Tk (fun _ => ?_) (fun h => absurd h (by decide)) | refine g_cnd Tk Tryd.func92 rfl (fun h => absurd h (by decide)) (fun _ => ?_) | refine g_know Tk Tryd.func92 rfl (fun h => absurd h (by decide)) (fun _ => ?_) | refine s_know Tk (fun h => absurd h (by decide)) (fun _ => ?_) | refine g_cnd Tk Tryd.func92 rfl (fun _ => ?_) (fun h => absurd (show true = false from h) (by decide)) | refine g_know Tk Tryd.func92 rfl (fun _ => ?_) (fun h => absurd (show true = false from h) (by decide)) | refine s_know Tk (fun _ => ?_) (fun h => absurd (show true = false from h) (by decide)) | refine g_cnd Tk Tryd.func92 rfl (fun h => absurd (show false = true from h) (by decide)) (fun _ => ?_) | refine g_know Tk Tryd.func92 rfl (fun h => absurd (show false = true from h) (by decide)) (fun _ => ?_) | refine s_know Tk (fun h => absurd (show false = true from h) (by decide)) (fun _ => ?_))
    first | refine g_need Tk Tryd.func92 (by show an.size + 4 ≤ 9223372036854775807; omega) ?_ | refine s_need Tk (by show an.size + 4 ≤ 9223372036854775807; omega) ?_
    refine g_callT Tk Tryd.func92 hE (itoa79 hg _ hi hhi.1 hhi.2) rfl rfl rfl rfl rfl rfl ?_
    first | refine g_need Tk Tryd.func92 (by show (an ++ (⟨#[32, 60, 61, 32]⟩ : ByteArray)).size + (itoaB hi).size ≤ 9223372036854775807; omega) ?_ | refine s_need Tk (by show (an ++ (⟨#[32, 60, 61, 32]⟩ : ByteArray)).size + (itoaB hi).size ≤ 9223372036854775807; omega) ?_
    refine g_ret Tk (r := .i (.v (.string _))) rfl rfl rfl trivial rfl rfl ?_
    rfl
end Go.AI


/- The text of boxes. -/
namespace Go.AI
open Go.Proofs
set_option maxRecDepth 20000
abbrev oby (T : List UInt8) : Ob := .arr 5 1 T.length (u8l T) true
theorem oby_app (T s : List UInt8) : Ob.arr 5 1 (T.length + s.length) (u8l T ++ u8l s) true = oby (T ++ s) := by rw [u8l_app]; simp [oby]
theorem strCells_u8 (K : Kn) (s : ByteArray) : RepL K (Lib.strCells s) (u8l s.data.toList).flatten := u8l_rep K s.data.toList
theorem size_list (s : ByteArray) : s.data.toList.length = s.size := by rw [Array.length_toList]; rfl
/-- A write of a string. -/
theorem does_ws {c : Cx} (hP : c.P = Tryd.prog) {s : St} {o : Oper} {t nm nm2 : Nat} {dp : D} {H : Heap} {O : List Heap} (sb : ByteArray) (T : List UInt8) (hdp : dp = .i (.v (.pointer none)) ∨ dp = .own 0 nm 0 0) (hlim : T.length + sb.size ≤ 140737488355328) (ht : o.dst = some t) (hn : t < s.n) (hS : s.S = H :: O)
    (hb : look H nm = some (.tb 168 [dp, .osl 0 nm2])) (ha : look H nm2 = some (oby T)) (hne : nm ≠ nm2) :
    Wp c o s 90 [.own 0 nm 0 0, .i (.v (.string sb))] { σ := (t, .tup [ii sb.size, .i (.v .nilIface)]) :: killσ nm2 s.σ, S := ((nm, .tb 168 [.own 0 nm 0 0, .osl 0 nm2]) :: (nm2, oby (T ++ sb.data.toList)) :: killH nm2 ((nm, .tb 168 [.own 0 nm 0 0, .osl 0 nm2]) :: H)) :: O, n := s.n } := by
  have h := does_write (c := c) (s := s) (o := o) (ys := u8l sb.data.toList) (m := sb.data.toList.length) (T := 168) (ty := 5) (rd := .tup [ii sb.size, .i (.v .nilIface)]) (dx := .i (.v (.string sb))) (x := .string sb) (res := .tuple #[.int .i64 sb.size, .nilIface]) (xs := u8l T) (n := T.length) (by rw [hP]; exact wspec90 sb) (by rw [hP]; exact Tryd.call90)
    (fun K ρ sh v h => inv_v h) (fun K ρ sh => .tup (.cons (.i (.v rfl)) (.cons (.i (.v rfl)) .nil))) hdp ht hn hS hb ha hne (fun K => strCells_u8 K sb) (u8l_el _) (by simp [u8l]) (by rw [size_list]; exact hlim)
  rwa [oby_app] at h
theorem does_bs {c : Cx} (hP : c.P = Tryd.prog) {s : St} {o : Oper} {t nm nm2 : Nat} {dp : D} {H : Heap} {O : List Heap} {T : List UInt8} (h0 : T ≠ []) (ht : o.dst = some t) (hn : t < s.n) (hS : s.S = H :: O)
    (hb : look H nm = some (.tb 168 [dp, .osl 0 nm2])) (ha : look H nm2 = some (oby T)) :
    Wp c o s 93 [.own 0 nm 0 0] { σ := (t, .i (.v (.string ⟨T.toArray⟩))) :: killσ nm2 s.σ, S := ((nm2, .arr 5 1 0 [] true) :: killH nm2 H) :: O, n := s.n } :=
  does_bstr (c := c) (s := s) (o := o) (T := 168) (ty := 5) (by rw [hP]; exact sspec93) (by rw [hP]; exact Tryd.call93) h0 ht hn hS hb ha
def andB : List UInt8 := [32, 97, 110, 100, 32]
def orB : List UInt8 := [32, 111, 114, 32]
def trueB : List UInt8 := [116, 114, 117, 101]
def litsBy (l : List Vr) : List Lit → Nat → List UInt8 → List UInt8
  | [], _, T => T
  | x :: r, k, T => litsBy l r (k + 1) (T ++ (if k > 0 then andB else []) ++ (litTx l x).data.toList)
def boxBy (l : List Vr) (b : Bx) (i : Nat) (T : List UInt8) : List UInt8 :=
  if (b.lits l).isEmpty then T ++ (if i > 0 then orB else []) ++ trueB else litsBy l (b.lits l) 0 (T ++ (if i > 0 then orB else []))
def boxesBy (l : List Vr) : List Bx → Nat → List UInt8 → List UInt8
  | [], _, T => T
  | b :: r, i, T => boxesBy l r (i + 1) (boxBy l b i T)
def textR (l : List Vr) (boxes : List Bx) : ByteArray × Int :=
  if checkBoxesR l boxes ≠ 0 then (⟨#[]⟩, checkBoxesR l boxes) else if boxes.isEmpty then (⟨#[102, 97, 108, 115, 101]⟩, 0) else (⟨(boxesBy l boxes 0 []).toArray⟩, 0)
theorem bsize_append (a b : ByteArray) : (a ++ b).size = a.size + b.size := ByteArray.size_append
theorem litTx_size {l : List Vr} {x : Lit} (hx : x.var < l.length) (hnm : ∀ v ∈ l, v.name.size ≤ 1000) (hlo : i64B x.lo) (hhi : i64B x.hi) : 3 ≤ (litTx l x).size ∧ (litTx l x).size ≤ 1025 := by
  have hsl := itoaB_size hlo.1 hlo.2
  have hsh := itoaB_size hhi.1 hhi.2
  have hv : l[x.var]? = some l[x.var] := List.getElem?_eq_getElem hx
  have := hnm _ (List.getElem_mem hx)
  have e1 : strEq.size = 3 := rfl
  have e2 : strLe.size = 4 := rfl
  unfold litTx
  simp only [hv]
  split
  · split
    · rw [bsize_append, bsize_append]; omega
    · rw [bsize_append, bsize_append]; omega
  · rw [bsize_append, bsize_append]; omega
theorem chkV_lits {l : List Vr} {i : Nat} {ls hs : List Int} {n : Nat} (hn : i + l.length ≤ n) (h : chkV l ls hs = 0) (hb : ∀ v ∈ l, -65536 ≤ v.low ∧ v.high ≤ 65536) : ∀ x ∈ litsR l i ls hs, x.var < n ∧ (-65536 ≤ x.lo ∧ x.lo ≤ 65536) ∧ -65536 ≤ x.hi ∧ x.hi ≤ 65536 := by
  induction l generalizing i ls hs with
  | nil => intro x hx; simp [litsR] at hx
  | cons v r ih =>
    cases ls with
    | nil => intro x hx; simp [litsR] at hx
    | cons lo ls =>
      cases hs with
      | nil => intro x hx; simp [litsR] at hx
      | cons hi hs =>
        simp only [chkV] at h
        split at h
        · cases h
        rename_i hc
        have hvb := hb v (by simp)
        simp only [List.length_cons] at hn
        intro x hx
        simp only [litsR, List.mem_append] at hx
        rcases hx with hx | hx
        · have hx' : x.var = i ∧ x.lo = lo ∧ x.hi = hi := by
            unfold litsV at hx
            split at hx
            · simp at hx
            · split at hx
              · rw [List.mem_singleton.1 hx]; exact ⟨rfl, rfl, rfl⟩
              · rw [List.mem_append] at hx
                rcases hx with hx | hx
                · split at hx
                  · rw [List.mem_singleton.1 hx]; exact ⟨rfl, rfl, rfl⟩
                  · simp at hx
                · split at hx
                  · rw [List.mem_singleton.1 hx]; exact ⟨rfl, rfl, rfl⟩
                  · simp at hx
          obtain ⟨e1, e2, e3⟩ := hx'
          omega
        · exact ih (i := i + 1) (by omega) h (fun v hv => hb v (by simp [hv])) x hx
abbrev dpD (p : Bool) : D := bif p then .own 0 7 0 0 else .i (.v (.pointer none))
theorem dpD_or (p : Bool) : dpD p = .i (.v (.pointer none)) ∨ dpD p = .own 0 7 0 0 := by cases p; exact .inl rfl; exact .inr rfl
set_option maxHeartbeats 4000000 in
theorem text40 {g : Nat} (hg : IsTab g) {ty : TypeId} {fr : Nat × Nat} (O : List Heap) (l : List Vr) (boxes : List Bx) (hl : l.length ≤ max63) (hn : ∀ v ∈ l, v.name.size ≤ 1000) (hbl : boxes.length ≤ 4096) : ASpecT g (ptab ty fr) Tryd.prog 40 [vrs l, bxs boxes] O (.tup [.i (.v (.string (textR l boxes).1)), ii (textR l boxes).2]) [] O := by
  have hck := fun O => checkBoxes89 O l boxes hl (fun v hv => Nat.le_trans (hn v hv) (by decide)) (by simp only [max63]; omega)
  have hok := @checkBoxes_ok l boxes
  generalize hR : textR l boxes = R
  unfold textR at hR
  generalize checkBoxesR l boxes = e at *
  by_cases h1 : e ≠ 0
  · rw [if_pos h1] at hR
    subst hR
    refine aspecT_stop [] Tk Tryd.func40 rfl Tryd.call40 Tryd.ntmps40 (Nat.le_of_ble_eq_true rfl) fun E hE => ?_
    refine g_run Tk Tryd.func40 ?_
    first | refine g_call Tk Tryd.func40 (hck _) rfl rfl rfl rfl rfl ?_ | refine s_callq Tk (fun _ => hck _) rfl rfl rfl ?_
    first | refine g_cnd Tk Tryd.func40 rfl (fun h2 => ?_) (fun h2 => ?_) | refine g_know Tk Tryd.func40 rfl (fun h2 => ?_) (fun h2 => ?_) | refine s_know Tk (fun h2 => ?_) (fun h2 => ?_)
    rotate_left
    · exact absurd (bneF h2) h1
    refine g_ret Tk (r := .tup [.i (.v (.string ⟨#[]⟩)), ii e]) rfl rfl rfl trivial rfl rfl ?_
    rfl
  rw [if_neg h1] at hR
  have h1 : e = 0 := by simpa using h1
  subst h1
  obtain ⟨hd, hb⟩ := hok rfl
  have hl16 := hd.len
  by_cases he : boxes = []
  · subst he
    have hR : ((⟨#[102, 97, 108, 115, 101]⟩ : ByteArray), (0 : Int)) = R := hR
    subst hR
    refine aspecT_stop [] Tk Tryd.func40 rfl Tryd.call40 Tryd.ntmps40 (Nat.le_of_ble_eq_true rfl) fun E hE => ?_
    refine g_run Tk Tryd.func40 ?_
    first | refine g_call Tk Tryd.func40 (hck _) rfl rfl rfl rfl rfl ?_ | refine s_callq Tk (fun _ => hck _) rfl rfl rfl ?_
    repeat (first | refine g_cnd Tk Tryd.func40 rfl (fun _ => ?_) (fun h => absurd h (by decide)) | refine g_know Tk Tryd.func40 rfl (fun _ => ?_) (fun h => absurd h (by decide)) | refine s_know Tk (fun _ => ?_) (fun h => absurd h (by decide)) | refine g_cnd Tk Tryd.func40 rfl (fun h => absurd h (by decide)) (fun _ => ?_) | refine g_know Tk Tryd.func40 rfl (fun h => absurd h (by decide)) (fun _ => ?_) | refine s_know Tk (fun h => absurd h (by decide)) (fun _ => ?_) | refine g_cnd Tk Tryd.func40 rfl (fun _ => ?_) (fun h => absurd (show true = false from h) (by decide)) | refine g_know Tk Tryd.func40 rfl (fun _ => ?_) (fun h => absurd (show true = false from h) (by decide)) | refine s_know Tk (fun _ => ?_) (fun h => absurd (show true = false from h) (by decide)) | refine g_cnd Tk Tryd.func40 rfl (fun h => absurd (show false = true from h) (by decide)) (fun _ => ?_) | refine g_know Tk Tryd.func40 rfl (fun h => absurd (show false = true from h) (by decide)) (fun _ => ?_) | refine s_know Tk (fun h => absurd (show false = true from h) (by decide)) (fun _ => ?_))
    refine g_ret Tk (r := .tup [.i (.v (.string ⟨#[102, 97, 108, 115, 101]⟩)), ii 0]) rfl rfl rfl trivial rfl rfl ?_
    rfl
  rw [if_neg (by simpa using he)] at hR
  have hpos : 0 < boxes.length := List.length_pos_iff.2 he
  have hT0 : boxesBy l boxes 0 [] = boxesBy l (boxes.drop 0) 0 [] := rfl
  generalize boxesBy l boxes 0 [] = TX at *
  refine aspecT_stop [200007, 200031, 200038, 200048, 200052, 200055, 12, 20] Tk Tryd.func40 rfl Tryd.call40 Tryd.ntmps40 (Nat.le_of_ble_eq_true rfl) fun E hE => ?_
  refine g_run Tk Tryd.func40 ?_
  first | refine g_call Tk Tryd.func40 (hck _) rfl rfl rfl rfl rfl ?_ | refine s_callq Tk (fun _ => hck _) rfl rfl rfl ?_
  repeat (first | refine g_cnd Tk Tryd.func40 rfl (fun _ => ?_) (fun h => absurd h (by decide)) | refine g_know Tk Tryd.func40 rfl (fun _ => ?_) (fun h => absurd h (by decide)) | refine s_know Tk (fun _ => ?_) (fun h => absurd h (by decide)) | refine g_cnd Tk Tryd.func40 rfl (fun h => absurd h (by decide)) (fun _ => ?_) | refine g_know Tk Tryd.func40 rfl (fun h => absurd h (by decide)) (fun _ => ?_) | refine s_know Tk (fun h => absurd h (by decide)) (fun _ => ?_) | refine g_cnd Tk Tryd.func40 rfl (fun _ => ?_) (fun h => absurd (show true = false from h) (by decide)) | refine g_know Tk Tryd.func40 rfl (fun _ => ?_) (fun h => absurd (show true = false from h) (by decide)) | refine s_know Tk (fun _ => ?_) (fun h => absurd (show true = false from h) (by decide)) | refine g_cnd Tk Tryd.func40 rfl (fun h => absurd (show false = true from h) (by decide)) (fun _ => ?_) | refine g_know Tk Tryd.func40 rfl (fun h => absurd (show false = true from h) (by decide)) (fun _ => ?_) | refine s_know Tk (fun h => absurd (show false = true from h) (by decide)) (fun _ => ?_))
  first | refine g_cnd Tk Tryd.func40 rfl (fun g0 => ?_) (fun g0 => ?_) | refine g_know Tk Tryd.func40 rfl (fun g0 => ?_) (fun g0 => ?_) | refine s_know Tk (fun g0 => ?_) (fun g0 => ?_)
  · have := beqT g0
    omega
  clear g0
  refine g_tb Tk Tryd.func40 rfl rfl rfl rfl rfl rfl rfl rfl ?_
  refine g_loop ?_
  refine rch_wk (wk_niltb 7 60 5 1 rfl rfl rfl) ?_
  refine rch_loop2 (fun x : Nat × List UInt8 × Bool => [(0, vrs l), (7, .own 0 7 0 0), (22, bxs boxes), (23, ii boxes.length), (24, ii x.1)]) (fun x => [(7, .tb 168 [dpD x.2.2, .osl 0 60]), (60, oby x.2.1)]) (fun _ => O) 56
    (fun x => x.1 ≤ boxes.length ∧ x.2.1.length ≤ 40000 * x.1 ∧ (x.1 = 0 ∨ x.2.1 ≠ []) ∧ boxesBy l (boxes.drop x.1) x.1 x.2.1 = TX) (fun x => boxes.length - x.1) (0, [], false)
    ⟨Nat.zero_le _, by simp, .inl rfl, hT0.symm⟩ ⟨rfl, rfl, rfl, rfl, rfl, trivial⟩ rfl ⟨rfl, rfl, trivial⟩ rfl rfl ?_
  clear hT0
  rintro ⟨i, T, p⟩ ⟨hi, hTl, hT0, hno⟩ ih
  simp only at hi hTl hT0 hno
  refine g_run Tk Tryd.func40 ?_
  first | refine g_cnd Tk Tryd.func40 rfl (fun g1 => ?_) (fun g1 => ?_) | refine g_know Tk Tryd.func40 rfl (fun g1 => ?_) (fun g1 => ?_) | refine s_know Tk (fun g1 => ?_) (fun g1 => ?_)
  · have h2 : i < boxes.length := by simpa using g1
    clear g1
    have gb : (boxes.map bxI)[(i : Int).toNat]? = some (bxI boxes[i]) := get_mapZ h2
    have db : boxes.drop i = boxes[i] :: boxes.drop (i + 1) := List.drop_eq_getElem_cons h2
    have hbs := hb _ (List.getElem_mem h2)
    rw [db] at hno
    simp only [boxesBy, boxBy] at hno
    clear db
    have hli := fun O => literals91 O l boxes[i] hbs.1 hbs.2.1 hl16
    have hll : (boxes[i].lits l).length ≤ 2 * l.length := lits_len l 0 boxes[i].low boxes[i].high
    have hlx := chkV_lits (i := 0) (n := l.length) (by omega) hbs.2.2 (fun v hv => (hd.b v hv).1)
    have hly : ∀ x ∈ boxes[i].lits l, x.var < l.length ∧ (-65536 ≤ x.lo ∧ x.lo ≤ 65536) ∧ -65536 ≤ x.hi ∧ x.hi ≤ 65536 := hlx
    clear hlx
    generalize boxes[i] = b at *
    generalize b.lits l = L at *
    obtain ⟨lo, hi2⟩ := b
    have hi1 : ii (IntKind.i64.wrap ((i : Int) + 1)) = ii ((i + 1 : Nat) : Int) := congrArg ii (wsucc (n := 4096) (by omega) (by decide))
    first | refine g_need Tk Tryd.func40 (by exact ⟨by omega, by show (i : Int) < (boxes.length : Int); omega⟩) ?_ | refine s_need Tk (by exact ⟨by omega, by show (i : Int) < (boxes.length : Int); omega⟩) ?_
    first | refine g_elem Tk Tryd.func40 (gb) ?_ | refine s_elem Tk (gb) ?_
    generalize hT1 : T ++ (if i > 0 then orB else []) = T1 at *
    have hT1l : T1.length ≤ T.length + 4 := by
      rw [← hT1, List.length_append]
      split <;> simp [orB]
    apply join_q (P := fun _ : Bool => True) (s6 := fun p => { σ := [(0, vrs l), (7, .own 0 7 0 0), (22, bxs boxes), (23, ii boxes.length), (24, ii i), (9, .own 0 9 0 0)], S := [(7, .tb 168 [dpD p, .osl 0 60]), (60, oby T1), (9, .box [ints lo, ints hi2])] :: O, n := 56 })
    · intro J
      first | refine g_cnd Tk Tryd.func40 rfl (fun c1 => ?_) (fun c1 => ?_) | refine g_know Tk Tryd.func40 rfl (fun c1 => ?_) (fun c1 => ?_) | refine s_know Tk (fun c1 => ?_) (fun c1 => ?_)
      · have c1 : 0 < i := by have := of_decide_eq_true c1; omega
        rw [if_pos c1] at hT1
        refine g_callP Tk Tryd.func40 rfl rfl rfl rfl (does_ws rfl ⟨#[32, 111, 114, 32]⟩ T (dpD_or p) (by show T.length + 4 ≤ _; omega) rfl (show 31 < 56 by decide) rfl rfl rfl (by decide)) ?_
        refine g_stop ?_
        refine rch_meet (J true trivial) ⟨rfl, rfl, rfl, rfl, rfl, rfl, trivial⟩ rfl ⟨rfl, by rw [← hT1]; rfl, rfl, trivial⟩ rfl rfl
      · have c1 : ¬ 0 < i := by have := of_decide_eq_false c1; omega
        rw [if_neg c1, List.append_nil] at hT1
        refine g_stop ?_
        refine rch_meet (J p trivial) ⟨rfl, rfl, rfl, rfl, rfl, rfl, trivial⟩ rfl ⟨rfl, by rw [← hT1]; rfl, rfl, trivial⟩ (by cases p <;> rfl) rfl
    · rintro p2 -
      refine g_run Tk Tryd.func40 ?_
      refine g_go Tk Tryd.func40 ?_
      first | refine g_call Tk Tryd.func40 (hli _) rfl rfl rfl rfl rfl ?_ | refine s_callq Tk (fun _ => hli _) rfl rfl rfl ?_
      cases hL : L with
      | nil =>
        rw [hL] at hno
        simp only [List.isEmpty_nil, if_true] at hno
        repeat (first | refine g_cnd Tk Tryd.func40 rfl (fun _ => ?_) (fun h => absurd h (by decide)) | refine g_know Tk Tryd.func40 rfl (fun _ => ?_) (fun h => absurd h (by decide)) | refine s_know Tk (fun _ => ?_) (fun h => absurd h (by decide)) | refine g_cnd Tk Tryd.func40 rfl (fun h => absurd h (by decide)) (fun _ => ?_) | refine g_know Tk Tryd.func40 rfl (fun h => absurd h (by decide)) (fun _ => ?_) | refine s_know Tk (fun h => absurd h (by decide)) (fun _ => ?_) | refine g_cnd Tk Tryd.func40 rfl (fun _ => ?_) (fun h => absurd (show true = false from h) (by decide)) | refine g_know Tk Tryd.func40 rfl (fun _ => ?_) (fun h => absurd (show true = false from h) (by decide)) | refine s_know Tk (fun _ => ?_) (fun h => absurd (show true = false from h) (by decide)) | refine g_cnd Tk Tryd.func40 rfl (fun h => absurd (show false = true from h) (by decide)) (fun _ => ?_) | refine g_know Tk Tryd.func40 rfl (fun h => absurd (show false = true from h) (by decide)) (fun _ => ?_) | refine s_know Tk (fun h => absurd (show false = true from h) (by decide)) (fun _ => ?_))
        refine g_callP Tk Tryd.func40 rfl rfl rfl rfl (does_ws rfl ⟨#[116, 114, 117, 101]⟩ T1 (dpD_or p2) (by show T1.length + 4 ≤ _; omega) rfl (show 38 < 56 by decide) rfl rfl rfl (by decide)) ?_
        refine g_loop ?_
        refine g_run Tk Tryd.func40 ?_
        repeat (first | refine g_cnd Tk Tryd.func40 rfl (fun _ => ?_) (fun h => absurd h (by decide)) | refine g_know Tk Tryd.func40 rfl (fun _ => ?_) (fun h => absurd h (by decide)) | refine s_know Tk (fun _ => ?_) (fun h => absurd h (by decide)) | refine g_cnd Tk Tryd.func40 rfl (fun h => absurd h (by decide)) (fun _ => ?_) | refine g_know Tk Tryd.func40 rfl (fun h => absurd h (by decide)) (fun _ => ?_) | refine s_know Tk (fun h => absurd h (by decide)) (fun _ => ?_) | refine g_cnd Tk Tryd.func40 rfl (fun _ => ?_) (fun h => absurd (show true = false from h) (by decide)) | refine g_know Tk Tryd.func40 rfl (fun _ => ?_) (fun h => absurd (show true = false from h) (by decide)) | refine s_know Tk (fun _ => ?_) (fun h => absurd (show true = false from h) (by decide)) | refine g_cnd Tk Tryd.func40 rfl (fun h => absurd (show false = true from h) (by decide)) (fun _ => ?_) | refine g_know Tk Tryd.func40 rfl (fun h => absurd (show false = true from h) (by decide)) (fun _ => ?_) | refine s_know Tk (fun h => absurd (show false = true from h) (by decide)) (fun _ => ?_))
        refine g_loop ?_
        refine ih (i + 1, T1 ++ trueB, true) _ _ ⟨h2, by simp only [List.length_append]; show T1.length + 4 ≤ _; omega, .inr (by simp [trueB]), hno⟩ (by simp only; omega) ⟨rfl, rfl, rfl, rfl, hi1, trivial⟩ rfl ⟨rfl, rfl, trivial⟩ rfl rfl
      | cons x0 r0 =>
        have hne : L ≠ [] := by rw [hL]; simp
        have hie : ¬ L.isEmpty = true := by rw [hL]; simp
        rw [if_neg hie] at hno
        rw [← hL]
        have hpos2 : 0 < L.length := List.length_pos_iff.2 hne
        clear hL
        first | refine g_cnd Tk Tryd.func40 rfl (fun c2 => ?_) (fun c2 => ?_) | refine g_know Tk Tryd.func40 rfl (fun c2 => ?_) (fun c2 => ?_) | refine s_know Tk (fun c2 => ?_) (fun c2 => ?_)
        · have := beqT c2
          omega
        clear c2
        have hF0 : litsBy l L 0 T1 = litsBy l (L.drop 0) 0 T1 := rfl
        generalize litsBy l L 0 T1 = F at *
        refine g_loop ?_
        refine rch_loop2 (fun x : Nat × List UInt8 × Bool => [(0, vrs l), (7, .own 0 7 0 0), (22, bxs boxes), (23, ii boxes.length), (24, ii i), (39, litsD L), (40, ii L.length), (41, ii x.1)]) (fun x => [(7, .tb 168 [dpD x.2.2, .osl 0 60]), (60, oby x.2.1)]) (fun _ => O) 56
          (fun x => x.1 ≤ L.length ∧ x.2.1.length ≤ T1.length + 1100 * x.1 ∧ (x.1 = 0 ∨ x.2.1 ≠ []) ∧ F = litsBy l (L.drop x.1) x.1 x.2.1) (fun x => L.length - x.1) (0, T1, p2)
          ⟨Nat.zero_le _, by simp, .inl rfl, hF0⟩ ⟨rfl, rfl, rfl, rfl, rfl, rfl, rfl, rfl, trivial⟩ rfl ⟨rfl, rfl, trivial⟩ (by cases p2 <;> rfl) rfl ?_
        clear hF0
        rintro ⟨k, U, q⟩ ⟨hk, hUl, hU0, hF⟩ ih2
        simp only at hk hUl hU0 hF
        refine g_run Tk Tryd.func40 ?_
        first | refine g_cnd Tk Tryd.func40 rfl (fun g2 => ?_) (fun g2 => ?_) | refine g_know Tk Tryd.func40 rfl (fun g2 => ?_) (fun g2 => ?_) | refine s_know Tk (fun g2 => ?_) (fun g2 => ?_)
        · have h3 : k < L.length := by simpa using g2
          clear g2
          have gl : (L.map litI)[(k : Int).toNat]? = some (litI L[k]) := get_mapZ h3
          have dl : L.drop k = L[k] :: L.drop (k + 1) := List.drop_eq_getElem_cons h3
          have hx := hly _ (List.getElem_mem h3)
          rw [dl] at hF
          simp only [litsBy] at hF
          clear dl
          generalize L[k] = x at *
          have hxs := litTx_size hx.1 hn ⟨by omega, by omega⟩ ⟨by omega, by omega⟩
          have hlt := fun O => litText92 hg (ty := ty) (fr := fr) O l x hx.1 hn ⟨by omega, by omega⟩ ⟨by omega, by omega⟩
          generalize litTx l x = W at *
          obtain ⟨xv, xlo, xhi, xf, xt⟩ := x
          have hk1 : ii (IntKind.i64.wrap ((k : Int) + 1)) = ii ((k + 1 : Nat) : Int) := congrArg ii (wsucc (n := 4096) (by omega) (by decide))
          first | refine g_need Tk Tryd.func40 (by exact ⟨by omega, by show (k : Int) < (L.length : Int); omega⟩) ?_ | refine s_need Tk (by exact ⟨by omega, by show (k : Int) < (L.length : Int); omega⟩) ?_
          first | refine g_elem Tk Tryd.func40 (gl) ?_ | refine s_elem Tk (gl) ?_
          generalize hU1 : U ++ (if k > 0 then andB else []) = U1 at *
          have hU1l : U1.length ≤ U.length + 5 := by
            rw [← hU1, List.length_append]
            split <;> simp [andB]
          apply join_q (P := fun _ : Bool => True) (s6 := fun p => { σ := [(0, vrs l), (7, .own 0 7 0 0), (22, bxs boxes), (23, ii boxes.length), (24, ii i), (12, .own 0 12 0 0), (39, litsD L), (40, ii L.length), (41, ii k)], S := [(7, .tb 168 [dpD p, .osl 0 60]), (60, oby U1), (12, .box [ii (xv : Int), ii xlo, ii xhi, bb xf, bb xt])] :: O, n := 56 })
          · intro J
            first | refine g_cnd Tk Tryd.func40 rfl (fun c1 => ?_) (fun c1 => ?_) | refine g_know Tk Tryd.func40 rfl (fun c1 => ?_) (fun c1 => ?_) | refine s_know Tk (fun c1 => ?_) (fun c1 => ?_)
            · have c1 : 0 < k := by have := of_decide_eq_true c1; omega
              rw [if_pos c1] at hU1
              refine g_callP Tk Tryd.func40 rfl rfl rfl rfl (does_ws rfl ⟨#[32, 97, 110, 100, 32]⟩ U (dpD_or q) (by show U.length + 5 ≤ _; omega) rfl (show 48 < 56 by decide) rfl rfl rfl (by decide)) ?_
              refine g_stop ?_
              refine rch_meet (J true trivial) ⟨rfl, rfl, rfl, rfl, rfl, rfl, rfl, rfl, rfl, trivial⟩ rfl ⟨rfl, by rw [← hU1]; rfl, rfl, trivial⟩ rfl rfl
            · have c1 : ¬ 0 < k := by have := of_decide_eq_false c1; omega
              rw [if_neg c1, List.append_nil] at hU1
              refine g_stop ?_
              refine rch_meet (J q trivial) ⟨rfl, rfl, rfl, rfl, rfl, rfl, rfl, rfl, rfl, trivial⟩ rfl ⟨rfl, by rw [← hU1]; rfl, rfl, trivial⟩ (by cases q <;> rfl) rfl
          · rintro q2 -
            refine g_run Tk Tryd.func40 ?_
            refine g_go Tk Tryd.func40 ?_
            refine g_callT Tk Tryd.func40 hE (hlt _) rfl rfl rfl rfl rfl rfl ?_
            refine g_callP Tk Tryd.func40 rfl rfl rfl rfl (does_ws rfl W U1 (dpD_or q2) (by omega) rfl (show 52 < 56 by decide) rfl rfl rfl (by decide)) ?_
            refine g_loop ?_
            refine ih2 (k + 1, U1 ++ W.data.toList, true) _ _ ⟨h3, by simp only [List.length_append, size_list]; omega, .inr fun e => ?_, hF⟩ (by simp only; omega) ⟨rfl, rfl, rfl, rfl, rfl, rfl, rfl, hk1, trivial⟩ rfl ⟨rfl, rfl, trivial⟩ rfl rfl
            have := congrArg List.length e
            simp only [List.length_append, size_list, List.length_nil] at this
            omega
        · have h3 : L.length ≤ k := by simpa using g2
          rw [List.drop_eq_nil_of_le h3] at hF
          simp only [litsBy] at hF
          rw [hF] at hno
          refine g_loop ?_
          exact ih (i + 1, U, q) _ _ ⟨h2, by simp only; omega, hU0.imp (fun e => by omega) id, hno⟩ (by simp only; omega) ⟨rfl, rfl, rfl, rfl, hi1, trivial⟩ rfl ⟨rfl, rfl, trivial⟩ (by cases q <;> rfl) rfl
  · have h2 : boxes.length ≤ i := by simpa using g1
    rw [List.drop_eq_nil_of_le h2] at hno
    simp only [boxesBy] at hno
    subst hno
    have hT0 : T ≠ [] := hT0.resolve_left (by omega)
    refine g_callP Tk Tryd.func40 rfl rfl rfl rfl (does_bs rfl hT0 rfl (show 55 < 56 by decide) rfl rfl rfl) ?_
    subst hR
    refine g_ret Tk (r := .tup [.i (.v (.string ⟨T.toArray⟩)), ii 0]) rfl rfl rfl trivial rfl rfl ?_
    rfl
end Go.AI


/- The examples of the chapter on guards. -/
namespace Go.AI
open Go.Proofs
set_option maxRecDepth 20000
def cmpE (op v n : Int) : Ex := .mk op 0 0 [.mk 1 0 v [], .mk 0 n 0 []]
def twoV : List Vr := [⟨⟨#[120]⟩, 0, 3, 0⟩, ⟨⟨#[121]⟩, 0, 1, 0⟩]
def xE : Ex := .mk 12 0 0 [cmpE 8 0 2, cmpE 6 1 1]
theorem compare69 (O : List Heap) (op v n : Int) : ASpec Tryd.prog 69 [ii op, ii v, ii n] O (exA (cmpE op v n)) [] O := by
  refine aspec_intro Tk Tryd.func69 rfl Tryd.call69 Tryd.ntmps69 (Nat.le_of_ble_eq_true rfl) fun E => ?_
  refine g_run Tk Tryd.func69 ?_
  refine g_ret_co Tk (r := _) rfl rfl rfl trivial rfl rfl ?_
  show CoD _ (.agg [ii op, ii 0, ii 0, .i (.sl 4 2 [[vi 1, vi 0, vi v, .sl 4 0 []], [vi 0, vi n, vi 0, .sl 4 0 []]])])
  repeat' (first | refine coD_tup ?_ | refine coD_agg ?_ | refine coD_i ?_ | refine CoDL.cons ?_ ?_ | exact CoDL.nil | exact coI_nil | refine coI_sl ?_ | refine CoLL.cons ?_ ?_ | exact CoLL.nil | refine CoL.cons ?_ ?_ | exact CoL.nil | exact CoI.refl _ | exact CoL.refl _ | exact CoLL.refl _ | exact CoDL.refl _ | exact CoD.refl _)
theorem two70 (O : List Heap) : ASpec Tryd.prog 70 [] O (vrs twoV) [] O := by
  refine aspec_intro Tk Tryd.func70 rfl Tryd.call70 Tryd.ntmps70 (Nat.le_of_ble_eq_true rfl) fun E => ?_
  refine g_run Tk Tryd.func70 ?_
  refine g_ret Tk (r := vrs twoV) rfl rfl rfl trivial rfl rfl ?_
  rfl
def tK : List Bool := [true, true, true, true, false, true, false, true]
def cK : List Bool := [true, true, true, true, true, true, true, true]
def bK : List Bx := [⟨[0, 0], [1, 1]⟩, ⟨[0, 1], [3, 1]⟩]
theorem known_t : tableG twoV xE = (tK, 0) := by kernel_rfl
theorem known_c : tableG twoV trueE = (cK, 0) := by kernel_rfl
theorem known_b : boxesG twoV tK cK = (bK, 0) := by kernel_rfl
theorem known_s : textR twoV bK = (⟨#[120, 32, 60, 61, 32, 49, 32, 111, 114, 32, 121, 32, 61, 32, 49]⟩, 0) := by kernel_rfl
theorem known_n : literalsR twoV bK = (2, 0) := by kernel_rfl
theorem known_i : cmpR (fun a b => a && !b) twoV (cmpE 8 0 3) (cmpE 8 0 2) = ([2, 0], false, 0) := by kernel_rfl
theorem known_y : simplR twoV xE (cmpE 6 1 1) = (trueE, 0) := by kernel_rfl
theorem exOk_cmp (op v n : Int) : exOk (cmpE op v n) := exOk_two (exOk_leaf _ _ _) (exOk_leaf _ _ _)
theorem exOk_xE : exOk xE := exOk_two (exOk_cmp _ _ _) (exOk_cmp _ _ _)
theorem two_len : twoV.length ≤ max63 := by decide
theorem two_nm : ∀ v ∈ twoV, v.name.size ≤ max63 := by
  intro v hv
  simp only [twoV, List.mem_cons, List.mem_nil_iff, or_false] at hv
  rcases hv with rfl | rfl <;> decide
theorem two_nm2 : ∀ v ∈ twoV, v.name.size ≤ 1000 := by
  intro v hv
  simp only [twoV, List.mem_cons, List.mem_nil_iff, or_false] at hv
  rcases hv with rfl | rfl <;> decide
theorem known15 {g : Nat} (hg : IsTab g) {ty : TypeId} {fr : Nat × Nat} (O : List Heap) : ASpecT g (ptab ty fr) Tryd.prog 15 [] O (bb true) [] O := by
  have ht := fun O => table31 O twoV xE two_len two_nm exOk_xE
  have hc := fun O => table31 O twoV trueE two_len two_nm exOk_true
  have hb := fun O => boxes19 O twoV tK cK two_len two_nm
  have hs := fun O => text40 hg (ty := ty) (fr := fr) O twoV bK two_len two_nm2 (by decide)
  have hn := fun O => literals41 O twoV bK two_len two_nm (by decide)
  have hi := fun O => implies34 O twoV (cmpE 8 0 3) (cmpE 8 0 2) two_len two_nm (exOk_cmp _ _ _) (exOk_cmp _ _ _)
  have hy := fun O => simplify24 O twoV xE (cmpE 6 1 1) two_len two_nm exOk_xE (exOk_cmp _ _ _)
  simp only [known_t] at ht
  simp only [known_c] at hc
  simp only [known_b] at hb
  simp only [known_s] at hs
  simp only [known_n] at hn
  simp only [known_i] at hi
  simp only [known_y] at hy
  have he := fun O => equal41 (SizeOf.sizeOf trueE + 1) trueE trueE (by omega) exOk_true O
  have hsi := fun O => sameInts36 O [2, 0] [2, 0] (by decide)
  refine aspecT_stop [] Tk Tryd.func15 rfl Tryd.call15 Tryd.ntmps15 (Nat.le_of_ble_eq_true rfl) fun E hE => ?_
  refine g_run Tk Tryd.func15 ?_
  first | refine g_call Tk Tryd.func15 (compare69 _ 8 0 2) rfl rfl rfl rfl rfl ?_ | refine s_callq Tk (fun _ => compare69 _ 8 0 2) rfl rfl rfl ?_
  first | refine g_call Tk Tryd.func15 (compare69 _ 6 1 1) rfl rfl rfl rfl rfl ?_ | refine s_callq Tk (fun _ => compare69 _ 6 1 1) rfl rfl rfl ?_
  refine g_drawn Tk Tryd.func15 mixedT rfl ?_
  first | refine g_call Tk Tryd.func15 (two70 _) rfl rfl rfl rfl rfl ?_ | refine s_callq Tk (fun _ => two70 _) rfl rfl rfl ?_
  first | refine g_call Tk Tryd.func15 (ht _) rfl rfl rfl rfl rfl ?_ | refine s_callq Tk (fun _ => ht _) rfl rfl rfl ?_
  refine e_done Tk Tryd.func15 (by kernel_rfl) ?_
  first | refine g_call Tk Tryd.func15 (two70 _) rfl rfl rfl rfl rfl ?_ | refine s_callq Tk (fun _ => two70 _) rfl rfl rfl ?_
  first | refine g_call Tk Tryd.func15 (true56A _) rfl rfl rfl rfl rfl ?_ | refine s_callq Tk (fun _ => true56A _) rfl rfl rfl ?_
  first | refine g_call Tk Tryd.func15 (hc _) rfl rfl rfl rfl rfl ?_ | refine s_callq Tk (fun _ => hc _) rfl rfl rfl ?_
  first | refine g_call Tk Tryd.func15 (two70 _) rfl rfl rfl rfl rfl ?_ | refine s_callq Tk (fun _ => two70 _) rfl rfl rfl ?_
  first | refine g_call Tk Tryd.func15 (hb _) rfl rfl rfl rfl rfl ?_ | refine s_callq Tk (fun _ => hb _) rfl rfl rfl ?_
  first | refine g_call Tk Tryd.func15 (two70 _) rfl rfl rfl rfl rfl ?_ | refine s_callq Tk (fun _ => two70 _) rfl rfl rfl ?_
  refine g_callT Tk Tryd.func15 hE (hs _) rfl rfl rfl rfl rfl rfl ?_
  first | refine g_call Tk Tryd.func15 (two70 _) rfl rfl rfl rfl rfl ?_ | refine s_callq Tk (fun _ => two70 _) rfl rfl rfl ?_
  first | refine g_call Tk Tryd.func15 (hn _) rfl rfl rfl rfl rfl ?_ | refine s_callq Tk (fun _ => hn _) rfl rfl rfl ?_
  first | refine g_call Tk Tryd.func15 (two70 _) rfl rfl rfl rfl rfl ?_ | refine s_callq Tk (fun _ => two70 _) rfl rfl rfl ?_
  first | refine g_call Tk Tryd.func15 (compare69 _ 8 0 3) rfl rfl rfl rfl rfl ?_ | refine s_callq Tk (fun _ => compare69 _ 8 0 3) rfl rfl rfl ?_
  first | refine g_call Tk Tryd.func15 (compare69 _ 8 0 2) rfl rfl rfl rfl rfl ?_ | refine s_callq Tk (fun _ => compare69 _ 8 0 2) rfl rfl rfl ?_
  first | refine g_call Tk Tryd.func15 (hi _) rfl rfl rfl rfl rfl ?_ | refine s_callq Tk (fun _ => hi _) rfl rfl rfl ?_
  refine g_drawn Tk Tryd.func15 mixedT rfl ?_
  first | refine g_call Tk Tryd.func15 (two70 _) rfl rfl rfl rfl rfl ?_ | refine s_callq Tk (fun _ => two70 _) rfl rfl rfl ?_
  first | refine g_call Tk Tryd.func15 (compare69 _ 6 1 1) rfl rfl rfl rfl rfl ?_ | refine s_callq Tk (fun _ => compare69 _ 6 1 1) rfl rfl rfl ?_
  first | refine g_call Tk Tryd.func15 (hy _) rfl rfl rfl rfl rfl ?_ | refine s_callq Tk (fun _ => hy _) rfl rfl rfl ?_
  refine s_put Tk rfl rfl rfl ?_
  refine e_done Tk Tryd.func15 (by kernel_rfl) ?_
  refine g_drawn Tk Tryd.func15 mixedT rfl ?_
  repeat (first | refine g_cnd Tk Tryd.func15 rfl (fun _ => ?_) (fun h => absurd h (by decide)) | refine g_know Tk Tryd.func15 rfl (fun _ => ?_) (fun h => absurd h (by decide)) | refine s_know Tk (fun _ => ?_) (fun h => absurd h (by decide)) | refine g_cnd Tk Tryd.func15 rfl (fun h => absurd h (by decide)) (fun _ => ?_) | refine g_know Tk Tryd.func15 rfl (fun h => absurd h (by decide)) (fun _ => ?_) | refine s_know Tk (fun h => absurd h (by decide)) (fun _ => ?_) | refine g_cnd Tk Tryd.func15 rfl (fun _ => ?_) (fun h => absurd (show true = false from h) (by decide)) | refine g_know Tk Tryd.func15 rfl (fun _ => ?_) (fun h => absurd (show true = false from h) (by decide)) | refine s_know Tk (fun _ => ?_) (fun h => absurd (show true = false from h) (by decide)) | refine g_cnd Tk Tryd.func15 rfl (fun h => absurd (show false = true from h) (by decide)) (fun _ => ?_) | refine g_know Tk Tryd.func15 rfl (fun h => absurd (show false = true from h) (by decide)) (fun _ => ?_) | refine s_know Tk (fun h => absurd (show false = true from h) (by decide)) (fun _ => ?_))
  first | refine g_cnd Tk Tryd.func15 rfl (fun hq => ?_) (fun hq => ?_) | refine g_know Tk Tryd.func15 rfl (fun hq => ?_) (fun hq => ?_) | refine s_know Tk (fun hq => ?_) (fun hq => ?_)
  rotate_left
  · exact absurd hq (by simp)
  repeat (first | refine g_cnd Tk Tryd.func15 rfl (fun _ => ?_) (fun h => absurd h (by decide)) | refine g_know Tk Tryd.func15 rfl (fun _ => ?_) (fun h => absurd h (by decide)) | refine s_know Tk (fun _ => ?_) (fun h => absurd h (by decide)) | refine g_cnd Tk Tryd.func15 rfl (fun h => absurd h (by decide)) (fun _ => ?_) | refine g_know Tk Tryd.func15 rfl (fun h => absurd h (by decide)) (fun _ => ?_) | refine s_know Tk (fun h => absurd h (by decide)) (fun _ => ?_) | refine g_cnd Tk Tryd.func15 rfl (fun _ => ?_) (fun h => absurd (show true = false from h) (by decide)) | refine g_know Tk Tryd.func15 rfl (fun _ => ?_) (fun h => absurd (show true = false from h) (by decide)) | refine s_know Tk (fun _ => ?_) (fun h => absurd (show true = false from h) (by decide)) | refine g_cnd Tk Tryd.func15 rfl (fun h => absurd (show false = true from h) (by decide)) (fun _ => ?_) | refine g_know Tk Tryd.func15 rfl (fun h => absurd (show false = true from h) (by decide)) (fun _ => ?_) | refine s_know Tk (fun h => absurd (show false = true from h) (by decide)) (fun _ => ?_))
  first | refine g_call Tk Tryd.func15 (hsi _) rfl rfl rfl rfl rfl ?_ | refine s_callq Tk (fun _ => hsi _) rfl rfl rfl ?_
  repeat (first | refine g_cnd Tk Tryd.func15 rfl (fun _ => ?_) (fun h => absurd h (by decide)) | refine g_know Tk Tryd.func15 rfl (fun _ => ?_) (fun h => absurd h (by decide)) | refine s_know Tk (fun _ => ?_) (fun h => absurd h (by decide)) | refine g_cnd Tk Tryd.func15 rfl (fun h => absurd h (by decide)) (fun _ => ?_) | refine g_know Tk Tryd.func15 rfl (fun h => absurd h (by decide)) (fun _ => ?_) | refine s_know Tk (fun h => absurd h (by decide)) (fun _ => ?_) | refine g_cnd Tk Tryd.func15 rfl (fun _ => ?_) (fun h => absurd (show true = false from h) (by decide)) | refine g_know Tk Tryd.func15 rfl (fun _ => ?_) (fun h => absurd (show true = false from h) (by decide)) | refine s_know Tk (fun _ => ?_) (fun h => absurd (show true = false from h) (by decide)) | refine g_cnd Tk Tryd.func15 rfl (fun h => absurd (show false = true from h) (by decide)) (fun _ => ?_) | refine g_know Tk Tryd.func15 rfl (fun h => absurd (show false = true from h) (by decide)) (fun _ => ?_) | refine s_know Tk (fun h => absurd (show false = true from h) (by decide)) (fun _ => ?_))
  first | refine g_call Tk Tryd.func15 (true56A _) rfl rfl rfl rfl rfl ?_ | refine s_callq Tk (fun _ => true56A _) rfl rfl rfl ?_
  first | refine g_call Tk Tryd.func15 (he _) rfl rfl rfl rfl rfl ?_ | refine s_callq Tk (fun _ => he _) rfl rfl rfl ?_
  refine e_done Tk Tryd.func15 (by kernel_rfl) ?_
  refine g_ret Tk (r := bb true) rfl rfl rfl trivial rfl rfl ?_
  rfl
end Go.AI


/- GuardBoxes. -/
namespace Go.AI
open Go.Proofs
set_option maxRecDepth 20000
end Go.AI


/- GuardCovers. -/
namespace Go.AI
open Go.Proofs
set_option maxRecDepth 20000
end Go.AI


/- GuardCompares. -/
namespace Go.AI
open Go.Proofs
set_option maxRecDepth 20000
def exBx (x : Ex) : Ob := .box [.i (.v (.int .i64 x.op)), .i (.v (.int .i64 x.vl)), .i (.v (.int .i64 x.ix)), .i (.sl 4 x.args.length (exIs x.args))]
end Go.AI


/- Digits. -/
namespace Go.AI
open Go.Proofs
set_option maxRecDepth 20000
theorem dec_small {n : Nat} (h : n < 10) : Lib.decDigits n = [UInt8.ofNat (48 + n)] := by rw [Lib.decDigits, dif_pos h]
theorem dec_big {n : Nat} (h : ¬ n < 10) : Lib.decDigits n = Lib.decDigits (n / 10) ++ [UInt8.ofNat (48 + n % 10)] := by rw [Lib.decDigits, dif_neg h]
theorem dig_one : ∀ (n : Nat), n < 10 → bytesOf [IntKind.u8.wrap (48 + IntKind.u8.wrap (n : Int))] = ⟨[UInt8.ofNat (48 + n)].toArray⟩ := by decide
theorem decLen (n : Nat) (h : n < 10000 * 10) : (Lib.decDigits n).length ≤ 20 := by
  have := decDigits_len 19 n (by omega)
  omega
theorem digits88n : ∀ (k n : Nat) (O : List Heap), n < 10 ^ (k + 1) → k ≤ 3 → ASpec Tryd.prog 88 [ii n] O (.i (.v (.string ⟨(Lib.decDigits n).toArray⟩))) [] O := by
  intro k
  have small : ∀ (n : Nat) (O : List Heap), n < 10 → ASpec Tryd.prog 88 [ii n] O (.i (.v (.string ⟨(Lib.decDigits n).toArray⟩))) [] O := by
    intro n O h1
    rw [dec_small h1, ← dig_one n h1]
    refine aspec_intro Tk Tryd.func88 rfl Tryd.call88 Tryd.ntmps88 (Nat.le_of_ble_eq_true rfl) fun E => ?_
    refine g_run Tk Tryd.func88 ?_
    repeat (first | refine g_cnd Tk Tryd.func88 rfl (fun _ => ?_) (fun h => absurd h (by decide)) | refine g_know Tk Tryd.func88 rfl (fun _ => ?_) (fun h => absurd h (by decide)) | refine s_know Tk (fun _ => ?_) (fun h => absurd h (by decide)) | refine g_cnd Tk Tryd.func88 rfl (fun h => absurd h (by decide)) (fun _ => ?_) | refine g_know Tk Tryd.func88 rfl (fun h => absurd h (by decide)) (fun _ => ?_) | refine s_know Tk (fun h => absurd h (by decide)) (fun _ => ?_) | refine g_cnd Tk Tryd.func88 rfl (fun _ => ?_) (fun h => absurd (show true = false from h) (by decide)) | refine g_know Tk Tryd.func88 rfl (fun _ => ?_) (fun h => absurd (show true = false from h) (by decide)) | refine s_know Tk (fun _ => ?_) (fun h => absurd (show true = false from h) (by decide)) | refine g_cnd Tk Tryd.func88 rfl (fun h => absurd (show false = true from h) (by decide)) (fun _ => ?_) | refine g_know Tk Tryd.func88 rfl (fun h => absurd (show false = true from h) (by decide)) (fun _ => ?_) | refine s_know Tk (fun h => absurd (show false = true from h) (by decide)) (fun _ => ?_))
    first | refine g_cnd Tk Tryd.func88 rfl (fun g => ?_) (fun g => ?_) | refine g_know Tk Tryd.func88 rfl (fun g => ?_) (fun g => ?_) | refine s_know Tk (fun g => ?_) (fun g => ?_)
    rotate_left
    · exact absurd (show decide ((n : Int) < 10) = true from decide_eq_true (by omega)) (by rw [g]; decide)
    refine g_ret Tk (r := .i (.v (.string (bytesOf [IntKind.u8.wrap (48 + IntKind.u8.wrap (n : Int))])))) rfl rfl rfl trivial rfl rfl ?_
    rfl
  induction k with
  | zero => exact fun n O h1 _ => small n O (by simpa using h1)
  | succ k ih =>
    intro n O h1 h2
    by_cases h3 : n < 10
    · exact small n O h3
    have hb : n < 10000 * 10 := Nat.lt_of_lt_of_le h1 (by
      have : 10 ^ (k + 1 + 1) ≤ 10 ^ 5 := Nat.pow_le_pow_right (by decide) (by omega)
      exact this)
    have hq : IntKind.i64.wrap (Int.tdiv (n : Int) 10) = ((n / 10 : Nat) : Int) := by
      rw [Int.tdiv_eq_ediv_of_nonneg (by omega), w64 (by omega) (by omega)]
      omega
    have hm : Int.tmod (n : Int) 10 = ((n % 10 : Nat) : Int) := by
      rw [Int.tmod_eq_emod_of_nonneg (by omega)]
      omega
    have hr := fun O => ih (n / 10) O (by rw [Nat.pow_succ] at h1; omega) (by omega)
    have hd := dig_one (n % 10) (Nat.mod_lt _ (by decide))
    rw [dec_big h3]
    rw [← hq] at hr
    refine aspec_intro Tk Tryd.func88 rfl Tryd.call88 Tryd.ntmps88 (Nat.le_of_ble_eq_true rfl) fun E => ?_
    refine g_run Tk Tryd.func88 ?_
    repeat (first | refine g_cnd Tk Tryd.func88 rfl (fun _ => ?_) (fun h => absurd h (by decide)) | refine g_know Tk Tryd.func88 rfl (fun _ => ?_) (fun h => absurd h (by decide)) | refine s_know Tk (fun _ => ?_) (fun h => absurd h (by decide)) | refine g_cnd Tk Tryd.func88 rfl (fun h => absurd h (by decide)) (fun _ => ?_) | refine g_know Tk Tryd.func88 rfl (fun h => absurd h (by decide)) (fun _ => ?_) | refine s_know Tk (fun h => absurd h (by decide)) (fun _ => ?_) | refine g_cnd Tk Tryd.func88 rfl (fun _ => ?_) (fun h => absurd (show true = false from h) (by decide)) | refine g_know Tk Tryd.func88 rfl (fun _ => ?_) (fun h => absurd (show true = false from h) (by decide)) | refine s_know Tk (fun _ => ?_) (fun h => absurd (show true = false from h) (by decide)) | refine g_cnd Tk Tryd.func88 rfl (fun h => absurd (show false = true from h) (by decide)) (fun _ => ?_) | refine g_know Tk Tryd.func88 rfl (fun h => absurd (show false = true from h) (by decide)) (fun _ => ?_) | refine s_know Tk (fun h => absurd (show false = true from h) (by decide)) (fun _ => ?_))
    first | refine g_cnd Tk Tryd.func88 rfl (fun g => ?_) (fun g => ?_) | refine g_know Tk Tryd.func88 rfl (fun g => ?_) (fun g => ?_) | refine s_know Tk (fun g => ?_) (fun g => ?_)
    · exact absurd (show decide ((n : Int) < 10) = false from decide_eq_false (by omega)) (by rw [g]; decide)
    refine g_drawn Tk Tryd.func88 mixedT rfl ?_
    first | refine g_need Tk Tryd.func88 (by decide) ?_ | refine s_need Tk (by decide) ?_
    first | refine g_call Tk Tryd.func88 (hr _) rfl rfl rfl rfl rfl ?_ | refine s_callq Tk (fun _ => hr _) rfl rfl rfl ?_
    first | refine g_need Tk Tryd.func88 (by decide) ?_ | refine s_need Tk (by decide) ?_
    have hlen := decLen n hb
    rw [dec_big h3] at hlen
    simp only [List.length_append, List.length_cons, List.length_nil] at hlen
    rw [← hm] at hd
    generalize Lib.decDigits (n / 10) = T at *
    first | refine g_need Tk Tryd.func88 (by show (⟨T.toArray⟩ : ByteArray).size + (bytesOf [IntKind.u8.wrap (48 + IntKind.u8.wrap (Int.tmod (n : Int) 10))]).size ≤ 9223372036854775807; rw [hd]; show T.toArray.size + 1 ≤ _; simp only [List.size_toArray]; omega) ?_ | refine s_need Tk (by show (⟨T.toArray⟩ : ByteArray).size + (bytesOf [IntKind.u8.wrap (48 + IntKind.u8.wrap (Int.tmod (n : Int) 10))]).size ≤ 9223372036854775807; rw [hd]; show T.toArray.size + 1 ≤ _; simp only [List.size_toArray]; omega) ?_
    refine e_done Tk Tryd.func88 (by kernel_rfl) ?_
    refine g_ret Tk (r := .i (.v (.string (⟨T.toArray⟩ ++ bytesOf [IntKind.u8.wrap (48 + IntKind.u8.wrap (Int.tmod (n : Int) 10))])))) rfl rfl rfl trivial rfl rfl ?_
    rw [hd]
    show D.i (.v (.string (⟨T.toArray⟩ ++ ⟨[UInt8.ofNat (48 + n % 10)].toArray⟩))) = .i (.v (.string ⟨(T ++ [UInt8.ofNat (48 + n % 10)]).toArray⟩))
    congr 3
theorem itoaB_pos (n : Nat) : itoaB (n : Int) = ⟨(Lib.decDigits n).toArray⟩ := by
  unfold itoaB Lib.itoa
  rw [if_neg (by omega), Int.toNat_natCast]
theorem itoaB_neg {n : Int} (h : n < 0) : itoaB n = ⟨#[45]⟩ ++ ⟨(Lib.decDigits n.natAbs).toArray⟩ := by
  unfold itoaB Lib.itoa
  rw [if_pos h]
  apply ByteArray.ext
  rw [ByteArray.data_append]
  simp
theorem digits88 (O : List Heap) (n : Int) (h : -1000 ≤ n ∧ n ≤ 1000) : ASpec Tryd.prog 88 [ii n] O (.i (.v (.string (itoaB n)))) [] O := by
  by_cases h0 : 0 ≤ n
  · obtain ⟨k, rfl⟩ := Int.eq_ofNat_of_zero_le h0
    rw [itoaB_pos]
    exact digits88n 3 k O (by show k < 10000; omega) (by decide)
  · have h1 : n < 0 := by omega
    rw [itoaB_neg h1]
    have hw : IntKind.i64.wrap (0 - n) = ((n.natAbs : Nat) : Int) := by rw [w64 (by omega) (by omega)]; omega
    have hr := fun O => digits88n 3 n.natAbs O (by show n.natAbs < 10000; omega) (by decide)
    have hlen := decLen n.natAbs (by omega)
    rw [← hw] at hr
    generalize Lib.decDigits n.natAbs = T at *
    refine aspec_intro Tk Tryd.func88 rfl Tryd.call88 Tryd.ntmps88 (Nat.le_of_ble_eq_true rfl) fun E => ?_
    refine g_run Tk Tryd.func88 ?_
    first | refine g_cnd Tk Tryd.func88 rfl (fun g => ?_) (fun g => ?_) | refine g_know Tk Tryd.func88 rfl (fun g => ?_) (fun g => ?_) | refine s_know Tk (fun g => ?_) (fun g => ?_)
    rotate_left
    · exact absurd (show decide (n < 0) = true from decide_eq_true h1) (by rw [g]; decide)
    first | refine g_call Tk Tryd.func88 (hr _) rfl rfl rfl rfl rfl ?_ | refine s_callq Tk (fun _ => hr _) rfl rfl rfl ?_
    first | refine g_need Tk Tryd.func88 (by show 1 + (⟨T.toArray⟩ : ByteArray).size ≤ 9223372036854775807; show 1 + T.toArray.size ≤ _; simp only [List.size_toArray]; omega) ?_ | refine s_need Tk (by show 1 + (⟨T.toArray⟩ : ByteArray).size ≤ 9223372036854775807; show 1 + T.toArray.size ≤ _; simp only [List.size_toArray]; omega) ?_
    refine g_ret Tk (r := .i (.v (.string (⟨#[45]⟩ ++ ⟨T.toArray⟩)))) rfl rfl rfl trivial rfl rfl ?_
    rfl
theorem join78 : ∀ (n : Nat) (l : List Ex) (op : Int) (O : List Heap), 1 ≤ l.length → l.length ≤ n → n ≤ 4096 → ASpec Tryd.prog 78 [ii op, exs l] O (exA (joinF op n l)) [] O := by
  intro n
  induction n with
  | zero => intro l op O h1 h2; omega
  | succ n ih =>
    intro l op O h1 h2 h3
    by_cases h4 : 2 ≤ l.length
    · rw [joinF_two op n h4]
      have ih1 := fun O => ih (l.take (l.length / 2)) op O (by simp; omega) (by simp; omega) (by omega)
      have ih2 := fun O => ih (l.drop (l.length / 2)) op O (by simp; omega) (by simp; omega) (by omega)
      refine aspec_intro Tk Tryd.func78 rfl Tryd.call78 Tryd.ntmps78 (Nat.le_of_ble_eq_true rfl) fun E => ?_
      refine g_run Tk Tryd.func78 ?_
      first | refine g_cnd Tk Tryd.func78 rfl (fun g1 => ?_) (fun g1 => ?_) | refine g_know Tk Tryd.func78 rfl (fun g1 => ?_) (fun g1 => ?_) | refine s_know Tk (fun g1 => ?_) (fun g1 => ?_)
      · have := beqT g1
        omega
      have hq : IntKind.i64.wrap (Int.tdiv (l.length : Int) 2) = ((l.length / 2 : Nat) : Int) := by
        rw [Int.tdiv_eq_ediv_of_nonneg (by omega), w64 (by omega) (by omega)]
        omega
      generalize hk : l.length / 2 = k at *
      have t1 : D.i (.sl 4 (IntKind.i64.wrap (Int.tdiv (l.length : Int) 2)).toNat ((exIs l).take (IntKind.i64.wrap (Int.tdiv (l.length : Int) 2)).toNat)) = exs (l.take k) := by
        rw [hq, Int.toNat_natCast, ← exIs_take]
        show _ = D.i (.sl 4 (l.take k).length (exIs (l.take k)))
        rw [List.length_take, Nat.min_eq_left (by omega)]
      have t2 : D.i (.sl 4 (l.length - (IntKind.i64.wrap (Int.tdiv (l.length : Int) 2)).toNat) ((exIs l).drop (IntKind.i64.wrap (Int.tdiv (l.length : Int) 2)).toNat)) = exs (l.drop k) := by
        rw [hq, Int.toNat_natCast, ← exIs_drop]
        show _ = D.i (.sl 4 (l.drop k).length (exIs (l.drop k)))
        rw [List.length_drop]
      generalize joinF op n (l.take k) = A at *
      generalize joinF op n (l.drop k) = B at *
      rw [← t1] at ih1
      rw [← t2] at ih2
      refine g_drawn Tk Tryd.func78 mixedT rfl ?_
      first | refine g_need Tk Tryd.func78 (by decide) ?_ | refine s_need Tk (by decide) ?_
      first | refine g_need Tk Tryd.func78 (by exact ⟨by rw [hq]; omega, by rw [hq]; show ((k : Nat) : Int) ≤ (l.length : Int); omega⟩) ?_ | refine s_need Tk (by exact ⟨by rw [hq]; omega, by rw [hq]; show ((k : Nat) : Int) ≤ (l.length : Int); omega⟩) ?_
      first | refine g_call Tk Tryd.func78 (ih1 _) rfl rfl rfl rfl rfl ?_ | refine s_callq Tk (fun _ => ih1 _) rfl rfl rfl ?_
      first | refine g_need Tk Tryd.func78 (by decide) ?_ | refine s_need Tk (by decide) ?_
      first | refine g_need Tk Tryd.func78 (by exact ⟨by rw [hq]; omega, by rw [hq]; show ((k : Nat) : Int) ≤ (l.length : Int); omega⟩) ?_ | refine s_need Tk (by exact ⟨by rw [hq]; omega, by rw [hq]; show ((k : Nat) : Int) ≤ (l.length : Int); omega⟩) ?_
      first | refine g_call Tk Tryd.func78 (ih2 _) rfl rfl rfl rfl rfl ?_ | refine s_callq Tk (fun _ => ih2 _) rfl rfl rfl ?_
      refine s_put Tk rfl rfl rfl ?_
      refine e_done Tk Tryd.func78 (by kernel_rfl) ?_
      refine g_ret Tk (r := .agg [ii op, ii 0, ii 0, .i (.sl 4 2 [[vi A.op, vi A.vl, vi A.ix, .sl 4 A.args.length (exIs A.args)], [vi B.op, vi B.vl, vi B.ix, .sl 4 B.args.length (exIs B.args)]])]) rfl rfl rfl trivial rfl rfl ?_
      show D.agg [ii op, ii 0, ii 0, .i (.sl 4 2 [[vi A.op, vi A.vl, vi A.ix, .sl 4 A.args.length (exIs A.args)], [vi B.op, vi B.vl, vi B.ix, .sl 4 B.args.length (exIs B.args)]])] = .agg [ii op, ii 0, ii 0, .i (.sl 4 2 [exI A, exI B])]
      rw [exI_eq, exI_eq]
    · obtain ⟨x, rfl⟩ := List.length_eq_one_iff.1 (show l.length = 1 by omega)
      rw [joinF_one]
      obtain ⟨xo, xv, xi, xa⟩ := x
      refine aspec_intro Tk Tryd.func78 rfl Tryd.call78 Tryd.ntmps78 (Nat.le_of_ble_eq_true rfl) fun E => ?_
      refine g_run Tk Tryd.func78 ?_
      repeat (first | refine g_cnd Tk Tryd.func78 rfl (fun _ => ?_) (fun h => absurd h (by decide)) | refine g_know Tk Tryd.func78 rfl (fun _ => ?_) (fun h => absurd h (by decide)) | refine s_know Tk (fun _ => ?_) (fun h => absurd h (by decide)) | refine g_cnd Tk Tryd.func78 rfl (fun h => absurd h (by decide)) (fun _ => ?_) | refine g_know Tk Tryd.func78 rfl (fun h => absurd h (by decide)) (fun _ => ?_) | refine s_know Tk (fun h => absurd h (by decide)) (fun _ => ?_) | refine g_cnd Tk Tryd.func78 rfl (fun _ => ?_) (fun h => absurd (show true = false from h) (by decide)) | refine g_know Tk Tryd.func78 rfl (fun _ => ?_) (fun h => absurd (show true = false from h) (by decide)) | refine s_know Tk (fun _ => ?_) (fun h => absurd (show true = false from h) (by decide)) | refine g_cnd Tk Tryd.func78 rfl (fun h => absurd (show false = true from h) (by decide)) (fun _ => ?_) | refine g_know Tk Tryd.func78 rfl (fun h => absurd (show false = true from h) (by decide)) (fun _ => ?_) | refine s_know Tk (fun h => absurd (show false = true from h) (by decide)) (fun _ => ?_))
      first | refine g_need Tk Tryd.func78 (by exact ⟨by decide, by show (0 : Int) < ((1 : Nat) : Int); decide⟩) ?_ | refine s_need Tk (by exact ⟨by decide, by show (0 : Int) < ((1 : Nat) : Int); decide⟩) ?_
      first | refine g_elem Tk Tryd.func78 (rfl) ?_ | refine s_elem Tk (rfl) ?_
      refine g_ret Tk (r := exA (.mk xo xv xi xa)) rfl rfl rfl trivial rfl rfl ?_
      rfl
end Go.AI


/- Literals with texts. -/
namespace Go.AI
open Go.Proofs
set_option maxRecDepth 20000
abbrev strs (l : List ByteArray) : D := .i (.sl 1 l.length (l.map fun s => [.v (.string s)]))
abbrev ostrs (l : List ByteArray) : Ob := .arr 9 1 l.length (l.map fun s => [I.v (.string s)]) true
abbrev nilI : I := .v (.slice none 0 0)
def rawX (x : Lit) : List I :=
  if x.fr then (if x.to then [vi 6, vi 0, vi 0, .sl 4 2 [[vi 1, vi 0, vi (x.var : Int), nilI], [vi 0, vi x.lo, vi 0, nilI]]] else [vi 9, vi 0, vi 0, .sl 4 2 [[vi 0, vi x.lo, vi 0, nilI], [vi 1, vi 0, vi (x.var : Int), nilI]]])
  else [vi 9, vi 0, vi 0, .sl 4 2 [[vi 1, vi 0, vi (x.var : Int), nilI], [vi 0, vi x.hi, vi 0, nilI]]]
theorem rawX_co (x : Lit) : CoL (rawX x) (exI (litX x)) := by
  obtain ⟨v, lo, hi, fr, to⟩ := x
  cases fr with
  | true =>
    cases to with
    | true =>
      show CoL _ [vi 6, vi 0, vi 0, .sl 4 2 [[vi 1, vi 0, vi (v : Int), .sl 4 0 []], [vi 0, vi lo, vi 0, .sl 4 0 []]]]
      repeat' (first | refine coD_tup ?_ | refine coD_agg ?_ | refine coD_i ?_ | refine CoDL.cons ?_ ?_ | exact CoDL.nil | exact coI_nil | refine coI_sl ?_ | refine CoLL.cons ?_ ?_ | exact CoLL.nil | refine CoL.cons ?_ ?_ | exact CoL.nil | exact CoI.refl _ | exact CoL.refl _ | exact CoLL.refl _ | exact CoDL.refl _ | exact CoD.refl _)
    | false =>
      show CoL _ [vi 9, vi 0, vi 0, .sl 4 2 [[vi 0, vi lo, vi 0, .sl 4 0 []], [vi 1, vi 0, vi (v : Int), .sl 4 0 []]]]
      repeat' (first | refine coD_tup ?_ | refine coD_agg ?_ | refine coD_i ?_ | refine CoDL.cons ?_ ?_ | exact CoDL.nil | exact coI_nil | refine coI_sl ?_ | refine CoLL.cons ?_ ?_ | exact CoLL.nil | refine CoL.cons ?_ ?_ | exact CoL.nil | exact CoI.refl _ | exact CoL.refl _ | exact CoLL.refl _ | exact CoDL.refl _ | exact CoD.refl _)
  | false =>
    show CoL _ [vi 9, vi 0, vi 0, .sl 4 2 [[vi 1, vi 0, vi (v : Int), .sl 4 0 []], [vi 0, vi hi, vi 0, .sl 4 0 []]]]
    repeat' (first | refine coD_tup ?_ | refine coD_agg ?_ | refine coD_i ?_ | refine CoDL.cons ?_ ?_ | exact CoDL.nil | exact coI_nil | refine coI_sl ?_ | refine CoLL.cons ?_ ?_ | exact CoLL.nil | refine CoL.cons ?_ ?_ | exact CoL.nil | exact CoI.refl _ | exact CoL.refl _ | exact CoLL.refl _ | exact CoDL.refl _ | exact CoD.refl _)
theorem rawXs_co : ∀ (l : List Lit), CoLL (l.map rawX) (exIs (l.map litX))
  | [] => .nil
  | x :: r => .cons (rawX_co x) (rawXs_co r)
abbrev oraw (l : List Lit) : Ob := .arr 41 4 l.length (l.map rawX) true
theorem oraw_app (l : List Lit) (x : Lit) : Ob.arr 41 4 (l.length + 1) (l.map rawX ++ [rawX x]) true = oraw (l ++ [x]) := by simp
theorem ostrs_app (l : List ByteArray) (x : ByteArray) : Ob.arr 9 1 (l.length + 1) (l.map (fun s => [I.v (.string s)]) ++ [[I.v (.string x)]]) true = ostrs (l ++ [x]) := by simp
theorem ostrs_app2 {l : List Vr} {acc : List Lit} {x : Lit} {s : ByteArray} (h : litTx l x = s) : some (Ob.arr 9 1 ((acc.map (litTx l)).length + 1) ((acc.map (litTx l)).map (fun s => [I.v (.string s)]) ++ [[I.v (.string s)]]) true) = some (ostrs ((acc ++ [x]).map (litTx l))) := by
  subst h
  rw [ostrs_app, List.map_append]
  rfl
theorem litTx_at {l : List Vr} {i : Nat} (h : i < l.length) (lo hi : Int) (fr to : Bool) : litTx l ⟨i, lo, hi, fr, to⟩ = if fr then (if to then l[i].name ++ strEq ++ itoaB lo else itoaB lo ++ strLe ++ l[i].name) else l[i].name ++ strLe ++ itoaB hi := by
  unfold litTx
  simp only [List.getElem?_eq_getElem h]
set_option maxHeartbeats 4000000 in
theorem literals38 (O : List Heap) (l : List Vr) (b : Bx) (h1 : b.low.length = l.length) (h2 : b.high.length = l.length) (hl16 : l.length ≤ 16) (hnm : ∀ v ∈ l, v.name.size ≤ 1000) (hlo : ∀ x ∈ b.low, -1000 ≤ x ∧ x ≤ 1000) (hhi : ∀ x ∈ b.high, -1000 ≤ x ∧ x ≤ 1000) : ASpec Tryd.prog 38 [vrs l, bxD b] O (.tup [exs ((b.lits l).map litX), strs ((b.lits l).map (litTx l))]) [] O := by
  obtain ⟨lo, hi⟩ := b
  simp only at h1 h2 hlo hhi
  unfold Bx.lits
  simp only
  generalize hR : litsR l 0 lo hi = R
  have hR0 : [] ++ litsR (l.drop 0) 0 (lo.drop 0) (hi.drop 0) = R := hR
  clear hR
  refine aspec_stop [14] Tk Tryd.func38 rfl Tryd.call38 Tryd.ntmps38 (Nat.le_of_ble_eq_true rfl) fun E => ?_
  refine g_run Tk Tryd.func38 ?_
  refine g_loop ?_
  refine rch_wk (wk_nil 6 77 41 4 rfl rfl rfl) ?_
  refine rch_wk (wk_nil 7 93 9 1 rfl rfl rfl) ?_
  refine rch_loop2 (fun x : Nat × List Lit => [(0, vrs l), (3, .own 0 3 0 0), (6, .osl 0 77), (7, .osl 0 93), (8, ii x.1)]) (fun x => [(3, .box [ints lo, ints hi]), (77, oraw x.2), (93, ostrs (x.2.map (litTx l)))]) (fun _ => O) 164
    (fun x => x.1 ≤ l.length ∧ x.2.length ≤ 2 * x.1 ∧ x.2 ++ litsR (l.drop x.1) x.1 (lo.drop x.1) (hi.drop x.1) = R) (fun x => l.length - x.1) (0, []) ⟨Nat.zero_le _, by simp, hR0⟩ ⟨rfl, rfl, rfl, rfl, rfl, trivial⟩ rfl ⟨rfl, rfl, rfl, trivial⟩ rfl rfl ?_
  clear hR0
  rintro ⟨i, acc⟩ ⟨hi', hal, hno⟩ ih
  simp only at hi' hal hno
  refine g_run Tk Tryd.func38 ?_
  first | refine g_cnd Tk Tryd.func38 rfl (fun g1 => ?_) (fun g1 => ?_) | refine g_know Tk Tryd.func38 rfl (fun g1 => ?_) (fun g1 => ?_) | refine s_know Tk (fun g1 => ?_) (fun g1 => ?_)
  · have h3 : i < l.length := by simpa using g1
    clear g1
    have hla := fun a c fr to => litTx_at h3 a c fr to
    have hvn := hnm _ (List.getElem_mem h3)
    have hal' := hlo _ (List.getElem_mem (show i < lo.length by omega))
    have hcl' := hhi _ (List.getElem_mem (show i < hi.length by omega))
    have gv : (l.map vrI)[(i : Int).toNat]? = some (vrI l[i]) := get_mapZ h3
    have gl : (lo.map fun x => [vi x])[(i : Int).toNat]? = some [vi (lo[i]'(by omega))] := get_mapZ (f := fun x => [vi x]) (by omega)
    have gh : (hi.map fun x => [vi x])[(i : Int).toNat]? = some [vi (hi[i]'(by omega))] := get_mapZ (f := fun x => [vi x]) (by omega)
    have dv : l.drop i = l[i] :: l.drop (i + 1) := List.drop_eq_getElem_cons h3
    have dl : lo.drop i = (lo[i]'(by omega)) :: lo.drop (i + 1) := List.drop_eq_getElem_cons (by omega)
    have dh : hi.drop i = (hi[i]'(by omega)) :: hi.drop (i + 1) := List.drop_eq_getElem_cons (by omega)
    rw [dv, dl, dh] at hno
    simp only [litsR, litsV] at hno
    clear dv dl dh
    generalize l[i] = v at *
    generalize lo[i]'(by omega) = a at *
    generalize hi[i]'(by omega) = c at *
    have hbv : 0 ≤ (i : Int) ∧ (i : Int) < (l.length : Int) := by omega
    have hbl : 0 ≤ (i : Int) ∧ (i : Int) < (lo.length : Int) := by omega
    have hbh : 0 ≤ (i : Int) ∧ (i : Int) < (hi.length : Int) := by omega
    have hi1 : ii (IntKind.i64.wrap ((i : Int) + 1)) = ii ((i + 1 : Nat) : Int) := congrArg ii (wsucc (n := 16) (by omega) (by decide))
    have hda := fun O => digits88 O a hal'
    have hdc := fun O => digits88 O c hcl'
    have hsa := itoaB_size (n := a) (by omega) (by omega)
    have hsc := itoaB_size (n := c) (by omega) (by omega)
    have app1 : ∀ (x : Lit) (r : List Lit), acc ++ ([x] ++ r) = acc ++ [x] ++ r := fun x r => by simp
    generalize hrest : litsR (l.drop (i + 1)) (i + 1) (lo.drop (i + 1)) (hi.drop (i + 1)) = rest at hno
    have fin0 : ∀ (acc' : List Lit), acc' ++ rest = R → acc'.length ≤ 2 * (i + 1) → (i + 1 ≤ l.length ∧ acc'.length ≤ 2 * (i + 1) ∧ acc' ++ litsR (l.drop (i + 1)) (i + 1) (lo.drop (i + 1)) (hi.drop (i + 1)) = R) := fun acc' h1 h2 => ⟨h3, h2, by rw [hrest]; exact h1⟩
    obtain ⟨vn, vl, vh, vj⟩ := v
    simp only at hno hla hvn
    refine g_drawn Tk Tryd.func38 mixedT rfl ?_
    first | refine g_need Tk Tryd.func38 (by exact hbl) ?_ | refine s_need Tk (by exact hbl) ?_
    first | refine g_elem Tk Tryd.func38 (gl) ?_ | refine s_elem Tk (gl) ?_
    first | refine g_need Tk Tryd.func38 (by exact hbh) ?_ | refine s_need Tk (by exact hbh) ?_
    first | refine g_elem Tk Tryd.func38 (gh) ?_ | refine s_elem Tk (gh) ?_
    refine s_put Tk rfl rfl rfl ?_
    refine s_put Tk rfl rfl rfl ?_
    refine s_put Tk rfl rfl rfl ?_
    refine e_done Tk Tryd.func38 (by kernel_rfl) ?_
    have hsz : (acc.length + 1) * 48 ≤ 140737488355328 ∧ acc.length + 1 ≤ 9223372036854775807 := by omega
    have hszt : ((acc.map (litTx l)).length + 1) * 16 ≤ 140737488355328 ∧ (acc.map (litTx l)).length + 1 ≤ 9223372036854775807 := by rw [List.length_map]; omega
    refine g_drawn Tk Tryd.func38 mixedT rfl ?_
    first | refine g_need Tk Tryd.func38 (by exact hbl) ?_ | refine s_need Tk (by exact hbl) ?_
    first | refine g_elem Tk Tryd.func38 (gl) ?_ | refine s_elem Tk (gl) ?_
    first | refine g_need Tk Tryd.func38 (by exact hbv) ?_ | refine s_need Tk (by exact hbv) ?_
    first | refine g_elem Tk Tryd.func38 (gv) ?_ | refine s_elem Tk (gv) ?_
    apply join_q (P := fun A : List Lit => A ++ ((if c ≠ vh then [Lit.mk i a c false true] else []) ++ rest) = R ∧ A.length ≤ 2 * i + 1) (s6 := fun A => { σ := [(0, vrs l), (3, .own 0 3 0 0), (6, .osl 0 77), (7, .osl 0 93), (8, ii i), (9, .own 0 9 0 0), (11, .own 0 11 0 0)], S := [(3, .box [ints lo, ints hi]), (9, .box [ii 1, ii 0, ii i, .i nilI]), (11, .box [ii 0, ii c, ii 0, .i nilI]), (77, oraw A), (93, ostrs (A.map (litTx l)))] :: O, n := 164 })
    · intro J
      first | refine g_cnd Tk Tryd.func38 rfl (fun c1 => ?_) (fun c1 => ?_) | refine g_know Tk Tryd.func38 rfl (fun c1 => ?_) (fun c1 => ?_) | refine s_know Tk (fun c1 => ?_) (fun c1 => ?_)
      · have c1 : a ≠ vl := bneT c1
        rw [if_neg (fun h => c1 h.1)] at hno
        refine e_done Tk Tryd.func38 (by kernel_rfl) ?_
        refine g_drawn Tk Tryd.func38 mixedT rfl ?_
        repeat (first | refine g_cnd Tk Tryd.func38 rfl (fun _ => ?_) (fun h => absurd h (by decide)) | refine g_know Tk Tryd.func38 rfl (fun _ => ?_) (fun h => absurd h (by decide)) | refine s_know Tk (fun _ => ?_) (fun h => absurd h (by decide)) | refine g_cnd Tk Tryd.func38 rfl (fun h => absurd h (by decide)) (fun _ => ?_) | refine g_know Tk Tryd.func38 rfl (fun h => absurd h (by decide)) (fun _ => ?_) | refine s_know Tk (fun h => absurd h (by decide)) (fun _ => ?_) | refine g_cnd Tk Tryd.func38 rfl (fun _ => ?_) (fun h => absurd (show true = false from h) (by decide)) | refine g_know Tk Tryd.func38 rfl (fun _ => ?_) (fun h => absurd (show true = false from h) (by decide)) | refine s_know Tk (fun _ => ?_) (fun h => absurd (show true = false from h) (by decide)) | refine g_cnd Tk Tryd.func38 rfl (fun h => absurd (show false = true from h) (by decide)) (fun _ => ?_) | refine g_know Tk Tryd.func38 rfl (fun h => absurd (show false = true from h) (by decide)) (fun _ => ?_) | refine s_know Tk (fun h => absurd (show false = true from h) (by decide)) (fun _ => ?_))
        first | refine g_need Tk Tryd.func38 (by exact hbl) ?_ | refine s_need Tk (by exact hbl) ?_
        first | refine g_elem Tk Tryd.func38 (gl) ?_ | refine s_elem Tk (gl) ?_
        first | refine g_need Tk Tryd.func38 (by exact hbh) ?_ | refine s_need Tk (by exact hbh) ?_
        first | refine g_elem Tk Tryd.func38 (gh) ?_ | refine s_elem Tk (gh) ?_
        refine e_done Tk Tryd.func38 (by kernel_rfl) ?_
        first | refine g_cnd Tk Tryd.func38 rfl (fun c3 => ?_) (fun c3 => ?_) | refine g_know Tk Tryd.func38 rfl (fun c3 => ?_) (fun c3 => ?_) | refine s_know Tk (fun c3 => ?_) (fun c3 => ?_)
        · have c3 : a = c := beqT c3
          rw [if_pos c3, app1] at hno
          first | refine g_need Tk Tryd.func38 (by exact hsz) ?_ | refine s_need Tk (by exact hsz) ?_
          refine g_drawn Tk Tryd.func38 mixedT rfl ?_
          first | refine g_need Tk Tryd.func38 (by exact hbv) ?_ | refine s_need Tk (by exact hbv) ?_
          first | refine g_elem Tk Tryd.func38 (gv) ?_ | refine s_elem Tk (gv) ?_
          first | refine g_need Tk Tryd.func38 (by show vn.size + 3 ≤ 9223372036854775807; omega) ?_ | refine s_need Tk (by show vn.size + 3 ≤ 9223372036854775807; omega) ?_
          first | refine g_need Tk Tryd.func38 (by exact hbl) ?_ | refine s_need Tk (by exact hbl) ?_
          first | refine g_elem Tk Tryd.func38 (gl) ?_ | refine s_elem Tk (gl) ?_
          first | refine g_call Tk Tryd.func38 (hda _) rfl rfl rfl rfl rfl ?_ | refine s_callq Tk (fun _ => hda _) rfl rfl rfl ?_
          first | refine g_need Tk Tryd.func38 (by show (vn ++ strEq).size + (itoaB a).size ≤ 9223372036854775807; rw [bsize_append]; show vn.size + 3 + _ ≤ _; omega) ?_ | refine s_need Tk (by show (vn ++ strEq).size + (itoaB a).size ≤ 9223372036854775807; rw [bsize_append]; show vn.size + 3 + _ ≤ _; omega) ?_
          refine e_tail Tk Tryd.func38 ([15, 16]) (by kernel_rfl) (by kernel_rfl) ?_
          first | refine g_need Tk Tryd.func38 (by exact hszt) ?_ | refine s_need Tk (by exact hszt) ?_
          refine g_loop ?_
          exact ih (i + 1, acc ++ [Lit.mk i a c true true]) _ _ (fin0 _ hno (by simp; omega)) (by simp only; omega) ⟨rfl, rfl, rfl, rfl, hi1, trivial⟩ rfl ⟨rfl, congrArg some (oraw_app acc (Lit.mk i a c true true)), ostrs_app2 (hla a c true true), trivial⟩ rfl rfl
        have c3 : a ≠ c := beqF c3
        rw [if_neg c3, if_pos c1] at hno
        refine g_drawn Tk Tryd.func38 mixedT rfl ?_
        first | refine g_need Tk Tryd.func38 (by exact hbl) ?_ | refine s_need Tk (by exact hbl) ?_
        first | refine g_elem Tk Tryd.func38 (gl) ?_ | refine s_elem Tk (gl) ?_
        first | refine g_need Tk Tryd.func38 (by exact hbv) ?_ | refine s_need Tk (by exact hbv) ?_
        first | refine g_elem Tk Tryd.func38 (gv) ?_ | refine s_elem Tk (gv) ?_
        refine e_done Tk Tryd.func38 (by kernel_rfl) ?_
        first | refine g_cnd Tk Tryd.func38 rfl (fun c4 => ?_) (fun c4 => ?_) | refine g_know Tk Tryd.func38 rfl (fun c4 => ?_) (fun c4 => ?_) | refine s_know Tk (fun c4 => ?_) (fun c4 => ?_)
        rotate_left
        · exact absurd (bneF c4) c1
        first | refine g_need Tk Tryd.func38 (by exact hsz) ?_ | refine s_need Tk (by exact hsz) ?_
        refine g_drawn Tk Tryd.func38 mixedT rfl ?_
        first | refine g_need Tk Tryd.func38 (by exact hbl) ?_ | refine s_need Tk (by exact hbl) ?_
        first | refine g_elem Tk Tryd.func38 (gl) ?_ | refine s_elem Tk (gl) ?_
        first | refine g_call Tk Tryd.func38 (hda _) rfl rfl rfl rfl rfl ?_ | refine s_callq Tk (fun _ => hda _) rfl rfl rfl ?_
        first | refine g_need Tk Tryd.func38 (by show (itoaB a).size + 4 ≤ 9223372036854775807; omega) ?_ | refine s_need Tk (by show (itoaB a).size + 4 ≤ 9223372036854775807; omega) ?_
        first | refine g_need Tk Tryd.func38 (by exact hbv) ?_ | refine s_need Tk (by exact hbv) ?_
        first | refine g_elem Tk Tryd.func38 (gv) ?_ | refine s_elem Tk (gv) ?_
        first | refine g_need Tk Tryd.func38 (by show (itoaB a ++ strLe).size + vn.size ≤ 9223372036854775807; rw [bsize_append]; show _ + 4 + _ ≤ _; omega) ?_ | refine s_need Tk (by show (itoaB a ++ strLe).size + vn.size ≤ 9223372036854775807; rw [bsize_append]; show _ + 4 + _ ≤ _; omega) ?_
        refine e_tail Tk Tryd.func38 ([15, 16]) (by kernel_rfl) (by kernel_rfl) ?_
        first | refine g_need Tk Tryd.func38 (by exact hszt) ?_ | refine s_need Tk (by exact hszt) ?_
        refine g_stop ?_
        refine rch_wk (wk_ren 111 77 rfl rfl rfl) ?_
        refine rch_wk (wk_ren 127 93 rfl rfl rfl) ?_
        refine rch_meet (J (acc ++ [Lit.mk i a c true false]) ⟨by rw [← hno]; simp, by simp; omega⟩) ⟨rfl, rfl, rfl, rfl, rfl, rfl, rfl, trivial⟩ rfl ⟨rfl, rfl, rfl, congrArg some (oraw_app acc (Lit.mk i a c true false)), ostrs_app2 (hla a c true false), trivial⟩ rfl rfl
      have c1 : a = vl := bneF c1
      first | refine g_need Tk Tryd.func38 (by exact hbh) ?_ | refine s_need Tk (by exact hbh) ?_
      first | refine g_elem Tk Tryd.func38 (gh) ?_ | refine s_elem Tk (gh) ?_
      first | refine g_need Tk Tryd.func38 (by exact hbv) ?_ | refine s_need Tk (by exact hbv) ?_
      first | refine g_elem Tk Tryd.func38 (gv) ?_ | refine s_elem Tk (gv) ?_
      refine e_done Tk Tryd.func38 (by kernel_rfl) ?_
      refine g_drawn Tk Tryd.func38 mixedT rfl ?_
      first | refine g_cnd Tk Tryd.func38 rfl (fun c2 => ?_) (fun c2 => ?_) | refine g_know Tk Tryd.func38 rfl (fun c2 => ?_) (fun c2 => ?_) | refine s_know Tk (fun c2 => ?_) (fun c2 => ?_)
      · have c2 : c ≠ vh := bneT c2
        rw [if_neg (fun h => c2 h.2)] at hno
        first | refine g_need Tk Tryd.func38 (by exact hbl) ?_ | refine s_need Tk (by exact hbl) ?_
        first | refine g_elem Tk Tryd.func38 (gl) ?_ | refine s_elem Tk (gl) ?_
        first | refine g_need Tk Tryd.func38 (by exact hbh) ?_ | refine s_need Tk (by exact hbh) ?_
        first | refine g_elem Tk Tryd.func38 (gh) ?_ | refine s_elem Tk (gh) ?_
        refine e_done Tk Tryd.func38 (by kernel_rfl) ?_
        first | refine g_cnd Tk Tryd.func38 rfl (fun c3 => ?_) (fun c3 => ?_) | refine g_know Tk Tryd.func38 rfl (fun c3 => ?_) (fun c3 => ?_) | refine s_know Tk (fun c3 => ?_) (fun c3 => ?_)
        · have c3 : a = c := beqT c3
          rw [if_pos c3, app1] at hno
          first | refine g_need Tk Tryd.func38 (by exact hsz) ?_ | refine s_need Tk (by exact hsz) ?_
          refine g_drawn Tk Tryd.func38 mixedT rfl ?_
          first | refine g_need Tk Tryd.func38 (by exact hbv) ?_ | refine s_need Tk (by exact hbv) ?_
          first | refine g_elem Tk Tryd.func38 (gv) ?_ | refine s_elem Tk (gv) ?_
          first | refine g_need Tk Tryd.func38 (by show vn.size + 3 ≤ 9223372036854775807; omega) ?_ | refine s_need Tk (by show vn.size + 3 ≤ 9223372036854775807; omega) ?_
          first | refine g_need Tk Tryd.func38 (by exact hbl) ?_ | refine s_need Tk (by exact hbl) ?_
          first | refine g_elem Tk Tryd.func38 (gl) ?_ | refine s_elem Tk (gl) ?_
          first | refine g_call Tk Tryd.func38 (hda _) rfl rfl rfl rfl rfl ?_ | refine s_callq Tk (fun _ => hda _) rfl rfl rfl ?_
          first | refine g_need Tk Tryd.func38 (by show (vn ++ strEq).size + (itoaB a).size ≤ 9223372036854775807; rw [bsize_append]; show vn.size + 3 + _ ≤ _; omega) ?_ | refine s_need Tk (by show (vn ++ strEq).size + (itoaB a).size ≤ 9223372036854775807; rw [bsize_append]; show vn.size + 3 + _ ≤ _; omega) ?_
          refine e_tail Tk Tryd.func38 ([15, 16]) (by kernel_rfl) (by kernel_rfl) ?_
          first | refine g_need Tk Tryd.func38 (by exact hszt) ?_ | refine s_need Tk (by exact hszt) ?_
          refine g_loop ?_
          exact ih (i + 1, acc ++ [Lit.mk i a c true true]) _ _ (fin0 _ hno (by simp; omega)) (by simp only; omega) ⟨rfl, rfl, rfl, rfl, hi1, trivial⟩ rfl ⟨rfl, congrArg some (oraw_app acc (Lit.mk i a c true true)), ostrs_app2 (hla a c true true), trivial⟩ rfl rfl
        have c3 : a ≠ c := beqF c3
        rw [if_neg c3, if_neg (by simpa using c1)] at hno
        refine g_drawn Tk Tryd.func38 mixedT rfl ?_
        first | refine g_need Tk Tryd.func38 (by exact hbl) ?_ | refine s_need Tk (by exact hbl) ?_
        first | refine g_elem Tk Tryd.func38 (gl) ?_ | refine s_elem Tk (gl) ?_
        first | refine g_need Tk Tryd.func38 (by exact hbv) ?_ | refine s_need Tk (by exact hbv) ?_
        first | refine g_elem Tk Tryd.func38 (gv) ?_ | refine s_elem Tk (gv) ?_
        refine e_done Tk Tryd.func38 (by kernel_rfl) ?_
        first | refine g_cnd Tk Tryd.func38 rfl (fun c4 => ?_) (fun c4 => ?_) | refine g_know Tk Tryd.func38 rfl (fun c4 => ?_) (fun c4 => ?_) | refine s_know Tk (fun c4 => ?_) (fun c4 => ?_)
        · exact absurd c1 (bneT c4)
        refine g_stop ?_
        refine rch_meet (J acc ⟨by rw [← hno]; simp, by omega⟩) ⟨rfl, rfl, rfl, rfl, rfl, rfl, rfl, trivial⟩ rfl ⟨rfl, rfl, rfl, rfl, rfl, trivial⟩ rfl rfl
      have c2 : c = vh := bneF c2
      rw [if_pos ⟨c1, c2⟩] at hno
      refine e_done Tk Tryd.func38 (by kernel_rfl) ?_
      repeat (first | refine g_cnd Tk Tryd.func38 rfl (fun _ => ?_) (fun h => absurd h (by decide)) | refine g_know Tk Tryd.func38 rfl (fun _ => ?_) (fun h => absurd h (by decide)) | refine s_know Tk (fun _ => ?_) (fun h => absurd h (by decide)) | refine g_cnd Tk Tryd.func38 rfl (fun h => absurd h (by decide)) (fun _ => ?_) | refine g_know Tk Tryd.func38 rfl (fun h => absurd h (by decide)) (fun _ => ?_) | refine s_know Tk (fun h => absurd h (by decide)) (fun _ => ?_) | refine g_cnd Tk Tryd.func38 rfl (fun _ => ?_) (fun h => absurd (show true = false from h) (by decide)) | refine g_know Tk Tryd.func38 rfl (fun _ => ?_) (fun h => absurd (show true = false from h) (by decide)) | refine s_know Tk (fun _ => ?_) (fun h => absurd (show true = false from h) (by decide)) | refine g_cnd Tk Tryd.func38 rfl (fun h => absurd (show false = true from h) (by decide)) (fun _ => ?_) | refine g_know Tk Tryd.func38 rfl (fun h => absurd (show false = true from h) (by decide)) (fun _ => ?_) | refine s_know Tk (fun h => absurd (show false = true from h) (by decide)) (fun _ => ?_))
      refine g_drawn Tk Tryd.func38 mixedT rfl ?_
      first | refine g_need Tk Tryd.func38 (by exact hbl) ?_ | refine s_need Tk (by exact hbl) ?_
      first | refine g_elem Tk Tryd.func38 (gl) ?_ | refine s_elem Tk (gl) ?_
      first | refine g_need Tk Tryd.func38 (by exact hbv) ?_ | refine s_need Tk (by exact hbv) ?_
      first | refine g_elem Tk Tryd.func38 (gv) ?_ | refine s_elem Tk (gv) ?_
      refine e_done Tk Tryd.func38 (by kernel_rfl) ?_
      first | refine g_cnd Tk Tryd.func38 rfl (fun c4 => ?_) (fun c4 => ?_) | refine g_know Tk Tryd.func38 rfl (fun c4 => ?_) (fun c4 => ?_) | refine s_know Tk (fun c4 => ?_) (fun c4 => ?_)
      · exact absurd c1 (bneT c4)
      refine g_stop ?_
      refine rch_meet (J acc ⟨by rw [← hno, if_neg (by simpa using c2)], by omega⟩) ⟨rfl, rfl, rfl, rfl, rfl, rfl, rfl, trivial⟩ rfl ⟨rfl, rfl, rfl, rfl, rfl, trivial⟩ rfl rfl
    · rintro A ⟨hA, hAl⟩
      have hsz2 : (A.length + 1) * 48 ≤ 140737488355328 ∧ A.length + 1 ≤ 9223372036854775807 := by omega
      have hszt2 : ((A.map (litTx l)).length + 1) * 16 ≤ 140737488355328 ∧ (A.map (litTx l)).length + 1 ≤ 9223372036854775807 := by rw [List.length_map]; omega
      refine g_run Tk Tryd.func38 ?_
      refine g_go Tk Tryd.func38 ?_
      refine g_drawn Tk Tryd.func38 mixedT rfl ?_
      first | refine g_need Tk Tryd.func38 (by exact hbh) ?_ | refine s_need Tk (by exact hbh) ?_
      first | refine g_elem Tk Tryd.func38 (gh) ?_ | refine s_elem Tk (gh) ?_
      first | refine g_need Tk Tryd.func38 (by exact hbv) ?_ | refine s_need Tk (by exact hbv) ?_
      first | refine g_elem Tk Tryd.func38 (gv) ?_ | refine s_elem Tk (gv) ?_
      refine e_done Tk Tryd.func38 (by kernel_rfl) ?_
      first | refine g_cnd Tk Tryd.func38 rfl (fun c5 => ?_) (fun c5 => ?_) | refine g_know Tk Tryd.func38 rfl (fun c5 => ?_) (fun c5 => ?_) | refine s_know Tk (fun c5 => ?_) (fun c5 => ?_)
      · have c5 : c ≠ vh := bneT c5
        rw [if_pos c5, ← List.append_assoc] at hA
        first | refine g_need Tk Tryd.func38 (by exact hsz2) ?_ | refine s_need Tk (by exact hsz2) ?_
        refine g_drawn Tk Tryd.func38 mixedT rfl ?_
        first | refine g_need Tk Tryd.func38 (by exact hbv) ?_ | refine s_need Tk (by exact hbv) ?_
        first | refine g_elem Tk Tryd.func38 (gv) ?_ | refine s_elem Tk (gv) ?_
        first | refine g_need Tk Tryd.func38 (by show vn.size + 4 ≤ 9223372036854775807; omega) ?_ | refine s_need Tk (by show vn.size + 4 ≤ 9223372036854775807; omega) ?_
        first | refine g_need Tk Tryd.func38 (by exact hbh) ?_ | refine s_need Tk (by exact hbh) ?_
        first | refine g_elem Tk Tryd.func38 (gh) ?_ | refine s_elem Tk (gh) ?_
        first | refine g_call Tk Tryd.func38 (hdc _) rfl rfl rfl rfl rfl ?_ | refine s_callq Tk (fun _ => hdc _) rfl rfl rfl ?_
        first | refine g_need Tk Tryd.func38 (by show (vn ++ strLe).size + (itoaB c).size ≤ 9223372036854775807; rw [bsize_append]; show vn.size + 4 + _ ≤ _; omega) ?_ | refine s_need Tk (by show (vn ++ strLe).size + (itoaB c).size ≤ 9223372036854775807; rw [bsize_append]; show vn.size + 4 + _ ≤ _; omega) ?_
        refine e_tail Tk Tryd.func38 ([15, 16]) (by kernel_rfl) (by kernel_rfl) ?_
        first | refine g_need Tk Tryd.func38 (by exact hszt2) ?_ | refine s_need Tk (by exact hszt2) ?_
        refine g_loop ?_
        refine rch_wk (wk_ren 145 77 rfl rfl rfl) ?_
        refine rch_wk (wk_ren 161 93 rfl rfl rfl) ?_
        exact ih (i + 1, A ++ [Lit.mk i a c false true]) _ _ (fin0 _ hA (by simp; omega)) (by simp only; omega) ⟨rfl, rfl, rfl, rfl, hi1, trivial⟩ rfl ⟨rfl, congrArg some (oraw_app A (Lit.mk i a c false true)), ostrs_app2 (hla a c false true), trivial⟩ rfl rfl
      have c5 : c = vh := bneF c5
      rw [if_neg (by simpa using c5), List.nil_append] at hA
      refine g_loop ?_
      exact ih (i + 1, A) _ _ (fin0 A hA (by omega)) (by simp only; omega) ⟨rfl, rfl, rfl, rfl, hi1, trivial⟩ rfl ⟨rfl, rfl, rfl, trivial⟩ rfl rfl
  · have h3 : l.length ≤ i := by simpa using g1
    rw [List.drop_eq_nil_of_le h3] at hno
    simp only [litsR, List.append_nil] at hno
    subst hno
    refine g_rwk (wk_freeze 77 rfl rfl) ?_
    refine g_rwk (wk_freeze 93 rfl rfl) ?_
    refine g_rwk (wk_imm rfl) ?_
    refine g_ret_co Tk (r := _) rfl rfl rfl trivial rfl rfl ?_
    refine coD_tup (.cons (coD_i ?_) (.cons ?_ .nil))
    · have e := rawXs_co acc
      have e2 : (acc.map litX).length = acc.length := by simp
      show CoI (.sl 4 acc.length (acc.map rawX)) (.sl 4 (acc.map litX).length (exIs (acc.map litX)))
      rw [e2]
      exact coI_sl e
    · exact CoD.refl _
end Go.AI


/- The guard of boxes, with its text. -/
namespace Go.AI
open Go.Proofs
set_option maxRecDepth 20000
abbrev strD (s : ByteArray) : D := .i (.v (.string s))
abbrev byB (T : List UInt8) : ByteArray := ⟨T.toArray⟩
theorem bcat (T : List UInt8) (s : ByteArray) : byB T ++ s = byB (T ++ s.data.toList) := by
  apply ByteArray.ext
  rw [ByteArray.data_append]
  simp
theorem byB_size (T : List UInt8) : (byB T).size = T.length := by
  show T.toArray.size = _
  simp
theorem lits_in : ∀ (l : List Vr) (i : Nat) (ls hs : List Int), ∀ x ∈ litsR l i ls hs, x.var < i + l.length ∧ x.lo ∈ ls ∧ x.hi ∈ hs
  | [], _, _, _ => fun x hx => by simp [litsR] at hx
  | v :: r, i, [], hs => fun x hx => by simp [litsR] at hx
  | v :: r, i, _ :: _, [] => fun x hx => by simp [litsR] at hx
  | v :: r, i, lo :: ls, hi :: hs => fun x hx => by
    simp only [litsR, List.mem_append] at hx
    rcases hx with hx | hx
    · have hx' : x.var = i ∧ x.lo = lo ∧ x.hi = hi := by
        unfold litsV at hx
        split at hx
        · simp at hx
        · split at hx
          · rw [List.mem_singleton.1 hx]; exact ⟨rfl, rfl, rfl⟩
          · rw [List.mem_append] at hx
            rcases hx with hx | hx
            · split at hx
              · rw [List.mem_singleton.1 hx]; exact ⟨rfl, rfl, rfl⟩
              · simp at hx
            · split at hx
              · rw [List.mem_singleton.1 hx]; exact ⟨rfl, rfl, rfl⟩
              · simp at hx
      obtain ⟨e1, e2, e3⟩ := hx'
      simp only [List.length_cons]
      exact ⟨by omega, by simp [e2], by simp [e3]⟩
    · have := lits_in r (i + 1) ls hs x hx
      simp only [List.length_cons]
      exact ⟨by omega, by simp [this.2.1], by simp [this.2.2]⟩
def bText (l : List Vr) (boxes : List Bx) : ByteArray := if boxes.isEmpty then ⟨#[102, 97, 108, 115, 101]⟩ else ⟨(boxesBy l boxes 0 []).toArray⟩
set_option maxHeartbeats 4000000 in
theorem whole25 (O : List Heap) (l : List Vr) (boxes : List Bx) (hl : l.length ≤ 16) (hnm : ∀ v ∈ l, v.name.size ≤ 1000) (hb : ∀ b ∈ boxes, (b.low.length = l.length ∧ b.high.length = l.length) ∧ (∀ x ∈ b.low, -1000 ≤ x ∧ x ≤ 1000) ∧ ∀ x ∈ b.high, -1000 ≤ x ∧ x ≤ 1000) (hbl : boxes.length ≤ 4096) :
    ASpec Tryd.prog 25 [vrs l, bxs boxes] O (.tup [exA (wholeR l boxes), strD (bText l boxes)]) [] O := by
  by_cases he : boxes = []
  · subst he
    have e : wholeR l [] = falseE := rfl
    have e2 : bText l [] = ⟨#[102, 97, 108, 115, 101]⟩ := rfl
    rw [e, e2]
    refine aspec_intro Tk Tryd.func25 rfl Tryd.call25 Tryd.ntmps25 (Nat.le_of_ble_eq_true rfl) fun E => ?_
    refine g_run Tk Tryd.func25 ?_
    repeat (first | refine g_cnd Tk Tryd.func25 rfl (fun _ => ?_) (fun h => absurd h (by decide)) | refine g_know Tk Tryd.func25 rfl (fun _ => ?_) (fun h => absurd h (by decide)) | refine s_know Tk (fun _ => ?_) (fun h => absurd h (by decide)) | refine g_cnd Tk Tryd.func25 rfl (fun h => absurd h (by decide)) (fun _ => ?_) | refine g_know Tk Tryd.func25 rfl (fun h => absurd h (by decide)) (fun _ => ?_) | refine s_know Tk (fun h => absurd h (by decide)) (fun _ => ?_) | refine g_cnd Tk Tryd.func25 rfl (fun _ => ?_) (fun h => absurd (show true = false from h) (by decide)) | refine g_know Tk Tryd.func25 rfl (fun _ => ?_) (fun h => absurd (show true = false from h) (by decide)) | refine s_know Tk (fun _ => ?_) (fun h => absurd (show true = false from h) (by decide)) | refine g_cnd Tk Tryd.func25 rfl (fun h => absurd (show false = true from h) (by decide)) (fun _ => ?_) | refine g_know Tk Tryd.func25 rfl (fun h => absurd (show false = true from h) (by decide)) (fun _ => ?_) | refine s_know Tk (fun h => absurd (show false = true from h) (by decide)) (fun _ => ?_))
    first | refine g_call Tk Tryd.func25 (false77 _) rfl rfl rfl rfl rfl ?_ | refine s_callq Tk (fun _ => false77 _) rfl rfl rfl ?_
    refine g_ret Tk (r := .tup [exA falseE, strD ⟨#[102, 97, 108, 115, 101]⟩]) rfl rfl rfl trivial rfl rfl ?_
    rfl
  have hpos : 0 < boxes.length := List.length_pos_iff.2 he
  have hie : ¬ boxes.isEmpty = true := by simpa using he
  have hT : bText l boxes = ⟨(boxesBy l boxes 0 []).toArray⟩ := if_neg hie
  rw [hT]
  clear hT
  have hjo := fun O (l' : List Ex) h1 h2 => join78 l'.length l' 12 O h1 (Nat.le_refl _) h2
  have hw : wholeR l boxes = joinF 12 (boxes.map fun b => joinR 11 (partsR l b)).length (boxes.map fun b => joinR 11 (partsR l b)) := by unfold wholeR; rw [if_neg hie]; rfl
  generalize wholeR l boxes = W at *
  have hT0 : boxesBy l boxes 0 [] = boxesBy l (boxes.drop 0) 0 [] := rfl
  generalize boxesBy l boxes 0 [] = TX at *
  refine aspec_stop [10, 19, 20] Tk Tryd.func25 rfl Tryd.call25 Tryd.ntmps25 (Nat.le_of_ble_eq_true rfl) fun E => ?_
  refine g_run Tk Tryd.func25 ?_
  first | refine g_cnd Tk Tryd.func25 rfl (fun g0 => ?_) (fun g0 => ?_) | refine g_know Tk Tryd.func25 rfl (fun g0 => ?_) (fun g0 => ?_) | refine s_know Tk (fun g0 => ?_) (fun g0 => ?_)
  · have := beqT g0
    omega
  clear g0
  refine g_loop ?_
  refine rch_wk (wk_nil 6 48 41 4 rfl rfl rfl) ?_
  refine rch_loop2 (fun x : Nat × List UInt8 => [(0, vrs l), (1, bxs boxes), (4, .own 0 4 0 0), (6, .osl 0 48), (7, strD (byB x.2)), (8, ii x.1)]) (fun x => [(4, .box [ii 0, ii 0, ii 0, .i nilI]), (48, oexs ((boxes.take x.1).map fun b => joinR 11 (partsR l b)))]) (fun _ => O) 68
    (fun x => x.1 ≤ boxes.length ∧ x.2.length ≤ 40000 * x.1 ∧ boxesBy l (boxes.drop x.1) x.1 x.2 = TX) (fun x => boxes.length - x.1) (0, []) ⟨Nat.zero_le _, by simp, hT0.symm⟩ ⟨rfl, rfl, rfl, rfl, rfl, rfl, trivial⟩ rfl ⟨rfl, rfl, trivial⟩ rfl rfl ?_
  clear hT0
  rintro ⟨i, T⟩ ⟨hi, hTl, hno⟩ ih
  simp only at hi hTl hno
  refine g_run Tk Tryd.func25 ?_
  first | refine g_cnd Tk Tryd.func25 rfl (fun g1 => ?_) (fun g1 => ?_) | refine g_know Tk Tryd.func25 rfl (fun g1 => ?_) (fun g1 => ?_) | refine s_know Tk (fun g1 => ?_) (fun g1 => ?_)
  · have h1 : i < boxes.length := by simpa using g1
    clear g1
    have gb : (boxes.map bxI)[(i : Int).toNat]? = some (bxI boxes[i]) := get_mapZ h1
    have db : boxes.drop i = boxes[i] :: boxes.drop (i + 1) := List.drop_eq_getElem_cons h1
    have hbs := hb _ (List.getElem_mem h1)
    rw [db] at hno
    simp only [boxesBy, boxBy] at hno
    clear db
    have htk : (boxes.take (i + 1)).map (fun b => joinR 11 (partsR l b)) = (boxes.take i).map (fun b => joinR 11 (partsR l b)) ++ [joinR 11 (partsR l boxes[i])] := by rw [List.take_add_one, List.getElem?_eq_getElem h1, List.map_append]; rfl
    have hal : ((boxes.take i).map fun b => joinR 11 (partsR l b)).length = i := by simp; omega
    have hli := fun O => literals38 O l boxes[i] hbs.1.1 hbs.1.2 hl hnm hbs.2.1 hbs.2.2
    have hll : (boxes[i].lits l).length ≤ 2 * l.length := lits_len l 0 boxes[i].low boxes[i].high
    have hlx := lits_in l 0 boxes[i].low boxes[i].high
    have hly : ∀ x ∈ boxes[i].lits l, x.var < l.length ∧ (-1000 ≤ x.lo ∧ x.lo ≤ 1000) ∧ -1000 ≤ x.hi ∧ x.hi ≤ 1000 := fun x hx => by
      have := hlx x hx
      exact ⟨by omega, hbs.2.1 _ this.2.1, hbs.2.2 _ this.2.2⟩
    clear hlx
    have hpa : partsR l boxes[i] = if (boxes[i].lits l).isEmpty then [trueE] else (boxes[i].lits l).map litX := rfl
    have hjp := fun O (a1 : 1 ≤ (partsR l boxes[i]).length) (a2 : (partsR l boxes[i]).length ≤ 4096) => join78 (partsR l boxes[i]).length (partsR l boxes[i]) 11 O a1 (Nat.le_refl _) a2
    have hjn : joinF 11 (partsR l boxes[i]).length (partsR l boxes[i]) = joinR 11 (partsR l boxes[i]) := rfl
    rw [hjn] at hjp
    generalize (boxes.take i).map (fun b => joinR 11 (partsR l b)) = acc at *
    generalize hX : joinR 11 (partsR l boxes[i]) = X at *
    generalize boxes[i].lits l = L at *
    generalize partsR l boxes[i] = P at *
    generalize boxes[i] = b at *
    obtain ⟨lo, hi2⟩ := b
    have hi1 : ii (IntKind.i64.wrap ((i : Int) + 1)) = ii ((i + 1 : Nat) : Int) := congrArg ii (wsucc (n := 4096) (by omega) (by decide))
    generalize hT1 : T ++ (if i > 0 then orB else []) = T1 at *
    have hT1l : T1.length ≤ T.length + 4 := by
      rw [← hT1, List.length_append]
      split <;> simp [orB]
    apply join_p (P := True) (s6 := { σ := [(0, vrs l), (1, bxs boxes), (4, .own 0 4 0 0), (6, .osl 0 48), (7, strD (byB T1)), (8, ii i)], S := [(4, .box [ii 0, ii 0, ii 0, .i nilI]), (48, oexs acc)] :: O, n := 68 })
    · intro J
      first | refine g_cnd Tk Tryd.func25 rfl (fun c1 => ?_) (fun c1 => ?_) | refine g_know Tk Tryd.func25 rfl (fun c1 => ?_) (fun c1 => ?_) | refine s_know Tk (fun c1 => ?_) (fun c1 => ?_)
      · have c1 : 0 < i := by have := of_decide_eq_true c1; omega
        rw [if_pos c1] at hT1
        first | refine g_need Tk Tryd.func25 (by show (byB T).size + 4 ≤ 9223372036854775807; rw [byB_size]; omega) ?_ | refine s_need Tk (by show (byB T).size + 4 ≤ 9223372036854775807; rw [byB_size]; omega) ?_
        refine g_stop ?_
        refine rch_meet (J trivial) ⟨rfl, rfl, rfl, rfl, congrArg strD ((bcat T ⟨#[32, 111, 114, 32]⟩).trans (congrArg byB hT1)), rfl, trivial⟩ rfl ⟨rfl, rfl, trivial⟩ rfl rfl
      · have c1 : ¬ 0 < i := by have := of_decide_eq_false c1; omega
        rw [if_neg c1, List.append_nil] at hT1
        subst hT1
        refine g_stop ?_
        refine rch_meet (J trivial) ⟨rfl, rfl, rfl, rfl, rfl, rfl, trivial⟩ rfl ⟨rfl, rfl, trivial⟩ rfl rfl
    · intro _
      refine g_run Tk Tryd.func25 ?_
      refine g_go Tk Tryd.func25 ?_
      first | refine g_need Tk Tryd.func25 (by exact ⟨by omega, by show (i : Int) < (boxes.length : Int); omega⟩) ?_ | refine s_need Tk (by exact ⟨by omega, by show (i : Int) < (boxes.length : Int); omega⟩) ?_
      first | refine g_elem Tk Tryd.func25 (gb) ?_ | refine s_elem Tk (gb) ?_
      first | refine g_call Tk Tryd.func25 (hli _) rfl rfl rfl rfl rfl ?_ | refine s_callq Tk (fun _ => hli _) rfl rfl rfl ?_
      cases hL : L with
      | nil =>
        rw [hL] at hno hpa
        simp only [List.isEmpty_nil, if_true] at hno hpa
        have hXt : X = trueE := by rw [← hX, hpa]; rfl
        subst hXt
        repeat (first | refine g_cnd Tk Tryd.func25 rfl (fun _ => ?_) (fun h => absurd h (by decide)) | refine g_know Tk Tryd.func25 rfl (fun _ => ?_) (fun h => absurd h (by decide)) | refine s_know Tk (fun _ => ?_) (fun h => absurd h (by decide)) | refine g_cnd Tk Tryd.func25 rfl (fun h => absurd h (by decide)) (fun _ => ?_) | refine g_know Tk Tryd.func25 rfl (fun h => absurd h (by decide)) (fun _ => ?_) | refine s_know Tk (fun h => absurd h (by decide)) (fun _ => ?_) | refine g_cnd Tk Tryd.func25 rfl (fun _ => ?_) (fun h => absurd (show true = false from h) (by decide)) | refine g_know Tk Tryd.func25 rfl (fun _ => ?_) (fun h => absurd (show true = false from h) (by decide)) | refine s_know Tk (fun _ => ?_) (fun h => absurd (show true = false from h) (by decide)) | refine g_cnd Tk Tryd.func25 rfl (fun h => absurd (show false = true from h) (by decide)) (fun _ => ?_) | refine g_know Tk Tryd.func25 rfl (fun h => absurd (show false = true from h) (by decide)) (fun _ => ?_) | refine s_know Tk (fun h => absurd (show false = true from h) (by decide)) (fun _ => ?_))
        first | refine g_call Tk Tryd.func25 (true56A _) rfl rfl rfl rfl rfl ?_ | refine s_callq Tk (fun _ => true56A _) rfl rfl rfl ?_
        first | refine g_need Tk Tryd.func25 (by exact ⟨by show (acc.length + 1) * 48 ≤ 140737488355328; omega, by show acc.length + 1 ≤ 9223372036854775807; omega⟩) ?_ | refine s_need Tk (by exact ⟨by show (acc.length + 1) * 48 ≤ 140737488355328; omega, by show acc.length + 1 ≤ 9223372036854775807; omega⟩) ?_
        first | refine g_need Tk Tryd.func25 (by show (byB T1).size + 4 ≤ 9223372036854775807; rw [byB_size]; omega) ?_ | refine s_need Tk (by show (byB T1).size + 4 ≤ 9223372036854775807; rw [byB_size]; omega) ?_
        refine g_loop ?_
        refine rch_wk (wk_ren 41 48 rfl rfl rfl) ?_
        exact ih (i + 1, T1 ++ trueB) _ _ ⟨h1, by simp only [List.length_append]; show T1.length + 4 ≤ _; omega, hno⟩ (by simp only; omega) ⟨rfl, rfl, rfl, rfl, congrArg strD (bcat T1 ⟨#[116, 114, 117, 101]⟩), hi1, trivial⟩ rfl ⟨rfl, by rw [htk]; exact congrArg some (oexs_app acc trueE), trivial⟩ rfl rfl
      | cons x0 r0 =>
        have hne : L ≠ [] := by rw [hL]; simp
        have hie : ¬ L.isEmpty = true := by rw [hL]; simp
        rw [if_neg hie] at hno hpa
        rw [← hL]
        have hpos2 : 0 < L.length := List.length_pos_iff.2 hne
        clear hL
        have hjp := fun O => hjp O (by rw [hpa, List.length_map]; omega) (by rw [hpa, List.length_map]; omega)
        rw [hpa] at hjp
        first | refine g_cnd Tk Tryd.func25 rfl (fun c2 => ?_) (fun c2 => ?_) | refine g_know Tk Tryd.func25 rfl (fun c2 => ?_) (fun c2 => ?_) | refine s_know Tk (fun c2 => ?_) (fun c2 => ?_)
        · have := beqT c2
          rw [List.length_map] at this
          omega
        clear c2
        first | refine g_call Tk Tryd.func25 (hjp _) rfl rfl rfl rfl rfl ?_ | refine s_callq Tk (fun _ => hjp _) rfl rfl rfl ?_
        first | refine g_need Tk Tryd.func25 (by exact ⟨by show (acc.length + 1) * 48 ≤ 140737488355328; omega, by show acc.length + 1 ≤ 9223372036854775807; omega⟩) ?_ | refine s_need Tk (by exact ⟨by show (acc.length + 1) * 48 ≤ 140737488355328; omega, by show acc.length + 1 ≤ 9223372036854775807; omega⟩) ?_
        have hF0 : litsBy l L 0 T1 = litsBy l (L.drop 0) 0 T1 := rfl
        generalize litsBy l L 0 T1 = F at *
        refine g_loop ?_
        refine rch_loop2 (fun x : Nat × List UInt8 => [(0, vrs l), (1, bxs boxes), (4, .own 0 4 0 0), (6, .osl 0 48), (7, strD (byB x.2)), (8, ii i), (10, strs (L.map (litTx l))), (11, ii x.1)]) (fun x => [(4, .box [ii 0, ii 0, ii 0, .i nilI]), (48, oexs (acc ++ [X]))]) (fun _ => O) 68
          (fun x => x.1 ≤ L.length ∧ x.2.length ≤ T1.length + 1100 * x.1 ∧ F = litsBy l (L.drop x.1) x.1 x.2) (fun x => L.length - x.1) (0, T1)
          ⟨Nat.zero_le _, by simp, hF0⟩ ⟨rfl, rfl, rfl, rfl, rfl, rfl, rfl, rfl, trivial⟩ rfl ⟨rfl, congrArg some (oexs_app acc X), trivial⟩ rfl rfl ?_
        clear hF0
        rintro ⟨k, U⟩ ⟨hk, hUl, hF⟩ ih2
        simp only at hk hUl hF
        refine g_run Tk Tryd.func25 ?_
        first | refine g_cnd Tk Tryd.func25 rfl (fun g2 => ?_) (fun g2 => ?_) | refine g_know Tk Tryd.func25 rfl (fun g2 => ?_) (fun g2 => ?_) | refine s_know Tk (fun g2 => ?_) (fun g2 => ?_)
        · have h3 : k < L.length := by simpa using g2
          clear g2
          have gl : ((L.map (litTx l)).map fun s => [I.v (.string s)])[(k : Int).toNat]? = some [I.v (.string (litTx l L[k]))] := by
            rw [get_mapZ (f := fun s => [I.v (.string s)]) (show k < (L.map (litTx l)).length by rw [List.length_map]; exact h3)]
            simp
          have dl : L.drop k = L[k] :: L.drop (k + 1) := List.drop_eq_getElem_cons h3
          have hx := hly _ (List.getElem_mem h3)
          rw [dl] at hF
          simp only [litsBy] at hF
          clear dl
          generalize L[k] = x at *
          have hxs := litTx_size hx.1 hnm ⟨by omega, by omega⟩ ⟨by omega, by omega⟩
          generalize litTx l x = W2 at *
          have hk1 : ii (IntKind.i64.wrap ((k : Int) + 1)) = ii ((k + 1 : Nat) : Int) := congrArg ii (wsucc (n := 4096) (by omega) (by decide))
          generalize hU1 : U ++ (if k > 0 then andB else []) = U1 at *
          have hU1l : U1.length ≤ U.length + 5 := by
            rw [← hU1, List.length_append]
            split <;> simp [andB]
          apply join_p (P := True) (s6 := { σ := [(0, vrs l), (1, bxs boxes), (4, .own 0 4 0 0), (6, .osl 0 48), (7, strD (byB U1)), (8, ii i), (10, strs (L.map (litTx l))), (11, ii k)], S := [(4, .box [ii 0, ii 0, ii 0, .i nilI]), (48, oexs (acc ++ [X]))] :: O, n := 68 })
          · intro J
            first | refine g_cnd Tk Tryd.func25 rfl (fun c1 => ?_) (fun c1 => ?_) | refine g_know Tk Tryd.func25 rfl (fun c1 => ?_) (fun c1 => ?_) | refine s_know Tk (fun c1 => ?_) (fun c1 => ?_)
            · have c1 : 0 < k := by have := of_decide_eq_true c1; omega
              rw [if_pos c1] at hU1
              first | refine g_need Tk Tryd.func25 (by show (byB U).size + 5 ≤ 9223372036854775807; rw [byB_size]; omega) ?_ | refine s_need Tk (by show (byB U).size + 5 ≤ 9223372036854775807; rw [byB_size]; omega) ?_
              refine g_stop ?_
              refine rch_meet (J trivial) ⟨rfl, rfl, rfl, rfl, congrArg strD ((bcat U ⟨#[32, 97, 110, 100, 32]⟩).trans (congrArg byB hU1)), rfl, rfl, rfl, trivial⟩ rfl ⟨rfl, rfl, trivial⟩ rfl rfl
            · have c1 : ¬ 0 < k := by have := of_decide_eq_false c1; omega
              rw [if_neg c1, List.append_nil] at hU1
              subst hU1
              refine g_stop ?_
              refine rch_meet (J trivial) ⟨rfl, rfl, rfl, rfl, rfl, rfl, rfl, rfl, trivial⟩ rfl ⟨rfl, rfl, trivial⟩ rfl rfl
          · intro _
            refine g_run Tk Tryd.func25 ?_
            refine g_go Tk Tryd.func25 ?_
            first | refine g_need Tk Tryd.func25 (by exact ⟨by omega, by show (k : Int) < ((L.map (litTx l)).length : Int); rw [List.length_map]; omega⟩) ?_ | refine s_need Tk (by exact ⟨by omega, by show (k : Int) < ((L.map (litTx l)).length : Int); rw [List.length_map]; omega⟩) ?_
            first | refine g_elem Tk Tryd.func25 (gl) ?_ | refine s_elem Tk (gl) ?_
            first | refine g_need Tk Tryd.func25 (by show (byB U1).size + W2.size ≤ 9223372036854775807; rw [byB_size]; omega) ?_ | refine s_need Tk (by show (byB U1).size + W2.size ≤ 9223372036854775807; rw [byB_size]; omega) ?_
            refine g_loop ?_
            exact ih2 (k + 1, U1 ++ W2.data.toList) _ _ ⟨h3, by simp only [List.length_append, size_list]; omega, hF⟩ (by simp only; omega) ⟨rfl, rfl, rfl, rfl, congrArg strD (bcat U1 W2), rfl, rfl, hk1, trivial⟩ rfl ⟨rfl, rfl, trivial⟩ rfl rfl
        · have h3 : L.length ≤ k := by simpa using g2
          rw [List.drop_eq_nil_of_le h3] at hF
          simp only [litsBy] at hF
          rw [hF] at hno
          refine g_loop ?_
          exact ih (i + 1, U) _ _ ⟨h1, by simp only; omega, hno⟩ (by simp only; omega) ⟨rfl, rfl, rfl, rfl, rfl, hi1, trivial⟩ rfl ⟨rfl, congrArg (fun z => some (oexs z)) htk.symm, trivial⟩ rfl rfl
  · have h1 : boxes.length ≤ i := by simpa using g1
    rw [List.drop_eq_nil_of_le h1] at hno
    simp only [boxesBy] at hno
    subst hno
    rw [List.take_of_length_le h1]
    have hal : (boxes.map fun b => joinR 11 (partsR l b)).length = boxes.length := by simp
    generalize boxes.map (fun b => joinR 11 (partsR l b)) = acc at *
    have hjo := fun O => hjo O acc (by omega) (by omega)
    rw [← hw] at hjo
    obtain ⟨wo, wv, wi, wa⟩ := W
    refine g_stop ?_
    refine rch_wk (wk_freeze 48 rfl rfl) ?_
    refine rch_wk (wk_imm rfl) ?_
    refine g_run Tk Tryd.func25 ?_
    refine g_go Tk Tryd.func25 ?_
    first | refine g_call Tk Tryd.func25 (hjo _) rfl rfl rfl rfl rfl ?_ | refine s_callq Tk (fun _ => hjo _) rfl rfl rfl ?_
    refine g_ret Tk (r := .tup [exA (.mk wo wv wi wa), strD (byB T)]) rfl rfl rfl trivial rfl rfl ?_
    rfl
end Go.AI


/- GuardSimplifies. -/
namespace Go.AI
open Go.Proofs
set_option maxRecDepth 20000
def bd (l : List Int) : Prop := ∀ x ∈ l, -1000 ≤ x ∧ x ≤ 1000
def Bx.bd (b : Bx) : Prop := AI.bd b.low ∧ AI.bd b.high
theorem inV_bd : ∀ {l : List Vr} {v : List Int}, (∀ x ∈ l, -1000 ≤ x.low ∧ x.high ≤ 1000) → inV l v → bd v
  | [], [], _, _ => fun x hx => by cases hx
  | [], _ :: _, _, h => h.elim
  | _ :: _, [], _, h => h.elim
  | a :: l, x :: v, hl, h => fun y hy => by
    have ha := hl a (by simp)
    rcases List.mem_cons.1 hy with rfl | hy
    · have := h.1; omega
    · exact inV_bd (fun w hw => hl w (by simp [hw])) h.2 y hy
theorem small.bd {l : List Vr} (h : small l) : ∀ v ∈ l, -1000 ≤ v.low ∧ v.high ≤ 1000 := fun v hv => by
  have := (h.v v hv).lo
  have := (h.v v hv).hi
  omega
mutual
theorem exEq_refl : ∀ x : Ex, exEq x x = true
  | .mk o v i a => by simp [exEq, exEqs_refl a]
theorem exEqs_refl : ∀ l : List Ex, exEqs l l = true
  | [] => by simp [exEqs]
  | x :: r => by simp [exEqs, exEq_refl x, exEqs_refl r]
end
theorem equalSame (O : List Heap) (x : Ex) (h : exOk x) : ASpec Tryd.prog 27 [exA x, exA x] O (bb true) [] O := by
  have := equal41 (SizeOf.sizeOf x + 1) x x (Nat.lt_succ_self _) h O
  rwa [exEq_refl, exD_eq] at this
theorem evalX_whole {l : List Vr} {boxes : List Bx} {v : List Int} (hb : ∀ b ∈ boxes, b.low.length = l.length ∧ b.high.length = l.length) (hv : inV l v) (hr : ∀ x ∈ l, -1000 ≤ x.low ∧ x.high ≤ 1000) (hc : (checkX (wholeR l boxes) l.length).2 = 0) : evalX (wholeR l boxes) v = (tr (inBs boxes v = true), 0) := by
  have he := ev_whole hb hv
  have hbd := inV_bd hr hv
  unfold evB at he
  unfold evalX
  rw [inV_len hv, if_neg (by simpa using hc), if_neg, he, if_neg (by simp)]
  simp only [List.any_eq_true, not_exists, not_and]
  intro x hx
  have := hbd x hx
  unfold largeB
  simp
  omega
theorem check_false {n : Nat} (h : n ≤ 16) : (checkX falseE n).2 = 0 := by
  unfold checkX
  rw [if_neg (by omega)]
  rfl
theorem joined_bad {l : List Vr} {C : List Bx} (hl : l.length ≤ 16) (h : (checkX (wholeR l C) l.length).2 ≠ 0) : joinedR l C = (zeroE, (checkX (wholeR l C) l.length).2) := by
  unfold joinedR
  by_cases he : C.isEmpty = true
  · have e : wholeR l C = falseE := by unfold wholeR; rw [if_pos he]
    rw [e] at h
    exact absurd (check_false hl) h
  · rw [if_neg he, if_pos h]
theorem joined_good {l : List Vr} {C : List Bx} (h : (checkX (wholeR l C) l.length).2 = 0) : joinedR l C = (wholeR l C, 0) := by
  unfold joinedR
  by_cases he : C.isEmpty = true
  · have e : wholeR l C = falseE := by unfold wholeR; rw [if_pos he]
    rw [if_pos he, e]
  · rw [if_neg he, if_neg (by simpa using h)]
theorem coZr : CoD (.agg [ii 0, ii 0, ii 0, .i (.v (.slice none 0 0))]) (exA zeroE) := by
  show CoD _ (.agg [ii 0, ii 0, ii 0, .i (.sl 4 0 [])])
  repeat' (first | refine coD_tup ?_ | refine coD_agg ?_ | refine coD_i ?_ | refine CoDL.cons ?_ ?_ | exact CoDL.nil | exact coI_nil | refine coI_sl ?_ | refine CoLL.cons ?_ ?_ | exact CoLL.nil | refine CoL.cons ?_ ?_ | exact CoL.nil | exact CoI.refl _ | exact CoL.refl _ | exact CoLL.refl _ | exact CoDL.refl _ | exact CoD.refl _)
theorem eqZero (O : List Heap) : ASpec Tryd.prog 27 [exA zeroE, .agg [ii 0, ii 0, ii 0, .i (.v (.slice none 0 0))]] O (bb true) [] O :=
  (equalSame O zeroE (exOk_leaf _ _ _)).co (.cons (CoD.refl _) (.cons coZr .nil))
end Go.AI
