/- The layer of abstract runs, part 41. -/
import Derived.Test.YtonnakcgopcfnaaDoorPlumZN
import Derived.KernelRfl
set_option linter.unusedSimpArgs false
set_option linter.unusedVariables false
set_option linter.all false

/- The text of a literal. -/
namespace Go.AI
open Go.Proofs
set_option maxRecDepth 20000
def strEq : ByteArray := ⟨#[32, 61, 32]⟩
def strLe : ByteArray := ⟨#[32, 60, 61, 32]⟩
def litTx (l : List Vr) (x : Lit) : ByteArray :=
  if x.fr then (if x.to then (match l[x.var]? with | some v => v.name | none => ⟨#[]⟩) ++ strEq ++ itoaB x.lo else itoaB x.lo ++ strLe ++ (match l[x.var]? with | some v => v.name | none => ⟨#[]⟩))
  else (match l[x.var]? with | some v => v.name | none => ⟨#[]⟩) ++ strLe ++ itoaB x.hi
theorem litText92 {g : Nat} (hg : IsTab g) {ty : TypeId} {fr : Nat × Nat} (O : List Heap) (l : List Vr) (x : Lit) (hx : x.var < l.length) (hnm : ∀ v ∈ l, v.name.size ≤ 1000) (hlo : -9223372036854775808 ≤ x.lo ∧ x.lo ≤ 9223372036854775807) (hhi : -9223372036854775808 ≤ x.hi ∧ x.hi ≤ 9223372036854775807) :
    ASpecT g (ptab ty fr) Tryd.prog 92 [litD x, vrs l] O (.i (.v (.string (litTx l x)))) [] O := by
  obtain ⟨v, lo, hi, fr', to⟩ := x
  simp only at hx hlo hhi
  have hsl := itoaB_size hlo.1 hlo.2
  have hsh := itoaB_size hhi.1 hhi.2
  have hnm := hnm _ (List.getElem_mem hx)
  have hv : l[v]? = some l[v] := List.getElem?_eq_getElem hx
  have gv : (l.map vrI)[((v : Nat) : Int).toNat]? = some (vrI l[v]) := get_mapZ hx
  unfold litTx
  simp only [hv]
  generalize l[v] = a at *
  obtain ⟨an, al, ah, ai⟩ := a
  simp only at hnm
  have e1 : (an ++ (⟨#[32, 61, 32]⟩ : ByteArray)).size = an.size + 3 := ByteArray.size_append
  have e2 : ∀ b : ByteArray, (b ++ (⟨#[32, 60, 61, 32]⟩ : ByteArray)).size = b.size + 4 := fun b => ByteArray.size_append
  have e3 := e2 an
  have e4 := e2 (itoaB lo)
  cases fr' with
  | true =>
    cases to with
    | true =>
      refine aspecT_stop [] Tk Tryd.func92 rfl Tryd.call92 Tryd.ntmps92 (Nat.le_of_ble_eq_true rfl) fun E hE => ?_
      refine g_run Tk Tryd.func92 ?_
      first | refine g_need Tk Tryd.func92 (by exact ⟨by omega, by show (v : Int) < (l.length : Int); omega⟩) ?_ | refine s_need Tk (by exact ⟨by omega, by show (v : Int) < (l.length : Int); omega⟩) ?_
      first | refine g_elem Tk Tryd.func92 (gv) ?_ | refine s_elem Tk (gv) ?_
      repeat (first | refine g_cnd Tk Tryd.func92 rfl (fun _ => ?_) (fun h => absurd h (by decide)) | refine g_know Tk Tryd.func92 rfl (fun _ => ?_) (fun h => absurd h (by decide)) | refine s_know Tk (fun _ => ?_) (fun h => absurd h (by decide)) | refine g_cnd Tk Tryd.func92 rfl (fun h => absurd h (by decide)) (fun _ => ?_) | refine g_know Tk Tryd.func92 rfl (fun h => absurd h (by decide)) (fun _ => ?_) | refine s_know Tk (fun h => absurd h (by decide)) (fun _ => ?_) | refine g_cnd Tk Tryd.func92 rfl (fun _ => ?_) (fun h => absurd (show true = false from h) (by decide)) | refine g_know Tk Tryd.func92 rfl (fun _ => ?_) (fun h => absurd (show true = false from h) (by decide)) | refine s_know Tk (fun _ => ?_) (fun h => absurd (show true = false from h) (by decide)) | refine g_cnd Tk Tryd.func92 rfl (fun h => absurd (show false = true from h) (by decide)) (fun _ => ?_) | refine g_know Tk Tryd.func92 rfl (fun h => absurd (show false = true from h) (by decide)) (fun _ => ?_) | refine s_know Tk (fun h => absurd (show false = true from h) (by decide)) (fun _ => ?_))
      first | refine g_need Tk Tryd.func92 (by show an.size + 3 ≤ 9223372036854775807; omega) ?_ | refine s_need Tk (by show an.size + 3 ≤ 9223372036854775807; omega) ?_
      refine g_callT Tk Tryd.func92 hE (itoa79 hg _ lo hlo.1 hlo.2) rfl rfl rfl rfl rfl rfl ?_
      first | refine g_need Tk Tryd.func92 (by show (an ++ (⟨#[32, 61, 32]⟩ : ByteArray)).size + (itoaB lo).size ≤ 9223372036854775807; omega) ?_ | refine s_need Tk (by show (an ++ (⟨#[32, 61, 32]⟩ : ByteArray)).size + (itoaB lo).size ≤ 9223372036854775807; omega) ?_
      refine g_ret Tk (r := .i (.v (.string _))) rfl rfl rfl trivial rfl rfl ?_
      rfl
    | false =>
      refine aspecT_stop [] Tk Tryd.func92 rfl Tryd.call92 Tryd.ntmps92 (Nat.le_of_ble_eq_true rfl) fun E hE => ?_
      refine g_run Tk Tryd.func92 ?_
      first | refine g_need Tk Tryd.func92 (by exact ⟨by omega, by show (v : Int) < (l.length : Int); omega⟩) ?_ | refine s_need Tk (by exact ⟨by omega, by show (v : Int) < (l.length : Int); omega⟩) ?_
      first | refine g_elem Tk Tryd.func92 (gv) ?_ | refine s_elem Tk (gv) ?_
      repeat (first | refine g_cnd Tk Tryd.func92 rfl (fun _ => ?_) (fun h => absurd h (by decide)) | refine g_know Tk Tryd.func92 rfl (fun _ => ?_) (fun h => absurd h (by decide)) | refine s_know Tk (fun _ => ?_) (fun h => absurd h (by decide)) | refine g_cnd Tk Tryd.func92 rfl (fun h => absurd h (by decide)) (fun _ => ?_) | refine g_know Tk Tryd.func92 rfl (fun h => absurd h (by decide)) (fun _ => ?_) | refine s_know Tk (fun h => absurd h (by decide)) (fun _ => ?_) | refine g_cnd Tk Tryd.func92 rfl (fun _ => ?_) (fun h => absurd (show true = false from h) (by decide)) | refine g_know Tk Tryd.func92 rfl (fun _ => ?_) (fun h => absurd (show true = false from h) (by decide)) | refine s_know Tk (fun _ => ?_) (fun h => absurd (show true = false from h) (by decide)) | refine g_cnd Tk Tryd.func92 rfl (fun h => absurd (show false = true from h) (by decide)) (fun _ => ?_) | refine g_know Tk Tryd.func92 rfl (fun h => absurd (show false = true from h) (by decide)) (fun _ => ?_) | refine s_know Tk (fun h => absurd (show false = true from h) (by decide)) (fun _ => ?_))
      refine g_callT Tk Tryd.func92 hE (itoa79 hg _ lo hlo.1 hlo.2) rfl rfl rfl rfl rfl rfl ?_
      first | refine g_need Tk Tryd.func92 (by show (itoaB lo).size + 4 ≤ 9223372036854775807; omega) ?_ | refine s_need Tk (by show (itoaB lo).size + 4 ≤ 9223372036854775807; omega) ?_
      first | refine g_need Tk Tryd.func92 (by show (itoaB lo ++ (⟨#[32, 60, 61, 32]⟩ : ByteArray)).size + an.size ≤ 9223372036854775807; omega) ?_ | refine s_need Tk (by show (itoaB lo ++ (⟨#[32, 60, 61, 32]⟩ : ByteArray)).size + an.size ≤ 9223372036854775807; omega) ?_
      refine g_ret Tk (r := .i (.v (.string _))) rfl rfl rfl trivial rfl rfl ?_
      rfl
  | false =>
    refine aspecT_stop [] Tk Tryd.func92 rfl Tryd.call92 Tryd.ntmps92 (Nat.le_of_ble_eq_true rfl) fun E hE => ?_
    refine g_run Tk Tryd.func92 ?_
    first | refine g_need Tk Tryd.func92 (by exact ⟨by omega, by show (v : Int) < (l.length : Int); omega⟩) ?_ | refine s_need Tk (by exact ⟨by omega, by show (v : Int) < (l.length : Int); omega⟩) ?_
    first | refine g_elem Tk Tryd.func92 (gv) ?_ | refine s_elem Tk (gv) ?_
    repeat (first | refine g_cnd Tk Tryd.func92 rfl (fun _ => ?_) (fun h => absurd h (by decide)) | refine g_know Tk Tryd.func92 rfl (fun _ => ?_) (fun h => absurd h (by decide)) | refine s_know Tk (fun _ => ?_) (fun h => absurd h (by decide)) | refine g_cnd Tk Tryd.func92 rfl (fun h => absurd h (by decide)) (fun _ => ?_) | refine g_know Tk Tryd.func92 rfl (fun h => absurd h (by decide)) (fun _ => ?_) | refine s_know Tk (fun h => absurd h (by decide)) (fun _ => ?_) | refine g_cnd Tk Tryd.func92 rfl (fun _ => ?_) (fun h => absurd (show true = false from h) (by decide)) | refine g_know Tk Tryd.func92 rfl (fun _ => ?_) (fun h => absurd (show true = false from h) (by decide)) | refine s_know Tk (fun _ => ?_) (fun h => absurd (show true = false from h) (by decide)) | refine g_cnd Tk Tryd.func92 rfl (fun h => absurd (show false = true from h) (by decide)) (fun _ => ?_) | refine g_know Tk Tryd.func92 rfl (fun h => absurd (show false = true from h) (by decide)) (fun _ => ?_) | refine s_know Tk (fun h => absurd (show false = true from h) (by decide)) (fun _ => ?_))
    first | refine g_need Tk Tryd.func92 (by show an.size + 4 ≤ 9223372036854775807; omega) ?_ | refine s_need Tk (by show an.size + 4 ≤ 9223372036854775807; omega) ?_
    refine g_callT Tk Tryd.func92 hE (itoa79 hg _ hi hhi.1 hhi.2) rfl rfl rfl rfl rfl rfl ?_
    first | refine g_need Tk Tryd.func92 (by show (an ++ (⟨#[32, 60, 61, 32]⟩ : ByteArray)).size + (itoaB hi).size ≤ 9223372036854775807; omega) ?_ | refine s_need Tk (by show (an ++ (⟨#[32, 60, 61, 32]⟩ : ByteArray)).size + (itoaB hi).size ≤ 9223372036854775807; omega) ?_
    refine g_ret Tk (r := .i (.v (.string _))) rfl rfl rfl trivial rfl rfl ?_
    rfl
end Go.AI


/- The text of boxes. -/
namespace Go.AI
open Go.Proofs
set_option maxRecDepth 20000
abbrev oby (T : List UInt8) : Ob := .arr 5 1 T.length (u8l T) true
theorem oby_app (T s : List UInt8) : Ob.arr 5 1 (T.length + s.length) (u8l T ++ u8l s) true = oby (T ++ s) := by rw [u8l_app]; simp [oby]
theorem strCells_u8 (K : Kn) (s : ByteArray) : RepL K (Lib.strCells s) (u8l s.data.toList).flatten := u8l_rep K s.data.toList
theorem size_list (s : ByteArray) : s.data.toList.length = s.size := by rw [Array.length_toList]; rfl
/-- A write of a string. -/
theorem does_ws {c : Cx} (hP : c.P = Tryd.prog) {s : St} {o : Oper} {t nm nm2 : Nat} {dp : D} {H : Heap} {O : List Heap} (sb : ByteArray) (T : List UInt8) (hdp : dp = .i (.v (.pointer none)) ∨ dp = .own 0 nm 0 0) (hlim : T.length + sb.size ≤ 140737488355328) (ht : o.dst = some t) (hn : t < s.n) (hS : s.S = H :: O)
    (hb : look H nm = some (.tb 168 [dp, .osl 0 nm2])) (ha : look H nm2 = some (oby T)) (hne : nm ≠ nm2) :
    Wp c o s 90 [.own 0 nm 0 0, .i (.v (.string sb))] { σ := (t, .tup [ii sb.size, .i (.v .nilIface)]) :: killσ nm2 s.σ, S := ((nm, .tb 168 [.own 0 nm 0 0, .osl 0 nm2]) :: (nm2, oby (T ++ sb.data.toList)) :: killH nm2 ((nm, .tb 168 [.own 0 nm 0 0, .osl 0 nm2]) :: H)) :: O, n := s.n } := by
  have h := does_write (c := c) (s := s) (o := o) (ys := u8l sb.data.toList) (m := sb.data.toList.length) (T := 168) (ty := 5) (rd := .tup [ii sb.size, .i (.v .nilIface)]) (dx := .i (.v (.string sb))) (x := .string sb) (res := .tuple #[.int .i64 sb.size, .nilIface]) (xs := u8l T) (n := T.length) (by rw [hP]; exact wspec90 sb) (by rw [hP]; exact Tryd.call90)
    (fun K ρ sh v h => inv_v h) (fun K ρ sh => .tup (.cons (.i (.v rfl)) (.cons (.i (.v rfl)) .nil))) hdp ht hn hS hb ha hne (fun K => strCells_u8 K sb) (u8l_el _) (by simp [u8l]) (by rw [size_list]; exact hlim)
  rwa [oby_app] at h
theorem does_bs {c : Cx} (hP : c.P = Tryd.prog) {s : St} {o : Oper} {t nm nm2 : Nat} {dp : D} {H : Heap} {O : List Heap} {T : List UInt8} (h0 : T ≠ []) (ht : o.dst = some t) (hn : t < s.n) (hS : s.S = H :: O)
    (hb : look H nm = some (.tb 168 [dp, .osl 0 nm2])) (ha : look H nm2 = some (oby T)) :
    Wp c o s 93 [.own 0 nm 0 0] { σ := (t, .i (.v (.string ⟨T.toArray⟩))) :: killσ nm2 s.σ, S := ((nm2, .arr 5 1 0 [] true) :: killH nm2 H) :: O, n := s.n } :=
  does_bstr (c := c) (s := s) (o := o) (T := 168) (ty := 5) (by rw [hP]; exact sspec93) (by rw [hP]; exact Tryd.call93) h0 ht hn hS hb ha
def andB : List UInt8 := [32, 97, 110, 100, 32]
def orB : List UInt8 := [32, 111, 114, 32]
def trueB : List UInt8 := [116, 114, 117, 101]
def litsBy (l : List Vr) : List Lit → Nat → List UInt8 → List UInt8
  | [], _, T => T
  | x :: r, k, T => litsBy l r (k + 1) (T ++ (if k > 0 then andB else []) ++ (litTx l x).data.toList)
def boxBy (l : List Vr) (b : Bx) (i : Nat) (T : List UInt8) : List UInt8 :=
  if (b.lits l).isEmpty then T ++ (if i > 0 then orB else []) ++ trueB else litsBy l (b.lits l) 0 (T ++ (if i > 0 then orB else []))
def boxesBy (l : List Vr) : List Bx → Nat → List UInt8 → List UInt8
  | [], _, T => T
  | b :: r, i, T => boxesBy l r (i + 1) (boxBy l b i T)
def textR (l : List Vr) (boxes : List Bx) : ByteArray × Int :=
  if checkBoxesR l boxes ≠ 0 then (⟨#[]⟩, checkBoxesR l boxes) else if boxes.isEmpty then (⟨#[102, 97, 108, 115, 101]⟩, 0) else (⟨(boxesBy l boxes 0 []).toArray⟩, 0)
theorem bsize_append (a b : ByteArray) : (a ++ b).size = a.size + b.size := ByteArray.size_append
theorem litTx_size {l : List Vr} {x : Lit} (hx : x.var < l.length) (hnm : ∀ v ∈ l, v.name.size ≤ 1000) (hlo : i64B x.lo) (hhi : i64B x.hi) : 3 ≤ (litTx l x).size ∧ (litTx l x).size ≤ 1025 := by
  have hsl := itoaB_size hlo.1 hlo.2
  have hsh := itoaB_size hhi.1 hhi.2
  have hv : l[x.var]? = some l[x.var] := List.getElem?_eq_getElem hx
  have := hnm _ (List.getElem_mem hx)
  have e1 : strEq.size = 3 := rfl
  have e2 : strLe.size = 4 := rfl
  unfold litTx
  simp only [hv]
  split
  · split
    · rw [bsize_append, bsize_append]; omega
    · rw [bsize_append, bsize_append]; omega
  · rw [bsize_append, bsize_append]; omega
theorem chkV_lits {l : List Vr} {i : Nat} {ls hs : List Int} {n : Nat} (hn : i + l.length ≤ n) (h : chkV l ls hs = 0) (hb : ∀ v ∈ l, -65536 ≤ v.low ∧ v.high ≤ 65536) : ∀ x ∈ litsR l i ls hs, x.var < n ∧ (-65536 ≤ x.lo ∧ x.lo ≤ 65536) ∧ -65536 ≤ x.hi ∧ x.hi ≤ 65536 := by
  induction l generalizing i ls hs with
  | nil => intro x hx; simp [litsR] at hx
  | cons v r ih =>
    cases ls with
    | nil => intro x hx; simp [litsR] at hx
    | cons lo ls =>
      cases hs with
      | nil => intro x hx; simp [litsR] at hx
      | cons hi hs =>
        simp only [chkV] at h
        split at h
        · cases h
        rename_i hc
        have hvb := hb v (by simp)
        simp only [List.length_cons] at hn
        intro x hx
        simp only [litsR, List.mem_append] at hx
        rcases hx with hx | hx
        · have hx' : x.var = i ∧ x.lo = lo ∧ x.hi = hi := by
            unfold litsV at hx
            split at hx
            · simp at hx
            · split at hx
              · rw [List.mem_singleton.1 hx]; exact ⟨rfl, rfl, rfl⟩
              · rw [List.mem_append] at hx
                rcases hx with hx | hx
                · split at hx
                  · rw [List.mem_singleton.1 hx]; exact ⟨rfl, rfl, rfl⟩
                  · simp at hx
                · split at hx
                  · rw [List.mem_singleton.1 hx]; exact ⟨rfl, rfl, rfl⟩
                  · simp at hx
          obtain ⟨e1, e2, e3⟩ := hx'
          omega
        · exact ih (i := i + 1) (by omega) h (fun v hv => hb v (by simp [hv])) x hx
abbrev dpD (p : Bool) : D := bif p then .own 0 7 0 0 else .i (.v (.pointer none))
theorem dpD_or (p : Bool) : dpD p = .i (.v (.pointer none)) ∨ dpD p = .own 0 7 0 0 := by cases p; exact .inl rfl; exact .inr rfl
set_option maxHeartbeats 4000000 in
theorem text40 {g : Nat} (hg : IsTab g) {ty : TypeId} {fr : Nat × Nat} (O : List Heap) (l : List Vr) (boxes : List Bx) (hl : l.length ≤ max63) (hn : ∀ v ∈ l, v.name.size ≤ 1000) (hbl : boxes.length ≤ 4096) : ASpecT g (ptab ty fr) Tryd.prog 40 [vrs l, bxs boxes] O (.tup [.i (.v (.string (textR l boxes).1)), ii (textR l boxes).2]) [] O := by
  have hck := fun O => checkBoxes89 O l boxes hl (fun v hv => Nat.le_trans (hn v hv) (by decide)) (by simp only [max63]; omega)
  have hok := @checkBoxes_ok l boxes
  generalize hR : textR l boxes = R
  unfold textR at hR
  generalize checkBoxesR l boxes = e at *
  by_cases h1 : e ≠ 0
  · rw [if_pos h1] at hR
    subst hR
    refine aspecT_stop [] Tk Tryd.func40 rfl Tryd.call40 Tryd.ntmps40 (Nat.le_of_ble_eq_true rfl) fun E hE => ?_
    refine g_run Tk Tryd.func40 ?_
    first | refine g_call Tk Tryd.func40 (hck _) rfl rfl rfl rfl rfl ?_ | refine s_callq Tk (fun _ => hck _) rfl rfl rfl ?_
    first | refine g_cnd Tk Tryd.func40 rfl (fun h2 => ?_) (fun h2 => ?_) | refine g_know Tk Tryd.func40 rfl (fun h2 => ?_) (fun h2 => ?_) | refine s_know Tk (fun h2 => ?_) (fun h2 => ?_)
    rotate_left
    · exact absurd (bneF h2) h1
    refine g_ret Tk (r := .tup [.i (.v (.string ⟨#[]⟩)), ii e]) rfl rfl rfl trivial rfl rfl ?_
    rfl
  rw [if_neg h1] at hR
  have h1 : e = 0 := by simpa using h1
  subst h1
  obtain ⟨hd, hb⟩ := hok rfl
  have hl16 := hd.len
  by_cases he : boxes = []
  · subst he
    have hR : ((⟨#[102, 97, 108, 115, 101]⟩ : ByteArray), (0 : Int)) = R := hR
    subst hR
    refine aspecT_stop [] Tk Tryd.func40 rfl Tryd.call40 Tryd.ntmps40 (Nat.le_of_ble_eq_true rfl) fun E hE => ?_
    refine g_run Tk Tryd.func40 ?_
    first | refine g_call Tk Tryd.func40 (hck _) rfl rfl rfl rfl rfl ?_ | refine s_callq Tk (fun _ => hck _) rfl rfl rfl ?_
    repeat (first | refine g_cnd Tk Tryd.func40 rfl (fun _ => ?_) (fun h => absurd h (by decide)) | refine g_know Tk Tryd.func40 rfl (fun _ => ?_) (fun h => absurd h (by decide)) | refine s_know Tk (fun _ => ?_) (fun h => absurd h (by decide)) | refine g_cnd Tk Tryd.func40 rfl (fun h => absurd h (by decide)) (fun _ => ?_) | refine g_know Tk Tryd.func40 rfl (fun h => absurd h (by decide)) (fun _ => ?_) | refine s_know Tk (fun h => absurd h (by decide)) (fun _ => ?_) | refine g_cnd Tk Tryd.func40 rfl (fun _ => ?_) (fun h => absurd (show true = false from h) (by decide)) | refine g_know Tk Tryd.func40 rfl (fun _ => ?_) (fun h => absurd (show true = false from h) (by decide)) | refine s_know Tk (fun _ => ?_) (fun h => absurd (show true = false from h) (by decide)) | refine g_cnd Tk Tryd.func40 rfl (fun h => absurd (show false = true from h) (by decide)) (fun _ => ?_) | refine g_know Tk Tryd.func40 rfl (fun h => absurd (show false = true from h) (by decide)) (fun _ => ?_) | refine s_know Tk (fun h => absurd (show false = true from h) (by decide)) (fun _ => ?_))
    refine g_ret Tk (r := .tup [.i (.v (.string ⟨#[102, 97, 108, 115, 101]⟩)), ii 0]) rfl rfl rfl trivial rfl rfl ?_
    rfl
  rw [if_neg (by simpa using he)] at hR
  have hpos : 0 < boxes.length := List.length_pos_iff.2 he
  have hT0 : boxesBy l boxes 0 [] = boxesBy l (boxes.drop 0) 0 [] := rfl
  generalize boxesBy l boxes 0 [] = TX at *
  refine aspecT_stop [200007, 200031, 200038, 200048, 200052, 200055, 12, 20] Tk Tryd.func40 rfl Tryd.call40 Tryd.ntmps40 (Nat.le_of_ble_eq_true rfl) fun E hE => ?_
  refine g_run Tk Tryd.func40 ?_
  first | refine g_call Tk Tryd.func40 (hck _) rfl rfl rfl rfl rfl ?_ | refine s_callq Tk (fun _ => hck _) rfl rfl rfl ?_
  repeat (first | refine g_cnd Tk Tryd.func40 rfl (fun _ => ?_) (fun h => absurd h (by decide)) | refine g_know Tk Tryd.func40 rfl (fun _ => ?_) (fun h => absurd h (by decide)) | refine s_know Tk (fun _ => ?_) (fun h => absurd h (by decide)) | refine g_cnd Tk Tryd.func40 rfl (fun h => absurd h (by decide)) (fun _ => ?_) | refine g_know Tk Tryd.func40 rfl (fun h => absurd h (by decide)) (fun _ => ?_) | refine s_know Tk (fun h => absurd h (by decide)) (fun _ => ?_) | refine g_cnd Tk Tryd.func40 rfl (fun _ => ?_) (fun h => absurd (show true = false from h) (by decide)) | refine g_know Tk Tryd.func40 rfl (fun _ => ?_) (fun h => absurd (show true = false from h) (by decide)) | refine s_know Tk (fun _ => ?_) (fun h => absurd (show true = false from h) (by decide)) | refine g_cnd Tk Tryd.func40 rfl (fun h => absurd (show false = true from h) (by decide)) (fun _ => ?_) | refine g_know Tk Tryd.func40 rfl (fun h => absurd (show false = true from h) (by decide)) (fun _ => ?_) | refine s_know Tk (fun h => absurd (show false = true from h) (by decide)) (fun _ => ?_))
  first | refine g_cnd Tk Tryd.func40 rfl (fun g0 => ?_) (fun g0 => ?_) | refine g_know Tk Tryd.func40 rfl (fun g0 => ?_) (fun g0 => ?_) | refine s_know Tk (fun g0 => ?_) (fun g0 => ?_)
  · have := beqT g0
    omega
  clear g0
  refine g_tb Tk Tryd.func40 rfl rfl rfl rfl rfl rfl rfl rfl ?_
  refine g_loop ?_
  refine rch_wk (wk_niltb 7 60 5 1 rfl rfl rfl) ?_
  refine rch_loop2 (fun x : Nat × List UInt8 × Bool => [(0, vrs l), (7, .own 0 7 0 0), (22, bxs boxes), (23, ii boxes.length), (24, ii x.1)]) (fun x => [(7, .tb 168 [dpD x.2.2, .osl 0 60]), (60, oby x.2.1)]) (fun _ => O) 56
    (fun x => x.1 ≤ boxes.length ∧ x.2.1.length ≤ 40000 * x.1 ∧ (x.1 = 0 ∨ x.2.1 ≠ []) ∧ boxesBy l (boxes.drop x.1) x.1 x.2.1 = TX) (fun x => boxes.length - x.1) (0, [], false)
    ⟨Nat.zero_le _, by simp, .inl rfl, hT0.symm⟩ ⟨rfl, rfl, rfl, rfl, rfl, trivial⟩ rfl ⟨rfl, rfl, trivial⟩ rfl rfl ?_
  clear hT0
  rintro ⟨i, T, p⟩ ⟨hi, hTl, hT0, hno⟩ ih
  simp only at hi hTl hT0 hno
  refine g_run Tk Tryd.func40 ?_
  first | refine g_cnd Tk Tryd.func40 rfl (fun g1 => ?_) (fun g1 => ?_) | refine g_know Tk Tryd.func40 rfl (fun g1 => ?_) (fun g1 => ?_) | refine s_know Tk (fun g1 => ?_) (fun g1 => ?_)
  · have h2 : i < boxes.length := by simpa using g1
    clear g1
    have gb : (boxes.map bxI)[(i : Int).toNat]? = some (bxI boxes[i]) := get_mapZ h2
    have db : boxes.drop i = boxes[i] :: boxes.drop (i + 1) := List.drop_eq_getElem_cons h2
    have hbs := hb _ (List.getElem_mem h2)
    rw [db] at hno
    simp only [boxesBy, boxBy] at hno
    clear db
    have hli := fun O => literals91 O l boxes[i] hbs.1 hbs.2.1 hl16
    have hll : (boxes[i].lits l).length ≤ 2 * l.length := lits_len l 0 boxes[i].low boxes[i].high
    have hlx := chkV_lits (i := 0) (n := l.length) (by omega) hbs.2.2 (fun v hv => (hd.b v hv).1)
    have hly : ∀ x ∈ boxes[i].lits l, x.var < l.length ∧ (-65536 ≤ x.lo ∧ x.lo ≤ 65536) ∧ -65536 ≤ x.hi ∧ x.hi ≤ 65536 := hlx
    clear hlx
    generalize boxes[i] = b at *
    generalize b.lits l = L at *
    obtain ⟨lo, hi2⟩ := b
    have hi1 : ii (IntKind.i64.wrap ((i : Int) + 1)) = ii ((i + 1 : Nat) : Int) := congrArg ii (wsucc (n := 4096) (by omega) (by decide))
    first | refine g_need Tk Tryd.func40 (by exact ⟨by omega, by show (i : Int) < (boxes.length : Int); omega⟩) ?_ | refine s_need Tk (by exact ⟨by omega, by show (i : Int) < (boxes.length : Int); omega⟩) ?_
    first | refine g_elem Tk Tryd.func40 (gb) ?_ | refine s_elem Tk (gb) ?_
    generalize hT1 : T ++ (if i > 0 then orB else []) = T1 at *
    have hT1l : T1.length ≤ T.length + 4 := by
      rw [← hT1, List.length_append]
      split <;> simp [orB]
    apply join_q (P := fun _ : Bool => True) (s6 := fun p => { σ := [(0, vrs l), (7, .own 0 7 0 0), (22, bxs boxes), (23, ii boxes.length), (24, ii i), (9, .own 0 9 0 0)], S := [(7, .tb 168 [dpD p, .osl 0 60]), (60, oby T1), (9, .box [ints lo, ints hi2])] :: O, n := 56 })
    · intro J
      first | refine g_cnd Tk Tryd.func40 rfl (fun c1 => ?_) (fun c1 => ?_) | refine g_know Tk Tryd.func40 rfl (fun c1 => ?_) (fun c1 => ?_) | refine s_know Tk (fun c1 => ?_) (fun c1 => ?_)
      · have c1 : 0 < i := by have := of_decide_eq_true c1; omega
        rw [if_pos c1] at hT1
        refine g_callP Tk Tryd.func40 rfl rfl rfl rfl (does_ws rfl ⟨#[32, 111, 114, 32]⟩ T (dpD_or p) (by show T.length + 4 ≤ _; omega) rfl (show 31 < 56 by decide) rfl rfl rfl (by decide)) ?_
        refine g_stop ?_
        refine rch_meet (J true trivial) ⟨rfl, rfl, rfl, rfl, rfl, rfl, trivial⟩ rfl ⟨rfl, by rw [← hT1]; rfl, rfl, trivial⟩ rfl rfl
      · have c1 : ¬ 0 < i := by have := of_decide_eq_false c1; omega
        rw [if_neg c1, List.append_nil] at hT1
        refine g_stop ?_
        refine rch_meet (J p trivial) ⟨rfl, rfl, rfl, rfl, rfl, rfl, trivial⟩ rfl ⟨rfl, by rw [← hT1]; rfl, rfl, trivial⟩ (by cases p <;> rfl) rfl
    · rintro p2 -
      refine g_run Tk Tryd.func40 ?_
      refine g_go Tk Tryd.func40 ?_
      first | refine g_call Tk Tryd.func40 (hli _) rfl rfl rfl rfl rfl ?_ | refine s_callq Tk (fun _ => hli _) rfl rfl rfl ?_
      cases hL : L with
      | nil =>
        rw [hL] at hno
        simp only [List.isEmpty_nil, if_true] at hno
        repeat (first | refine g_cnd Tk Tryd.func40 rfl (fun _ => ?_) (fun h => absurd h (by decide)) | refine g_know Tk Tryd.func40 rfl (fun _ => ?_) (fun h => absurd h (by decide)) | refine s_know Tk (fun _ => ?_) (fun h => absurd h (by decide)) | refine g_cnd Tk Tryd.func40 rfl (fun h => absurd h (by decide)) (fun _ => ?_) | refine g_know Tk Tryd.func40 rfl (fun h => absurd h (by decide)) (fun _ => ?_) | refine s_know Tk (fun h => absurd h (by decide)) (fun _ => ?_) | refine g_cnd Tk Tryd.func40 rfl (fun _ => ?_) (fun h => absurd (show true = false from h) (by decide)) | refine g_know Tk Tryd.func40 rfl (fun _ => ?_) (fun h => absurd (show true = false from h) (by decide)) | refine s_know Tk (fun _ => ?_) (fun h => absurd (show true = false from h) (by decide)) | refine g_cnd Tk Tryd.func40 rfl (fun h => absurd (show false = true from h) (by decide)) (fun _ => ?_) | refine g_know Tk Tryd.func40 rfl (fun h => absurd (show false = true from h) (by decide)) (fun _ => ?_) | refine s_know Tk (fun h => absurd (show false = true from h) (by decide)) (fun _ => ?_))
        refine g_callP Tk Tryd.func40 rfl rfl rfl rfl (does_ws rfl ⟨#[116, 114, 117, 101]⟩ T1 (dpD_or p2) (by show T1.length + 4 ≤ _; omega) rfl (show 38 < 56 by decide) rfl rfl rfl (by decide)) ?_
        refine g_loop ?_
        refine g_run Tk Tryd.func40 ?_
        repeat (first | refine g_cnd Tk Tryd.func40 rfl (fun _ => ?_) (fun h => absurd h (by decide)) | refine g_know Tk Tryd.func40 rfl (fun _ => ?_) (fun h => absurd h (by decide)) | refine s_know Tk (fun _ => ?_) (fun h => absurd h (by decide)) | refine g_cnd Tk Tryd.func40 rfl (fun h => absurd h (by decide)) (fun _ => ?_) | refine g_know Tk Tryd.func40 rfl (fun h => absurd h (by decide)) (fun _ => ?_) | refine s_know Tk (fun h => absurd h (by decide)) (fun _ => ?_) | refine g_cnd Tk Tryd.func40 rfl (fun _ => ?_) (fun h => absurd (show true = false from h) (by decide)) | refine g_know Tk Tryd.func40 rfl (fun _ => ?_) (fun h => absurd (show true = false from h) (by decide)) | refine s_know Tk (fun _ => ?_) (fun h => absurd (show true = false from h) (by decide)) | refine g_cnd Tk Tryd.func40 rfl (fun h => absurd (show false = true from h) (by decide)) (fun _ => ?_) | refine g_know Tk Tryd.func40 rfl (fun h => absurd (show false = true from h) (by decide)) (fun _ => ?_) | refine s_know Tk (fun h => absurd (show false = true from h) (by decide)) (fun _ => ?_))
        refine g_loop ?_
        refine ih (i + 1, T1 ++ trueB, true) _ _ ⟨h2, by simp only [List.length_append]; show T1.length + 4 ≤ _; omega, .inr (by simp [trueB]), hno⟩ (by simp only; omega) ⟨rfl, rfl, rfl, rfl, hi1, trivial⟩ rfl ⟨rfl, rfl, trivial⟩ rfl rfl
      | cons x0 r0 =>
        have hne : L ≠ [] := by rw [hL]; simp
        have hie : ¬ L.isEmpty = true := by rw [hL]; simp
        rw [if_neg hie] at hno
        rw [← hL]
        have hpos2 : 0 < L.length := List.length_pos_iff.2 hne
        clear hL
        first | refine g_cnd Tk Tryd.func40 rfl (fun c2 => ?_) (fun c2 => ?_) | refine g_know Tk Tryd.func40 rfl (fun c2 => ?_) (fun c2 => ?_) | refine s_know Tk (fun c2 => ?_) (fun c2 => ?_)
        · have := beqT c2
          omega
        clear c2
        have hF0 : litsBy l L 0 T1 = litsBy l (L.drop 0) 0 T1 := rfl
        generalize litsBy l L 0 T1 = F at *
        refine g_loop ?_
        refine rch_loop2 (fun x : Nat × List UInt8 × Bool => [(0, vrs l), (7, .own 0 7 0 0), (22, bxs boxes), (23, ii boxes.length), (24, ii i), (39, litsD L), (40, ii L.length), (41, ii x.1)]) (fun x => [(7, .tb 168 [dpD x.2.2, .osl 0 60]), (60, oby x.2.1)]) (fun _ => O) 56
          (fun x => x.1 ≤ L.length ∧ x.2.1.length ≤ T1.length + 1100 * x.1 ∧ (x.1 = 0 ∨ x.2.1 ≠ []) ∧ F = litsBy l (L.drop x.1) x.1 x.2.1) (fun x => L.length - x.1) (0, T1, p2)
          ⟨Nat.zero_le _, by simp, .inl rfl, hF0⟩ ⟨rfl, rfl, rfl, rfl, rfl, rfl, rfl, rfl, trivial⟩ rfl ⟨rfl, rfl, trivial⟩ (by cases p2 <;> rfl) rfl ?_
        clear hF0
        rintro ⟨k, U, q⟩ ⟨hk, hUl, hU0, hF⟩ ih2
        simp only at hk hUl hU0 hF
        refine g_run Tk Tryd.func40 ?_
        first | refine g_cnd Tk Tryd.func40 rfl (fun g2 => ?_) (fun g2 => ?_) | refine g_know Tk Tryd.func40 rfl (fun g2 => ?_) (fun g2 => ?_) | refine s_know Tk (fun g2 => ?_) (fun g2 => ?_)
        · have h3 : k < L.length := by simpa using g2
          clear g2
          have gl : (L.map litI)[(k : Int).toNat]? = some (litI L[k]) := get_mapZ h3
          have dl : L.drop k = L[k] :: L.drop (k + 1) := List.drop_eq_getElem_cons h3
          have hx := hly _ (List.getElem_mem h3)
          rw [dl] at hF
          simp only [litsBy] at hF
          clear dl
          generalize L[k] = x at *
          have hxs := litTx_size hx.1 hn ⟨by omega, by omega⟩ ⟨by omega, by omega⟩
          have hlt := fun O => litText92 hg (ty := ty) (fr := fr) O l x hx.1 hn ⟨by omega, by omega⟩ ⟨by omega, by omega⟩
          generalize litTx l x = W at *
          obtain ⟨xv, xlo, xhi, xf, xt⟩ := x
          have hk1 : ii (IntKind.i64.wrap ((k : Int) + 1)) = ii ((k + 1 : Nat) : Int) := congrArg ii (wsucc (n := 4096) (by omega) (by decide))
          first | refine g_need Tk Tryd.func40 (by exact ⟨by omega, by show (k : Int) < (L.length : Int); omega⟩) ?_ | refine s_need Tk (by exact ⟨by omega, by show (k : Int) < (L.length : Int); omega⟩) ?_
          first | refine g_elem Tk Tryd.func40 (gl) ?_ | refine s_elem Tk (gl) ?_
          generalize hU1 : U ++ (if k > 0 then andB else []) = U1 at *
          have hU1l : U1.length ≤ U.length + 5 := by
            rw [← hU1, List.length_append]
            split <;> simp [andB]
          apply join_q (P := fun _ : Bool => True) (s6 := fun p => { σ := [(0, vrs l), (7, .own 0 7 0 0), (22, bxs boxes), (23, ii boxes.length), (24, ii i), (12, .own 0 12 0 0), (39, litsD L), (40, ii L.length), (41, ii k)], S := [(7, .tb 168 [dpD p, .osl 0 60]), (60, oby U1), (12, .box [ii (xv : Int), ii xlo, ii xhi, bb xf, bb xt])] :: O, n := 56 })
          · intro J
            first | refine g_cnd Tk Tryd.func40 rfl (fun c1 => ?_) (fun c1 => ?_) | refine g_know Tk Tryd.func40 rfl (fun c1 => ?_) (fun c1 => ?_) | refine s_know Tk (fun c1 => ?_) (fun c1 => ?_)
            · have c1 : 0 < k := by have := of_decide_eq_true c1; omega
              rw [if_pos c1] at hU1
              refine g_callP Tk Tryd.func40 rfl rfl rfl rfl (does_ws rfl ⟨#[32, 97, 110, 100, 32]⟩ U (dpD_or q) (by show U.length + 5 ≤ _; omega) rfl (show 48 < 56 by decide) rfl rfl rfl (by decide)) ?_
              refine g_stop ?_
              refine rch_meet (J true trivial) ⟨rfl, rfl, rfl, rfl, rfl, rfl, rfl, rfl, rfl, trivial⟩ rfl ⟨rfl, by rw [← hU1]; rfl, rfl, trivial⟩ rfl rfl
            · have c1 : ¬ 0 < k := by have := of_decide_eq_false c1; omega
              rw [if_neg c1, List.append_nil] at hU1
              refine g_stop ?_
              refine rch_meet (J q trivial) ⟨rfl, rfl, rfl, rfl, rfl, rfl, rfl, rfl, rfl, trivial⟩ rfl ⟨rfl, by rw [← hU1]; rfl, rfl, trivial⟩ (by cases q <;> rfl) rfl
          · rintro q2 -
            refine g_run Tk Tryd.func40 ?_
            refine g_go Tk Tryd.func40 ?_
            refine g_callT Tk Tryd.func40 hE (hlt _) rfl rfl rfl rfl rfl rfl ?_
            refine g_callP Tk Tryd.func40 rfl rfl rfl rfl (does_ws rfl W U1 (dpD_or q2) (by omega) rfl (show 52 < 56 by decide) rfl rfl rfl (by decide)) ?_
            refine g_loop ?_
            refine ih2 (k + 1, U1 ++ W.data.toList, true) _ _ ⟨h3, by simp only [List.length_append, size_list]; omega, .inr fun e => ?_, hF⟩ (by simp only; omega) ⟨rfl, rfl, rfl, rfl, rfl, rfl, rfl, hk1, trivial⟩ rfl ⟨rfl, rfl, trivial⟩ rfl rfl
            have := congrArg List.length e
            simp only [List.length_append, size_list, List.length_nil] at this
            omega
        · have h3 : L.length ≤ k := by simpa using g2
          rw [List.drop_eq_nil_of_le h3] at hF
          simp only [litsBy] at hF
          rw [hF] at hno
          refine g_loop ?_
          exact ih (i + 1, U, q) _ _ ⟨h2, by simp only; omega, hU0.imp (fun e => by omega) id, hno⟩ (by simp only; omega) ⟨rfl, rfl, rfl, rfl, hi1, trivial⟩ rfl ⟨rfl, rfl, trivial⟩ (by cases q <;> rfl) rfl
  · have h2 : boxes.length ≤ i := by simpa using g1
    rw [List.drop_eq_nil_of_le h2] at hno
    simp only [boxesBy] at hno
    subst hno
    have hT0 : T ≠ [] := hT0.resolve_left (by omega)
    refine g_callP Tk Tryd.func40 rfl rfl rfl rfl (does_bs rfl hT0 rfl (show 55 < 56 by decide) rfl rfl rfl) ?_
    subst hR
    refine g_ret Tk (r := .tup [.i (.v (.string ⟨T.toArray⟩)), ii 0]) rfl rfl rfl trivial rfl rfl ?_
    rfl
end Go.AI


/- The examples of the chapter on guards. -/
namespace Go.AI
open Go.Proofs
set_option maxRecDepth 20000
def cmpE (op v n : Int) : Ex := .mk op 0 0 [.mk 1 0 v [], .mk 0 n 0 []]
def twoV : List Vr := [⟨⟨#[120]⟩, 0, 3, 0⟩, ⟨⟨#[121]⟩, 0, 1, 0⟩]
def xE : Ex := .mk 12 0 0 [cmpE 8 0 2, cmpE 6 1 1]
theorem compare69 (O : List Heap) (op v n : Int) : ASpec Tryd.prog 69 [ii op, ii v, ii n] O (exA (cmpE op v n)) [] O := by
  refine aspec_intro Tk Tryd.func69 rfl Tryd.call69 Tryd.ntmps69 (Nat.le_of_ble_eq_true rfl) fun E => ?_
  refine g_run Tk Tryd.func69 ?_
  refine g_ret_co Tk (r := _) rfl rfl rfl trivial rfl rfl ?_
  show CoD _ (.agg [ii op, ii 0, ii 0, .i (.sl 4 2 [[vi 1, vi 0, vi v, .sl 4 0 []], [vi 0, vi n, vi 0, .sl 4 0 []]])])
  repeat' (first | refine coD_tup ?_ | refine coD_agg ?_ | refine coD_i ?_ | refine CoDL.cons ?_ ?_ | exact CoDL.nil | exact coI_nil | refine coI_sl ?_ | refine CoLL.cons ?_ ?_ | exact CoLL.nil | refine CoL.cons ?_ ?_ | exact CoL.nil | exact CoI.refl _ | exact CoL.refl _ | exact CoLL.refl _ | exact CoDL.refl _ | exact CoD.refl _)
theorem two70 (O : List Heap) : ASpec Tryd.prog 70 [] O (vrs twoV) [] O := by
  refine aspec_intro Tk Tryd.func70 rfl Tryd.call70 Tryd.ntmps70 (Nat.le_of_ble_eq_true rfl) fun E => ?_
  refine g_run Tk Tryd.func70 ?_
  refine g_ret Tk (r := vrs twoV) rfl rfl rfl trivial rfl rfl ?_
  rfl
def tK : List Bool := [true, true, true, true, false, true, false, true]
def cK : List Bool := [true, true, true, true, true, true, true, true]
def bK : List Bx := [⟨[0, 0], [1, 1]⟩, ⟨[0, 1], [3, 1]⟩]
theorem known_t : tableG twoV xE = (tK, 0) := by kernel_rfl
theorem known_c : tableG twoV trueE = (cK, 0) := by kernel_rfl
theorem known_b : boxesG twoV tK cK = (bK, 0) := by kernel_rfl
theorem known_s : textR twoV bK = (⟨#[120, 32, 60, 61, 32, 49, 32, 111, 114, 32, 121, 32, 61, 32, 49]⟩, 0) := by kernel_rfl
theorem known_n : literalsR twoV bK = (2, 0) := by kernel_rfl
theorem known_i : cmpR (fun a b => a && !b) twoV (cmpE 8 0 3) (cmpE 8 0 2) = ([2, 0], false, 0) := by kernel_rfl
theorem known_y : simplR twoV xE (cmpE 6 1 1) = (trueE, 0) := by kernel_rfl
theorem exOk_cmp (op v n : Int) : exOk (cmpE op v n) := exOk_two (exOk_leaf _ _ _) (exOk_leaf _ _ _)
theorem exOk_xE : exOk xE := exOk_two (exOk_cmp _ _ _) (exOk_cmp _ _ _)
theorem two_len : twoV.length ≤ max63 := by decide
theorem two_nm : ∀ v ∈ twoV, v.name.size ≤ max63 := by
  intro v hv
  simp only [twoV, List.mem_cons, List.mem_nil_iff, or_false] at hv
  rcases hv with rfl | rfl <;> decide
theorem two_nm2 : ∀ v ∈ twoV, v.name.size ≤ 1000 := by
  intro v hv
  simp only [twoV, List.mem_cons, List.mem_nil_iff, or_false] at hv
  rcases hv with rfl | rfl <;> decide
theorem known15 {g : Nat} (hg : IsTab g) {ty : TypeId} {fr : Nat × Nat} (O : List Heap) : ASpecT g (ptab ty fr) Tryd.prog 15 [] O (bb true) [] O := by
  have ht := fun O => table31 O twoV xE two_len two_nm exOk_xE
  have hc := fun O => table31 O twoV trueE two_len two_nm exOk_true
  have hb := fun O => boxes19 O twoV tK cK two_len two_nm
  have hs := fun O => text40 hg (ty := ty) (fr := fr) O twoV bK two_len two_nm2 (by decide)
  have hn := fun O => literals41 O twoV bK two_len two_nm (by decide)
  have hi := fun O => implies34 O twoV (cmpE 8 0 3) (cmpE 8 0 2) two_len two_nm (exOk_cmp _ _ _) (exOk_cmp _ _ _)
  have hy := fun O => simplify24 O twoV xE (cmpE 6 1 1) two_len two_nm exOk_xE (exOk_cmp _ _ _)
  simp only [known_t] at ht
  simp only [known_c] at hc
  simp only [known_b] at hb
  simp only [known_s] at hs
  simp only [known_n] at hn
  simp only [known_i] at hi
  simp only [known_y] at hy
  have he := fun O => equal41 (SizeOf.sizeOf trueE + 1) trueE trueE (by omega) exOk_true O
  have hsi := fun O => sameInts36 O [2, 0] [2, 0] (by decide)
  refine aspecT_stop [] Tk Tryd.func15 rfl Tryd.call15 Tryd.ntmps15 (Nat.le_of_ble_eq_true rfl) fun E hE => ?_
  refine g_run Tk Tryd.func15 ?_
  first | refine g_call Tk Tryd.func15 (compare69 _ 8 0 2) rfl rfl rfl rfl rfl ?_ | refine s_callq Tk (fun _ => compare69 _ 8 0 2) rfl rfl rfl ?_
  first | refine g_call Tk Tryd.func15 (compare69 _ 6 1 1) rfl rfl rfl rfl rfl ?_ | refine s_callq Tk (fun _ => compare69 _ 6 1 1) rfl rfl rfl ?_
  refine g_drawn Tk Tryd.func15 mixedT rfl ?_
  first | refine g_call Tk Tryd.func15 (two70 _) rfl rfl rfl rfl rfl ?_ | refine s_callq Tk (fun _ => two70 _) rfl rfl rfl ?_
  first | refine g_call Tk Tryd.func15 (ht _) rfl rfl rfl rfl rfl ?_ | refine s_callq Tk (fun _ => ht _) rfl rfl rfl ?_
  refine e_done Tk Tryd.func15 (by kernel_rfl) ?_
  first | refine g_call Tk Tryd.func15 (two70 _) rfl rfl rfl rfl rfl ?_ | refine s_callq Tk (fun _ => two70 _) rfl rfl rfl ?_
  first | refine g_call Tk Tryd.func15 (true56A _) rfl rfl rfl rfl rfl ?_ | refine s_callq Tk (fun _ => true56A _) rfl rfl rfl ?_
  first | refine g_call Tk Tryd.func15 (hc _) rfl rfl rfl rfl rfl ?_ | refine s_callq Tk (fun _ => hc _) rfl rfl rfl ?_
  first | refine g_call Tk Tryd.func15 (two70 _) rfl rfl rfl rfl rfl ?_ | refine s_callq Tk (fun _ => two70 _) rfl rfl rfl ?_
  first | refine g_call Tk Tryd.func15 (hb _) rfl rfl rfl rfl rfl ?_ | refine s_callq Tk (fun _ => hb _) rfl rfl rfl ?_
  first | refine g_call Tk Tryd.func15 (two70 _) rfl rfl rfl rfl rfl ?_ | refine s_callq Tk (fun _ => two70 _) rfl rfl rfl ?_
  refine g_callT Tk Tryd.func15 hE (hs _) rfl rfl rfl rfl rfl rfl ?_
  first | refine g_call Tk Tryd.func15 (two70 _) rfl rfl rfl rfl rfl ?_ | refine s_callq Tk (fun _ => two70 _) rfl rfl rfl ?_
  first | refine g_call Tk Tryd.func15 (hn _) rfl rfl rfl rfl rfl ?_ | refine s_callq Tk (fun _ => hn _) rfl rfl rfl ?_
  first | refine g_call Tk Tryd.func15 (two70 _) rfl rfl rfl rfl rfl ?_ | refine s_callq Tk (fun _ => two70 _) rfl rfl rfl ?_
  first | refine g_call Tk Tryd.func15 (compare69 _ 8 0 3) rfl rfl rfl rfl rfl ?_ | refine s_callq Tk (fun _ => compare69 _ 8 0 3) rfl rfl rfl ?_
  first | refine g_call Tk Tryd.func15 (compare69 _ 8 0 2) rfl rfl rfl rfl rfl ?_ | refine s_callq Tk (fun _ => compare69 _ 8 0 2) rfl rfl rfl ?_
  first | refine g_call Tk Tryd.func15 (hi _) rfl rfl rfl rfl rfl ?_ | refine s_callq Tk (fun _ => hi _) rfl rfl rfl ?_
  refine g_drawn Tk Tryd.func15 mixedT rfl ?_
  first | refine g_call Tk Tryd.func15 (two70 _) rfl rfl rfl rfl rfl ?_ | refine s_callq Tk (fun _ => two70 _) rfl rfl rfl ?_
  first | refine g_call Tk Tryd.func15 (compare69 _ 6 1 1) rfl rfl rfl rfl rfl ?_ | refine s_callq Tk (fun _ => compare69 _ 6 1 1) rfl rfl rfl ?_
  first | refine g_call Tk Tryd.func15 (hy _) rfl rfl rfl rfl rfl ?_ | refine s_callq Tk (fun _ => hy _) rfl rfl rfl ?_
  refine s_put Tk rfl rfl rfl ?_
  refine e_done Tk Tryd.func15 (by kernel_rfl) ?_
  refine g_drawn Tk Tryd.func15 mixedT rfl ?_
  repeat (first | refine g_cnd Tk Tryd.func15 rfl (fun _ => ?_) (fun h => absurd h (by decide)) | refine g_know Tk Tryd.func15 rfl (fun _ => ?_) (fun h => absurd h (by decide)) | refine s_know Tk (fun _ => ?_) (fun h => absurd h (by decide)) | refine g_cnd Tk Tryd.func15 rfl (fun h => absurd h (by decide)) (fun _ => ?_) | refine g_know Tk Tryd.func15 rfl (fun h => absurd h (by decide)) (fun _ => ?_) | refine s_know Tk (fun h => absurd h (by decide)) (fun _ => ?_) | refine g_cnd Tk Tryd.func15 rfl (fun _ => ?_) (fun h => absurd (show true = false from h) (by decide)) | refine g_know Tk Tryd.func15 rfl (fun _ => ?_) (fun h => absurd (show true = false from h) (by decide)) | refine s_know Tk (fun _ => ?_) (fun h => absurd (show true = false from h) (by decide)) | refine g_cnd Tk Tryd.func15 rfl (fun h => absurd (show false = true from h) (by decide)) (fun _ => ?_) | refine g_know Tk Tryd.func15 rfl (fun h => absurd (show false = true from h) (by decide)) (fun _ => ?_) | refine s_know Tk (fun h => absurd (show false = true from h) (by decide)) (fun _ => ?_))
  first | refine g_cnd Tk Tryd.func15 rfl (fun hq => ?_) (fun hq => ?_) | refine g_know Tk Tryd.func15 rfl (fun hq => ?_) (fun hq => ?_) | refine s_know Tk (fun hq => ?_) (fun hq => ?_)
  rotate_left
  · exact absurd hq (by simp)
  repeat (first | refine g_cnd Tk Tryd.func15 rfl (fun _ => ?_) (fun h => absurd h (by decide)) | refine g_know Tk Tryd.func15 rfl (fun _ => ?_) (fun h => absurd h (by decide)) | refine s_know Tk (fun _ => ?_) (fun h => absurd h (by decide)) | refine g_cnd Tk Tryd.func15 rfl (fun h => absurd h (by decide)) (fun _ => ?_) | refine g_know Tk Tryd.func15 rfl (fun h => absurd h (by decide)) (fun _ => ?_) | refine s_know Tk (fun h => absurd h (by decide)) (fun _ => ?_) | refine g_cnd Tk Tryd.func15 rfl (fun _ => ?_) (fun h => absurd (show true = false from h) (by decide)) | refine g_know Tk Tryd.func15 rfl (fun _ => ?_) (fun h => absurd (show true = false from h) (by decide)) | refine s_know Tk (fun _ => ?_) (fun h => absurd (show true = false from h) (by decide)) | refine g_cnd Tk Tryd.func15 rfl (fun h => absurd (show false = true from h) (by decide)) (fun _ => ?_) | refine g_know Tk Tryd.func15 rfl (fun h => absurd (show false = true from h) (by decide)) (fun _ => ?_) | refine s_know Tk (fun h => absurd (show false = true from h) (by decide)) (fun _ => ?_))
  first | refine g_call Tk Tryd.func15 (hsi _) rfl rfl rfl rfl rfl ?_ | refine s_callq Tk (fun _ => hsi _) rfl rfl rfl ?_
  repeat (first | refine g_cnd Tk Tryd.func15 rfl (fun _ => ?_) (fun h => absurd h (by decide)) | refine g_know Tk Tryd.func15 rfl (fun _ => ?_) (fun h => absurd h (by decide)) | refine s_know Tk (fun _ => ?_) (fun h => absurd h (by decide)) | refine g_cnd Tk Tryd.func15 rfl (fun h => absurd h (by decide)) (fun _ => ?_) | refine g_know Tk Tryd.func15 rfl (fun h => absurd h (by decide)) (fun _ => ?_) | refine s_know Tk (fun h => absurd h (by decide)) (fun _ => ?_) | refine g_cnd Tk Tryd.func15 rfl (fun _ => ?_) (fun h => absurd (show true = false from h) (by decide)) | refine g_know Tk Tryd.func15 rfl (fun _ => ?_) (fun h => absurd (show true = false from h) (by decide)) | refine s_know Tk (fun _ => ?_) (fun h => absurd (show true = false from h) (by decide)) | refine g_cnd Tk Tryd.func15 rfl (fun h => absurd (show false = true from h) (by decide)) (fun _ => ?_) | refine g_know Tk Tryd.func15 rfl (fun h => absurd (show false = true from h) (by decide)) (fun _ => ?_) | refine s_know Tk (fun h => absurd (show false = true from h) (by decide)) (fun _ => ?_))
  first | refine g_call Tk Tryd.func15 (true56A _) rfl rfl rfl rfl rfl ?_ | refine s_callq Tk (fun _ => true56A _) rfl rfl rfl ?_
  first | refine g_call Tk Tryd.func15 (he _) rfl rfl rfl rfl rfl ?_ | refine s_callq Tk (fun _ => he _) rfl rfl rfl ?_
  refine e_done Tk Tryd.func15 (by kernel_rfl) ?_
  refine g_ret Tk (r := bb true) rfl rfl rfl trivial rfl rfl ?_
  rfl
end Go.AI


/- GuardBoxes. -/
namespace Go.AI
open Go.Proofs
set_option maxRecDepth 20000
end Go.AI


/- GuardCovers. -/
namespace Go.AI
open Go.Proofs
set_option maxRecDepth 20000
end Go.AI


/- GuardCompares. -/
namespace Go.AI
open Go.Proofs
set_option maxRecDepth 20000
theorem tblL_tabL {x : Ex} : ∀ {dom : List (List Int)} {acc : List Bool}, (tblL x dom acc).2 = true → tabL x dom acc = ((tblL x dom acc).1, 0)
  | [], acc, _ => rfl
  | v :: r, acc, h => by
    simp only [tblL, tabL] at h ⊢
    by_cases hc : (evalX x v).2 ≠ 0
    · rw [if_pos hc] at h; cases h
    · rw [if_neg hc] at h ⊢
      rw [if_neg hc]
      exact tblL_tabL h
theorem tblL_len {x : Ex} : ∀ {dom : List (List Int)} {acc : List Bool}, (tblL x dom acc).2 = true → (tblL x dom acc).1.length = acc.length + dom.length := fun {dom acc} h => by
  have h1 := tblL_tabL h
  have h2 := tabL_len (x := x) (dom := dom) (acc := acc) (by rw [h1])
  rw [h1] at h2
  exact h2
/-- The table of a guard that is right and does not overflow. -/
theorem tableR_fine {n : Int} {dom : List (List Int)} {x : Ex} (hc : checkX x n = (2, 0)) (h : (tblL x dom []).2 = true) : tableR n dom x = ((tblL x dom []).1, 0) := by
  unfold tableR
  rw [hc, if_neg (by decide), if_neg (by decide)]
  exact tblL_tabL h
end Go.AI


/- Digits. -/
namespace Go.AI
open Go.Proofs
set_option maxRecDepth 20000
end Go.AI


/- Literals with texts. -/
namespace Go.AI
open Go.Proofs
set_option maxRecDepth 20000
end Go.AI


/- The guard of boxes, with its text. -/
namespace Go.AI
open Go.Proofs
set_option maxRecDepth 20000
end Go.AI


/- Expr and Holds. -/
namespace Go.AI
open Go.Proofs
set_option maxRecDepth 20000
end Go.AI


/- The errors of functions with two guards. -/
namespace Go.AI
open Go.Proofs
set_option maxRecDepth 20000
theorem evalX_err {x : Ex} {v : List Int} (hc : (checkX x v.length).2 = 0) (hv : ∀ n ∈ v, -65536 ≤ n ∧ n ≤ 65536) : (evalX x v).2 = 0 ∨ (evalX x v).2 = 17 := by
  unfold evalX
  rw [if_neg (by simpa using hc), if_neg (by
    simp only [List.any_eq_true, not_exists, not_and]
    intro n hn
    have := hv n hn
    unfold largeB
    simp
    omega)]
  split
  · exact .inr rfl
  · exact .inl rfl
theorem tabL_err {x : Ex} : ∀ {dom : List (List Int)} {acc : List Bool}, (∀ v ∈ dom, (evalX x v).2 = 0 ∨ (evalX x v).2 = 17) → (tblL x dom acc).2 = false → (tabL x dom acc).2 = 17
  | [], acc, _, h => by cases h
  | v :: r, acc, hv, h => by
    simp only [tblL, tabL] at h ⊢
    by_cases hc : (evalX x v).2 ≠ 0
    · rw [if_pos hc]
      rcases hv v (by simp) with h1 | h1
      · exact absurd h1 hc
      · exact h1
    · rw [if_neg hc] at h ⊢
      exact tabL_err (fun w hw => hv w (by simp [hw])) h
theorem dom_vals {l : List Vr} (hd : domOk l) : ∀ v ∈ allV l, v.length = l.length ∧ ∀ n ∈ v, -65536 ≤ n ∧ n ≤ 65536 := fun v hv => ⟨allV_mem_len hv, fun n hn => by
  have hb := dom_bounds hd hv
  obtain ⟨j, hj, rfl⟩ := List.getElem_of_mem hn
  have := hb j
  rwa [List.getD_eq_getElem?_getD, List.getElem?_eq_getElem hj] at this⟩
theorem tableR_over {l : List Vr} (hd : domOk l) {x : Ex} (hc : checkX x l.length = (2, 0)) (h : (tblL x (allV l) []).2 = false) : (tableR l.length (allV l) x).2 = 17 := by
  unfold tableR
  rw [hc, if_neg (by decide), if_neg (by decide)]
  refine tabL_err (fun v hv => ?_) h
  have := dom_vals hd v hv
  exact evalX_err (by rw [this.1, hc]) this.2
abbrev rawC (l : List Vr) (x y : Ex) : List D := [.i (.sl 4 l.length (l.map vrI)), ii x.op, ii x.vl, ii x.ix, exs x.args, ii y.op, ii y.vl, ii y.ix, exs y.args]
set_option maxHeartbeats 4000000 in
theorem errs33 (O : List Heap) (l : List Vr) (x y : Ex) (hl : l.length ≤ max63) (hn : ∀ v ∈ l, v.name.size ≤ max63) (hx : exOk x) (hy : exOk y) (hd : domOk l) (hall : allG l = (allV l, 0)) (hxt : (tableR l.length (allV l) x).2 = 0) : ASpec Tryd.prog 33 [.agg (rawC l x y)] O (bb true) [] O := by
  have hck := fun O => check67A O y l.length hy
  have hty := fun O => table23 O l y hd hy
  have hsi := fun O => simplify24 O l x y hl hn hx hy
  have hix := fun O => implies34 O l x y hl hn hx hy
  have heq := fun O => equivalent35 O l x y hl hn hx hy
  have hfine := fun h => @tableR_over l hd y h
  have hdef : tableR l.length (allV l) y = if (checkX y l.length).2 ≠ 0 then ([], (checkX y l.length).2) else if (checkX y l.length).1 ≠ 2 then ([], 16) else tabL y (allV l) [] := rfl
  unfold simplR at hsi
  unfold cmpR at hix heq
  rw [hall] at hsi hix heq
  simp only [hxt, ne_eq, not_true_eq_false, if_false] at hsi hix heq
  generalize tableR l.length (allV l) y = TY at *
  generalize tableR l.length (allV l) x = TX at *
  generalize tblL y (allV l) [] = B at *
  generalize tabL y (allV l) [] = TL at *
  generalize checkX y l.length = K at *
  obtain ⟨kk, ke⟩ := K
  obtain ⟨bt, bf⟩ := B
  simp only at hck hty hdef hfine
  obtain ⟨xo, xv, xi, xa⟩ := x
  obtain ⟨yo, yv, yi, ya⟩ := y
  by_cases hgood : ke = 0 ∧ kk = 2 ∧ bf = true
  · obtain ⟨rfl, rfl, rfl⟩ := hgood
    refine aspec_intro Tk Tryd.func33 rfl Tryd.call33 Tryd.ntmps33 (Nat.le_of_ble_eq_true rfl) fun E => ?_
    refine g_run Tk Tryd.func33 ?_
    first | refine g_call Tk Tryd.func33 (hck _) rfl rfl rfl rfl rfl ?_ | refine s_callq Tk (fun _ => hck _) rfl rfl rfl ?_
    repeat (first | refine g_cnd Tk Tryd.func33 rfl (fun _ => ?_) (fun h => absurd h (by decide)) | refine g_know Tk Tryd.func33 rfl (fun _ => ?_) (fun h => absurd h (by decide)) | refine s_know Tk (fun _ => ?_) (fun h => absurd h (by decide)) | refine g_cnd Tk Tryd.func33 rfl (fun h => absurd h (by decide)) (fun _ => ?_) | refine g_know Tk Tryd.func33 rfl (fun h => absurd h (by decide)) (fun _ => ?_) | refine s_know Tk (fun h => absurd h (by decide)) (fun _ => ?_) | refine g_cnd Tk Tryd.func33 rfl (fun _ => ?_) (fun h => absurd (show true = false from h) (by decide)) | refine g_know Tk Tryd.func33 rfl (fun _ => ?_) (fun h => absurd (show true = false from h) (by decide)) | refine s_know Tk (fun _ => ?_) (fun h => absurd (show true = false from h) (by decide)) | refine g_cnd Tk Tryd.func33 rfl (fun h => absurd (show false = true from h) (by decide)) (fun _ => ?_) | refine g_know Tk Tryd.func33 rfl (fun h => absurd (show false = true from h) (by decide)) (fun _ => ?_) | refine s_know Tk (fun h => absurd (show false = true from h) (by decide)) (fun _ => ?_))
    first | refine g_call Tk Tryd.func33 (hty _) rfl rfl rfl rfl rfl ?_ | refine s_callq Tk (fun _ => hty _) rfl rfl rfl ?_
    repeat (first | refine g_cnd Tk Tryd.func33 rfl (fun _ => ?_) (fun h => absurd h (by decide)) | refine g_know Tk Tryd.func33 rfl (fun _ => ?_) (fun h => absurd h (by decide)) | refine s_know Tk (fun _ => ?_) (fun h => absurd h (by decide)) | refine g_cnd Tk Tryd.func33 rfl (fun h => absurd h (by decide)) (fun _ => ?_) | refine g_know Tk Tryd.func33 rfl (fun h => absurd h (by decide)) (fun _ => ?_) | refine s_know Tk (fun h => absurd h (by decide)) (fun _ => ?_) | refine g_cnd Tk Tryd.func33 rfl (fun _ => ?_) (fun h => absurd (show true = false from h) (by decide)) | refine g_know Tk Tryd.func33 rfl (fun _ => ?_) (fun h => absurd (show true = false from h) (by decide)) | refine s_know Tk (fun _ => ?_) (fun h => absurd (show true = false from h) (by decide)) | refine g_cnd Tk Tryd.func33 rfl (fun h => absurd (show false = true from h) (by decide)) (fun _ => ?_) | refine g_know Tk Tryd.func33 rfl (fun h => absurd (show false = true from h) (by decide)) (fun _ => ?_) | refine s_know Tk (fun h => absurd (show false = true from h) (by decide)) (fun _ => ?_))
    refine g_ret Tk (r := bb true) rfl rfl rfl trivial rfl rfl ?_
    rfl
  have hW : TY.2 ≠ 0 := by
    by_cases h1 : ke ≠ 0
    · rw [hdef, if_pos h1]; exact h1
    · by_cases h2 : kk ≠ 2
      · rw [hdef, if_neg h1, if_pos h2]; decide
      · have h1 : ke = 0 := by simpa using h1
        have h2 : kk = 2 := by simpa using h2
        have h3 : bf = false := by
          cases bf with
          | false => rfl
          | true => exact absurd ⟨h1, h2, rfl⟩ hgood
        rw [hfine (by rw [h1, h2]) h3]; decide
  simp only [hW, not_false_eq_true, if_true] at hsi hix heq
  refine aspec_stop [9] Tk Tryd.func33 rfl Tryd.call33 Tryd.ntmps33 (Nat.le_of_ble_eq_true rfl) fun E => ?_
  refine g_run Tk Tryd.func33 ?_
  first | refine g_call Tk Tryd.func33 (hck _) rfl rfl rfl rfl rfl ?_ | refine s_callq Tk (fun _ => hck _) rfl rfl rfl ?_
  apply join_p (P := True) (s6 := { σ := [(1, .own 0 1 0 0), (4, ii TY.2)], S := [(1, .box (rawC l (Ex.mk xo xv xi xa) (Ex.mk yo yv yi ya)))] :: O, n := 94 })
  · intro J
    first | refine g_cnd Tk Tryd.func33 rfl (fun h1 => ?_) (fun h1 => ?_) | refine g_know Tk Tryd.func33 rfl (fun h1 => ?_) (fun h1 => ?_) | refine s_know Tk (fun h1 => ?_) (fun h1 => ?_)
    · have h1 : ke = 0 := beqT h1
      subst h1
      first | refine g_cnd Tk Tryd.func33 rfl (fun h2 => ?_) (fun h2 => ?_) | refine g_know Tk Tryd.func33 rfl (fun h2 => ?_) (fun h2 => ?_) | refine s_know Tk (fun h2 => ?_) (fun h2 => ?_)
      · have h2 : kk ≠ 2 := bneT h2
        have e : TY.2 = 16 := by rw [hdef, if_neg (by simp), if_pos h2]
        repeat (first | refine g_cnd Tk Tryd.func33 rfl (fun _ => ?_) (fun h => absurd h (by decide)) | refine g_know Tk Tryd.func33 rfl (fun _ => ?_) (fun h => absurd h (by decide)) | refine s_know Tk (fun _ => ?_) (fun h => absurd h (by decide)) | refine g_cnd Tk Tryd.func33 rfl (fun h => absurd h (by decide)) (fun _ => ?_) | refine g_know Tk Tryd.func33 rfl (fun h => absurd h (by decide)) (fun _ => ?_) | refine s_know Tk (fun h => absurd h (by decide)) (fun _ => ?_) | refine g_cnd Tk Tryd.func33 rfl (fun _ => ?_) (fun h => absurd (show true = false from h) (by decide)) | refine g_know Tk Tryd.func33 rfl (fun _ => ?_) (fun h => absurd (show true = false from h) (by decide)) | refine s_know Tk (fun _ => ?_) (fun h => absurd (show true = false from h) (by decide)) | refine g_cnd Tk Tryd.func33 rfl (fun h => absurd (show false = true from h) (by decide)) (fun _ => ?_) | refine g_know Tk Tryd.func33 rfl (fun h => absurd (show false = true from h) (by decide)) (fun _ => ?_) | refine s_know Tk (fun h => absurd (show false = true from h) (by decide)) (fun _ => ?_))
        refine g_stop ?_
        refine rch_meet (J trivial) ⟨rfl, congrArg ii e.symm, trivial⟩ rfl ⟨rfl, trivial⟩ rfl rfl
      · have h2 : kk = 2 := bneF h2
        subst h2
        cases bf with
        | true => exact absurd ⟨rfl, rfl, rfl⟩ hgood
        | false =>
          have e : TY.2 = 17 := hfine rfl rfl
          repeat (first | refine g_cnd Tk Tryd.func33 rfl (fun _ => ?_) (fun h => absurd h (by decide)) | refine g_know Tk Tryd.func33 rfl (fun _ => ?_) (fun h => absurd h (by decide)) | refine s_know Tk (fun _ => ?_) (fun h => absurd h (by decide)) | refine g_cnd Tk Tryd.func33 rfl (fun h => absurd h (by decide)) (fun _ => ?_) | refine g_know Tk Tryd.func33 rfl (fun h => absurd h (by decide)) (fun _ => ?_) | refine s_know Tk (fun h => absurd h (by decide)) (fun _ => ?_) | refine g_cnd Tk Tryd.func33 rfl (fun _ => ?_) (fun h => absurd (show true = false from h) (by decide)) | refine g_know Tk Tryd.func33 rfl (fun _ => ?_) (fun h => absurd (show true = false from h) (by decide)) | refine s_know Tk (fun _ => ?_) (fun h => absurd (show true = false from h) (by decide)) | refine g_cnd Tk Tryd.func33 rfl (fun h => absurd (show false = true from h) (by decide)) (fun _ => ?_) | refine g_know Tk Tryd.func33 rfl (fun h => absurd (show false = true from h) (by decide)) (fun _ => ?_) | refine s_know Tk (fun h => absurd (show false = true from h) (by decide)) (fun _ => ?_))
          first | refine g_call Tk Tryd.func33 (hty _) rfl rfl rfl rfl rfl ?_ | refine s_callq Tk (fun _ => hty _) rfl rfl rfl ?_
          repeat (first | refine g_cnd Tk Tryd.func33 rfl (fun _ => ?_) (fun h => absurd h (by decide)) | refine g_know Tk Tryd.func33 rfl (fun _ => ?_) (fun h => absurd h (by decide)) | refine s_know Tk (fun _ => ?_) (fun h => absurd h (by decide)) | refine g_cnd Tk Tryd.func33 rfl (fun h => absurd h (by decide)) (fun _ => ?_) | refine g_know Tk Tryd.func33 rfl (fun h => absurd h (by decide)) (fun _ => ?_) | refine s_know Tk (fun h => absurd h (by decide)) (fun _ => ?_) | refine g_cnd Tk Tryd.func33 rfl (fun _ => ?_) (fun h => absurd (show true = false from h) (by decide)) | refine g_know Tk Tryd.func33 rfl (fun _ => ?_) (fun h => absurd (show true = false from h) (by decide)) | refine s_know Tk (fun _ => ?_) (fun h => absurd (show true = false from h) (by decide)) | refine g_cnd Tk Tryd.func33 rfl (fun h => absurd (show false = true from h) (by decide)) (fun _ => ?_) | refine g_know Tk Tryd.func33 rfl (fun h => absurd (show false = true from h) (by decide)) (fun _ => ?_) | refine s_know Tk (fun h => absurd (show false = true from h) (by decide)) (fun _ => ?_))
          refine g_stop ?_
          refine rch_meet (J trivial) ⟨rfl, congrArg ii e.symm, trivial⟩ rfl ⟨rfl, trivial⟩ rfl rfl
    · have h1 : ke ≠ 0 := beqF h1
      have e : TY.2 = ke := by rw [hdef, if_pos h1]
      repeat (first | refine g_cnd Tk Tryd.func33 rfl (fun _ => ?_) (fun h => absurd h (by decide)) | refine g_know Tk Tryd.func33 rfl (fun _ => ?_) (fun h => absurd h (by decide)) | refine s_know Tk (fun _ => ?_) (fun h => absurd h (by decide)) | refine g_cnd Tk Tryd.func33 rfl (fun h => absurd h (by decide)) (fun _ => ?_) | refine g_know Tk Tryd.func33 rfl (fun h => absurd h (by decide)) (fun _ => ?_) | refine s_know Tk (fun h => absurd h (by decide)) (fun _ => ?_) | refine g_cnd Tk Tryd.func33 rfl (fun _ => ?_) (fun h => absurd (show true = false from h) (by decide)) | refine g_know Tk Tryd.func33 rfl (fun _ => ?_) (fun h => absurd (show true = false from h) (by decide)) | refine s_know Tk (fun _ => ?_) (fun h => absurd (show true = false from h) (by decide)) | refine g_cnd Tk Tryd.func33 rfl (fun h => absurd (show false = true from h) (by decide)) (fun _ => ?_) | refine g_know Tk Tryd.func33 rfl (fun h => absurd (show false = true from h) (by decide)) (fun _ => ?_) | refine s_know Tk (fun h => absurd (show false = true from h) (by decide)) (fun _ => ?_))
      first | refine g_cnd Tk Tryd.func33 rfl (fun h3 => ?_) (fun h3 => ?_) | refine g_know Tk Tryd.func33 rfl (fun h3 => ?_) (fun h3 => ?_) | refine s_know Tk (fun h3 => ?_) (fun h3 => ?_)
      · exact absurd (beqT h3) h1
      refine g_stop ?_
      refine rch_meet (J trivial) ⟨rfl, congrArg ii e.symm, trivial⟩ rfl ⟨rfl, trivial⟩ rfl rfl
  · intro _
    obtain ⟨tt, W⟩ := TY
    simp only at hsi hix heq
    refine g_run Tk Tryd.func33 ?_
    refine g_go Tk Tryd.func33 ?_
    first | refine g_call Tk Tryd.func33 (hsi _) rfl rfl rfl rfl rfl ?_ | refine s_callq Tk (fun _ => hsi _) rfl rfl rfl ?_
    first | refine g_call Tk Tryd.func33 (hix _) rfl rfl rfl rfl rfl ?_ | refine s_callq Tk (fun _ => hix _) rfl rfl rfl ?_
    first | refine g_call Tk Tryd.func33 (heq _) rfl rfl rfl rfl rfl ?_ | refine s_callq Tk (fun _ => heq _) rfl rfl rfl ?_
    first | refine g_cnd Tk Tryd.func33 rfl (fun g1 => ?_) (fun g1 => ?_) | refine g_know Tk Tryd.func33 rfl (fun g1 => ?_) (fun g1 => ?_) | refine s_know Tk (fun g1 => ?_) (fun g1 => ?_)
    rotate_left
    · exact absurd rfl (beqF g1)
    repeat (first | refine g_cnd Tk Tryd.func33 rfl (fun _ => ?_) (fun h => absurd h (by decide)) | refine g_know Tk Tryd.func33 rfl (fun _ => ?_) (fun h => absurd h (by decide)) | refine s_know Tk (fun _ => ?_) (fun h => absurd h (by decide)) | refine g_cnd Tk Tryd.func33 rfl (fun h => absurd h (by decide)) (fun _ => ?_) | refine g_know Tk Tryd.func33 rfl (fun h => absurd h (by decide)) (fun _ => ?_) | refine s_know Tk (fun h => absurd h (by decide)) (fun _ => ?_) | refine g_cnd Tk Tryd.func33 rfl (fun _ => ?_) (fun h => absurd (show true = false from h) (by decide)) | refine g_know Tk Tryd.func33 rfl (fun _ => ?_) (fun h => absurd (show true = false from h) (by decide)) | refine s_know Tk (fun _ => ?_) (fun h => absurd (show true = false from h) (by decide)) | refine g_cnd Tk Tryd.func33 rfl (fun h => absurd (show false = true from h) (by decide)) (fun _ => ?_) | refine g_know Tk Tryd.func33 rfl (fun h => absurd (show false = true from h) (by decide)) (fun _ => ?_) | refine s_know Tk (fun h => absurd (show false = true from h) (by decide)) (fun _ => ?_))
    first | refine g_cnd Tk Tryd.func33 rfl (fun g2 => ?_) (fun g2 => ?_) | refine g_know Tk Tryd.func33 rfl (fun g2 => ?_) (fun g2 => ?_) | refine s_know Tk (fun g2 => ?_) (fun g2 => ?_)
    rotate_left
    · exact absurd rfl (beqF g2)
    repeat (first | refine g_cnd Tk Tryd.func33 rfl (fun _ => ?_) (fun h => absurd h (by decide)) | refine g_know Tk Tryd.func33 rfl (fun _ => ?_) (fun h => absurd h (by decide)) | refine s_know Tk (fun _ => ?_) (fun h => absurd h (by decide)) | refine g_cnd Tk Tryd.func33 rfl (fun h => absurd h (by decide)) (fun _ => ?_) | refine g_know Tk Tryd.func33 rfl (fun h => absurd h (by decide)) (fun _ => ?_) | refine s_know Tk (fun h => absurd h (by decide)) (fun _ => ?_) | refine g_cnd Tk Tryd.func33 rfl (fun _ => ?_) (fun h => absurd (show true = false from h) (by decide)) | refine g_know Tk Tryd.func33 rfl (fun _ => ?_) (fun h => absurd (show true = false from h) (by decide)) | refine s_know Tk (fun _ => ?_) (fun h => absurd (show true = false from h) (by decide)) | refine g_cnd Tk Tryd.func33 rfl (fun h => absurd (show false = true from h) (by decide)) (fun _ => ?_) | refine g_know Tk Tryd.func33 rfl (fun h => absurd (show false = true from h) (by decide)) (fun _ => ?_) | refine s_know Tk (fun h => absurd (show false = true from h) (by decide)) (fun _ => ?_))
    refine g_ret Tk (r := bb (W == W)) rfl rfl rfl trivial rfl rfl ?_
    simp
end Go.AI


/- Variables and two expressions as an argument: structs of any number of fields, expressions by induction on the fuel. -/
namespace Go.Proofs.YtonnakcgopcfnaaDoor
open Go.ChangeShapes Go.WideShapes Go.ChangeAt Go.RowKit Go.Deep Go.WideElems
set_option maxRecDepth 100000
section
variable {H : Type} {enc : TypeId × Value → H} {P : Program} {W : World}
/-- .. at less fuel than a bound. -/
def OpnB (enc : TypeId × Value → H) (P : Program) (W : World) (N : Nat) (t : TypeId) (R : List AI.I → Prop) : Prop :=
  ∀ n, n < N → ∀ cs x, DataW.trod enc P W 0 (fun _ => true) true n t cs = some x → ∃ is, AI.RepL (KW W) cs is ∧ R is
theorem Opn.b {t : TypeId} {R : List AI.I → Prop} (h : Opn enc P W t R) (N : Nat) : OpnB enc P W N t R := fun n _ cs x hx => h n cs x hx
theorem Opn.ofB {t : TypeId} {R : List AI.I → Prop} (h : ∀ N, OpnB enc P W N t R) : Opn enc P W t R := fun n cs x hx => h (n + 1) n (Nat.lt_succ_self n) cs x hx
theorem OpnB.less {t : TypeId} {R : List AI.I → Prop} {N : Nat} (h : OpnB enc P W (N + 1) t R) : OpnB enc P W N t R := fun n hn cs x hx => h n (by omega) cs x hx
theorem OpnB.turn {t : TypeId} {R R' : List AI.I → Prop} {N : Nat} (h : OpnB enc P W N t R) (hR : ∀ is, R is → R' is) : OpnB enc P W N t R' := fun n hn cs x hx => by
  obtain ⟨is, hr, h1⟩ := h n hn cs x hx
  exact ⟨is, hr, hR _ h1⟩
def AllP : List (List AI.I → Prop) → List (List AI.I) → Prop
  | [], [] => True
  | R :: Rs, a :: l => R a ∧ AllP Rs l
  | _, _ => False
def FldB (enc : TypeId × Value → H) (P : Program) (W : World) (N : Nat) : List Field → List (List AI.I → Prop) → Prop
  | [], [] => True
  | f :: fs, R :: Rs => OpnB enc P W N f.type R ∧ FldB enc P W N fs Rs
  | _, _ => False
def SeqB (P : Program) : Nat → List Field → Nat → Bool
  | o, [], n => o == n
  | o, f :: fs, n => f.offset == o && SeqB P (o + P.cellsOf f.type) fs n
theorem fields_rep {N n : Nat} (hn : n < N) {cs : List Value} : ∀ {fs : List Field} {Rs : List (List AI.I → Prop)} {o : Nat}, FldB enc P W N fs Rs → SeqB P o fs cs.length = true →
    (∀ f ∈ fs, ∃ y, DataW.trod enc P W 0 (fun _ => true) true n f.type ((cs.drop f.offset).take (P.cellsOf f.type)) = some y) → ∃ parts, AI.RepL (KW W) (cs.drop o) parts.flatten ∧ AllP Rs parts
  | [], [], o, _, hs, _ => by
    have : o = cs.length := by simpa [SeqB] using hs
    subst this
    exact ⟨[], by simpa using AI.RepL.nil, trivial⟩
  | f :: fs, R :: Rs, o, ⟨hf, hF⟩, hs, hx => by
    simp only [SeqB, Bool.and_eq_true, beq_iff_eq] at hs
    obtain ⟨rfl, hs⟩ := hs
    obtain ⟨y, hy⟩ := hx f (by simp)
    obtain ⟨a, ra, ha⟩ := hf n hn _ _ hy
    obtain ⟨parts, rp, hp⟩ := fields_rep hn hF hs fun g hg => hx g (by simp [hg])
    refine ⟨a :: parts, ?_, ha, hp⟩
    have e : cs.drop f.offset = (cs.drop f.offset).take (P.cellsOf f.type) ++ cs.drop (f.offset + P.cellsOf f.type) := by
      rw [← List.drop_drop, List.take_append_drop]
    rw [e, List.flatten_cons]
    exact repL_app ra rp
  | [], _ :: _, _, h, _, _ => h.elim
  | _ :: _, [], _, h, _, _ => h.elim
theorem opnB_struct {t : TypeId} {fs : Array Field} {Rs : List (List AI.I → Prop)} {N : Nat} (ht : P.underlying t = some (.struct fs)) (hs : SeqB P 0 fs.toList (P.cellsOf t) = true) (hf : FldB enc P W N fs.toList Rs) :
    OpnB enc P W (N + 1) t fun is => ∃ parts, is = parts.flatten ∧ AllP Rs parts := by
  intro n hn cs x h
  obtain ⟨xs, m, rfl, rfl, hl, hlen, hx⟩ := DataW.trod_struct ht h
  rw [← hl] at hs
  obtain ⟨parts, hr, hp⟩ := fields_rep (n := m) (by omega) hf hs fun f hfm => by
    obtain ⟨i, hi, e⟩ := List.mem_iff_getElem.1 hfm
    have h1 := hx i f (by rw [← e]; simp)
    rw [h1]
    have : i < xs.length := by rw [hlen]; simpa using hi
    exact ⟨xs[i], by simp [this]⟩
  exact ⟨_, by simpa using hr, parts, rfl, hp⟩
theorem opnB_slice {t e : TypeId} {z N : Nat} {R : List AI.I → Prop} (ht : P.underlying t = some (.slice e)) (hc : P.cellsOf e = z) (hz : 0 < z) (he : OpnB enc P W N e R) :
    OpnB enc P W (N + 1) t fun is => ∃ xs : List (List AI.I), is = [.sl z xs.length xs] ∧ (∀ d ∈ xs, R d) ∧ xs.length ≤ maxLen := by
  intro n hn cs x h
  rcases DataW.trod_slice ht h with ⟨rfl, _⟩ | ⟨a, len, cap, elems, rest, f, rfl, rfl, _, _, hle, hm, hlen, hel, hsp, _⟩
  · exact ⟨[.sl z 0 []], .cons .nil .nil, [], rfl, by simp, Nat.zero_le _⟩
  · rw [hc] at hel hsp
    have hx : ∀ i, i < len → ∃ cs' y, W.cells? 0 (a.add (i * z)) z = some cs' ∧ DataW.trod enc P W 0 (fun _ => true) true f e cs' = some y := fun i hi => by
      have h1 := hel i hi
      rw [List.getElem?_eq_getElem (by omega)] at h1
      obtain ⟨cs', h2, h3⟩ := Option.bind_eq_some_iff.1 h1
      exact ⟨cs', _, h2, h3⟩
    by_cases h0 : cap = 0
    · subst h0
      obtain rfl : len = 0 := by omega
      exact ⟨[.sl z 0 []], .cons .nil .nil, [], rfl, by simp, Nat.zero_le _⟩
    · have hx0 : ∃ cs', W.cells? 0 (a.add (0 * z)) z = some cs' := by
        by_cases hl : len = 0
        · obtain ⟨h1, h2⟩ := hsp rfl
          have h3 := h2 0 (by omega)
          rw [hl, List.getElem?_eq_getElem (by omega)] at h3
          obtain ⟨cs', h4, _⟩ := Option.bind_eq_some_iff.1 h3
          exact ⟨cs', h4⟩
        · obtain ⟨cs', _, h1, _⟩ := hx 0 (by omega)
          exact ⟨cs', h1⟩
      have hspot : a.spot = none := by
        obtain ⟨cs', h1⟩ := hx0
        obtain ⟨_, hl, hcell⟩ := World.cells?_some h1
        have := hcell 0 hz
        rw [Nat.zero_mul] at this
        have ha : (a.add 0).add 0 = a := by simp [Addr.add]
        rw [ha, List.getElem?_eq_getElem (by omega)] at this
        unfold World.cell? at this
        cases hsp : a.spot with
        | none => rfl
        | some s =>
          rw [hsp] at this
          split at this <;> simp at this
      obtain ⟨bl, o, sp⟩ := a
      simp only at hspot
      subst hspot
      have build : ∀ k, k ≤ len → ∃ (xs : List (List AI.I)) (vs : List Value), xs.length = k ∧ vs.length = k * z ∧ AI.RepL (KW W) vs xs.flatten ∧ (∀ d ∈ xs, R d) ∧ (∀ d ∈ xs, d.length = z) ∧ ∀ j c, vs[j]? = some c → KW W bl (o + j) = some c := by
        intro k
        induction k with
        | zero => intro _; exact ⟨[], [], rfl, by simp, .nil, by simp, by simp, by simp⟩
        | succ k ih =>
          intro hk
          obtain ⟨xs, vs, h1, h2, h3, h4, h5, h6⟩ := ih (by omega)
          obtain ⟨cs', _, hc1, hc2⟩ := hx k (by omega)
          obtain ⟨_, hl, hcell⟩ := World.cells?_some hc1
          obtain ⟨is, hr, hR⟩ := he f (by omega) cs' _ hc2
          refine ⟨xs ++ [is], vs ++ cs', by simp [h1], by simp [h2, hl, Nat.add_mul], ?_, ?_, ?_, ?_⟩
          · rw [List.flatten_append]
            simpa using repL_app h3 hr
          · intro d hd
            rcases List.mem_append.1 hd with h | h
            · exact h4 d h
            · simp only [List.mem_singleton] at h
              subst h
              exact hR
          · intro d hd
            rcases List.mem_append.1 hd with h | h
            · exact h5 d h
            · simp only [List.mem_singleton] at h
              subst h
              rw [← hr.length, hl]
          · intro j c hj
            rw [List.getElem?_append] at hj
            split at hj
            · exact h6 j c hj
            · rename_i hge
              have hlt : j - vs.length < cs'.length := (List.getElem?_eq_some_iff.1 hj).1
              have := hcell (j - vs.length) (by omega)
              rw [hj] at this
              unfold KW
              rw [← this]
              have e : ((⟨bl, o, none⟩ : Addr).add (k * z)).add (j - vs.length) = ⟨bl, o + j, none⟩ := by
                have e1 : (⟨bl, o, none⟩ : Addr).add (k * z) = ⟨bl, o + k * z, none⟩ := by unfold Addr.add; split <;> simp_all
                rw [e1]
                unfold Addr.add
                split
                · simp <;> omega
                · simp <;> omega
              rw [e]
      obtain ⟨xs, vs, h1, h2, h3, h4, h5, h6⟩ := build len (Nat.le_refl _)
      refine ⟨[.sl z xs.length xs], .cons ?_ .nil, xs, rfl, h4, by omega⟩
      rw [h1]
      exact .sl h3 h5 h6 hle h1
end
section
variable {H : Type} {enc : TypeId × Value → H} {W : World}
theorem opn_string : Opn enc Tryd.prog W 9 fun is => ∃ s : ByteArray, is = [AI.strI s] ∧ s.size ≤ AI.max63 := by
  intro n cs x h
  obtain ⟨s, rfl, rfl, hs⟩ := DataW.trod_string Tryd.underlying9 h
  exact ⟨[AI.strI s], .cons (.v rfl) .nil, s, rfl, maxLen63 hs⟩
theorem opn_i64 : Opn enc Tryd.prog W 3 fun is => ∃ z, is = [AI.vi z] := by
  intro n cs x h
  obtain ⟨is, hr, z, rfl, _⟩ := opn_int Tryd.underlying3 n cs x h
  exact ⟨_, hr, z, rfl⟩
theorem exOks_of : ∀ {l : List AI.Ex}, (∀ e ∈ l, AI.exOk e) → AI.exOks l
  | [], _ => trivial
  | e :: r, h => ⟨h e (by simp), exOks_of fun x hx => h x (by simp [hx])⟩
theorem opn_exprs {N : Nat} (h : OpnB enc Tryd.prog W N 41 fun is => ∃ e : AI.Ex, is = AI.exI e ∧ AI.exOk e) :
    OpnB enc Tryd.prog W (N + 1) 39 fun is => ∃ l : List AI.Ex, is = [.sl 4 l.length (AI.exIs l)] ∧ l.length ≤ AI.max63 ∧ AI.exOks l := by
  refine (opnB_slice Tryd.underlying39 (z := 4) (by kernel_rfl) (by decide) h).turn ?_
  rintro is ⟨xs, rfl, hx, hl⟩
  obtain ⟨l, rfl, hq⟩ := list_of (f := AI.exI) (Q := AI.exOk) (xs := xs) hx
  exact ⟨l, by rw [AI.exIs_map]; simp, maxLen63 (by simpa using hl), exOks_of hq⟩
theorem opnB_expr : ∀ N, OpnB enc Tryd.prog W N 41 fun is => ∃ e : AI.Ex, is = AI.exI e ∧ AI.exOk e
  | 0 => fun n hn => by omega
  | N + 1 => by
    refine (opnB_struct (Rs := [_, _, _, _]) Tryd.underlying41 (by kernel_rfl) ⟨opn_i64.b N, opn_i64.b N, opn_i64.b N, (opn_exprs (opnB_expr N)).less, trivial⟩).turn ?_
    rintro is ⟨parts, rfl, hp⟩
    match parts, hp with
    | [_, _, _, _], ⟨⟨a, rfl⟩, ⟨b, rfl⟩, ⟨c, rfl⟩, ⟨l, rfl, h1, h2⟩, _⟩ =>
      exact ⟨.mk a b c l, by simp [AI.exI], by simp only [AI.exOk]; exact ⟨h1, h2⟩⟩
theorem opn_expr : Opn enc Tryd.prog W 41 fun is => ∃ e : AI.Ex, is = AI.exI e ∧ AI.exOk e := .ofB opnB_expr
theorem opn_vr : Opn enc Tryd.prog W 61 fun is => ∃ v : AI.Vr, is = AI.vrI v ∧ v.name.size ≤ AI.max63 := by
  refine .ofB fun N => OpnB.less ?_
  refine (opnB_struct (Rs := [_, _, _, _]) Tryd.underlying61 (by kernel_rfl) ⟨opn_string.b N, opn_i64.b N, opn_i64.b N, opn_i64.b N, trivial⟩).turn ?_
  rintro is ⟨parts, rfl, hp⟩
  match parts, hp with
  | [_, _, _, _], ⟨⟨s, rfl, h⟩, ⟨a, rfl⟩, ⟨b, rfl⟩, ⟨c, rfl⟩, _⟩ => exact ⟨⟨s, a, b, c⟩, by simp, h⟩
theorem opn_vrs : Opn enc Tryd.prog W 25 fun is => ∃ l : List AI.Vr, is = [.sl 4 l.length (l.map AI.vrI)] ∧ l.length ≤ AI.max63 ∧ ∀ v ∈ l, v.name.size ≤ AI.max63 := by
  intro n cs x h
  obtain ⟨is, hr, xs, rfl, hx, hl⟩ := opn_slice Tryd.underlying25 (z := 4) (by kernel_rfl) (by decide) opn_vr n cs x h
  obtain ⟨l, rfl, hq⟩ := list_of (f := fun u => AI.vrI u) (Q := fun v => v.name.size ≤ AI.max63) (xs := xs) hx
  exact ⟨_, hr, l, by simp, maxLen63 (by simpa using hl), hq⟩
theorem opn_raw : Opn enc Tryd.prog W 58 fun is => ∃ (l : List AI.Vr) (x y : AI.Ex), is = [.sl 4 l.length (l.map AI.vrI)] ++ AI.exI x ++ AI.exI y ∧ l.length ≤ AI.max63 ∧ AI.exOk x ∧ AI.exOk y := by
  intro n cs z h
  obtain ⟨is, hr, a, b, c, rfl, ⟨l, rfl, hl, _⟩, ⟨x, rfl, hx⟩, ⟨y, rfl, hy⟩⟩ := opn_struct3 Tryd.underlying58 (z0 := 1) (z1 := 4) (z2 := 4) (by kernel_rfl) (by kernel_rfl) (by kernel_rfl) (by kernel_rfl) rfl rfl rfl opn_vrs opn_expr opn_expr n cs z h
  exact ⟨_, hr, l, x, y, rfl, hl, hx, hy⟩
theorem open_raw {r : Reach} {b0 : Nat} {v : Value} {d : DataW H} {p : List MemPlace} (hv : Value.okWide Tryd.prog W r b0 58 v) (h : DataW.Trod enc Tryd.prog W 0 (fun _ => true) true 58 v d p) :
    ∃ z : List AI.Vr × AI.Ex × AI.Ex, (z.1.length ≤ AI.max63 ∧ AI.exOk z.2.1 ∧ AI.exOk z.2.2) ∧ ∀ ρ sh, AI.RepD (KW W) ρ sh v (.agg (AI.rawC z.1 z.2.1 z.2.2)) := by
  obtain ⟨cs, rfl, _⟩ := okWide_struct Tryd.underlying58 hv
  obtain ⟨n, hn⟩ := h
  obtain ⟨is, hr, l, x, y, rfl, h1, h2, h3⟩ := opn_raw n _ _ hn
  refine ⟨(l, x, y), ⟨h1, h2, h3⟩, fun ρ sh => ?_⟩
  rw [AI.exI_eq, AI.exI_eq] at hr
  have := AI.RepD.agg (AI.RepDL.ofL (ρ := ρ) (sh := sh) hr)
  simpa [Value.cells] using this
end
end Go.Proofs.YtonnakcgopcfnaaDoor


/- GuardSimplifies. -/
namespace Go.AI
open Go.Proofs
set_option maxRecDepth 20000
mutual
theorem exEq_refl : ∀ x : Ex, exEq x x = true
  | .mk o v i a => by simp [exEq, exEqs_refl a]
theorem exEqs_refl : ∀ l : List Ex, exEqs l l = true
  | [] => by simp [exEqs]
  | x :: r => by simp [exEqs, exEq_refl x, exEqs_refl r]
end
theorem equalSame (O : List Heap) (x : Ex) (h : exOk x) : ASpec Tryd.prog 27 [exA x, exA x] O (bb true) [] O := by
  have := equal41 (SizeOf.sizeOf x + 1) x x (Nat.lt_succ_self _) h O
  rwa [exEq_refl, exD_eq] at this
theorem coZr : CoD (.agg [ii 0, ii 0, ii 0, .i (.v (.slice none 0 0))]) (exA zeroE) := by
  show CoD _ (.agg [ii 0, ii 0, ii 0, .i (.sl 4 0 [])])
  repeat' (first | refine coD_tup ?_ | refine coD_agg ?_ | refine coD_i ?_ | refine CoDL.cons ?_ ?_ | exact CoDL.nil | exact coI_nil | refine coI_sl ?_ | refine CoLL.cons ?_ ?_ | exact CoLL.nil | refine CoL.cons ?_ ?_ | exact CoL.nil | exact CoI.refl _ | exact CoL.refl _ | exact CoLL.refl _ | exact CoDL.refl _ | exact CoD.refl _)
theorem eqZero (O : List Heap) : ASpec Tryd.prog 27 [exA zeroE, .agg [ii 0, ii 0, ii 0, .i (.v (.slice none 0 0))]] O (bb true) [] O :=
  (equalSame O zeroE (exOk_leaf _ _ _)).co (.cons (CoD.refl _) (.cons coZr .nil))
end Go.AI


namespace Go.AI
open Go.Proofs
set_option maxRecDepth 20000
mutual
/-- Whether an expression is small, and what is left of the count. -/
def fewR : Ex → Int → Int → Bool × Int
  | .mk _ _ _ args, lvl, c => if c = 0 ∨ lvl > 10 ∨ args.length > 4 then (false, c) else fewRs args (lvl + 1) (c - 1)
def fewRs : List Ex → Int → Int → Bool × Int
  | [], _, c => (true, c)
  | e :: r, lvl, c => if (fewR e lvl c).1 = false then (false, (fewR e lvl c).2) else fewRs r lvl (fewR e lvl c).2
end
mutual
theorem fewR_cnt : ∀ (x : Ex) (lvl c : Int), 0 ≤ c → c ≤ 80 → 0 ≤ (fewR x lvl c).2 ∧ (fewR x lvl c).2 ≤ 80
  | .mk _ _ _ args, lvl, c, h0, h1 => by
    simp only [fewR]
    split
    · exact ⟨h0, h1⟩
    · exact fewRs_cnt args (lvl + 1) (c - 1) (by omega) (by omega)
theorem fewRs_cnt : ∀ (l : List Ex) (lvl c : Int), 0 ≤ c → c ≤ 80 → 0 ≤ (fewRs l lvl c).2 ∧ (fewRs l lvl c).2 ≤ 80
  | [], lvl, c, h0, h1 => ⟨h0, h1⟩
  | e :: r, lvl, c, h0, h1 => by
    have := fewR_cnt e lvl c h0 h1
    simp only [fewRs]
    split
    · exact this
    · exact fewRs_cnt r lvl _ this.1 this.2
end
theorem few89 : ∀ (N : Nat) (x : Ex), SizeOf.sizeOf x < N → exOk x → ∀ (O : List Heap) (d nm : Nat) (lvl c : Int), objAt O d nm = some (.box [ii c]) → 0 ≤ c → c ≤ 80 → 0 ≤ lvl → lvl ≤ 11 →
    ASpec Tryd.prog 144 [exD x, ii lvl, .own d nm 0 0] O (bb (fewR x lvl c).1) [] (setAt O d nm (.box [ii (fewR x lvl c).2])) := by
  intro N
  induction N with
  | zero => intro x h; omega
  | succ N ihN =>
    intro x hs hok O d nm lvl c ho hc0 hc1 hl0 hl1
    obtain ⟨op, v, ix, args⟩ := x
    simp only [exOk] at hok
    have hch : ∀ e ∈ args, ∀ (O : List Heap) (d nm : Nat) (lvl c : Int), objAt O d nm = some (.box [ii c]) → 0 ≤ c → c ≤ 80 → 0 ≤ lvl → lvl ≤ 11 →
        ASpec Tryd.prog 144 [exD e, ii lvl, .own d nm 0 0] O (bb (fewR e lvl c).1) [] (setAt O d nm (.box [ii (fewR e lvl c).2])) := by
      intro e he
      refine ihN e ?_ (exOks_mem hok.2 e he)
      have := List.sizeOf_lt_of_mem he
      simp only [Ex.mk.sizeOf_spec] at hs
      omega
    have hlen : args.length ≤ max63 := hok.1
    generalize hR : fewR (.mk op v ix args) lvl c = R
    have hO1 : ∀ H, objAt (H :: O) (d + 1) nm = some (.box [ii c]) := fun H => by simpa [objAt] using ho
    have hw : c ≠ 0 → IntKind.i64.wrap (c - 1) = c - 1 := fun h => w64 (by omega) (by omega)
    have hwl : IntKind.i64.wrap (lvl + 1) = lvl + 1 := w64 (by omega) (by omega)
    have early : c = 0 ∨ lvl > 10 ∨ args.length > 4 → R = (false, c) := fun h => by rw [← hR]; simp only [fewR]; rw [if_pos h]
    have body : ¬(c = 0 ∨ lvl > 10 ∨ args.length > 4) → R = fewRs args (lvl + 1) (c - 1) := fun h => by rw [← hR]; simp only [fewR]; rw [if_neg h]
    refine aspec_stop [] Tk Tryd.func144 rfl Tryd.call144 Tryd.ntmps144 (Nat.le_of_ble_eq_true rfl) fun E => ?_
    refine g_run Tk Tryd.func144 ?_
    first | refine g_obj Tk Tryd.func144 (hO1 _) ?_ | refine s_obj Tk (hO1 _) ?_
    first | refine g_cnd Tk Tryd.func144 rfl (fun h1 => ?_) (fun h1 => ?_) | refine g_know Tk Tryd.func144 rfl (fun h1 => ?_) (fun h1 => ?_) | refine s_know Tk (fun h1 => ?_) (fun h1 => ?_)
    · have := early (.inl (beqT h1))
      subst this
      repeat (first | refine g_cnd Tk Tryd.func144 rfl (fun _ => ?_) (fun h => absurd h (by decide)) | refine g_cnd Tk Tryd.func144 rfl (fun h => absurd h (by decide)) (fun _ => ?_) | refine g_know Tk Tryd.func144 rfl (fun _ => ?_) (fun h => absurd h (by decide)) | refine g_know Tk Tryd.func144 rfl (fun h => absurd h (by decide)) (fun _ => ?_) | refine s_know Tk (fun _ => ?_) (fun h => absurd h (by decide)) | refine s_know Tk (fun h => absurd h (by decide)) (fun _ => ?_))
      refine g_rwk (wk_S (S' := _ :: setAt O d nm (.box [ii c])) (objAt_cons (objAt_set_id ho))) ?_
      refine g_ret Tk (r := bb false) rfl rfl rfl trivial rfl rfl ?_
      rfl
    have h1 := beqF h1
    first | refine g_cnd Tk Tryd.func144 rfl (fun h2 => ?_) (fun h2 => ?_) | refine g_know Tk Tryd.func144 rfl (fun h2 => ?_) (fun h2 => ?_) | refine s_know Tk (fun h2 => ?_) (fun h2 => ?_)
    · have := early (.inr (.inl (by have := of_decide_eq_true h2; omega)))
      subst this
      repeat (first | refine g_cnd Tk Tryd.func144 rfl (fun _ => ?_) (fun h => absurd h (by decide)) | refine g_cnd Tk Tryd.func144 rfl (fun h => absurd h (by decide)) (fun _ => ?_) | refine g_know Tk Tryd.func144 rfl (fun _ => ?_) (fun h => absurd h (by decide)) | refine g_know Tk Tryd.func144 rfl (fun h => absurd h (by decide)) (fun _ => ?_) | refine s_know Tk (fun _ => ?_) (fun h => absurd h (by decide)) | refine s_know Tk (fun h => absurd h (by decide)) (fun _ => ?_))
      refine g_rwk (wk_S (S' := _ :: setAt O d nm (.box [ii c])) (objAt_cons (objAt_set_id ho))) ?_
      refine g_ret Tk (r := bb false) rfl rfl rfl trivial rfl rfl ?_
      rfl
    have h2 : ¬ lvl > 10 := by have := of_decide_eq_false h2; omega
    first | refine g_cnd Tk Tryd.func144 rfl (fun h3 => ?_) (fun h3 => ?_) | refine g_know Tk Tryd.func144 rfl (fun h3 => ?_) (fun h3 => ?_) | refine s_know Tk (fun h3 => ?_) (fun h3 => ?_)
    · have := early (.inr (.inr (by have := of_decide_eq_true h3; omega)))
      subst this
      refine g_rwk (wk_S (S' := _ :: setAt O d nm (.box [ii c])) (objAt_cons (objAt_set_id ho))) ?_
      refine g_ret Tk (r := bb false) rfl rfl rfl trivial rfl rfl ?_
      rfl
    have h3 : ¬ args.length > 4 := by have := of_decide_eq_false h3; omega
    have hw := hw h1
    have body := body (by omega)
    clear early hR
    first | refine g_obj Tk Tryd.func144 (hO1 _) ?_ | refine s_obj Tk (hO1 _) ?_
    first | refine g_obj Tk Tryd.func144 (hO1 _) ?_ | refine s_obj Tk (hO1 _) ?_
    refine g_loop ?_
    refine rch_loop2 (fun x : Nat × Int => [(1, ii lvl), (2, .own (d + 1) nm 0 0), (3, .own 0 3 0 0), (7, ii x.1)]) (fun _ => [(3, .box [ii op, ii v, ii ix, exs args])]) (fun x => setAt O d nm (.box [ii x.2])) 44
      (fun x => x.1 ≤ args.length ∧ 0 ≤ x.2 ∧ x.2 ≤ 80 ∧ R = fewRs (args.drop x.1) (lvl + 1) x.2) (fun x => args.length - x.1) (0, IntKind.i64.wrap (c - 1)) ⟨Nat.zero_le _, by simp only [hw]; omega, by simp only [hw]; omega, by simp only [hw]; exact body⟩ ⟨rfl, rfl, rfl, rfl, trivial⟩ rfl ⟨rfl, trivial⟩ rfl rfl ?_
    rintro ⟨i, c'⟩ ⟨hi, hc0', hc1', hno⟩ ih
    simp only at hi hc0' hc1' hno
    refine g_run Tk Tryd.func144 ?_
    first | refine g_cnd Tk Tryd.func144 rfl (fun h5 => ?_) (fun h5 => ?_) | refine g_know Tk Tryd.func144 rfl (fun h5 => ?_) (fun h5 => ?_) | refine s_know Tk (fun h5 => ?_) (fun h5 => ?_)
    · have h5 : i < args.length := by simpa using h5
      have hd : args.drop i = args[i] :: args.drop (i + 1) := (List.drop_eq_getElem_cons h5)
      have hm := List.getElem_mem h5
      have hg := exIs_get h5
      generalize args[i] = e at hd hm hg
      have hce := fun O ho => hch e hm O (d + 1) nm (IntKind.i64.wrap (lvl + 1)) c' ho hc0' hc1' (by omega) (by omega)
      have hcnt := fewR_cnt e (IntKind.i64.wrap (lvl + 1)) c' hc0' hc1'
      obtain ⟨eo, ev, ei, ea⟩ := e
      simp only [exI] at hg
      rw [hd] at hno
      simp only [fewRs] at hno
      rw [← hwl] at hno
      first | refine g_need Tk Tryd.func144 (by exact ⟨by omega, by show (i : Int) < (args.length : Int); omega⟩) ?_ | refine s_need Tk (by exact ⟨by omega, by show (i : Int) < (args.length : Int); omega⟩) ?_
      first | refine g_elem Tk Tryd.func144 (hg) ?_ | refine s_elem Tk (hg) ?_
      refine g_call Tk Tryd.func144 (hce _ (by exact up_obj (objAt_set_same ho))) rfl rfl rfl (shape_cons (shape_set (objAt_set_same ho) rfl)) rfl ?_
      generalize fewR (.mk eo ev ei ea) (IntKind.i64.wrap (lvl + 1)) c' = Q at hno hcnt
      obtain ⟨qe, qc⟩ := Q
      simp only at hno hcnt
      first | refine g_cnd Tk Tryd.func144 rfl (fun h6 => ?_) (fun h6 => ?_) | refine g_know Tk Tryd.func144 rfl (fun h6 => ?_) (fun h6 => ?_) | refine s_know Tk (fun h6 => ?_) (fun h6 => ?_)
      · have h6 := notT h6
        rw [if_pos h6] at hno
        subst hno
        refine g_rwk (wk_S (S' := _ :: setAt O d nm (.box [ii qc])) (objAt_cons fun d n => objAt_set2 d n)) ?_
        refine g_ret Tk (r := bb false) rfl rfl rfl trivial rfl rfl ?_
        rfl
      · have h6 := notF h6
        rw [if_neg (fun h => by rw [show qe = true from h6] at h; cases h), hwl] at hno
        refine g_wk (wk_S (S' := _ :: setAt O d nm (.box [ii qc])) (objAt_cons fun d n => objAt_set2 d n)) ?_
        refine g_loop ?_
        refine ih (i + 1, qc) _ _ ⟨h5, hcnt.1, hcnt.2, hno⟩ (by simp only; omega) ⟨rfl, rfl, rfl, congrArg ii (wsucc h5 hlen), trivial⟩ rfl ⟨rfl, trivial⟩ rfl rfl
    · have h5 : args.length ≤ i := by simpa using h5
      rw [List.drop_eq_nil_of_le h5] at hno
      subst hno
      refine g_ret Tk (r := bb true) rfl rfl rfl trivial rfl rfl ?_
      rfl
def smallX (x : Ex) : Bool := (fewR x 1 80).1
theorem small76 (O : List Heap) (x : Ex) (hok : exOk x) : ASpec Tryd.prog 82 [exD x] O (bb (smallX x)) [] O := by
  have hf := fun O ho => few89 _ x (Nat.lt_succ_self _) hok O 0 3 1 80 ho (by decide) (by decide) (by decide) (by decide)
  unfold smallX
  obtain ⟨op, v, ix, args⟩ := x
  refine aspec_intro Tk Tryd.func82 rfl Tryd.call82 Tryd.ntmps82 (Nat.le_of_ble_eq_true rfl) fun E => ?_
  refine g_run Tk Tryd.func82 ?_
  refine g_call Tk Tryd.func82 (hf _ rfl) rfl rfl rfl (shape_over (ob := .box [ii 80]) rfl rfl) rfl ?_
  refine g_ret Tk (r := bb _) rfl rfl rfl trivial rfl rfl ?_
  rfl
theorem small58 (O : List Heap) (x : Ex) (hok : exOk x) : ASpec Tryd.prog 29 [exD x] O (bb (smallX x)) [] O := by
  have hf := fun O => small76 O x hok
  generalize smallX x = R at *
  obtain ⟨op, v, ix, args⟩ := x
  refine aspec_intro Tk Tryd.func29 rfl Tryd.call29 Tryd.ntmps29 (Nat.le_of_ble_eq_true rfl) fun E => ?_
  refine g_run Tk Tryd.func29 ?_
  first | refine g_call Tk Tryd.func29 (hf _) rfl rfl rfl rfl rfl ?_ | refine s_callq Tk (fun _ => hf _) rfl rfl rfl ?_
  refine g_ret Tk (r := bb _) rfl rfl rfl trivial rfl rfl ?_
  rfl
theorem small58A (O : List Heap) (x : Ex) (hok : exOk x) : ASpec Tryd.prog 29 [exA x] O (bb (smallX x)) [] O := by rw [← exD_eq]; exact small58 O x hok
end Go.AI
