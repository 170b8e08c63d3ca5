/- The layer of abstract runs, part 41. -/
import Derived.Test.YtonnakcgopcfnaaDoorPlumZN
import Derived.KernelRfl
set_option linter.unusedSimpArgs false
set_option linter.unusedVariables false
set_option linter.all false

/- The text of a literal. -/
namespace Go.AI
open Go.Proofs
set_option maxRecDepth 20000
def strEq : ByteArray := ⟨#[32, 61, 32]⟩
def strLe : ByteArray := ⟨#[32, 60, 61, 32]⟩
def litTx (l : List Vr) (x : Lit) : ByteArray :=
  if x.fr then (if x.to then (match l[x.var]? with | some v => v.name | none => ⟨#[]⟩) ++ strEq ++ itoaB x.lo else itoaB x.lo ++ strLe ++ (match l[x.var]? with | some v => v.name | none => ⟨#[]⟩))
  else (match l[x.var]? with | some v => v.name | none => ⟨#[]⟩) ++ strLe ++ itoaB x.hi
theorem litText92 {g : Nat} (hg : IsTab g) {ty : TypeId} {fr : Nat × Nat} (O : List Heap) (l : List Vr) (x : Lit) (hx : x.var < l.length) (hnm : ∀ v ∈ l, v.name.size ≤ 1000) (hlo : -9223372036854775808 ≤ x.lo ∧ x.lo ≤ 9223372036854775807) (hhi : -9223372036854775808 ≤ x.hi ∧ x.hi ≤ 9223372036854775807) :
    ASpecT g (ptab ty fr) Tryd.prog 92 [litD x, vrs l] O (.i (.v (.string (litTx l x)))) [] O := by
  obtain ⟨v, lo, hi, fr', to⟩ := x
  simp only at hx hlo hhi
  have hsl := itoaB_size hlo.1 hlo.2
  have hsh := itoaB_size hhi.1 hhi.2
  have hnm := hnm _ (List.getElem_mem hx)
  have hv : l[v]? = some l[v] := List.getElem?_eq_getElem hx
  have gv : (l.map vrI)[((v : Nat) : Int).toNat]? = some (vrI l[v]) := get_mapZ hx
  unfold litTx
  simp only [hv]
  generalize l[v] = a at *
  obtain ⟨an, al, ah, ai⟩ := a
  simp only at hnm
  have e1 : (an ++ (⟨#[32, 61, 32]⟩ : ByteArray)).size = an.size + 3 := ByteArray.size_append
  have e2 : ∀ b : ByteArray, (b ++ (⟨#[32, 60, 61, 32]⟩ : ByteArray)).size = b.size + 4 := fun b => ByteArray.size_append
  have e3 := e2 an
  have e4 := e2 (itoaB lo)
  cases fr' with
  | true =>
    cases to with
    | true =>
      refine aspecT_stop [] Tk Tryd.func92 rfl Tryd.call92 Tryd.ntmps92 (Nat.le_of_ble_eq_true rfl) fun E hE => ?_
      refine g_run Tk Tryd.func92 ?_
      first | refine g_need Tk Tryd.func92 (by exact ⟨by omega, by show (v : Int) < (l.length : Int); omega⟩) ?_ | refine s_need Tk (by exact ⟨by omega, by show (v : Int) < (l.length : Int); omega⟩) ?_
      first | refine g_elem Tk Tryd.func92 (gv) ?_ | refine s_elem Tk (gv) ?_
      repeat (first | refine g_cnd Tk Tryd.func92 rfl (fun _ => ?_) (fun h => absurd h (by decide)) | refine g_know Tk Tryd.func92 rfl (fun _ => ?_) (fun h => absurd h (by decide)) | refine s_know Tk (fun _ => ?_) (fun h => absurd h (by decide)) | refine g_cnd Tk Tryd.func92 rfl (fun h => absurd h (by decide)) (fun _ => ?_) | refine g_know Tk Tryd.func92 rfl (fun h => absurd h (by decide)) (fun _ => ?_) | refine s_know Tk (fun h => absurd h (by decide)) (fun _ => ?_) | refine g_cnd Tk Tryd.func92 rfl (fun _ => ?_) (fun h => absurd (show true = false from h) (by decide)) | refine g_know Tk Tryd.func92 rfl (fun _ => ?_) (fun h => absurd (show true = false from h) (by decide)) | refine s_know Tk (fun _ => ?_) (fun h => absurd (show true = false from h) (by decide)) | refine g_cnd Tk Tryd.func92 rfl (fun h => absurd (show false = true from h) (by decide)) (fun _ => ?_) | refine g_know Tk Tryd.func92 rfl (fun h => absurd (show false = true from h) (by decide)) (fun _ => ?_) | refine s_know Tk (fun h => absurd (show false = true from h) (by decide)) (fun _ => ?_))
      first | refine g_need Tk Tryd.func92 (by show an.size + 3 ≤ 9223372036854775807; omega) ?_ | refine s_need Tk (by show an.size + 3 ≤ 9223372036854775807; omega) ?_
      refine g_callT Tk Tryd.func92 hE (itoa79 hg _ lo hlo.1 hlo.2) rfl rfl rfl rfl rfl rfl ?_
      first | refine g_need Tk Tryd.func92 (by show (an ++ (⟨#[32, 61, 32]⟩ : ByteArray)).size + (itoaB lo).size ≤ 9223372036854775807; omega) ?_ | refine s_need Tk (by show (an ++ (⟨#[32, 61, 32]⟩ : ByteArray)).size + (itoaB lo).size ≤ 9223372036854775807; omega) ?_
      refine g_ret Tk (r := .i (.v (.string _))) rfl rfl rfl trivial rfl rfl ?_
      rfl
    | false =>
      refine aspecT_stop [] Tk Tryd.func92 rfl Tryd.call92 Tryd.ntmps92 (Nat.le_of_ble_eq_true rfl) fun E hE => ?_
      refine g_run Tk Tryd.func92 ?_
      first | refine g_need Tk Tryd.func92 (by exact ⟨by omega, by show (v : Int) < (l.length : Int); omega⟩) ?_ | refine s_need Tk (by exact ⟨by omega, by show (v : Int) < (l.length : Int); omega⟩) ?_
      first | refine g_elem Tk Tryd.func92 (gv) ?_ | refine s_elem Tk (gv) ?_
      repeat (first | refine g_cnd Tk Tryd.func92 rfl (fun _ => ?_) (fun h => absurd h (by decide)) | refine g_know Tk Tryd.func92 rfl (fun _ => ?_) (fun h => absurd h (by decide)) | refine s_know Tk (fun _ => ?_) (fun h => absurd h (by decide)) | refine g_cnd Tk Tryd.func92 rfl (fun h => absurd h (by decide)) (fun _ => ?_) | refine g_know Tk Tryd.func92 rfl (fun h => absurd h (by decide)) (fun _ => ?_) | refine s_know Tk (fun h => absurd h (by decide)) (fun _ => ?_) | refine g_cnd Tk Tryd.func92 rfl (fun _ => ?_) (fun h => absurd (show true = false from h) (by decide)) | refine g_know Tk Tryd.func92 rfl (fun _ => ?_) (fun h => absurd (show true = false from h) (by decide)) | refine s_know Tk (fun _ => ?_) (fun h => absurd (show true = false from h) (by decide)) | refine g_cnd Tk Tryd.func92 rfl (fun h => absurd (show false = true from h) (by decide)) (fun _ => ?_) | refine g_know Tk Tryd.func92 rfl (fun h => absurd (show false = true from h) (by decide)) (fun _ => ?_) | refine s_know Tk (fun h => absurd (show false = true from h) (by decide)) (fun _ => ?_))
      refine g_callT Tk Tryd.func92 hE (itoa79 hg _ lo hlo.1 hlo.2) rfl rfl rfl rfl rfl rfl ?_
      first | refine g_need Tk Tryd.func92 (by show (itoaB lo).size + 4 ≤ 9223372036854775807; omega) ?_ | refine s_need Tk (by show (itoaB lo).size + 4 ≤ 9223372036854775807; omega) ?_
      first | refine g_need Tk Tryd.func92 (by show (itoaB lo ++ (⟨#[32, 60, 61, 32]⟩ : ByteArray)).size + an.size ≤ 9223372036854775807; omega) ?_ | refine s_need Tk (by show (itoaB lo ++ (⟨#[32, 60, 61, 32]⟩ : ByteArray)).size + an.size ≤ 9223372036854775807; omega) ?_
      refine g_ret Tk (r := .i (.v (.string _))) rfl rfl rfl trivial rfl rfl ?_
      rfl
  | false =>
    refine aspecT_stop [] Tk Tryd.func92 rfl Tryd.call92 Tryd.ntmps92 (Nat.le_of_ble_eq_true rfl) fun E hE => ?_
    refine g_run Tk Tryd.func92 ?_
    first | refine g_need Tk Tryd.func92 (by exact ⟨by omega, by show (v : Int) < (l.length : Int); omega⟩) ?_ | refine s_need Tk (by exact ⟨by omega, by show (v : Int) < (l.length : Int); omega⟩) ?_
    first | refine g_elem Tk Tryd.func92 (gv) ?_ | refine s_elem Tk (gv) ?_
    repeat (first | refine g_cnd Tk Tryd.func92 rfl (fun _ => ?_) (fun h => absurd h (by decide)) | refine g_know Tk Tryd.func92 rfl (fun _ => ?_) (fun h => absurd h (by decide)) | refine s_know Tk (fun _ => ?_) (fun h => absurd h (by decide)) | refine g_cnd Tk Tryd.func92 rfl (fun h => absurd h (by decide)) (fun _ => ?_) | refine g_know Tk Tryd.func92 rfl (fun h => absurd h (by decide)) (fun _ => ?_) | refine s_know Tk (fun h => absurd h (by decide)) (fun _ => ?_) | refine g_cnd Tk Tryd.func92 rfl (fun _ => ?_) (fun h => absurd (show true = false from h) (by decide)) | refine g_know Tk Tryd.func92 rfl (fun _ => ?_) (fun h => absurd (show true = false from h) (by decide)) | refine s_know Tk (fun _ => ?_) (fun h => absurd (show true = false from h) (by decide)) | refine g_cnd Tk Tryd.func92 rfl (fun h => absurd (show false = true from h) (by decide)) (fun _ => ?_) | refine g_know Tk Tryd.func92 rfl (fun h => absurd (show false = true from h) (by decide)) (fun _ => ?_) | refine s_know Tk (fun h => absurd (show false = true from h) (by decide)) (fun _ => ?_))
    first | refine g_need Tk Tryd.func92 (by show an.size + 4 ≤ 9223372036854775807; omega) ?_ | refine s_need Tk (by show an.size + 4 ≤ 9223372036854775807; omega) ?_
    refine g_callT Tk Tryd.func92 hE (itoa79 hg _ hi hhi.1 hhi.2) rfl rfl rfl rfl rfl rfl ?_
    first | refine g_need Tk Tryd.func92 (by show (an ++ (⟨#[32, 60, 61, 32]⟩ : ByteArray)).size + (itoaB hi).size ≤ 9223372036854775807; omega) ?_ | refine s_need Tk (by show (an ++ (⟨#[32, 60, 61, 32]⟩ : ByteArray)).size + (itoaB hi).size ≤ 9223372036854775807; omega) ?_
    refine g_ret Tk (r := .i (.v (.string _))) rfl rfl rfl trivial rfl rfl ?_
    rfl
end Go.AI


/- The text of boxes. -/
namespace Go.AI
open Go.Proofs
set_option maxRecDepth 20000
abbrev oby (T : List UInt8) : Ob := .arr 5 1 T.length (u8l T) true
theorem oby_app (T s : List UInt8) : Ob.arr 5 1 (T.length + s.length) (u8l T ++ u8l s) true = oby (T ++ s) := by rw [u8l_app]; simp [oby]
theorem strCells_u8 (K : Kn) (s : ByteArray) : RepL K (Lib.strCells s) (u8l s.data.toList).flatten := u8l_rep K s.data.toList
theorem size_list (s : ByteArray) : s.data.toList.length = s.size := by rw [Array.length_toList]; rfl
/-- A write of a string. -/
theorem does_ws {c : Cx} (hP : c.P = Tryd.prog) {s : St} {o : Oper} {t nm nm2 : Nat} {dp : D} {H : Heap} {O : List Heap} (sb : ByteArray) (T : List UInt8) (hdp : dp = .i (.v (.pointer none)) ∨ dp = .own 0 nm 0 0) (hlim : T.length + sb.size ≤ 140737488355328) (ht : o.dst = some t) (hn : t < s.n) (hS : s.S = H :: O)
    (hb : look H nm = some (.tb 168 [dp, .osl 0 nm2])) (ha : look H nm2 = some (oby T)) (hne : nm ≠ nm2) :
    Wp c o s 90 [.own 0 nm 0 0, .i (.v (.string sb))] { σ := (t, .tup [ii sb.size, .i (.v .nilIface)]) :: killσ nm2 s.σ, S := ((nm, .tb 168 [.own 0 nm 0 0, .osl 0 nm2]) :: (nm2, oby (T ++ sb.data.toList)) :: killH nm2 ((nm, .tb 168 [.own 0 nm 0 0, .osl 0 nm2]) :: H)) :: O, n := s.n } := by
  have h := does_write (c := c) (s := s) (o := o) (ys := u8l sb.data.toList) (m := sb.data.toList.length) (T := 168) (ty := 5) (rd := .tup [ii sb.size, .i (.v .nilIface)]) (dx := .i (.v (.string sb))) (x := .string sb) (res := .tuple #[.int .i64 sb.size, .nilIface]) (xs := u8l T) (n := T.length) (by rw [hP]; exact wspec90 sb) (by rw [hP]; exact Tryd.call90)
    (fun K ρ sh v h => inv_v h) (fun K ρ sh => .tup (.cons (.i (.v rfl)) (.cons (.i (.v rfl)) .nil))) hdp ht hn hS hb ha hne (fun K => strCells_u8 K sb) (u8l_el _) (by simp [u8l]) (by rw [size_list]; exact hlim)
  rwa [oby_app] at h
theorem does_bs {c : Cx} (hP : c.P = Tryd.prog) {s : St} {o : Oper} {t nm nm2 : Nat} {dp : D} {H : Heap} {O : List Heap} {T : List UInt8} (h0 : T ≠ []) (ht : o.dst = some t) (hn : t < s.n) (hS : s.S = H :: O)
    (hb : look H nm = some (.tb 168 [dp, .osl 0 nm2])) (ha : look H nm2 = some (oby T)) :
    Wp c o s 93 [.own 0 nm 0 0] { σ := (t, .i (.v (.string ⟨T.toArray⟩))) :: killσ nm2 s.σ, S := ((nm2, .arr 5 1 0 [] true) :: killH nm2 H) :: O, n := s.n } :=
  does_bstr (c := c) (s := s) (o := o) (T := 168) (ty := 5) (by rw [hP]; exact sspec93) (by rw [hP]; exact Tryd.call93) h0 ht hn hS hb ha
def andB : List UInt8 := [32, 97, 110, 100, 32]
def orB : List UInt8 := [32, 111, 114, 32]
def trueB : List UInt8 := [116, 114, 117, 101]
def litsBy (l : List Vr) : List Lit → Nat → List UInt8 → List UInt8
  | [], _, T => T
  | x :: r, k, T => litsBy l r (k + 1) (T ++ (if k > 0 then andB else []) ++ (litTx l x).data.toList)
def boxBy (l : List Vr) (b : Bx) (i : Nat) (T : List UInt8) : List UInt8 :=
  if (b.lits l).isEmpty then T ++ (if i > 0 then orB else []) ++ trueB else litsBy l (b.lits l) 0 (T ++ (if i > 0 then orB else []))
def boxesBy (l : List Vr) : List Bx → Nat → List UInt8 → List UInt8
  | [], _, T => T
  | b :: r, i, T => boxesBy l r (i + 1) (boxBy l b i T)
def textR (l : List Vr) (boxes : List Bx) : ByteArray × Int :=
  if checkBoxesR l boxes ≠ 0 then (⟨#[]⟩, checkBoxesR l boxes) else if boxes.isEmpty then (⟨#[102, 97, 108, 115, 101]⟩, 0) else (⟨(boxesBy l boxes 0 []).toArray⟩, 0)
theorem bsize_append (a b : ByteArray) : (a ++ b).size = a.size + b.size := ByteArray.size_append
theorem litTx_size {l : List Vr} {x : Lit} (hx : x.var < l.length) (hnm : ∀ v ∈ l, v.name.size ≤ 1000) (hlo : i64B x.lo) (hhi : i64B x.hi) : 3 ≤ (litTx l x).size ∧ (litTx l x).size ≤ 1025 := by
  have hsl := itoaB_size hlo.1 hlo.2
  have hsh := itoaB_size hhi.1 hhi.2
  have hv : l[x.var]? = some l[x.var] := List.getElem?_eq_getElem hx
  have := hnm _ (List.getElem_mem hx)
  have e1 : strEq.size = 3 := rfl
  have e2 : strLe.size = 4 := rfl
  unfold litTx
  simp only [hv]
  split
  · split
    · rw [bsize_append, bsize_append]; omega
    · rw [bsize_append, bsize_append]; omega
  · rw [bsize_append, bsize_append]; omega
theorem chkV_lits {l : List Vr} {i : Nat} {ls hs : List Int} {n : Nat} (hn : i + l.length ≤ n) (h : chkV l ls hs = 0) (hb : ∀ v ∈ l, -65536 ≤ v.low ∧ v.high ≤ 65536) : ∀ x ∈ litsR l i ls hs, x.var < n ∧ (-65536 ≤ x.lo ∧ x.lo ≤ 65536) ∧ -65536 ≤ x.hi ∧ x.hi ≤ 65536 := by
  induction l generalizing i ls hs with
  | nil => intro x hx; simp [litsR] at hx
  | cons v r ih =>
    cases ls with
    | nil => intro x hx; simp [litsR] at hx
    | cons lo ls =>
      cases hs with
      | nil => intro x hx; simp [litsR] at hx
      | cons hi hs =>
        simp only [chkV] at h
        split at h
        · cases h
        rename_i hc
        have hvb := hb v (by simp)
        simp only [List.length_cons] at hn
        intro x hx
        simp only [litsR, List.mem_append] at hx
        rcases hx with hx | hx
        · have hx' : x.var = i ∧ x.lo = lo ∧ x.hi = hi := by
            unfold litsV at hx
            split at hx
            · simp at hx
            · split at hx
              · rw [List.mem_singleton.1 hx]; exact ⟨rfl, rfl, rfl⟩
              · rw [List.mem_append] at hx
                rcases hx with hx | hx
                · split at hx
                  · rw [List.mem_singleton.1 hx]; exact ⟨rfl, rfl, rfl⟩
                  · simp at hx
                · split at hx
                  · rw [List.mem_singleton.1 hx]; exact ⟨rfl, rfl, rfl⟩
                  · simp at hx
          obtain ⟨e1, e2, e3⟩ := hx'
          omega
        · exact ih (i := i + 1) (by omega) h (fun v hv => hb v (by simp [hv])) x hx
abbrev dpD (p : Bool) : D := bif p then .own 0 7 0 0 else .i (.v (.pointer none))
theorem dpD_or (p : Bool) : dpD p = .i (.v (.pointer none)) ∨ dpD p = .own 0 7 0 0 := by cases p; exact .inl rfl; exact .inr rfl
set_option maxHeartbeats 4000000 in
theorem text40 {g : Nat} (hg : IsTab g) {ty : TypeId} {fr : Nat × Nat} (O : List Heap) (l : List Vr) (boxes : List Bx) (hl : l.length ≤ max63) (hn : ∀ v ∈ l, v.name.size ≤ 1000) (hbl : boxes.length ≤ 4096) : ASpecT g (ptab ty fr) Tryd.prog 40 [vrs l, bxs boxes] O (.tup [.i (.v (.string (textR l boxes).1)), ii (textR l boxes).2]) [] O := by
  have hck := fun O => checkBoxes89 O l boxes hl (fun v hv => Nat.le_trans (hn v hv) (by decide)) (by simp only [max63]; omega)
  have hok := @checkBoxes_ok l boxes
  generalize hR : textR l boxes = R
  unfold textR at hR
  generalize checkBoxesR l boxes = e at *
  by_cases h1 : e ≠ 0
  · rw [if_pos h1] at hR
    subst hR
    refine aspecT_stop [] Tk Tryd.func40 rfl Tryd.call40 Tryd.ntmps40 (Nat.le_of_ble_eq_true rfl) fun E hE => ?_
    refine g_run Tk Tryd.func40 ?_
    first | refine g_call Tk Tryd.func40 (hck _) rfl rfl rfl rfl rfl ?_ | refine s_callq Tk (fun _ => hck _) rfl rfl rfl ?_
    first | refine g_cnd Tk Tryd.func40 rfl (fun h2 => ?_) (fun h2 => ?_) | refine g_know Tk Tryd.func40 rfl (fun h2 => ?_) (fun h2 => ?_) | refine s_know Tk (fun h2 => ?_) (fun h2 => ?_)
    rotate_left
    · exact absurd (bneF h2) h1
    refine g_ret Tk (r := .tup [.i (.v (.string ⟨#[]⟩)), ii e]) rfl rfl rfl trivial rfl rfl ?_
    rfl
  rw [if_neg h1] at hR
  have h1 : e = 0 := by simpa using h1
  subst h1
  obtain ⟨hd, hb⟩ := hok rfl
  have hl16 := hd.len
  by_cases he : boxes = []
  · subst he
    have hR : ((⟨#[102, 97, 108, 115, 101]⟩ : ByteArray), (0 : Int)) = R := hR
    subst hR
    refine aspecT_stop [] Tk Tryd.func40 rfl Tryd.call40 Tryd.ntmps40 (Nat.le_of_ble_eq_true rfl) fun E hE => ?_
    refine g_run Tk Tryd.func40 ?_
    first | refine g_call Tk Tryd.func40 (hck _) rfl rfl rfl rfl rfl ?_ | refine s_callq Tk (fun _ => hck _) rfl rfl rfl ?_
    repeat (first | refine g_cnd Tk Tryd.func40 rfl (fun _ => ?_) (fun h => absurd h (by decide)) | refine g_know Tk Tryd.func40 rfl (fun _ => ?_) (fun h => absurd h (by decide)) | refine s_know Tk (fun _ => ?_) (fun h => absurd h (by decide)) | refine g_cnd Tk Tryd.func40 rfl (fun h => absurd h (by decide)) (fun _ => ?_) | refine g_know Tk Tryd.func40 rfl (fun h => absurd h (by decide)) (fun _ => ?_) | refine s_know Tk (fun h => absurd h (by decide)) (fun _ => ?_) | refine g_cnd Tk Tryd.func40 rfl (fun _ => ?_) (fun h => absurd (show true = false from h) (by decide)) | refine g_know Tk Tryd.func40 rfl (fun _ => ?_) (fun h => absurd (show true = false from h) (by decide)) | refine s_know Tk (fun _ => ?_) (fun h => absurd (show true = false from h) (by decide)) | refine g_cnd Tk Tryd.func40 rfl (fun h => absurd (show false = true from h) (by decide)) (fun _ => ?_) | refine g_know Tk Tryd.func40 rfl (fun h => absurd (show false = true from h) (by decide)) (fun _ => ?_) | refine s_know Tk (fun h => absurd (show false = true from h) (by decide)) (fun _ => ?_))
    refine g_ret Tk (r := .tup [.i (.v (.string ⟨#[102, 97, 108, 115, 101]⟩)), ii 0]) rfl rfl rfl trivial rfl rfl ?_
    rfl
  rw [if_neg (by simpa using he)] at hR
  have hpos : 0 < boxes.length := List.length_pos_iff.2 he
  have hT0 : boxesBy l boxes 0 [] = boxesBy l (boxes.drop 0) 0 [] := rfl
  generalize boxesBy l boxes 0 [] = TX at *
  refine aspecT_stop [200007, 200031, 200038, 200048, 200052, 200055, 12, 20] Tk Tryd.func40 rfl Tryd.call40 Tryd.ntmps40 (Nat.le_of_ble_eq_true rfl) fun E hE => ?_
  refine g_run Tk Tryd.func40 ?_
  first | refine g_call Tk Tryd.func40 (hck _) rfl rfl rfl rfl rfl ?_ | refine s_callq Tk (fun _ => hck _) rfl rfl rfl ?_
  repeat (first | refine g_cnd Tk Tryd.func40 rfl (fun _ => ?_) (fun h => absurd h (by decide)) | refine g_know Tk Tryd.func40 rfl (fun _ => ?_) (fun h => absurd h (by decide)) | refine s_know Tk (fun _ => ?_) (fun h => absurd h (by decide)) | refine g_cnd Tk Tryd.func40 rfl (fun h => absurd h (by decide)) (fun _ => ?_) | refine g_know Tk Tryd.func40 rfl (fun h => absurd h (by decide)) (fun _ => ?_) | refine s_know Tk (fun h => absurd h (by decide)) (fun _ => ?_) | refine g_cnd Tk Tryd.func40 rfl (fun _ => ?_) (fun h => absurd (show true = false from h) (by decide)) | refine g_know Tk Tryd.func40 rfl (fun _ => ?_) (fun h => absurd (show true = false from h) (by decide)) | refine s_know Tk (fun _ => ?_) (fun h => absurd (show true = false from h) (by decide)) | refine g_cnd Tk Tryd.func40 rfl (fun h => absurd (show false = true from h) (by decide)) (fun _ => ?_) | refine g_know Tk Tryd.func40 rfl (fun h => absurd (show false = true from h) (by decide)) (fun _ => ?_) | refine s_know Tk (fun h => absurd (show false = true from h) (by decide)) (fun _ => ?_))
  first | refine g_cnd Tk Tryd.func40 rfl (fun g0 => ?_) (fun g0 => ?_) | refine g_know Tk Tryd.func40 rfl (fun g0 => ?_) (fun g0 => ?_) | refine s_know Tk (fun g0 => ?_) (fun g0 => ?_)
  · have := beqT g0
    omega
  clear g0
  refine g_tb Tk Tryd.func40 rfl rfl rfl rfl rfl rfl rfl rfl ?_
  refine g_loop ?_
  refine rch_wk (wk_niltb 7 60 5 1 rfl rfl rfl) ?_
  refine rch_loop2 (fun x : Nat × List UInt8 × Bool => [(0, vrs l), (7, .own 0 7 0 0), (22, bxs boxes), (23, ii boxes.length), (24, ii x.1)]) (fun x => [(7, .tb 168 [dpD x.2.2, .osl 0 60]), (60, oby x.2.1)]) (fun _ => O) 56
    (fun x => x.1 ≤ boxes.length ∧ x.2.1.length ≤ 40000 * x.1 ∧ (x.1 = 0 ∨ x.2.1 ≠ []) ∧ boxesBy l (boxes.drop x.1) x.1 x.2.1 = TX) (fun x => boxes.length - x.1) (0, [], false)
    ⟨Nat.zero_le _, by simp, .inl rfl, hT0.symm⟩ ⟨rfl, rfl, rfl, rfl, rfl, trivial⟩ rfl ⟨rfl, rfl, trivial⟩ rfl rfl ?_
  clear hT0
  rintro ⟨i, T, p⟩ ⟨hi, hTl, hT0, hno⟩ ih
  simp only at hi hTl hT0 hno
  refine g_run Tk Tryd.func40 ?_
  first | refine g_cnd Tk Tryd.func40 rfl (fun g1 => ?_) (fun g1 => ?_) | refine g_know Tk Tryd.func40 rfl (fun g1 => ?_) (fun g1 => ?_) | refine s_know Tk (fun g1 => ?_) (fun g1 => ?_)
  · have h2 : i < boxes.length := by simpa using g1
    clear g1
    have gb : (boxes.map bxI)[(i : Int).toNat]? = some (bxI boxes[i]) := get_mapZ h2
    have db : boxes.drop i = boxes[i] :: boxes.drop (i + 1) := List.drop_eq_getElem_cons h2
    have hbs := hb _ (List.getElem_mem h2)
    rw [db] at hno
    simp only [boxesBy, boxBy] at hno
    clear db
    have hli := fun O => literals91 O l boxes[i] hbs.1 hbs.2.1 hl16
    have hll : (boxes[i].lits l).length ≤ 2 * l.length := lits_len l 0 boxes[i].low boxes[i].high
    have hlx := chkV_lits (i := 0) (n := l.length) (by omega) hbs.2.2 (fun v hv => (hd.b v hv).1)
    have hly : ∀ x ∈ boxes[i].lits l, x.var < l.length ∧ (-65536 ≤ x.lo ∧ x.lo ≤ 65536) ∧ -65536 ≤ x.hi ∧ x.hi ≤ 65536 := hlx
    clear hlx
    generalize boxes[i] = b at *
    generalize b.lits l = L at *
    obtain ⟨lo, hi2⟩ := b
    have hi1 : ii (IntKind.i64.wrap ((i : Int) + 1)) = ii ((i + 1 : Nat) : Int) := congrArg ii (wsucc (n := 4096) (by omega) (by decide))
    first | refine g_need Tk Tryd.func40 (by exact ⟨by omega, by show (i : Int) < (boxes.length : Int); omega⟩) ?_ | refine s_need Tk (by exact ⟨by omega, by show (i : Int) < (boxes.length : Int); omega⟩) ?_
    first | refine g_elem Tk Tryd.func40 (gb) ?_ | refine s_elem Tk (gb) ?_
    generalize hT1 : T ++ (if i > 0 then orB else []) = T1 at *
    have hT1l : T1.length ≤ T.length + 4 := by
      rw [← hT1, List.length_append]
      split <;> simp [orB]
    apply join_q (P := fun _ : Bool => True) (s6 := fun p => { σ := [(0, vrs l), (7, .own 0 7 0 0), (22, bxs boxes), (23, ii boxes.length), (24, ii i), (9, .own 0 9 0 0)], S := [(7, .tb 168 [dpD p, .osl 0 60]), (60, oby T1), (9, .box [ints lo, ints hi2])] :: O, n := 56 })
    · intro J
      first | refine g_cnd Tk Tryd.func40 rfl (fun c1 => ?_) (fun c1 => ?_) | refine g_know Tk Tryd.func40 rfl (fun c1 => ?_) (fun c1 => ?_) | refine s_know Tk (fun c1 => ?_) (fun c1 => ?_)
      · have c1 : 0 < i := by have := of_decide_eq_true c1; omega
        rw [if_pos c1] at hT1
        refine g_callP Tk Tryd.func40 rfl rfl rfl rfl (does_ws rfl ⟨#[32, 111, 114, 32]⟩ T (dpD_or p) (by show T.length + 4 ≤ _; omega) rfl (show 31 < 56 by decide) rfl rfl rfl (by decide)) ?_
        refine g_stop ?_
        refine rch_meet (J true trivial) ⟨rfl, rfl, rfl, rfl, rfl, rfl, trivial⟩ rfl ⟨rfl, by rw [← hT1]; rfl, rfl, trivial⟩ rfl rfl
      · have c1 : ¬ 0 < i := by have := of_decide_eq_false c1; omega
        rw [if_neg c1, List.append_nil] at hT1
        refine g_stop ?_
        refine rch_meet (J p trivial) ⟨rfl, rfl, rfl, rfl, rfl, rfl, trivial⟩ rfl ⟨rfl, by rw [← hT1]; rfl, rfl, trivial⟩ (by cases p <;> rfl) rfl
    · rintro p2 -
      refine g_run Tk Tryd.func40 ?_
      refine g_go Tk Tryd.func40 ?_
      first | refine g_call Tk Tryd.func40 (hli _) rfl rfl rfl rfl rfl ?_ | refine s_callq Tk (fun _ => hli _) rfl rfl rfl ?_
      cases hL : L with
      | nil =>
        rw [hL] at hno
        simp only [List.isEmpty_nil, if_true] at hno
        repeat (first | refine g_cnd Tk Tryd.func40 rfl (fun _ => ?_) (fun h => absurd h (by decide)) | refine g_know Tk Tryd.func40 rfl (fun _ => ?_) (fun h => absurd h (by decide)) | refine s_know Tk (fun _ => ?_) (fun h => absurd h (by decide)) | refine g_cnd Tk Tryd.func40 rfl (fun h => absurd h (by decide)) (fun _ => ?_) | refine g_know Tk Tryd.func40 rfl (fun h => absurd h (by decide)) (fun _ => ?_) | refine s_know Tk (fun h => absurd h (by decide)) (fun _ => ?_) | refine g_cnd Tk Tryd.func40 rfl (fun _ => ?_) (fun h => absurd (show true = false from h) (by decide)) | refine g_know Tk Tryd.func40 rfl (fun _ => ?_) (fun h => absurd (show true = false from h) (by decide)) | refine s_know Tk (fun _ => ?_) (fun h => absurd (show true = false from h) (by decide)) | refine g_cnd Tk Tryd.func40 rfl (fun h => absurd (show false = true from h) (by decide)) (fun _ => ?_) | refine g_know Tk Tryd.func40 rfl (fun h => absurd (show false = true from h) (by decide)) (fun _ => ?_) | refine s_know Tk (fun h => absurd (show false = true from h) (by decide)) (fun _ => ?_))
        refine g_callP Tk Tryd.func40 rfl rfl rfl rfl (does_ws rfl ⟨#[116, 114, 117, 101]⟩ T1 (dpD_or p2) (by show T1.length + 4 ≤ _; omega) rfl (show 38 < 56 by decide) rfl rfl rfl (by decide)) ?_
        refine g_loop ?_
        refine g_run Tk Tryd.func40 ?_
        repeat (first | refine g_cnd Tk Tryd.func40 rfl (fun _ => ?_) (fun h => absurd h (by decide)) | refine g_know Tk Tryd.func40 rfl (fun _ => ?_) (fun h => absurd h (by decide)) | refine s_know Tk (fun _ => ?_) (fun h => absurd h (by decide)) | refine g_cnd Tk Tryd.func40 rfl (fun h => absurd h (by decide)) (fun _ => ?_) | refine g_know Tk Tryd.func40 rfl (fun h => absurd h (by decide)) (fun _ => ?_) | refine s_know Tk (fun h => absurd h (by decide)) (fun _ => ?_) | refine g_cnd Tk Tryd.func40 rfl (fun _ => ?_) (fun h => absurd (show true = false from h) (by decide)) | refine g_know Tk Tryd.func40 rfl (fun _ => ?_) (fun h => absurd (show true = false from h) (by decide)) | refine s_know Tk (fun _ => ?_) (fun h => absurd (show true = false from h) (by decide)) | refine g_cnd Tk Tryd.func40 rfl (fun h => absurd (show false = true from h) (by decide)) (fun _ => ?_) | refine g_know Tk Tryd.func40 rfl (fun h => absurd (show false = true from h) (by decide)) (fun _ => ?_) | refine s_know Tk (fun h => absurd (show false = true from h) (by decide)) (fun _ => ?_))
        refine g_loop ?_
        refine ih (i + 1, T1 ++ trueB, true) _ _ ⟨h2, by simp only [List.length_append]; show T1.length + 4 ≤ _; omega, .inr (by simp [trueB]), hno⟩ (by simp only; omega) ⟨rfl, rfl, rfl, rfl, hi1, trivial⟩ rfl ⟨rfl, rfl, trivial⟩ rfl rfl
      | cons x0 r0 =>
        have hne : L ≠ [] := by rw [hL]; simp
        have hie : ¬ L.isEmpty = true := by rw [hL]; simp
        rw [if_neg hie] at hno
        rw [← hL]
        have hpos2 : 0 < L.length := List.length_pos_iff.2 hne
        clear hL
        first | refine g_cnd Tk Tryd.func40 rfl (fun c2 => ?_) (fun c2 => ?_) | refine g_know Tk Tryd.func40 rfl (fun c2 => ?_) (fun c2 => ?_) | refine s_know Tk (fun c2 => ?_) (fun c2 => ?_)
        · have := beqT c2
          omega
        clear c2
        have hF0 : litsBy l L 0 T1 = litsBy l (L.drop 0) 0 T1 := rfl
        generalize litsBy l L 0 T1 = F at *
        refine g_loop ?_
        refine rch_loop2 (fun x : Nat × List UInt8 × Bool => [(0, vrs l), (7, .own 0 7 0 0), (22, bxs boxes), (23, ii boxes.length), (24, ii i), (39, litsD L), (40, ii L.length), (41, ii x.1)]) (fun x => [(7, .tb 168 [dpD x.2.2, .osl 0 60]), (60, oby x.2.1)]) (fun _ => O) 56
          (fun x => x.1 ≤ L.length ∧ x.2.1.length ≤ T1.length + 1100 * x.1 ∧ (x.1 = 0 ∨ x.2.1 ≠ []) ∧ F = litsBy l (L.drop x.1) x.1 x.2.1) (fun x => L.length - x.1) (0, T1, p2)
          ⟨Nat.zero_le _, by simp, .inl rfl, hF0⟩ ⟨rfl, rfl, rfl, rfl, rfl, rfl, rfl, rfl, trivial⟩ rfl ⟨rfl, rfl, trivial⟩ (by cases p2 <;> rfl) rfl ?_
        clear hF0
        rintro ⟨k, U, q⟩ ⟨hk, hUl, hU0, hF⟩ ih2
        simp only at hk hUl hU0 hF
        refine g_run Tk Tryd.func40 ?_
        first | refine g_cnd Tk Tryd.func40 rfl (fun g2 => ?_) (fun g2 => ?_) | refine g_know Tk Tryd.func40 rfl (fun g2 => ?_) (fun g2 => ?_) | refine s_know Tk (fun g2 => ?_) (fun g2 => ?_)
        · have h3 : k < L.length := by simpa using g2
          clear g2
          have gl : (L.map litI)[(k : Int).toNat]? = some (litI L[k]) := get_mapZ h3
          have dl : L.drop k = L[k] :: L.drop (k + 1) := List.drop_eq_getElem_cons h3
          have hx := hly _ (List.getElem_mem h3)
          rw [dl] at hF
          simp only [litsBy] at hF
          clear dl
          generalize L[k] = x at *
          have hxs := litTx_size hx.1 hn ⟨by omega, by omega⟩ ⟨by omega, by omega⟩
          have hlt := fun O => litText92 hg (ty := ty) (fr := fr) O l x hx.1 hn ⟨by omega, by omega⟩ ⟨by omega, by omega⟩
          generalize litTx l x = W at *
          obtain ⟨xv, xlo, xhi, xf, xt⟩ := x
          have hk1 : ii (IntKind.i64.wrap ((k : Int) + 1)) = ii ((k + 1 : Nat) : Int) := congrArg ii (wsucc (n := 4096) (by omega) (by decide))
          first | refine g_need Tk Tryd.func40 (by exact ⟨by omega, by show (k : Int) < (L.length : Int); omega⟩) ?_ | refine s_need Tk (by exact ⟨by omega, by show (k : Int) < (L.length : Int); omega⟩) ?_
          first | refine g_elem Tk Tryd.func40 (gl) ?_ | refine s_elem Tk (gl) ?_
          generalize hU1 : U ++ (if k > 0 then andB else []) = U1 at *
          have hU1l : U1.length ≤ U.length + 5 := by
            rw [← hU1, List.length_append]
            split <;> simp [andB]
          apply join_q (P := fun _ : Bool => True) (s6 := fun p => { σ := [(0, vrs l), (7, .own 0 7 0 0), (22, bxs boxes), (23, ii boxes.length), (24, ii i), (12, .own 0 12 0 0), (39, litsD L), (40, ii L.length), (41, ii k)], S := [(7, .tb 168 [dpD p, .osl 0 60]), (60, oby U1), (12, .box [ii (xv : Int), ii xlo, ii xhi, bb xf, bb xt])] :: O, n := 56 })
          · intro J
            first | refine g_cnd Tk Tryd.func40 rfl (fun c1 => ?_) (fun c1 => ?_) | refine g_know Tk Tryd.func40 rfl (fun c1 => ?_) (fun c1 => ?_) | refine s_know Tk (fun c1 => ?_) (fun c1 => ?_)
            · have c1 : 0 < k := by have := of_decide_eq_true c1; omega
              rw [if_pos c1] at hU1
              refine g_callP Tk Tryd.func40 rfl rfl rfl rfl (does_ws rfl ⟨#[32, 97, 110, 100, 32]⟩ U (dpD_or q) (by show U.length + 5 ≤ _; omega) rfl (show 48 < 56 by decide) rfl rfl rfl (by decide)) ?_
              refine g_stop ?_
              refine rch_meet (J true trivial) ⟨rfl, rfl, rfl, rfl, rfl, rfl, rfl, rfl, rfl, trivial⟩ rfl ⟨rfl, by rw [← hU1]; rfl, rfl, trivial⟩ rfl rfl
            · have c1 : ¬ 0 < k := by have := of_decide_eq_false c1; omega
              rw [if_neg c1, List.append_nil] at hU1
              refine g_stop ?_
              refine rch_meet (J q trivial) ⟨rfl, rfl, rfl, rfl, rfl, rfl, rfl, rfl, rfl, trivial⟩ rfl ⟨rfl, by rw [← hU1]; rfl, rfl, trivial⟩ (by cases q <;> rfl) rfl
          · rintro q2 -
            refine g_run Tk Tryd.func40 ?_
            refine g_go Tk Tryd.func40 ?_
            refine g_callT Tk Tryd.func40 hE (hlt _) rfl rfl rfl rfl rfl rfl ?_
            refine g_callP Tk Tryd.func40 rfl rfl rfl rfl (does_ws rfl W U1 (dpD_or q2) (by omega) rfl (show 52 < 56 by decide) rfl rfl rfl (by decide)) ?_
            refine g_loop ?_
            refine ih2 (k + 1, U1 ++ W.data.toList, true) _ _ ⟨h3, by simp only [List.length_append, size_list]; omega, .inr fun e => ?_, hF⟩ (by simp only; omega) ⟨rfl, rfl, rfl, rfl, rfl, rfl, rfl, hk1, trivial⟩ rfl ⟨rfl, rfl, trivial⟩ rfl rfl
            have := congrArg List.length e
            simp only [List.length_append, size_list, List.length_nil] at this
            omega
        · have h3 : L.length ≤ k := by simpa using g2
          rw [List.drop_eq_nil_of_le h3] at hF
          simp only [litsBy] at hF
          rw [hF] at hno
          refine g_loop ?_
          exact ih (i + 1, U, q) _ _ ⟨h2, by simp only; omega, hU0.imp (fun e => by omega) id, hno⟩ (by simp only; omega) ⟨rfl, rfl, rfl, rfl, hi1, trivial⟩ rfl ⟨rfl, rfl, trivial⟩ (by cases q <;> rfl) rfl
  · have h2 : boxes.length ≤ i := by simpa using g1
    rw [List.drop_eq_nil_of_le h2] at hno
    simp only [boxesBy] at hno
    subst hno
    have hT0 : T ≠ [] := hT0.resolve_left (by omega)
    refine g_callP Tk Tryd.func40 rfl rfl rfl rfl (does_bs rfl hT0 rfl (show 55 < 56 by decide) rfl rfl rfl) ?_
    subst hR
    refine g_ret Tk (r := .tup [.i (.v (.string ⟨T.toArray⟩)), ii 0]) rfl rfl rfl trivial rfl rfl ?_
    rfl
end Go.AI


/- The examples of the chapter on guards. -/
namespace Go.AI
open Go.Proofs
set_option maxRecDepth 20000
def cmpE (op v n : Int) : Ex := .mk op 0 0 [.mk 1 0 v [], .mk 0 n 0 []]
def twoV : List Vr := [⟨⟨#[120]⟩, 0, 3, 0⟩, ⟨⟨#[121]⟩, 0, 1, 0⟩]
def xE : Ex := .mk 12 0 0 [cmpE 8 0 2, cmpE 6 1 1]
theorem compare69 (O : List Heap) (op v n : Int) : ASpec Tryd.prog 69 [ii op, ii v, ii n] O (exA (cmpE op v n)) [] O := by
  refine aspec_intro Tk Tryd.func69 rfl Tryd.call69 Tryd.ntmps69 (Nat.le_of_ble_eq_true rfl) fun E => ?_
  refine g_run Tk Tryd.func69 ?_
  refine g_ret_co Tk (r := _) rfl rfl rfl trivial rfl rfl ?_
  show CoD _ (.agg [ii op, ii 0, ii 0, .i (.sl 4 2 [[vi 1, vi 0, vi v, .sl 4 0 []], [vi 0, vi n, vi 0, .sl 4 0 []]])])
  repeat' (first | refine coD_tup ?_ | refine coD_agg ?_ | refine coD_i ?_ | refine CoDL.cons ?_ ?_ | exact CoDL.nil | exact coI_nil | refine coI_sl ?_ | refine CoLL.cons ?_ ?_ | exact CoLL.nil | refine CoL.cons ?_ ?_ | exact CoL.nil | exact CoI.refl _ | exact CoL.refl _ | exact CoLL.refl _ | exact CoDL.refl _ | exact CoD.refl _)
theorem two70 (O : List Heap) : ASpec Tryd.prog 70 [] O (vrs twoV) [] O := by
  refine aspec_intro Tk Tryd.func70 rfl Tryd.call70 Tryd.ntmps70 (Nat.le_of_ble_eq_true rfl) fun E => ?_
  refine g_run Tk Tryd.func70 ?_
  refine g_ret Tk (r := vrs twoV) rfl rfl rfl trivial rfl rfl ?_
  rfl
def tK : List Bool := [true, true, true, true, false, true, false, true]
def cK : List Bool := [true, true, true, true, true, true, true, true]
def bK : List Bx := [⟨[0, 0], [1, 1]⟩, ⟨[0, 1], [3, 1]⟩]
theorem known_t : tableG twoV xE = (tK, 0) := by kernel_rfl
theorem known_c : tableG twoV trueE = (cK, 0) := by kernel_rfl
theorem known_b : boxesG twoV tK cK = (bK, 0) := by kernel_rfl
theorem known_s : textR twoV bK = (⟨#[120, 32, 60, 61, 32, 49, 32, 111, 114, 32, 121, 32, 61, 32, 49]⟩, 0) := by kernel_rfl
theorem known_n : literalsR twoV bK = (2, 0) := by kernel_rfl
theorem known_i : cmpR (fun a b => a && !b) twoV (cmpE 8 0 3) (cmpE 8 0 2) = ([2, 0], false, 0) := by kernel_rfl
theorem known_y : simplR twoV xE (cmpE 6 1 1) = (trueE, 0) := by kernel_rfl
theorem exOk_cmp (op v n : Int) : exOk (cmpE op v n) := exOk_two (exOk_leaf _ _ _) (exOk_leaf _ _ _)
theorem exOk_xE : exOk xE := exOk_two (exOk_cmp _ _ _) (exOk_cmp _ _ _)
theorem two_len : twoV.length ≤ max63 := by decide
theorem two_nm : ∀ v ∈ twoV, v.name.size ≤ max63 := by
  intro v hv
  simp only [twoV, List.mem_cons, List.mem_nil_iff, or_false] at hv
  rcases hv with rfl | rfl <;> decide
theorem two_nm2 : ∀ v ∈ twoV, v.name.size ≤ 1000 := by
  intro v hv
  simp only [twoV, List.mem_cons, List.mem_nil_iff, or_false] at hv
  rcases hv with rfl | rfl <;> decide
theorem known15 {g : Nat} (hg : IsTab g) {ty : TypeId} {fr : Nat × Nat} (O : List Heap) : ASpecT g (ptab ty fr) Tryd.prog 15 [] O (bb true) [] O := by
  have ht := fun O => table31 O twoV xE two_len two_nm exOk_xE
  have hc := fun O => table31 O twoV trueE two_len two_nm exOk_true
  have hb := fun O => boxes19 O twoV tK cK two_len two_nm
  have hs := fun O => text40 hg (ty := ty) (fr := fr) O twoV bK two_len two_nm2 (by decide)
  have hn := fun O => literals41 O twoV bK two_len two_nm (by decide)
  have hi := fun O => implies34 O twoV (cmpE 8 0 3) (cmpE 8 0 2) two_len two_nm (exOk_cmp _ _ _) (exOk_cmp _ _ _)
  have hy := fun O => simplify24 O twoV xE (cmpE 6 1 1) two_len two_nm exOk_xE (exOk_cmp _ _ _)
  simp only [known_t] at ht
  simp only [known_c] at hc
  simp only [known_b] at hb
  simp only [known_s] at hs
  simp only [known_n] at hn
  simp only [known_i] at hi
  simp only [known_y] at hy
  have he := fun O => equal41 (SizeOf.sizeOf trueE + 1) trueE trueE (by omega) exOk_true O
  have hsi := fun O => sameInts36 O [2, 0] [2, 0] (by decide)
  refine aspecT_stop [] Tk Tryd.func15 rfl Tryd.call15 Tryd.ntmps15 (Nat.le_of_ble_eq_true rfl) fun E hE => ?_
  refine g_run Tk Tryd.func15 ?_
  first | refine g_call Tk Tryd.func15 (compare69 _ 8 0 2) rfl rfl rfl rfl rfl ?_ | refine s_callq Tk (fun _ => compare69 _ 8 0 2) rfl rfl rfl ?_
  first | refine g_call Tk Tryd.func15 (compare69 _ 6 1 1) rfl rfl rfl rfl rfl ?_ | refine s_callq Tk (fun _ => compare69 _ 6 1 1) rfl rfl rfl ?_
  refine g_drawn Tk Tryd.func15 mixedT rfl ?_
  first | refine g_call Tk Tryd.func15 (two70 _) rfl rfl rfl rfl rfl ?_ | refine s_callq Tk (fun _ => two70 _) rfl rfl rfl ?_
  first | refine g_call Tk Tryd.func15 (ht _) rfl rfl rfl rfl rfl ?_ | refine s_callq Tk (fun _ => ht _) rfl rfl rfl ?_
  refine e_done Tk Tryd.func15 (by kernel_rfl) ?_
  first | refine g_call Tk Tryd.func15 (two70 _) rfl rfl rfl rfl rfl ?_ | refine s_callq Tk (fun _ => two70 _) rfl rfl rfl ?_
  first | refine g_call Tk Tryd.func15 (true56A _) rfl rfl rfl rfl rfl ?_ | refine s_callq Tk (fun _ => true56A _) rfl rfl rfl ?_
  first | refine g_call Tk Tryd.func15 (hc _) rfl rfl rfl rfl rfl ?_ | refine s_callq Tk (fun _ => hc _) rfl rfl rfl ?_
  first | refine g_call Tk Tryd.func15 (two70 _) rfl rfl rfl rfl rfl ?_ | refine s_callq Tk (fun _ => two70 _) rfl rfl rfl ?_
  first | refine g_call Tk Tryd.func15 (hb _) rfl rfl rfl rfl rfl ?_ | refine s_callq Tk (fun _ => hb _) rfl rfl rfl ?_
  first | refine g_call Tk Tryd.func15 (two70 _) rfl rfl rfl rfl rfl ?_ | refine s_callq Tk (fun _ => two70 _) rfl rfl rfl ?_
  refine g_callT Tk Tryd.func15 hE (hs _) rfl rfl rfl rfl rfl rfl ?_
  first | refine g_call Tk Tryd.func15 (two70 _) rfl rfl rfl rfl rfl ?_ | refine s_callq Tk (fun _ => two70 _) rfl rfl rfl ?_
  first | refine g_call Tk Tryd.func15 (hn _) rfl rfl rfl rfl rfl ?_ | refine s_callq Tk (fun _ => hn _) rfl rfl rfl ?_
  first | refine g_call Tk Tryd.func15 (two70 _) rfl rfl rfl rfl rfl ?_ | refine s_callq Tk (fun _ => two70 _) rfl rfl rfl ?_
  first | refine g_call Tk Tryd.func15 (compare69 _ 8 0 3) rfl rfl rfl rfl rfl ?_ | refine s_callq Tk (fun _ => compare69 _ 8 0 3) rfl rfl rfl ?_
  first | refine g_call Tk Tryd.func15 (compare69 _ 8 0 2) rfl rfl rfl rfl rfl ?_ | refine s_callq Tk (fun _ => compare69 _ 8 0 2) rfl rfl rfl ?_
  first | refine g_call Tk Tryd.func15 (hi _) rfl rfl rfl rfl rfl ?_ | refine s_callq Tk (fun _ => hi _) rfl rfl rfl ?_
  refine g_drawn Tk Tryd.func15 mixedT rfl ?_
  first | refine g_call Tk Tryd.func15 (two70 _) rfl rfl rfl rfl rfl ?_ | refine s_callq Tk (fun _ => two70 _) rfl rfl rfl ?_
  first | refine g_call Tk Tryd.func15 (compare69 _ 6 1 1) rfl rfl rfl rfl rfl ?_ | refine s_callq Tk (fun _ => compare69 _ 6 1 1) rfl rfl rfl ?_
  first | refine g_call Tk Tryd.func15 (hy _) rfl rfl rfl rfl rfl ?_ | refine s_callq Tk (fun _ => hy _) rfl rfl rfl ?_
  refine s_put Tk rfl rfl rfl ?_
  refine e_done Tk Tryd.func15 (by kernel_rfl) ?_
  refine g_drawn Tk Tryd.func15 mixedT rfl ?_
  repeat (first | refine g_cnd Tk Tryd.func15 rfl (fun _ => ?_) (fun h => absurd h (by decide)) | refine g_know Tk Tryd.func15 rfl (fun _ => ?_) (fun h => absurd h (by decide)) | refine s_know Tk (fun _ => ?_) (fun h => absurd h (by decide)) | refine g_cnd Tk Tryd.func15 rfl (fun h => absurd h (by decide)) (fun _ => ?_) | refine g_know Tk Tryd.func15 rfl (fun h => absurd h (by decide)) (fun _ => ?_) | refine s_know Tk (fun h => absurd h (by decide)) (fun _ => ?_) | refine g_cnd Tk Tryd.func15 rfl (fun _ => ?_) (fun h => absurd (show true = false from h) (by decide)) | refine g_know Tk Tryd.func15 rfl (fun _ => ?_) (fun h => absurd (show true = false from h) (by decide)) | refine s_know Tk (fun _ => ?_) (fun h => absurd (show true = false from h) (by decide)) | refine g_cnd Tk Tryd.func15 rfl (fun h => absurd (show false = true from h) (by decide)) (fun _ => ?_) | refine g_know Tk Tryd.func15 rfl (fun h => absurd (show false = true from h) (by decide)) (fun _ => ?_) | refine s_know Tk (fun h => absurd (show false = true from h) (by decide)) (fun _ => ?_))
  first | refine g_cnd Tk Tryd.func15 rfl (fun hq => ?_) (fun hq => ?_) | refine g_know Tk Tryd.func15 rfl (fun hq => ?_) (fun hq => ?_) | refine s_know Tk (fun hq => ?_) (fun hq => ?_)
  rotate_left
  · exact absurd hq (by simp)
  repeat (first | refine g_cnd Tk Tryd.func15 rfl (fun _ => ?_) (fun h => absurd h (by decide)) | refine g_know Tk Tryd.func15 rfl (fun _ => ?_) (fun h => absurd h (by decide)) | refine s_know Tk (fun _ => ?_) (fun h => absurd h (by decide)) | refine g_cnd Tk Tryd.func15 rfl (fun h => absurd h (by decide)) (fun _ => ?_) | refine g_know Tk Tryd.func15 rfl (fun h => absurd h (by decide)) (fun _ => ?_) | refine s_know Tk (fun h => absurd h (by decide)) (fun _ => ?_) | refine g_cnd Tk Tryd.func15 rfl (fun _ => ?_) (fun h => absurd (show true = false from h) (by decide)) | refine g_know Tk Tryd.func15 rfl (fun _ => ?_) (fun h => absurd (show true = false from h) (by decide)) | refine s_know Tk (fun _ => ?_) (fun h => absurd (show true = false from h) (by decide)) | refine g_cnd Tk Tryd.func15 rfl (fun h => absurd (show false = true from h) (by decide)) (fun _ => ?_) | refine g_know Tk Tryd.func15 rfl (fun h => absurd (show false = true from h) (by decide)) (fun _ => ?_) | refine s_know Tk (fun h => absurd (show false = true from h) (by decide)) (fun _ => ?_))
  first | refine g_call Tk Tryd.func15 (hsi _) rfl rfl rfl rfl rfl ?_ | refine s_callq Tk (fun _ => hsi _) rfl rfl rfl ?_
  repeat (first | refine g_cnd Tk Tryd.func15 rfl (fun _ => ?_) (fun h => absurd h (by decide)) | refine g_know Tk Tryd.func15 rfl (fun _ => ?_) (fun h => absurd h (by decide)) | refine s_know Tk (fun _ => ?_) (fun h => absurd h (by decide)) | refine g_cnd Tk Tryd.func15 rfl (fun h => absurd h (by decide)) (fun _ => ?_) | refine g_know Tk Tryd.func15 rfl (fun h => absurd h (by decide)) (fun _ => ?_) | refine s_know Tk (fun h => absurd h (by decide)) (fun _ => ?_) | refine g_cnd Tk Tryd.func15 rfl (fun _ => ?_) (fun h => absurd (show true = false from h) (by decide)) | refine g_know Tk Tryd.func15 rfl (fun _ => ?_) (fun h => absurd (show true = false from h) (by decide)) | refine s_know Tk (fun _ => ?_) (fun h => absurd (show true = false from h) (by decide)) | refine g_cnd Tk Tryd.func15 rfl (fun h => absurd (show false = true from h) (by decide)) (fun _ => ?_) | refine g_know Tk Tryd.func15 rfl (fun h => absurd (show false = true from h) (by decide)) (fun _ => ?_) | refine s_know Tk (fun h => absurd (show false = true from h) (by decide)) (fun _ => ?_))
  first | refine g_call Tk Tryd.func15 (true56A _) rfl rfl rfl rfl rfl ?_ | refine s_callq Tk (fun _ => true56A _) rfl rfl rfl ?_
  first | refine g_call Tk Tryd.func15 (he _) rfl rfl rfl rfl rfl ?_ | refine s_callq Tk (fun _ => he _) rfl rfl rfl ?_
  refine e_done Tk Tryd.func15 (by kernel_rfl) ?_
  refine g_ret Tk (r := bb true) rfl rfl rfl trivial rfl rfl ?_
  rfl
end Go.AI


/- Digits. -/
namespace Go.AI
open Go.Proofs
set_option maxRecDepth 20000
end Go.AI


/- Literals with texts. -/
namespace Go.AI
open Go.Proofs
set_option maxRecDepth 20000
end Go.AI


/- The guard of boxes, with its text. -/
namespace Go.AI
open Go.Proofs
set_option maxRecDepth 20000
end Go.AI


/- Expr and Holds. -/
namespace Go.AI
open Go.Proofs
set_option maxRecDepth 20000
def exprR (l : List Vr) (boxes : List Bx) : Ex × Int := if checkBoxesR l boxes ≠ 0 then (zeroE, checkBoxesR l boxes) else joinedR l boxes
theorem expr39 (O : List Heap) (l : List Vr) (boxes : List Bx) (hl : l.length ≤ max63) (hn : ∀ v ∈ l, v.name.size ≤ max63) (hbl : boxes.length ≤ 4096) : ASpec Tryd.prog 39 [vrs l, bxs boxes] O (.tup [exA (exprR l boxes).1, ii (exprR l boxes).2]) [] O := by
  have hck := fun O => checkBoxes89 O l boxes hl hn (by simp only [max63]; omega)
  have hok := @checkBoxes_ok l boxes
  have hjo := fun h1 h2 O => joined76 O l boxes h1 h2 hbl
  generalize hR : exprR l boxes = R
  unfold exprR at hR
  generalize checkBoxesR l boxes = e at *
  generalize joinedR l boxes = J at *
  refine aspec_intro Tk Tryd.func39 rfl Tryd.call39 Tryd.ntmps39 (Nat.le_of_ble_eq_true rfl) fun E => ?_
  refine g_run Tk Tryd.func39 ?_
  first | refine g_call Tk Tryd.func39 (hck _) rfl rfl rfl rfl rfl ?_ | refine s_callq Tk (fun _ => hck _) rfl rfl rfl ?_
  first | refine g_cnd Tk Tryd.func39 rfl (fun h1 => ?_) (fun h1 => ?_) | refine g_know Tk Tryd.func39 rfl (fun h1 => ?_) (fun h1 => ?_) | refine s_know Tk (fun h1 => ?_) (fun h1 => ?_)
  · have h1 := bneT h1
    rw [if_pos h1] at hR
    subst hR
    refine g_ret_co Tk (r := .tup [.agg [ii 0, ii 0, ii 0, .i (.v (.slice none 0 0))], ii e]) rfl rfl rfl trivial rfl rfl ?_
    exact coZeroE
  have h1 := bneF h1
  rw [if_neg (by simpa using h1)] at hR
  subst hR
  have hd := hok h1
  obtain ⟨⟨jo, jv, ji, ja⟩, je⟩ := J
  have hjo := hjo hd.1.len fun b hb => ⟨(hd.2 b hb).1, (hd.2 b hb).2.1⟩
  first | refine g_call Tk Tryd.func39 (hjo _) rfl rfl rfl rfl rfl ?_ | refine s_callq Tk (fun _ => hjo _) rfl rfl rfl ?_
  refine g_ret Tk (r := .tup [exA (.mk jo jv ji ja), ii je]) rfl rfl rfl trivial rfl rfl ?_
  rfl
def holdsR (l : List Vr) (boxes : List Bx) (v : List Int) : Bool × Int := if checkBoxesR l boxes ≠ 0 then (false, checkBoxesR l boxes) else if within l v = false then (false, 2) else (inBs boxes v, 0)
theorem within_length {l : List Vr} {v : List Int} (h : within l v = true) : l.length = v.length := by
  apply Classical.byContradiction
  intro hc
  rw [within_len l v hc] at h
  cases h
theorem holds42 (O : List Heap) (l : List Vr) (boxes : List Bx) (v : List Int) (hl : l.length ≤ max63) (hn : ∀ v ∈ l, v.name.size ≤ max63) (hbl : boxes.length ≤ max63) : ASpec Tryd.prog 42 [vrs l, bxs boxes, ints v] O (.tup [bb (holdsR l boxes v).1, ii (holdsR l boxes v).2]) [] O := by
  have hck := fun O => checkBoxes89 O l boxes hl hn hbl
  have hok := @checkBoxes_ok l boxes
  have hwi := fun O => within52 O l v hl
  have hwl := @within_length l v
  generalize hR : holdsR l boxes v = R
  unfold holdsR at hR
  generalize checkBoxesR l boxes = e at *
  refine aspec_intro Tk Tryd.func42 rfl Tryd.call42 Tryd.ntmps42 (Nat.le_of_ble_eq_true rfl) fun E => ?_
  refine g_run Tk Tryd.func42 ?_
  first | refine g_call Tk Tryd.func42 (hck _) rfl rfl rfl rfl rfl ?_ | refine s_callq Tk (fun _ => hck _) rfl rfl rfl ?_
  first | refine g_cnd Tk Tryd.func42 rfl (fun h1 => ?_) (fun h1 => ?_) | refine g_know Tk Tryd.func42 rfl (fun h1 => ?_) (fun h1 => ?_) | refine s_know Tk (fun h1 => ?_) (fun h1 => ?_)
  · have h1 := bneT h1
    rw [if_pos h1] at hR
    subst hR
    refine g_ret Tk (r := .tup [bb false, ii e]) rfl rfl rfl trivial rfl rfl ?_
    rfl
  have h1 := bneF h1
  rw [if_neg (by simpa using h1)] at hR
  have hd := hok h1
  first | refine g_call Tk Tryd.func42 (hwi _) rfl rfl rfl rfl rfl ?_ | refine s_callq Tk (fun _ => hwi _) rfl rfl rfl ?_
  cases hw : within l v with
  | false =>
    rw [hw, if_pos rfl] at hR
    subst hR
    repeat (first | refine g_cnd Tk Tryd.func42 rfl (fun _ => ?_) (fun h => absurd h (by decide)) | refine g_know Tk Tryd.func42 rfl (fun _ => ?_) (fun h => absurd h (by decide)) | refine s_know Tk (fun _ => ?_) (fun h => absurd h (by decide)) | refine g_cnd Tk Tryd.func42 rfl (fun h => absurd h (by decide)) (fun _ => ?_) | refine g_know Tk Tryd.func42 rfl (fun h => absurd h (by decide)) (fun _ => ?_) | refine s_know Tk (fun h => absurd h (by decide)) (fun _ => ?_) | refine g_cnd Tk Tryd.func42 rfl (fun _ => ?_) (fun h => absurd (show true = false from h) (by decide)) | refine g_know Tk Tryd.func42 rfl (fun _ => ?_) (fun h => absurd (show true = false from h) (by decide)) | refine s_know Tk (fun _ => ?_) (fun h => absurd (show true = false from h) (by decide)) | refine g_cnd Tk Tryd.func42 rfl (fun h => absurd (show false = true from h) (by decide)) (fun _ => ?_) | refine g_know Tk Tryd.func42 rfl (fun h => absurd (show false = true from h) (by decide)) (fun _ => ?_) | refine s_know Tk (fun h => absurd (show false = true from h) (by decide)) (fun _ => ?_))
    refine g_ret Tk (r := .tup [bb false, ii 2]) rfl rfl rfl trivial rfl rfl ?_
    rfl
  | true =>
    rw [hw, if_neg (by decide)] at hR
    subst hR
    have hlen := hwl hw
    have hin := fun O => in94 O boxes v hbl (fun b hb => ⟨by rw [(hd.2 b hb).1]; omega, by rw [(hd.2 b hb).2.1]; omega⟩) (by omega)
    repeat (first | refine g_cnd Tk Tryd.func42 rfl (fun _ => ?_) (fun h => absurd h (by decide)) | refine g_know Tk Tryd.func42 rfl (fun _ => ?_) (fun h => absurd h (by decide)) | refine s_know Tk (fun _ => ?_) (fun h => absurd h (by decide)) | refine g_cnd Tk Tryd.func42 rfl (fun h => absurd h (by decide)) (fun _ => ?_) | refine g_know Tk Tryd.func42 rfl (fun h => absurd h (by decide)) (fun _ => ?_) | refine s_know Tk (fun h => absurd h (by decide)) (fun _ => ?_) | refine g_cnd Tk Tryd.func42 rfl (fun _ => ?_) (fun h => absurd (show true = false from h) (by decide)) | refine g_know Tk Tryd.func42 rfl (fun _ => ?_) (fun h => absurd (show true = false from h) (by decide)) | refine s_know Tk (fun _ => ?_) (fun h => absurd (show true = false from h) (by decide)) | refine g_cnd Tk Tryd.func42 rfl (fun h => absurd (show false = true from h) (by decide)) (fun _ => ?_) | refine g_know Tk Tryd.func42 rfl (fun h => absurd (show false = true from h) (by decide)) (fun _ => ?_) | refine s_know Tk (fun h => absurd (show false = true from h) (by decide)) (fun _ => ?_))
    first | refine g_call Tk Tryd.func42 (hin _) rfl rfl rfl rfl rfl ?_ | refine s_callq Tk (fun _ => hin _) rfl rfl rfl ?_
    refine g_ret Tk (r := .tup [bb (inBs boxes v), ii 0]) rfl rfl rfl trivial rfl rfl ?_
    rfl
end Go.AI


/- GuardRefuses. -/
namespace Go.AI
open Go.Proofs
set_option maxRecDepth 20000
theorem chkBs_step {l : List Vr} {b : Bx} {r : List Bx} : chkBs l (b :: r) = if chkBx l b ≠ 0 then chkBx l b else chkBs l r := rfl
set_option maxHeartbeats 4000000 in
theorem guardRefuses9 {g : Nat} (hg : IsTab g) {ty : TypeId} {fr : Nat × Nat} (O : List Heap) (r : List (Int × Int)) (boxes : List Bx) (v : List Int) (hr : r.length ≤ max63) (hp : ∀ p ∈ r, pairOk p) (hb : boxes.length ≤ max63) (hbm : ∀ b ∈ boxes, b.low.length ≤ max63 ∧ b.high.length ≤ max63) (hv : v.length ≤ max63) : ASpecT g (ptab ty fr) Tryd.prog 9 [r8s r, bxs boxes, ints v] O (bb true) [] O := by
  have hkn := fun O => known15 hg (ty := ty) (fr := fr) O
  have hrg := fun O => ranges45 O r hr hp
  have hs := rngs_small hp
  generalize rngsR r = l at *
  have hl3 := hs.len
  have hmx := hs.max
  have hnm : ∀ v ∈ l, v.name.size ≤ 1000 := fun v hv => by rw [(hs.v v hv).nm]; decide
  by_cases hb3 : 3 < boxes.length
  · refine aspecT_stop [] Tk Tryd.func9 rfl Tryd.call9 Tryd.ntmps9 (Nat.le_of_ble_eq_true rfl) fun E hE => ?_
    refine g_run Tk Tryd.func9 ?_
    refine g_callT Tk Tryd.func9 hE (hkn _) rfl rfl rfl rfl rfl rfl ?_
    repeat (first | refine g_cnd Tk Tryd.func9 rfl (fun _ => ?_) (fun h => absurd h (by decide)) | refine g_know Tk Tryd.func9 rfl (fun _ => ?_) (fun h => absurd h (by decide)) | refine s_know Tk (fun _ => ?_) (fun h => absurd h (by decide)) | refine g_cnd Tk Tryd.func9 rfl (fun h => absurd h (by decide)) (fun _ => ?_) | refine g_know Tk Tryd.func9 rfl (fun h => absurd h (by decide)) (fun _ => ?_) | refine s_know Tk (fun h => absurd h (by decide)) (fun _ => ?_) | refine g_cnd Tk Tryd.func9 rfl (fun _ => ?_) (fun h => absurd (show true = false from h) (by decide)) | refine g_know Tk Tryd.func9 rfl (fun _ => ?_) (fun h => absurd (show true = false from h) (by decide)) | refine s_know Tk (fun _ => ?_) (fun h => absurd (show true = false from h) (by decide)) | refine g_cnd Tk Tryd.func9 rfl (fun h => absurd (show false = true from h) (by decide)) (fun _ => ?_) | refine g_know Tk Tryd.func9 rfl (fun h => absurd (show false = true from h) (by decide)) (fun _ => ?_) | refine s_know Tk (fun h => absurd (show false = true from h) (by decide)) (fun _ => ?_))
    first | refine g_cnd Tk Tryd.func9 rfl (fun g1 => ?_) (fun g1 => ?_) | refine g_know Tk Tryd.func9 rfl (fun g1 => ?_) (fun g1 => ?_) | refine s_know Tk (fun g1 => ?_) (fun g1 => ?_)
    rotate_left
    · exact absurd (show decide ((boxes.length : Int) > 3) = true from decide_eq_true (by omega)) (by rw [g1]; decide)
    repeat (first | refine g_cnd Tk Tryd.func9 rfl (fun _ => ?_) (fun h => absurd h (by decide)) | refine g_know Tk Tryd.func9 rfl (fun _ => ?_) (fun h => absurd h (by decide)) | refine s_know Tk (fun _ => ?_) (fun h => absurd h (by decide)) | refine g_cnd Tk Tryd.func9 rfl (fun h => absurd h (by decide)) (fun _ => ?_) | refine g_know Tk Tryd.func9 rfl (fun h => absurd h (by decide)) (fun _ => ?_) | refine s_know Tk (fun h => absurd h (by decide)) (fun _ => ?_) | refine g_cnd Tk Tryd.func9 rfl (fun _ => ?_) (fun h => absurd (show true = false from h) (by decide)) | refine g_know Tk Tryd.func9 rfl (fun _ => ?_) (fun h => absurd (show true = false from h) (by decide)) | refine s_know Tk (fun _ => ?_) (fun h => absurd (show true = false from h) (by decide)) | refine g_cnd Tk Tryd.func9 rfl (fun h => absurd (show false = true from h) (by decide)) (fun _ => ?_) | refine g_know Tk Tryd.func9 rfl (fun h => absurd (show false = true from h) (by decide)) (fun _ => ?_) | refine s_know Tk (fun h => absurd (show false = true from h) (by decide)) (fun _ => ?_))
    refine g_callT Tk Tryd.func9 hE (hkn _) rfl rfl rfl rfl rfl rfl ?_
    refine g_ret Tk (r := bb true) rfl rfl rfl trivial rfl rfl ?_
    rfl
  have hxp := fun O => expr39 O l boxes hmx.1 hmx.2 (by omega)
  have htx := fun O => text40 hg (ty := ty) (fr := fr) O l boxes hmx.1 hnm (by omega)
  have hli := fun O => literals41 O l boxes hmx.1 hmx.2 (by omega)
  have hho := fun O => holds42 O l boxes v hmx.1 hmx.2 hb
  have hwi := fun O => within52 O l v hmx.1
  have hcb : checkBoxesR l boxes = chkBs l boxes := by unfold checkBoxesR; rw [hs.all, if_neg (by simp)]
  unfold exprR at hxp
  unfold textR at htx
  unfold literalsR at hli
  unfold holdsR at hho
  rw [hcb] at hxp htx hli hho
  clear hcb
  have hW0 : chkBs l boxes = chkBs l (boxes.drop 0) := rfl
  generalize chkBs l boxes = W at *
  refine aspecT_stop [15, 20] Tk Tryd.func9 rfl Tryd.call9 Tryd.ntmps9 (Nat.le_of_ble_eq_true rfl) fun E hE => ?_
  refine g_run Tk Tryd.func9 ?_
  refine g_callT Tk Tryd.func9 hE (hkn _) rfl rfl rfl rfl rfl rfl ?_
  repeat (first | refine g_cnd Tk Tryd.func9 rfl (fun _ => ?_) (fun h => absurd h (by decide)) | refine g_know Tk Tryd.func9 rfl (fun _ => ?_) (fun h => absurd h (by decide)) | refine s_know Tk (fun _ => ?_) (fun h => absurd h (by decide)) | refine g_cnd Tk Tryd.func9 rfl (fun h => absurd h (by decide)) (fun _ => ?_) | refine g_know Tk Tryd.func9 rfl (fun h => absurd h (by decide)) (fun _ => ?_) | refine s_know Tk (fun h => absurd h (by decide)) (fun _ => ?_) | refine g_cnd Tk Tryd.func9 rfl (fun _ => ?_) (fun h => absurd (show true = false from h) (by decide)) | refine g_know Tk Tryd.func9 rfl (fun _ => ?_) (fun h => absurd (show true = false from h) (by decide)) | refine s_know Tk (fun _ => ?_) (fun h => absurd (show true = false from h) (by decide)) | refine g_cnd Tk Tryd.func9 rfl (fun h => absurd (show false = true from h) (by decide)) (fun _ => ?_) | refine g_know Tk Tryd.func9 rfl (fun h => absurd (show false = true from h) (by decide)) (fun _ => ?_) | refine s_know Tk (fun h => absurd (show false = true from h) (by decide)) (fun _ => ?_))
  first | refine g_cnd Tk Tryd.func9 rfl (fun g1 => ?_) (fun g1 => ?_) | refine g_know Tk Tryd.func9 rfl (fun g1 => ?_) (fun g1 => ?_) | refine s_know Tk (fun g1 => ?_) (fun g1 => ?_)
  · exact absurd (of_decide_eq_true g1) (by omega)
  clear g1
  first | refine g_cnd Tk Tryd.func9 rfl (fun g2 => ?_) (fun g2 => ?_) | refine g_know Tk Tryd.func9 rfl (fun g2 => ?_) (fun g2 => ?_) | refine s_know Tk (fun g2 => ?_) (fun g2 => ?_)
  · repeat (first | refine g_cnd Tk Tryd.func9 rfl (fun _ => ?_) (fun h => absurd h (by decide)) | refine g_know Tk Tryd.func9 rfl (fun _ => ?_) (fun h => absurd h (by decide)) | refine s_know Tk (fun _ => ?_) (fun h => absurd h (by decide)) | refine g_cnd Tk Tryd.func9 rfl (fun h => absurd h (by decide)) (fun _ => ?_) | refine g_know Tk Tryd.func9 rfl (fun h => absurd h (by decide)) (fun _ => ?_) | refine s_know Tk (fun h => absurd h (by decide)) (fun _ => ?_) | refine g_cnd Tk Tryd.func9 rfl (fun _ => ?_) (fun h => absurd (show true = false from h) (by decide)) | refine g_know Tk Tryd.func9 rfl (fun _ => ?_) (fun h => absurd (show true = false from h) (by decide)) | refine s_know Tk (fun _ => ?_) (fun h => absurd (show true = false from h) (by decide)) | refine g_cnd Tk Tryd.func9 rfl (fun h => absurd (show false = true from h) (by decide)) (fun _ => ?_) | refine g_know Tk Tryd.func9 rfl (fun h => absurd (show false = true from h) (by decide)) (fun _ => ?_) | refine s_know Tk (fun h => absurd (show false = true from h) (by decide)) (fun _ => ?_))
    refine g_callT Tk Tryd.func9 hE (hkn _) rfl rfl rfl rfl rfl rfl ?_
    refine g_ret Tk (r := bb true) rfl rfl rfl trivial rfl rfl ?_
    rfl
  clear g2
  repeat (first | refine g_cnd Tk Tryd.func9 rfl (fun _ => ?_) (fun h => absurd h (by decide)) | refine g_know Tk Tryd.func9 rfl (fun _ => ?_) (fun h => absurd h (by decide)) | refine s_know Tk (fun _ => ?_) (fun h => absurd h (by decide)) | refine g_cnd Tk Tryd.func9 rfl (fun h => absurd h (by decide)) (fun _ => ?_) | refine g_know Tk Tryd.func9 rfl (fun h => absurd h (by decide)) (fun _ => ?_) | refine s_know Tk (fun h => absurd h (by decide)) (fun _ => ?_) | refine g_cnd Tk Tryd.func9 rfl (fun _ => ?_) (fun h => absurd (show true = false from h) (by decide)) | refine g_know Tk Tryd.func9 rfl (fun _ => ?_) (fun h => absurd (show true = false from h) (by decide)) | refine s_know Tk (fun _ => ?_) (fun h => absurd (show true = false from h) (by decide)) | refine g_cnd Tk Tryd.func9 rfl (fun h => absurd (show false = true from h) (by decide)) (fun _ => ?_) | refine g_know Tk Tryd.func9 rfl (fun h => absurd (show false = true from h) (by decide)) (fun _ => ?_) | refine s_know Tk (fun h => absurd (show false = true from h) (by decide)) (fun _ => ?_))
  first | refine g_call Tk Tryd.func9 (hrg _) rfl rfl rfl rfl rfl ?_ | refine s_callq Tk (fun _ => hrg _) rfl rfl rfl ?_
  refine g_loop ?_
  refine rch_loop2 (fun i : Nat => [(1, bxs boxes), (2, ints v), (7, vrs l), (8, ii 0), (9, ii i)]) (fun _ => []) (fun _ => O) 230
    (fun i => i ≤ boxes.length) (fun i => boxes.length - i) 0 (Nat.zero_le _) ⟨rfl, rfl, rfl, rfl, rfl, trivial⟩ rfl trivial rfl rfl ?_
  intro i hi ih
  refine g_run Tk Tryd.func9 ?_
  first | refine g_cnd Tk Tryd.func9 rfl (fun g1 => ?_) (fun g1 => ?_) | refine g_know Tk Tryd.func9 rfl (fun g1 => ?_) (fun g1 => ?_) | refine s_know Tk (fun g1 => ?_) (fun g1 => ?_)
  · have h1 : i < boxes.length := by simpa using g1
    clear g1
    have gb : (boxes.map bxI)[(i : Int).toNat]? = some (bxI boxes[i]) := get_mapZ h1
    generalize boxes[i] = b at *
    obtain ⟨lo, hi2⟩ := b
    have n1 : 0 ≤ (i : Int) ∧ (i : Int) < (boxes.length : Int) := by omega
    first | refine g_need Tk Tryd.func9 (n1) ?_ | refine s_need Tk (n1) ?_
    first | refine g_elem Tk Tryd.func9 (gb) ?_ | refine s_elem Tk (gb) ?_
    first | refine g_cnd Tk Tryd.func9 rfl (fun g2 => ?_) (fun g2 => ?_) | refine g_know Tk Tryd.func9 rfl (fun g2 => ?_) (fun g2 => ?_) | refine s_know Tk (fun g2 => ?_) (fun g2 => ?_)
    · repeat (first | refine g_cnd Tk Tryd.func9 rfl (fun _ => ?_) (fun h => absurd h (by decide)) | refine g_know Tk Tryd.func9 rfl (fun _ => ?_) (fun h => absurd h (by decide)) | refine s_know Tk (fun _ => ?_) (fun h => absurd h (by decide)) | refine g_cnd Tk Tryd.func9 rfl (fun h => absurd h (by decide)) (fun _ => ?_) | refine g_know Tk Tryd.func9 rfl (fun h => absurd h (by decide)) (fun _ => ?_) | refine s_know Tk (fun h => absurd h (by decide)) (fun _ => ?_) | refine g_cnd Tk Tryd.func9 rfl (fun _ => ?_) (fun h => absurd (show true = false from h) (by decide)) | refine g_know Tk Tryd.func9 rfl (fun _ => ?_) (fun h => absurd (show true = false from h) (by decide)) | refine s_know Tk (fun _ => ?_) (fun h => absurd (show true = false from h) (by decide)) | refine g_cnd Tk Tryd.func9 rfl (fun h => absurd (show false = true from h) (by decide)) (fun _ => ?_) | refine g_know Tk Tryd.func9 rfl (fun h => absurd (show false = true from h) (by decide)) (fun _ => ?_) | refine s_know Tk (fun h => absurd (show false = true from h) (by decide)) (fun _ => ?_))
      refine g_ret Tk (r := bb true) rfl rfl rfl trivial rfl rfl ?_
      rfl
    first | refine g_need Tk Tryd.func9 (n1) ?_ | refine s_need Tk (n1) ?_
    first | refine g_elem Tk Tryd.func9 (gb) ?_ | refine s_elem Tk (gb) ?_
    first | refine g_cnd Tk Tryd.func9 rfl (fun g3 => ?_) (fun g3 => ?_) | refine g_know Tk Tryd.func9 rfl (fun g3 => ?_) (fun g3 => ?_) | refine s_know Tk (fun g3 => ?_) (fun g3 => ?_)
    · refine g_ret Tk (r := bb true) rfl rfl rfl trivial rfl rfl ?_
      rfl
    refine g_loop ?_
    exact ih (i + 1) _ _ h1 (by omega) ⟨rfl, rfl, rfl, rfl, congrArg ii (wsucc (n := 4096) (by omega) (by decide)), trivial⟩ rfl trivial rfl rfl
  clear ih g1 hi
  refine g_loop ?_
  refine rch_loop2 (fun x : Nat × Int => [(1, bxs boxes), (2, ints v), (7, vrs l), (8, ii x.2), (10, ii x.1)]) (fun _ => []) (fun _ => O) 230
    (fun x => x.1 ≤ boxes.length ∧ ((x.2 = 0 ∧ W = chkBs l (boxes.drop x.1)) ∨ (x.2 ≠ 0 ∧ W = x.2))) (fun x => boxes.length - x.1) (0, 0) ⟨Nat.zero_le _, .inl ⟨rfl, hW0⟩⟩ ⟨rfl, rfl, rfl, rfl, rfl, trivial⟩ rfl trivial rfl rfl ?_
  clear hW0
  rintro ⟨i, w⟩ ⟨hi, hw⟩ ih
  simp only at hi hw
  apply join_p (P := True) (s6 := { σ := [(1, bxs boxes), (2, ints v), (7, vrs l), (8, ii W)], S := [] :: O, n := 230 })
  · intro J
    refine g_run Tk Tryd.func9 ?_
    first | refine g_cnd Tk Tryd.func9 rfl (fun g1 => ?_) (fun g1 => ?_) | refine g_know Tk Tryd.func9 rfl (fun g1 => ?_) (fun g1 => ?_) | refine s_know Tk (fun g1 => ?_) (fun g1 => ?_)
    · have h1 : i < boxes.length := by simpa using g1
      clear g1
      first | refine g_cnd Tk Tryd.func9 rfl (fun g2 => ?_) (fun g2 => ?_) | refine g_know Tk Tryd.func9 rfl (fun g2 => ?_) (fun g2 => ?_) | refine s_know Tk (fun g2 => ?_) (fun g2 => ?_)
      · have g2 : w = 0 := beqT g2
        subst g2
        have hw : W = chkBs l (boxes.drop i) := by
          rcases hw with h | h
          · exact h.2
          · exact absurd rfl h.1
        have gb : (boxes.map bxI)[(i : Int).toNat]? = some (bxI boxes[i]) := get_mapZ h1
        have db : boxes.drop i = boxes[i] :: boxes.drop (i + 1) := List.drop_eq_getElem_cons h1
        have hbl := hbm _ (List.getElem_mem h1)
        rw [db, chkBs_step] at hw
        clear db
        generalize boxes[i] = b at *
        have e4 : (b.low.length ≠ l.length ∨ b.high.length ≠ l.length) → chkBx l b = 4 := fun h => if_pos h
        have e0 : ¬ (b.low.length ≠ l.length ∨ b.high.length ≠ l.length) → chkBx l b = chkV l b.low b.high := fun h => if_neg h
        generalize chkBx l b = K at *
        obtain ⟨lo, hi2⟩ := b
        simp only at hbl e4 e0
        have n1 : 0 ≤ (i : Int) ∧ (i : Int) < (boxes.length : Int) := by omega
        first | refine g_need Tk Tryd.func9 (n1) ?_ | refine s_need Tk (n1) ?_
        first | refine g_elem Tk Tryd.func9 (gb) ?_ | refine s_elem Tk (gb) ?_
        apply join_q (P := fun w : Int => (w = 4 ∧ K = 4) ∨ (w = 0 ∧ lo.length = l.length ∧ hi2.length = l.length)) (s6 := fun w => { σ := [(1, bxs boxes), (2, ints v), (7, vrs l), (8, ii w), (10, ii i)], S := [] :: O, n := 230 })
        · intro J2
          first | refine g_cnd Tk Tryd.func9 rfl (fun c1 => ?_) (fun c1 => ?_) | refine g_know Tk Tryd.func9 rfl (fun c1 => ?_) (fun c1 => ?_) | refine s_know Tk (fun c1 => ?_) (fun c1 => ?_)
          · have c1 : (lo.length : Int) ≠ l.length := bneT c1
            repeat (first | refine g_cnd Tk Tryd.func9 rfl (fun _ => ?_) (fun h => absurd h (by decide)) | refine g_know Tk Tryd.func9 rfl (fun _ => ?_) (fun h => absurd h (by decide)) | refine s_know Tk (fun _ => ?_) (fun h => absurd h (by decide)) | refine g_cnd Tk Tryd.func9 rfl (fun h => absurd h (by decide)) (fun _ => ?_) | refine g_know Tk Tryd.func9 rfl (fun h => absurd h (by decide)) (fun _ => ?_) | refine s_know Tk (fun h => absurd h (by decide)) (fun _ => ?_) | refine g_cnd Tk Tryd.func9 rfl (fun _ => ?_) (fun h => absurd (show true = false from h) (by decide)) | refine g_know Tk Tryd.func9 rfl (fun _ => ?_) (fun h => absurd (show true = false from h) (by decide)) | refine s_know Tk (fun _ => ?_) (fun h => absurd (show true = false from h) (by decide)) | refine g_cnd Tk Tryd.func9 rfl (fun h => absurd (show false = true from h) (by decide)) (fun _ => ?_) | refine g_know Tk Tryd.func9 rfl (fun h => absurd (show false = true from h) (by decide)) (fun _ => ?_) | refine s_know Tk (fun h => absurd (show false = true from h) (by decide)) (fun _ => ?_))
            refine g_stop ?_
            refine rch_meet (J2 4 (.inl ⟨rfl, e4 (.inl (by omega))⟩)) ⟨rfl, rfl, rfl, rfl, rfl, trivial⟩ rfl trivial rfl rfl
          have c1 : (lo.length : Int) = l.length := bneF c1
          first | refine g_need Tk Tryd.func9 (n1) ?_ | refine s_need Tk (n1) ?_
          first | refine g_elem Tk Tryd.func9 (gb) ?_ | refine s_elem Tk (gb) ?_
          first | refine g_cnd Tk Tryd.func9 rfl (fun c2 => ?_) (fun c2 => ?_) | refine g_know Tk Tryd.func9 rfl (fun c2 => ?_) (fun c2 => ?_) | refine s_know Tk (fun c2 => ?_) (fun c2 => ?_)
          · have c2 : (hi2.length : Int) ≠ l.length := bneT c2
            refine g_stop ?_
            refine rch_meet (J2 4 (.inl ⟨rfl, e4 (.inr (by omega))⟩)) ⟨rfl, rfl, rfl, rfl, rfl, trivial⟩ rfl trivial rfl rfl
          have c2 : (hi2.length : Int) = l.length := bneF c2
          refine g_stop ?_
          refine rch_meet (J2 0 (.inr ⟨rfl, by omega, by omega⟩)) ⟨rfl, rfl, rfl, rfl, rfl, trivial⟩ rfl trivial rfl rfl
        · rintro w0 hw0
          refine g_run Tk Tryd.func9 ?_
          refine g_go Tk Tryd.func9 ?_
          refine g_loop ?_
          refine rch_loop2 (fun x : Nat × Int => [(1, bxs boxes), (2, ints v), (7, vrs l), (8, ii x.2), (10, ii i), (11, ii x.1)]) (fun _ => []) (fun _ => O) 230
            (fun x => x.1 ≤ l.length ∧ ((x.2 ≠ 0 ∧ K = x.2) ∨ (x.2 = 0 ∧ (lo.length = l.length ∧ hi2.length = l.length) ∧ K = chkV (l.drop x.1) (lo.drop x.1) (hi2.drop x.1)))) (fun x => l.length - x.1) (0, w0) ⟨Nat.zero_le _, ?_⟩ ⟨rfl, rfl, rfl, rfl, rfl, rfl, trivial⟩ rfl trivial rfl rfl ?_
          · rcases hw0 with ⟨rfl, h⟩ | ⟨rfl, h⟩
            · exact .inl ⟨by decide, h⟩
            · exact .inr ⟨rfl, h, e0 (by omega)⟩
          clear hw0 e4 e0
          rintro ⟨k, w⟩ ⟨hk, hkw⟩ ih2
          simp only at hk hkw
          have done : (k = l.length ∨ w ≠ 0) → (i + 1 ≤ boxes.length ∧ ((w = 0 ∧ W = chkBs l (boxes.drop (i + 1))) ∨ (w ≠ 0 ∧ W = w))) := fun h => ⟨h1, by
            rcases hkw with ⟨a1, a2⟩ | ⟨a1, _, a3⟩
            · rw [a2, if_pos a1] at hw
              exact .inr ⟨a1, hw⟩
            · rcases h with h | h
              · rw [h, List.drop_length] at a3
                have a3 : K = 0 := a3
                rw [if_neg (by simpa using a3)] at hw
                exact .inl ⟨a1, hw⟩
              · exact absurd a1 h⟩
          refine g_run Tk Tryd.func9 ?_
          first | refine g_cnd Tk Tryd.func9 rfl (fun g3 => ?_) (fun g3 => ?_) | refine g_know Tk Tryd.func9 rfl (fun g3 => ?_) (fun g3 => ?_) | refine s_know Tk (fun g3 => ?_) (fun g3 => ?_)
          · have h3 : k < l.length := by simpa using g3
            clear g3
            first | refine g_cnd Tk Tryd.func9 rfl (fun g4 => ?_) (fun g4 => ?_) | refine g_know Tk Tryd.func9 rfl (fun g4 => ?_) (fun g4 => ?_) | refine s_know Tk (fun g4 => ?_) (fun g4 => ?_)
            · have g4 : w = 0 := beqT g4
              subst g4
              rcases hkw with h | ⟨_, hsz, hK⟩
              · exact absurd rfl h.1
              have gv : (l.map vrI)[(k : Int).toNat]? = some (vrI l[k]) := get_mapZ h3
              have gl : (lo.map fun x => [vi x])[(k : Int).toNat]? = some [vi (lo[k]'(by omega))] := get_mapZ (f := fun x => [vi x]) (by omega)
              have gh : (hi2.map fun x => [vi x])[(k : Int).toNat]? = some [vi (hi2[k]'(by omega))] := get_mapZ (f := fun x => [vi x]) (by omega)
              have dv : l.drop k = l[k] :: l.drop (k + 1) := List.drop_eq_getElem_cons h3
              have dl : lo.drop k = (lo[k]'(by omega)) :: lo.drop (k + 1) := List.drop_eq_getElem_cons (by omega)
              have dh : hi2.drop k = (hi2[k]'(by omega)) :: hi2.drop (k + 1) := List.drop_eq_getElem_cons (by omega)
              rw [dv, dl, dh] at hK
              simp only [chkV] at hK
              clear dv dl dh done
              generalize l[k] = a at *
              generalize lo[k]'(by omega) = p at *
              generalize hi2[k]'(by omega) = q at *
              obtain ⟨an, al, ah, aj⟩ := a
              simp only at hK
              have n2 : 0 ≤ (k : Int) ∧ (k : Int) < (lo.length : Int) := by omega
              have n3 : 0 ≤ (k : Int) ∧ (k : Int) < (hi2.length : Int) := by omega
              have n4 : 0 ≤ (k : Int) ∧ (k : Int) < (l.length : Int) := by omega
              have hk1 : ii (IntKind.i64.wrap ((k : Int) + 1)) = ii ((k + 1 : Nat) : Int) := congrArg ii (wsucc (n := 4096) (by omega) (by decide))
              have bad : (p < al ∨ q > ah ∨ p > q) → (k + 1 ≤ l.length ∧ (((2 : Int) ≠ 0 ∧ K = 2) ∨ ((2 : Int) = 0 ∧ (lo.length = l.length ∧ hi2.length = l.length) ∧ K = chkV (l.drop (k + 1)) (lo.drop (k + 1)) (hi2.drop (k + 1))))) := fun h => ⟨h3, .inl ⟨by decide, by rw [hK, if_pos h]⟩⟩
              refine g_drawn Tk Tryd.func9 mixedT rfl ?_
              first | refine g_need Tk Tryd.func9 (n1) ?_ | refine s_need Tk (n1) ?_
              first | refine g_elem Tk Tryd.func9 (gb) ?_ | refine s_elem Tk (gb) ?_
              first | refine g_need Tk Tryd.func9 (n2) ?_ | refine s_need Tk (n2) ?_
              first | refine g_elem Tk Tryd.func9 (gl) ?_ | refine s_elem Tk (gl) ?_
              first | refine g_need Tk Tryd.func9 (n4) ?_ | refine s_need Tk (n4) ?_
              first | refine g_elem Tk Tryd.func9 (gv) ?_ | refine s_elem Tk (gv) ?_
              first | refine g_cnd Tk Tryd.func9 rfl (fun c1 => ?_) (fun c1 => ?_) | refine g_know Tk Tryd.func9 rfl (fun c1 => ?_) (fun c1 => ?_) | refine s_know Tk (fun c1 => ?_) (fun c1 => ?_)
              · have c1 : p < al := of_decide_eq_true c1
                repeat (first | refine g_cnd Tk Tryd.func9 rfl (fun _ => ?_) (fun h => absurd h (by decide)) | refine g_know Tk Tryd.func9 rfl (fun _ => ?_) (fun h => absurd h (by decide)) | refine s_know Tk (fun _ => ?_) (fun h => absurd h (by decide)) | refine g_cnd Tk Tryd.func9 rfl (fun h => absurd h (by decide)) (fun _ => ?_) | refine g_know Tk Tryd.func9 rfl (fun h => absurd h (by decide)) (fun _ => ?_) | refine s_know Tk (fun h => absurd h (by decide)) (fun _ => ?_) | refine g_cnd Tk Tryd.func9 rfl (fun _ => ?_) (fun h => absurd (show true = false from h) (by decide)) | refine g_know Tk Tryd.func9 rfl (fun _ => ?_) (fun h => absurd (show true = false from h) (by decide)) | refine s_know Tk (fun _ => ?_) (fun h => absurd (show true = false from h) (by decide)) | refine g_cnd Tk Tryd.func9 rfl (fun h => absurd (show false = true from h) (by decide)) (fun _ => ?_) | refine g_know Tk Tryd.func9 rfl (fun h => absurd (show false = true from h) (by decide)) (fun _ => ?_) | refine s_know Tk (fun h => absurd (show false = true from h) (by decide)) (fun _ => ?_))
                refine e_done Tk Tryd.func9 (by kernel_rfl) ?_
                repeat (first | refine g_cnd Tk Tryd.func9 rfl (fun _ => ?_) (fun h => absurd h (by decide)) | refine g_know Tk Tryd.func9 rfl (fun _ => ?_) (fun h => absurd h (by decide)) | refine s_know Tk (fun _ => ?_) (fun h => absurd h (by decide)) | refine g_cnd Tk Tryd.func9 rfl (fun h => absurd h (by decide)) (fun _ => ?_) | refine g_know Tk Tryd.func9 rfl (fun h => absurd h (by decide)) (fun _ => ?_) | refine s_know Tk (fun h => absurd h (by decide)) (fun _ => ?_) | refine g_cnd Tk Tryd.func9 rfl (fun _ => ?_) (fun h => absurd (show true = false from h) (by decide)) | refine g_know Tk Tryd.func9 rfl (fun _ => ?_) (fun h => absurd (show true = false from h) (by decide)) | refine s_know Tk (fun _ => ?_) (fun h => absurd (show true = false from h) (by decide)) | refine g_cnd Tk Tryd.func9 rfl (fun h => absurd (show false = true from h) (by decide)) (fun _ => ?_) | refine g_know Tk Tryd.func9 rfl (fun h => absurd (show false = true from h) (by decide)) (fun _ => ?_) | refine s_know Tk (fun h => absurd (show false = true from h) (by decide)) (fun _ => ?_))
                refine g_loop ?_
                exact ih2 (k + 1, 2) _ _ (bad (.inl c1)) (by simp only; omega) ⟨rfl, rfl, rfl, rfl, rfl, hk1, trivial⟩ rfl trivial rfl rfl
              have c1 : ¬ p < al := of_decide_eq_false c1
              first | refine g_need Tk Tryd.func9 (n1) ?_ | refine s_need Tk (n1) ?_
              first | refine g_elem Tk Tryd.func9 (gb) ?_ | refine s_elem Tk (gb) ?_
              first | refine g_need Tk Tryd.func9 (n3) ?_ | refine s_need Tk (n3) ?_
              first | refine g_elem Tk Tryd.func9 (gh) ?_ | refine s_elem Tk (gh) ?_
              first | refine g_need Tk Tryd.func9 (n4) ?_ | refine s_need Tk (n4) ?_
              first | refine g_elem Tk Tryd.func9 (gv) ?_ | refine s_elem Tk (gv) ?_
              first | refine g_cnd Tk Tryd.func9 rfl (fun c2 => ?_) (fun c2 => ?_) | refine g_know Tk Tryd.func9 rfl (fun c2 => ?_) (fun c2 => ?_) | refine s_know Tk (fun c2 => ?_) (fun c2 => ?_)
              · have c2 : q > ah := of_decide_eq_true c2
                repeat (first | refine g_cnd Tk Tryd.func9 rfl (fun _ => ?_) (fun h => absurd h (by decide)) | refine g_know Tk Tryd.func9 rfl (fun _ => ?_) (fun h => absurd h (by decide)) | refine s_know Tk (fun _ => ?_) (fun h => absurd h (by decide)) | refine g_cnd Tk Tryd.func9 rfl (fun h => absurd h (by decide)) (fun _ => ?_) | refine g_know Tk Tryd.func9 rfl (fun h => absurd h (by decide)) (fun _ => ?_) | refine s_know Tk (fun h => absurd h (by decide)) (fun _ => ?_) | refine g_cnd Tk Tryd.func9 rfl (fun _ => ?_) (fun h => absurd (show true = false from h) (by decide)) | refine g_know Tk Tryd.func9 rfl (fun _ => ?_) (fun h => absurd (show true = false from h) (by decide)) | refine s_know Tk (fun _ => ?_) (fun h => absurd (show true = false from h) (by decide)) | refine g_cnd Tk Tryd.func9 rfl (fun h => absurd (show false = true from h) (by decide)) (fun _ => ?_) | refine g_know Tk Tryd.func9 rfl (fun h => absurd (show false = true from h) (by decide)) (fun _ => ?_) | refine s_know Tk (fun h => absurd (show false = true from h) (by decide)) (fun _ => ?_))
                refine e_done Tk Tryd.func9 (by kernel_rfl) ?_
                repeat (first | refine g_cnd Tk Tryd.func9 rfl (fun _ => ?_) (fun h => absurd h (by decide)) | refine g_know Tk Tryd.func9 rfl (fun _ => ?_) (fun h => absurd h (by decide)) | refine s_know Tk (fun _ => ?_) (fun h => absurd h (by decide)) | refine g_cnd Tk Tryd.func9 rfl (fun h => absurd h (by decide)) (fun _ => ?_) | refine g_know Tk Tryd.func9 rfl (fun h => absurd h (by decide)) (fun _ => ?_) | refine s_know Tk (fun h => absurd h (by decide)) (fun _ => ?_) | refine g_cnd Tk Tryd.func9 rfl (fun _ => ?_) (fun h => absurd (show true = false from h) (by decide)) | refine g_know Tk Tryd.func9 rfl (fun _ => ?_) (fun h => absurd (show true = false from h) (by decide)) | refine s_know Tk (fun _ => ?_) (fun h => absurd (show true = false from h) (by decide)) | refine g_cnd Tk Tryd.func9 rfl (fun h => absurd (show false = true from h) (by decide)) (fun _ => ?_) | refine g_know Tk Tryd.func9 rfl (fun h => absurd (show false = true from h) (by decide)) (fun _ => ?_) | refine s_know Tk (fun h => absurd (show false = true from h) (by decide)) (fun _ => ?_))
                refine g_loop ?_
                exact ih2 (k + 1, 2) _ _ (bad (.inr (.inl c2))) (by simp only; omega) ⟨rfl, rfl, rfl, rfl, rfl, hk1, trivial⟩ rfl trivial rfl rfl
              have c2 : ¬ q > ah := of_decide_eq_false c2
              first | refine g_need Tk Tryd.func9 (n1) ?_ | refine s_need Tk (n1) ?_
              first | refine g_elem Tk Tryd.func9 (gb) ?_ | refine s_elem Tk (gb) ?_
              first | refine g_need Tk Tryd.func9 (n2) ?_ | refine s_need Tk (n2) ?_
              first | refine g_elem Tk Tryd.func9 (gl) ?_ | refine s_elem Tk (gl) ?_
              first | refine g_need Tk Tryd.func9 (n1) ?_ | refine s_need Tk (n1) ?_
              first | refine g_elem Tk Tryd.func9 (gb) ?_ | refine s_elem Tk (gb) ?_
              first | refine g_need Tk Tryd.func9 (n3) ?_ | refine s_need Tk (n3) ?_
              first | refine g_elem Tk Tryd.func9 (gh) ?_ | refine s_elem Tk (gh) ?_
              refine e_done Tk Tryd.func9 (by kernel_rfl) ?_
              first | refine g_cnd Tk Tryd.func9 rfl (fun c3 => ?_) (fun c3 => ?_) | refine g_know Tk Tryd.func9 rfl (fun c3 => ?_) (fun c3 => ?_) | refine s_know Tk (fun c3 => ?_) (fun c3 => ?_)
              · have c3 : p > q := of_decide_eq_true c3
                refine g_loop ?_
                exact ih2 (k + 1, 2) _ _ (bad (.inr (.inr c3))) (by simp only; omega) ⟨rfl, rfl, rfl, rfl, rfl, hk1, trivial⟩ rfl trivial rfl rfl
              have c3 : ¬ p > q := of_decide_eq_false c3
              rw [if_neg (by omega)] at hK
              refine g_loop ?_
              exact ih2 (k + 1, 0) _ _ ⟨h3, .inr ⟨rfl, hsz, hK⟩⟩ (by simp only; omega) ⟨rfl, rfl, rfl, rfl, rfl, hk1, trivial⟩ rfl trivial rfl rfl
            · have g4 : w ≠ 0 := beqF g4
              refine g_loop ?_
              exact ih (i + 1, w) _ _ (done (.inr g4)) (by simp only; omega) ⟨rfl, rfl, rfl, rfl, congrArg ii (wsucc (n := 4096) (by omega) (by decide)), trivial⟩ rfl trivial rfl rfl
          · have h3 : l.length ≤ k := by simpa using g3
            repeat (first | refine g_cnd Tk Tryd.func9 rfl (fun _ => ?_) (fun h => absurd h (by decide)) | refine g_know Tk Tryd.func9 rfl (fun _ => ?_) (fun h => absurd h (by decide)) | refine s_know Tk (fun _ => ?_) (fun h => absurd h (by decide)) | refine g_cnd Tk Tryd.func9 rfl (fun h => absurd h (by decide)) (fun _ => ?_) | refine g_know Tk Tryd.func9 rfl (fun h => absurd h (by decide)) (fun _ => ?_) | refine s_know Tk (fun h => absurd h (by decide)) (fun _ => ?_) | refine g_cnd Tk Tryd.func9 rfl (fun _ => ?_) (fun h => absurd (show true = false from h) (by decide)) | refine g_know Tk Tryd.func9 rfl (fun _ => ?_) (fun h => absurd (show true = false from h) (by decide)) | refine s_know Tk (fun _ => ?_) (fun h => absurd (show true = false from h) (by decide)) | refine g_cnd Tk Tryd.func9 rfl (fun h => absurd (show false = true from h) (by decide)) (fun _ => ?_) | refine g_know Tk Tryd.func9 rfl (fun h => absurd (show false = true from h) (by decide)) (fun _ => ?_) | refine s_know Tk (fun h => absurd (show false = true from h) (by decide)) (fun _ => ?_))
            refine g_loop ?_
            exact ih (i + 1, w) _ _ (done (.inl (by omega))) (by simp only; omega) ⟨rfl, rfl, rfl, rfl, congrArg ii (wsucc (n := 4096) (by omega) (by decide)), trivial⟩ rfl trivial rfl rfl
      · have g2 : w ≠ 0 := beqF g2
        have hw : W = w := by
          rcases hw with h | h
          · exact absurd h.1 g2
          · exact h.2
        subst hw
        refine g_stop ?_
        refine rch_meet (J trivial) ⟨rfl, rfl, rfl, rfl, trivial⟩ rfl trivial rfl rfl
    · have h1 : boxes.length ≤ i := by simpa using g1
      have hw : W = w := by
        rcases hw with h | h
        · rw [List.drop_eq_nil_of_le h1] at h
          exact h.2.trans h.1.symm
        · exact h.2
      subst hw
      repeat (first | refine g_cnd Tk Tryd.func9 rfl (fun _ => ?_) (fun h => absurd h (by decide)) | refine g_know Tk Tryd.func9 rfl (fun _ => ?_) (fun h => absurd h (by decide)) | refine s_know Tk (fun _ => ?_) (fun h => absurd h (by decide)) | refine g_cnd Tk Tryd.func9 rfl (fun h => absurd h (by decide)) (fun _ => ?_) | refine g_know Tk Tryd.func9 rfl (fun h => absurd h (by decide)) (fun _ => ?_) | refine s_know Tk (fun h => absurd h (by decide)) (fun _ => ?_) | refine g_cnd Tk Tryd.func9 rfl (fun _ => ?_) (fun h => absurd (show true = false from h) (by decide)) | refine g_know Tk Tryd.func9 rfl (fun _ => ?_) (fun h => absurd (show true = false from h) (by decide)) | refine s_know Tk (fun _ => ?_) (fun h => absurd (show true = false from h) (by decide)) | refine g_cnd Tk Tryd.func9 rfl (fun h => absurd (show false = true from h) (by decide)) (fun _ => ?_) | refine g_know Tk Tryd.func9 rfl (fun h => absurd (show false = true from h) (by decide)) (fun _ => ?_) | refine s_know Tk (fun h => absurd (show false = true from h) (by decide)) (fun _ => ?_))
      refine g_stop ?_
      refine rch_meet (J trivial) ⟨rfl, rfl, rfl, rfl, trivial⟩ rfl trivial rfl rfl
  · intro _
    clear ih hw hi
    by_cases hW : W ≠ 0
    · simp only [if_pos hW] at hxp htx hli hho
      refine g_run Tk Tryd.func9 ?_
      refine g_go Tk Tryd.func9 ?_
      first | refine g_call Tk Tryd.func9 (hxp _) rfl rfl rfl rfl rfl ?_ | refine s_callq Tk (fun _ => hxp _) rfl rfl rfl ?_
      refine g_callT Tk Tryd.func9 hE (htx _) rfl rfl rfl rfl rfl rfl ?_
      first | refine g_call Tk Tryd.func9 (hli _) rfl rfl rfl rfl rfl ?_ | refine s_callq Tk (fun _ => hli _) rfl rfl rfl ?_
      first | refine g_call Tk Tryd.func9 (hho _) rfl rfl rfl rfl rfl ?_ | refine s_callq Tk (fun _ => hho _) rfl rfl rfl ?_
      first | refine g_cnd Tk Tryd.func9 rfl (fun g1 => ?_) (fun g1 => ?_) | refine g_know Tk Tryd.func9 rfl (fun g1 => ?_) (fun g1 => ?_) | refine s_know Tk (fun g1 => ?_) (fun g1 => ?_)
      rotate_left
      · exact absurd (bneF g1) hW
      first | refine g_cnd Tk Tryd.func9 rfl (fun g2 => ?_) (fun g2 => ?_) | refine g_know Tk Tryd.func9 rfl (fun g2 => ?_) (fun g2 => ?_) | refine s_know Tk (fun g2 => ?_) (fun g2 => ?_)
      rotate_left
      · exact absurd rfl (beqF g2)
      repeat (first | refine g_cnd Tk Tryd.func9 rfl (fun _ => ?_) (fun h => absurd h (by decide)) | refine g_know Tk Tryd.func9 rfl (fun _ => ?_) (fun h => absurd h (by decide)) | refine s_know Tk (fun _ => ?_) (fun h => absurd h (by decide)) | refine g_cnd Tk Tryd.func9 rfl (fun h => absurd h (by decide)) (fun _ => ?_) | refine g_know Tk Tryd.func9 rfl (fun h => absurd h (by decide)) (fun _ => ?_) | refine s_know Tk (fun h => absurd h (by decide)) (fun _ => ?_) | refine g_cnd Tk Tryd.func9 rfl (fun _ => ?_) (fun h => absurd (show true = false from h) (by decide)) | refine g_know Tk Tryd.func9 rfl (fun _ => ?_) (fun h => absurd (show true = false from h) (by decide)) | refine s_know Tk (fun _ => ?_) (fun h => absurd (show true = false from h) (by decide)) | refine g_cnd Tk Tryd.func9 rfl (fun h => absurd (show false = true from h) (by decide)) (fun _ => ?_) | refine g_know Tk Tryd.func9 rfl (fun h => absurd (show false = true from h) (by decide)) (fun _ => ?_) | refine s_know Tk (fun h => absurd (show false = true from h) (by decide)) (fun _ => ?_))
      first | refine g_cnd Tk Tryd.func9 rfl (fun g3 => ?_) (fun g3 => ?_) | refine g_know Tk Tryd.func9 rfl (fun g3 => ?_) (fun g3 => ?_) | refine s_know Tk (fun g3 => ?_) (fun g3 => ?_)
      rotate_left
      · exact absurd g3 (by simp)
      repeat (first | refine g_cnd Tk Tryd.func9 rfl (fun _ => ?_) (fun h => absurd h (by decide)) | refine g_know Tk Tryd.func9 rfl (fun _ => ?_) (fun h => absurd h (by decide)) | refine s_know Tk (fun _ => ?_) (fun h => absurd h (by decide)) | refine g_cnd Tk Tryd.func9 rfl (fun h => absurd h (by decide)) (fun _ => ?_) | refine g_know Tk Tryd.func9 rfl (fun h => absurd h (by decide)) (fun _ => ?_) | refine s_know Tk (fun h => absurd h (by decide)) (fun _ => ?_) | refine g_cnd Tk Tryd.func9 rfl (fun _ => ?_) (fun h => absurd (show true = false from h) (by decide)) | refine g_know Tk Tryd.func9 rfl (fun _ => ?_) (fun h => absurd (show true = false from h) (by decide)) | refine s_know Tk (fun _ => ?_) (fun h => absurd (show true = false from h) (by decide)) | refine g_cnd Tk Tryd.func9 rfl (fun h => absurd (show false = true from h) (by decide)) (fun _ => ?_) | refine g_know Tk Tryd.func9 rfl (fun h => absurd (show false = true from h) (by decide)) (fun _ => ?_) | refine s_know Tk (fun h => absurd (show false = true from h) (by decide)) (fun _ => ?_))
      first | refine g_cnd Tk Tryd.func9 rfl (fun g4 => ?_) (fun g4 => ?_) | refine g_know Tk Tryd.func9 rfl (fun g4 => ?_) (fun g4 => ?_) | refine s_know Tk (fun g4 => ?_) (fun g4 => ?_)
      rotate_left
      · exact absurd rfl (beqF g4)
      repeat (first | refine g_cnd Tk Tryd.func9 rfl (fun _ => ?_) (fun h => absurd h (by decide)) | refine g_know Tk Tryd.func9 rfl (fun _ => ?_) (fun h => absurd h (by decide)) | refine s_know Tk (fun _ => ?_) (fun h => absurd h (by decide)) | refine g_cnd Tk Tryd.func9 rfl (fun h => absurd h (by decide)) (fun _ => ?_) | refine g_know Tk Tryd.func9 rfl (fun h => absurd h (by decide)) (fun _ => ?_) | refine s_know Tk (fun h => absurd h (by decide)) (fun _ => ?_) | refine g_cnd Tk Tryd.func9 rfl (fun _ => ?_) (fun h => absurd (show true = false from h) (by decide)) | refine g_know Tk Tryd.func9 rfl (fun _ => ?_) (fun h => absurd (show true = false from h) (by decide)) | refine s_know Tk (fun _ => ?_) (fun h => absurd (show true = false from h) (by decide)) | refine g_cnd Tk Tryd.func9 rfl (fun h => absurd (show false = true from h) (by decide)) (fun _ => ?_) | refine g_know Tk Tryd.func9 rfl (fun h => absurd (show false = true from h) (by decide)) (fun _ => ?_) | refine s_know Tk (fun h => absurd (show false = true from h) (by decide)) (fun _ => ?_))
      first | refine g_cnd Tk Tryd.func9 rfl (fun g5 => ?_) (fun g5 => ?_) | refine g_know Tk Tryd.func9 rfl (fun g5 => ?_) (fun g5 => ?_) | refine s_know Tk (fun g5 => ?_) (fun g5 => ?_)
      rotate_left
      · exact absurd rfl (beqF g5)
      repeat (first | refine g_cnd Tk Tryd.func9 rfl (fun _ => ?_) (fun h => absurd h (by decide)) | refine g_know Tk Tryd.func9 rfl (fun _ => ?_) (fun h => absurd h (by decide)) | refine s_know Tk (fun _ => ?_) (fun h => absurd h (by decide)) | refine g_cnd Tk Tryd.func9 rfl (fun h => absurd h (by decide)) (fun _ => ?_) | refine g_know Tk Tryd.func9 rfl (fun h => absurd h (by decide)) (fun _ => ?_) | refine s_know Tk (fun h => absurd h (by decide)) (fun _ => ?_) | refine g_cnd Tk Tryd.func9 rfl (fun _ => ?_) (fun h => absurd (show true = false from h) (by decide)) | refine g_know Tk Tryd.func9 rfl (fun _ => ?_) (fun h => absurd (show true = false from h) (by decide)) | refine s_know Tk (fun _ => ?_) (fun h => absurd (show true = false from h) (by decide)) | refine g_cnd Tk Tryd.func9 rfl (fun h => absurd (show false = true from h) (by decide)) (fun _ => ?_) | refine g_know Tk Tryd.func9 rfl (fun h => absurd (show false = true from h) (by decide)) (fun _ => ?_) | refine s_know Tk (fun h => absurd (show false = true from h) (by decide)) (fun _ => ?_))
      refine g_ret Tk (r := bb (W == W)) rfl rfl rfl trivial rfl rfl ?_
      simp
    · simp only [if_neg hW] at hxp htx hli hho
      have hW : W = 0 := Classical.byContradiction hW
      subst hW
      have hT : (if boxes.isEmpty = true then ((⟨#[102, 97, 108, 115, 101]⟩ : ByteArray), (0 : Int)) else (⟨(boxesBy l boxes 0 []).toArray⟩, 0)).2 = 0 := by split <;> rfl
      generalize (if boxes.isEmpty = true then ((⟨#[102, 97, 108, 115, 101]⟩ : ByteArray), (0 : Int)) else (⟨(boxesBy l boxes 0 []).toArray⟩, 0)) = TX at *
      obtain ⟨ts, te⟩ := TX
      simp only at hT htx
      subst hT
      generalize joinedR l boxes = J at *
      obtain ⟨⟨jo, jv, ji, ja⟩, je⟩ := J
      simp only at hxp
      cases hwv : within l v with
      | false =>
        simp only [hwv, if_true] at hho hwi
        refine g_run Tk Tryd.func9 ?_
        refine g_go Tk Tryd.func9 ?_
        first | refine g_call Tk Tryd.func9 (hxp _) rfl rfl rfl rfl rfl ?_ | refine s_callq Tk (fun _ => hxp _) rfl rfl rfl ?_
        refine g_callT Tk Tryd.func9 hE (htx _) rfl rfl rfl rfl rfl rfl ?_
        first | refine g_call Tk Tryd.func9 (hli _) rfl rfl rfl rfl rfl ?_ | refine s_callq Tk (fun _ => hli _) rfl rfl rfl ?_
        first | refine g_call Tk Tryd.func9 (hho _) rfl rfl rfl rfl rfl ?_ | refine s_callq Tk (fun _ => hho _) rfl rfl rfl ?_
        repeat (first | refine g_cnd Tk Tryd.func9 rfl (fun _ => ?_) (fun h => absurd h (by decide)) | refine g_know Tk Tryd.func9 rfl (fun _ => ?_) (fun h => absurd h (by decide)) | refine s_know Tk (fun _ => ?_) (fun h => absurd h (by decide)) | refine g_cnd Tk Tryd.func9 rfl (fun h => absurd h (by decide)) (fun _ => ?_) | refine g_know Tk Tryd.func9 rfl (fun h => absurd h (by decide)) (fun _ => ?_) | refine s_know Tk (fun h => absurd h (by decide)) (fun _ => ?_) | refine g_cnd Tk Tryd.func9 rfl (fun _ => ?_) (fun h => absurd (show true = false from h) (by decide)) | refine g_know Tk Tryd.func9 rfl (fun _ => ?_) (fun h => absurd (show true = false from h) (by decide)) | refine s_know Tk (fun _ => ?_) (fun h => absurd (show true = false from h) (by decide)) | refine g_cnd Tk Tryd.func9 rfl (fun h => absurd (show false = true from h) (by decide)) (fun _ => ?_) | refine g_know Tk Tryd.func9 rfl (fun h => absurd (show false = true from h) (by decide)) (fun _ => ?_) | refine s_know Tk (fun h => absurd (show false = true from h) (by decide)) (fun _ => ?_))
        first | refine g_call Tk Tryd.func9 (hwi _) rfl rfl rfl rfl rfl ?_ | refine s_callq Tk (fun _ => hwi _) rfl rfl rfl ?_
        repeat (first | refine g_cnd Tk Tryd.func9 rfl (fun _ => ?_) (fun h => absurd h (by decide)) | refine g_know Tk Tryd.func9 rfl (fun _ => ?_) (fun h => absurd h (by decide)) | refine s_know Tk (fun _ => ?_) (fun h => absurd h (by decide)) | refine g_cnd Tk Tryd.func9 rfl (fun h => absurd h (by decide)) (fun _ => ?_) | refine g_know Tk Tryd.func9 rfl (fun h => absurd h (by decide)) (fun _ => ?_) | refine s_know Tk (fun h => absurd h (by decide)) (fun _ => ?_) | refine g_cnd Tk Tryd.func9 rfl (fun _ => ?_) (fun h => absurd (show true = false from h) (by decide)) | refine g_know Tk Tryd.func9 rfl (fun _ => ?_) (fun h => absurd (show true = false from h) (by decide)) | refine s_know Tk (fun _ => ?_) (fun h => absurd (show true = false from h) (by decide)) | refine g_cnd Tk Tryd.func9 rfl (fun h => absurd (show false = true from h) (by decide)) (fun _ => ?_) | refine g_know Tk Tryd.func9 rfl (fun h => absurd (show false = true from h) (by decide)) (fun _ => ?_) | refine s_know Tk (fun h => absurd (show false = true from h) (by decide)) (fun _ => ?_))
        refine g_ret Tk (r := bb true) rfl rfl rfl trivial rfl rfl ?_
        rfl
      | true =>
        simp only [hwv, Bool.true_eq_false, if_false] at hho hwi
        refine g_run Tk Tryd.func9 ?_
        refine g_go Tk Tryd.func9 ?_
        first | refine g_call Tk Tryd.func9 (hxp _) rfl rfl rfl rfl rfl ?_ | refine s_callq Tk (fun _ => hxp _) rfl rfl rfl ?_
        refine g_callT Tk Tryd.func9 hE (htx _) rfl rfl rfl rfl rfl rfl ?_
        first | refine g_call Tk Tryd.func9 (hli _) rfl rfl rfl rfl rfl ?_ | refine s_callq Tk (fun _ => hli _) rfl rfl rfl ?_
        first | refine g_call Tk Tryd.func9 (hho _) rfl rfl rfl rfl rfl ?_ | refine s_callq Tk (fun _ => hho _) rfl rfl rfl ?_
        repeat (first | refine g_cnd Tk Tryd.func9 rfl (fun _ => ?_) (fun h => absurd h (by decide)) | refine g_know Tk Tryd.func9 rfl (fun _ => ?_) (fun h => absurd h (by decide)) | refine s_know Tk (fun _ => ?_) (fun h => absurd h (by decide)) | refine g_cnd Tk Tryd.func9 rfl (fun h => absurd h (by decide)) (fun _ => ?_) | refine g_know Tk Tryd.func9 rfl (fun h => absurd h (by decide)) (fun _ => ?_) | refine s_know Tk (fun h => absurd h (by decide)) (fun _ => ?_) | refine g_cnd Tk Tryd.func9 rfl (fun _ => ?_) (fun h => absurd (show true = false from h) (by decide)) | refine g_know Tk Tryd.func9 rfl (fun _ => ?_) (fun h => absurd (show true = false from h) (by decide)) | refine s_know Tk (fun _ => ?_) (fun h => absurd (show true = false from h) (by decide)) | refine g_cnd Tk Tryd.func9 rfl (fun h => absurd (show false = true from h) (by decide)) (fun _ => ?_) | refine g_know Tk Tryd.func9 rfl (fun h => absurd (show false = true from h) (by decide)) (fun _ => ?_) | refine s_know Tk (fun h => absurd (show false = true from h) (by decide)) (fun _ => ?_))
        first | refine g_call Tk Tryd.func9 (hwi _) rfl rfl rfl rfl rfl ?_ | refine s_callq Tk (fun _ => hwi _) rfl rfl rfl ?_
        repeat (first | refine g_cnd Tk Tryd.func9 rfl (fun _ => ?_) (fun h => absurd h (by decide)) | refine g_know Tk Tryd.func9 rfl (fun _ => ?_) (fun h => absurd h (by decide)) | refine s_know Tk (fun _ => ?_) (fun h => absurd h (by decide)) | refine g_cnd Tk Tryd.func9 rfl (fun h => absurd h (by decide)) (fun _ => ?_) | refine g_know Tk Tryd.func9 rfl (fun h => absurd h (by decide)) (fun _ => ?_) | refine s_know Tk (fun h => absurd h (by decide)) (fun _ => ?_) | refine g_cnd Tk Tryd.func9 rfl (fun _ => ?_) (fun h => absurd (show true = false from h) (by decide)) | refine g_know Tk Tryd.func9 rfl (fun _ => ?_) (fun h => absurd (show true = false from h) (by decide)) | refine s_know Tk (fun _ => ?_) (fun h => absurd (show true = false from h) (by decide)) | refine g_cnd Tk Tryd.func9 rfl (fun h => absurd (show false = true from h) (by decide)) (fun _ => ?_) | refine g_know Tk Tryd.func9 rfl (fun h => absurd (show false = true from h) (by decide)) (fun _ => ?_) | refine s_know Tk (fun h => absurd (show false = true from h) (by decide)) (fun _ => ?_))
        refine g_ret Tk (r := bb true) rfl rfl rfl trivial rfl rfl ?_
        rfl
end Go.AI
