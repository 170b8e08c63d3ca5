/- The layer of abstract runs, part 41. -/
import Derived.Test.YtonnakcgopcfnaaDoorLayerZN
import Derived.KernelRfl
set_option linter.unusedSimpArgs false
set_option linter.unusedVariables false
set_option linter.all false

/- The text of a literal. -/
namespace Go.AI
open Go.Proofs
set_option maxRecDepth 20000
def strEq : ByteArray := ⟨#[32, 61, 32]⟩
def strLe : ByteArray := ⟨#[32, 60, 61, 32]⟩
def litTx (l : List Vr) (x : Lit) : ByteArray :=
  if x.fr then (if x.to then (match l[x.var]? with | some v => v.name | none => ⟨#[]⟩) ++ strEq ++ itoaB x.lo else itoaB x.lo ++ strLe ++ (match l[x.var]? with | some v => v.name | none => ⟨#[]⟩))
  else (match l[x.var]? with | some v => v.name | none => ⟨#[]⟩) ++ strLe ++ itoaB x.hi
theorem litText92 {g : Nat} (hg : IsTab g) {ty : TypeId} {fr : Nat × Nat} (O : List Heap) (l : List Vr) (x : Lit) (hx : x.var < l.length) (hnm : ∀ v ∈ l, v.name.size ≤ 1000) (hlo : -9223372036854775808 ≤ x.lo ∧ x.lo ≤ 9223372036854775807) (hhi : -9223372036854775808 ≤ x.hi ∧ x.hi ≤ 9223372036854775807) :
    ASpecT g (ptab ty fr) Tryd.prog 92 [litD x, vrs l] O (.i (.v (.string (litTx l x)))) [] O := by
  obtain ⟨v, lo, hi, fr', to⟩ := x
  simp only at hx hlo hhi
  have hsl := itoaB_size hlo.1 hlo.2
  have hsh := itoaB_size hhi.1 hhi.2
  have hnm := hnm _ (List.getElem_mem hx)
  have hv : l[v]? = some l[v] := List.getElem?_eq_getElem hx
  have gv : (l.map vrI)[((v : Nat) : Int).toNat]? = some (vrI l[v]) := get_mapZ hx
  unfold litTx
  simp only [hv]
  generalize l[v] = a at *
  obtain ⟨an, al, ah, ai⟩ := a
  simp only at hnm
  have e1 : (an ++ (⟨#[32, 61, 32]⟩ : ByteArray)).size = an.size + 3 := ByteArray.size_append
  have e2 : ∀ b : ByteArray, (b ++ (⟨#[32, 60, 61, 32]⟩ : ByteArray)).size = b.size + 4 := fun b => ByteArray.size_append
  have e3 := e2 an
  have e4 := e2 (itoaB lo)
  cases fr' with
  | true =>
    cases to with
    | true =>
      refine aspecT_stop [] TrydT_ok Tryd.func92 rfl Tryd.call92 Tryd.ntmps92 (Nat.le_of_ble_eq_true rfl) fun E hE => ?_
      refine g_run TrydT_ok Tryd.func92 ?_
      first | refine g_need TrydT_ok Tryd.func92 (by exact ⟨by omega, by show (v : Int) < (l.length : Int); omega⟩) ?_ | refine s_need TrydT_ok (by exact ⟨by omega, by show (v : Int) < (l.length : Int); omega⟩) ?_
      first | refine g_elem TrydT_ok Tryd.func92 (gv) ?_ | refine s_elem TrydT_ok (gv) ?_
      repeat (first | refine g_cnd TrydT_ok Tryd.func92 rfl (fun _ => ?_) (fun h => absurd h (by decide)) | refine g_know TrydT_ok Tryd.func92 rfl (fun _ => ?_) (fun h => absurd h (by decide)) | refine s_know TrydT_ok (fun _ => ?_) (fun h => absurd h (by decide)) | refine g_cnd TrydT_ok Tryd.func92 rfl (fun h => absurd h (by decide)) (fun _ => ?_) | refine g_know TrydT_ok Tryd.func92 rfl (fun h => absurd h (by decide)) (fun _ => ?_) | refine s_know TrydT_ok (fun h => absurd h (by decide)) (fun _ => ?_) | refine g_cnd TrydT_ok Tryd.func92 rfl (fun _ => ?_) (fun h => absurd (show true = false from h) (by decide)) | refine g_know TrydT_ok Tryd.func92 rfl (fun _ => ?_) (fun h => absurd (show true = false from h) (by decide)) | refine s_know TrydT_ok (fun _ => ?_) (fun h => absurd (show true = false from h) (by decide)) | refine g_cnd TrydT_ok Tryd.func92 rfl (fun h => absurd (show false = true from h) (by decide)) (fun _ => ?_) | refine g_know TrydT_ok Tryd.func92 rfl (fun h => absurd (show false = true from h) (by decide)) (fun _ => ?_) | refine s_know TrydT_ok (fun h => absurd (show false = true from h) (by decide)) (fun _ => ?_))
      first | refine g_need TrydT_ok Tryd.func92 (by show an.size + 3 ≤ 9223372036854775807; omega) ?_ | refine s_need TrydT_ok (by show an.size + 3 ≤ 9223372036854775807; omega) ?_
      refine g_callT TrydT_ok Tryd.func92 hE (itoa79 hg _ lo hlo.1 hlo.2) rfl rfl rfl rfl rfl rfl ?_
      first | refine g_need TrydT_ok Tryd.func92 (by show (an ++ (⟨#[32, 61, 32]⟩ : ByteArray)).size + (itoaB lo).size ≤ 9223372036854775807; omega) ?_ | refine s_need TrydT_ok (by show (an ++ (⟨#[32, 61, 32]⟩ : ByteArray)).size + (itoaB lo).size ≤ 9223372036854775807; omega) ?_
      refine g_ret TrydT_ok (r := .i (.v (.string _))) rfl rfl rfl trivial rfl rfl ?_
      rfl
    | false =>
      refine aspecT_stop [] TrydT_ok Tryd.func92 rfl Tryd.call92 Tryd.ntmps92 (Nat.le_of_ble_eq_true rfl) fun E hE => ?_
      refine g_run TrydT_ok Tryd.func92 ?_
      first | refine g_need TrydT_ok Tryd.func92 (by exact ⟨by omega, by show (v : Int) < (l.length : Int); omega⟩) ?_ | refine s_need TrydT_ok (by exact ⟨by omega, by show (v : Int) < (l.length : Int); omega⟩) ?_
      first | refine g_elem TrydT_ok Tryd.func92 (gv) ?_ | refine s_elem TrydT_ok (gv) ?_
      repeat (first | refine g_cnd TrydT_ok Tryd.func92 rfl (fun _ => ?_) (fun h => absurd h (by decide)) | refine g_know TrydT_ok Tryd.func92 rfl (fun _ => ?_) (fun h => absurd h (by decide)) | refine s_know TrydT_ok (fun _ => ?_) (fun h => absurd h (by decide)) | refine g_cnd TrydT_ok Tryd.func92 rfl (fun h => absurd h (by decide)) (fun _ => ?_) | refine g_know TrydT_ok Tryd.func92 rfl (fun h => absurd h (by decide)) (fun _ => ?_) | refine s_know TrydT_ok (fun h => absurd h (by decide)) (fun _ => ?_) | refine g_cnd TrydT_ok Tryd.func92 rfl (fun _ => ?_) (fun h => absurd (show true = false from h) (by decide)) | refine g_know TrydT_ok Tryd.func92 rfl (fun _ => ?_) (fun h => absurd (show true = false from h) (by decide)) | refine s_know TrydT_ok (fun _ => ?_) (fun h => absurd (show true = false from h) (by decide)) | refine g_cnd TrydT_ok Tryd.func92 rfl (fun h => absurd (show false = true from h) (by decide)) (fun _ => ?_) | refine g_know TrydT_ok Tryd.func92 rfl (fun h => absurd (show false = true from h) (by decide)) (fun _ => ?_) | refine s_know TrydT_ok (fun h => absurd (show false = true from h) (by decide)) (fun _ => ?_))
      refine g_callT TrydT_ok Tryd.func92 hE (itoa79 hg _ lo hlo.1 hlo.2) rfl rfl rfl rfl rfl rfl ?_
      first | refine g_need TrydT_ok Tryd.func92 (by show (itoaB lo).size + 4 ≤ 9223372036854775807; omega) ?_ | refine s_need TrydT_ok (by show (itoaB lo).size + 4 ≤ 9223372036854775807; omega) ?_
      first | refine g_need TrydT_ok Tryd.func92 (by show (itoaB lo ++ (⟨#[32, 60, 61, 32]⟩ : ByteArray)).size + an.size ≤ 9223372036854775807; omega) ?_ | refine s_need TrydT_ok (by show (itoaB lo ++ (⟨#[32, 60, 61, 32]⟩ : ByteArray)).size + an.size ≤ 9223372036854775807; omega) ?_
      refine g_ret TrydT_ok (r := .i (.v (.string _))) rfl rfl rfl trivial rfl rfl ?_
      rfl
  | false =>
    refine aspecT_stop [] TrydT_ok Tryd.func92 rfl Tryd.call92 Tryd.ntmps92 (Nat.le_of_ble_eq_true rfl) fun E hE => ?_
    refine g_run TrydT_ok Tryd.func92 ?_
    first | refine g_need TrydT_ok Tryd.func92 (by exact ⟨by omega, by show (v : Int) < (l.length : Int); omega⟩) ?_ | refine s_need TrydT_ok (by exact ⟨by omega, by show (v : Int) < (l.length : Int); omega⟩) ?_
    first | refine g_elem TrydT_ok Tryd.func92 (gv) ?_ | refine s_elem TrydT_ok (gv) ?_
    repeat (first | refine g_cnd TrydT_ok Tryd.func92 rfl (fun _ => ?_) (fun h => absurd h (by decide)) | refine g_know TrydT_ok Tryd.func92 rfl (fun _ => ?_) (fun h => absurd h (by decide)) | refine s_know TrydT_ok (fun _ => ?_) (fun h => absurd h (by decide)) | refine g_cnd TrydT_ok Tryd.func92 rfl (fun h => absurd h (by decide)) (fun _ => ?_) | refine g_know TrydT_ok Tryd.func92 rfl (fun h => absurd h (by decide)) (fun _ => ?_) | refine s_know TrydT_ok (fun h => absurd h (by decide)) (fun _ => ?_) | refine g_cnd TrydT_ok Tryd.func92 rfl (fun _ => ?_) (fun h => absurd (show true = false from h) (by decide)) | refine g_know TrydT_ok Tryd.func92 rfl (fun _ => ?_) (fun h => absurd (show true = false from h) (by decide)) | refine s_know TrydT_ok (fun _ => ?_) (fun h => absurd (show true = false from h) (by decide)) | refine g_cnd TrydT_ok Tryd.func92 rfl (fun h => absurd (show false = true from h) (by decide)) (fun _ => ?_) | refine g_know TrydT_ok Tryd.func92 rfl (fun h => absurd (show false = true from h) (by decide)) (fun _ => ?_) | refine s_know TrydT_ok (fun h => absurd (show false = true from h) (by decide)) (fun _ => ?_))
    first | refine g_need TrydT_ok Tryd.func92 (by show an.size + 4 ≤ 9223372036854775807; omega) ?_ | refine s_need TrydT_ok (by show an.size + 4 ≤ 9223372036854775807; omega) ?_
    refine g_callT TrydT_ok Tryd.func92 hE (itoa79 hg _ hi hhi.1 hhi.2) rfl rfl rfl rfl rfl rfl ?_
    first | refine g_need TrydT_ok Tryd.func92 (by show (an ++ (⟨#[32, 60, 61, 32]⟩ : ByteArray)).size + (itoaB hi).size ≤ 9223372036854775807; omega) ?_ | refine s_need TrydT_ok (by show (an ++ (⟨#[32, 60, 61, 32]⟩ : ByteArray)).size + (itoaB hi).size ≤ 9223372036854775807; omega) ?_
    refine g_ret TrydT_ok (r := .i (.v (.string _))) rfl rfl rfl trivial rfl rfl ?_
    rfl
end Go.AI


/- The text of boxes. -/
namespace Go.AI
open Go.Proofs
set_option maxRecDepth 20000
abbrev oby (T : List UInt8) : Ob := .arr 5 1 T.length (u8l T) true
theorem oby_app (T s : List UInt8) : Ob.arr 5 1 (T.length + s.length) (u8l T ++ u8l s) true = oby (T ++ s) := by rw [u8l_app]; simp [oby]
theorem strCells_u8 (K : Kn) (s : ByteArray) : RepL K (Lib.strCells s) (u8l s.data.toList).flatten := u8l_rep K s.data.toList
theorem size_list (s : ByteArray) : s.data.toList.length = s.size := by rw [Array.length_toList]; rfl
/-- A write of a string. -/
theorem does_ws {c : Cx} (hP : c.P = Tryd.prog) {s : St} {o : Oper} {t nm nm2 : Nat} {dp : D} {H : Heap} {O : List Heap} (sb : ByteArray) (T : List UInt8) (hdp : dp = .i (.v (.pointer none)) ∨ dp = .own 0 nm 0 0) (hlim : T.length + sb.size ≤ 140737488355328) (ht : o.dst = some t) (hn : t < s.n) (hS : s.S = H :: O)
    (hb : look H nm = some (.tb 168 [dp, .osl 0 nm2])) (ha : look H nm2 = some (oby T)) (hne : nm ≠ nm2) :
    Wp c o s 90 [.own 0 nm 0 0, .i (.v (.string sb))] { σ := (t, .tup [ii sb.size, .i (.v .nilIface)]) :: killσ nm2 s.σ, S := ((nm, .tb 168 [.own 0 nm 0 0, .osl 0 nm2]) :: (nm2, oby (T ++ sb.data.toList)) :: killH nm2 ((nm, .tb 168 [.own 0 nm 0 0, .osl 0 nm2]) :: H)) :: O, n := s.n } := by
  have h := does_write (c := c) (s := s) (o := o) (ys := u8l sb.data.toList) (m := sb.data.toList.length) (T := 168) (ty := 5) (rd := .tup [ii sb.size, .i (.v .nilIface)]) (dx := .i (.v (.string sb))) (x := .string sb) (res := .tuple #[.int .i64 sb.size, .nilIface]) (xs := u8l T) (n := T.length) (by rw [hP]; exact wspec90 sb) (by rw [hP]; exact Tryd.call90)
    (fun K ρ sh v h => inv_v h) (fun K ρ sh => .tup (.cons (.i (.v rfl)) (.cons (.i (.v rfl)) .nil))) hdp ht hn hS hb ha hne (fun K => strCells_u8 K sb) (u8l_el _) (by simp [u8l]) (by rw [size_list]; exact hlim)
  rwa [oby_app] at h
theorem does_bs {c : Cx} (hP : c.P = Tryd.prog) {s : St} {o : Oper} {t nm nm2 : Nat} {dp : D} {H : Heap} {O : List Heap} {T : List UInt8} (h0 : T ≠ []) (ht : o.dst = some t) (hn : t < s.n) (hS : s.S = H :: O)
    (hb : look H nm = some (.tb 168 [dp, .osl 0 nm2])) (ha : look H nm2 = some (oby T)) :
    Wp c o s 93 [.own 0 nm 0 0] { σ := (t, .i (.v (.string ⟨T.toArray⟩))) :: killσ nm2 s.σ, S := ((nm2, .arr 5 1 0 [] true) :: killH nm2 H) :: O, n := s.n } :=
  does_bstr (c := c) (s := s) (o := o) (T := 168) (ty := 5) (by rw [hP]; exact sspec93) (by rw [hP]; exact Tryd.call93) h0 ht hn hS hb ha
def andB : List UInt8 := [32, 97, 110, 100, 32]
def orB : List UInt8 := [32, 111, 114, 32]
def trueB : List UInt8 := [116, 114, 117, 101]
def litsBy (l : List Vr) : List Lit → Nat → List UInt8 → List UInt8
  | [], _, T => T
  | x :: r, k, T => litsBy l r (k + 1) (T ++ (if k > 0 then andB else []) ++ (litTx l x).data.toList)
def boxBy (l : List Vr) (b : Bx) (i : Nat) (T : List UInt8) : List UInt8 :=
  if (b.lits l).isEmpty then T ++ (if i > 0 then orB else []) ++ trueB else litsBy l (b.lits l) 0 (T ++ (if i > 0 then orB else []))
def boxesBy (l : List Vr) : List Bx → Nat → List UInt8 → List UInt8
  | [], _, T => T
  | b :: r, i, T => boxesBy l r (i + 1) (boxBy l b i T)
def textR (l : List Vr) (boxes : List Bx) : ByteArray × Int :=
  if checkBoxesR l boxes ≠ 0 then (⟨#[]⟩, checkBoxesR l boxes) else if boxes.isEmpty then (⟨#[102, 97, 108, 115, 101]⟩, 0) else (⟨(boxesBy l boxes 0 []).toArray⟩, 0)
theorem bsize_append (a b : ByteArray) : (a ++ b).size = a.size + b.size := ByteArray.size_append
theorem litTx_size {l : List Vr} {x : Lit} (hx : x.var < l.length) (hnm : ∀ v ∈ l, v.name.size ≤ 1000) (hlo : i64B x.lo) (hhi : i64B x.hi) : 3 ≤ (litTx l x).size ∧ (litTx l x).size ≤ 1025 := by
  have hsl := itoaB_size hlo.1 hlo.2
  have hsh := itoaB_size hhi.1 hhi.2
  have hv : l[x.var]? = some l[x.var] := List.getElem?_eq_getElem hx
  have := hnm _ (List.getElem_mem hx)
  have e1 : strEq.size = 3 := rfl
  have e2 : strLe.size = 4 := rfl
  unfold litTx
  simp only [hv]
  split
  · split
    · rw [bsize_append, bsize_append]; omega
    · rw [bsize_append, bsize_append]; omega
  · rw [bsize_append, bsize_append]; omega
theorem chkV_lits {l : List Vr} {i : Nat} {ls hs : List Int} {n : Nat} (hn : i + l.length ≤ n) (h : chkV l ls hs = 0) (hb : ∀ v ∈ l, -65536 ≤ v.low ∧ v.high ≤ 65536) : ∀ x ∈ litsR l i ls hs, x.var < n ∧ (-65536 ≤ x.lo ∧ x.lo ≤ 65536) ∧ -65536 ≤ x.hi ∧ x.hi ≤ 65536 := by
  induction l generalizing i ls hs with
  | nil => intro x hx; simp [litsR] at hx
  | cons v r ih =>
    cases ls with
    | nil => intro x hx; simp [litsR] at hx
    | cons lo ls =>
      cases hs with
      | nil => intro x hx; simp [litsR] at hx
      | cons hi hs =>
        simp only [chkV] at h
        split at h
        · cases h
        rename_i hc
        have hvb := hb v (by simp)
        simp only [List.length_cons] at hn
        intro x hx
        simp only [litsR, List.mem_append] at hx
        rcases hx with hx | hx
        · have hx' : x.var = i ∧ x.lo = lo ∧ x.hi = hi := by
            unfold litsV at hx
            split at hx
            · simp at hx
            · split at hx
              · rw [List.mem_singleton.1 hx]; exact ⟨rfl, rfl, rfl⟩
              · rw [List.mem_append] at hx
                rcases hx with hx | hx
                · split at hx
                  · rw [List.mem_singleton.1 hx]; exact ⟨rfl, rfl, rfl⟩
                  · simp at hx
                · split at hx
                  · rw [List.mem_singleton.1 hx]; exact ⟨rfl, rfl, rfl⟩
                  · simp at hx
          obtain ⟨e1, e2, e3⟩ := hx'
          omega
        · exact ih (i := i + 1) (by omega) h (fun v hv => hb v (by simp [hv])) x hx
abbrev dpD (p : Bool) : D := bif p then .own 0 7 0 0 else .i (.v (.pointer none))
theorem dpD_or (p : Bool) : dpD p = .i (.v (.pointer none)) ∨ dpD p = .own 0 7 0 0 := by cases p; exact .inl rfl; exact .inr rfl
set_option maxHeartbeats 4000000 in
theorem text40 {g : Nat} (hg : IsTab g) {ty : TypeId} {fr : Nat × Nat} (O : List Heap) (l : List Vr) (boxes : List Bx) (hl : l.length ≤ max63) (hn : ∀ v ∈ l, v.name.size ≤ 1000) (hbl : boxes.length ≤ 4096) : ASpecT g (ptab ty fr) Tryd.prog 40 [vrs l, bxs boxes] O (.tup [.i (.v (.string (textR l boxes).1)), ii (textR l boxes).2]) [] O := by
  have hck := fun O => checkBoxes89 O l boxes hl (fun v hv => Nat.le_trans (hn v hv) (by decide)) (by simp only [max63]; omega)
  have hok := @checkBoxes_ok l boxes
  generalize hR : textR l boxes = R
  unfold textR at hR
  generalize checkBoxesR l boxes = e at *
  by_cases h1 : e ≠ 0
  · rw [if_pos h1] at hR
    subst hR
    refine aspecT_stop [] TrydT_ok Tryd.func40 rfl Tryd.call40 Tryd.ntmps40 (Nat.le_of_ble_eq_true rfl) fun E hE => ?_
    refine g_run TrydT_ok Tryd.func40 ?_
    first | refine g_call TrydT_ok Tryd.func40 (hck _) rfl rfl rfl rfl rfl ?_ | refine s_callq TrydT_ok (fun _ => hck _) rfl rfl rfl ?_
    first | refine g_cnd TrydT_ok Tryd.func40 rfl (fun h2 => ?_) (fun h2 => ?_) | refine g_know TrydT_ok Tryd.func40 rfl (fun h2 => ?_) (fun h2 => ?_) | refine s_know TrydT_ok (fun h2 => ?_) (fun h2 => ?_)
    rotate_left
    · exact absurd (bneF h2) h1
    refine g_ret TrydT_ok (r := .tup [.i (.v (.string ⟨#[]⟩)), ii e]) rfl rfl rfl trivial rfl rfl ?_
    rfl
  rw [if_neg h1] at hR
  have h1 : e = 0 := by simpa using h1
  subst h1
  obtain ⟨hd, hb⟩ := hok rfl
  have hl16 := hd.len
  by_cases he : boxes = []
  · subst he
    have hR : ((⟨#[102, 97, 108, 115, 101]⟩ : ByteArray), (0 : Int)) = R := hR
    subst hR
    refine aspecT_stop [] TrydT_ok Tryd.func40 rfl Tryd.call40 Tryd.ntmps40 (Nat.le_of_ble_eq_true rfl) fun E hE => ?_
    refine g_run TrydT_ok Tryd.func40 ?_
    first | refine g_call TrydT_ok Tryd.func40 (hck _) rfl rfl rfl rfl rfl ?_ | refine s_callq TrydT_ok (fun _ => hck _) rfl rfl rfl ?_
    repeat (first | refine g_cnd TrydT_ok Tryd.func40 rfl (fun _ => ?_) (fun h => absurd h (by decide)) | refine g_know TrydT_ok Tryd.func40 rfl (fun _ => ?_) (fun h => absurd h (by decide)) | refine s_know TrydT_ok (fun _ => ?_) (fun h => absurd h (by decide)) | refine g_cnd TrydT_ok Tryd.func40 rfl (fun h => absurd h (by decide)) (fun _ => ?_) | refine g_know TrydT_ok Tryd.func40 rfl (fun h => absurd h (by decide)) (fun _ => ?_) | refine s_know TrydT_ok (fun h => absurd h (by decide)) (fun _ => ?_) | refine g_cnd TrydT_ok Tryd.func40 rfl (fun _ => ?_) (fun h => absurd (show true = false from h) (by decide)) | refine g_know TrydT_ok Tryd.func40 rfl (fun _ => ?_) (fun h => absurd (show true = false from h) (by decide)) | refine s_know TrydT_ok (fun _ => ?_) (fun h => absurd (show true = false from h) (by decide)) | refine g_cnd TrydT_ok Tryd.func40 rfl (fun h => absurd (show false = true from h) (by decide)) (fun _ => ?_) | refine g_know TrydT_ok Tryd.func40 rfl (fun h => absurd (show false = true from h) (by decide)) (fun _ => ?_) | refine s_know TrydT_ok (fun h => absurd (show false = true from h) (by decide)) (fun _ => ?_))
    refine g_ret TrydT_ok (r := .tup [.i (.v (.string ⟨#[102, 97, 108, 115, 101]⟩)), ii 0]) rfl rfl rfl trivial rfl rfl ?_
    rfl
  rw [if_neg (by simpa using he)] at hR
  have hpos : 0 < boxes.length := List.length_pos_iff.2 he
  have hT0 : boxesBy l boxes 0 [] = boxesBy l (boxes.drop 0) 0 [] := rfl
  generalize boxesBy l boxes 0 [] = TX at *
  refine aspecT_stop [200007, 200031, 200038, 200048, 200052, 200055, 12, 20] TrydT_ok Tryd.func40 rfl Tryd.call40 Tryd.ntmps40 (Nat.le_of_ble_eq_true rfl) fun E hE => ?_
  refine g_run TrydT_ok Tryd.func40 ?_
  first | refine g_call TrydT_ok Tryd.func40 (hck _) rfl rfl rfl rfl rfl ?_ | refine s_callq TrydT_ok (fun _ => hck _) rfl rfl rfl ?_
  repeat (first | refine g_cnd TrydT_ok Tryd.func40 rfl (fun _ => ?_) (fun h => absurd h (by decide)) | refine g_know TrydT_ok Tryd.func40 rfl (fun _ => ?_) (fun h => absurd h (by decide)) | refine s_know TrydT_ok (fun _ => ?_) (fun h => absurd h (by decide)) | refine g_cnd TrydT_ok Tryd.func40 rfl (fun h => absurd h (by decide)) (fun _ => ?_) | refine g_know TrydT_ok Tryd.func40 rfl (fun h => absurd h (by decide)) (fun _ => ?_) | refine s_know TrydT_ok (fun h => absurd h (by decide)) (fun _ => ?_) | refine g_cnd TrydT_ok Tryd.func40 rfl (fun _ => ?_) (fun h => absurd (show true = false from h) (by decide)) | refine g_know TrydT_ok Tryd.func40 rfl (fun _ => ?_) (fun h => absurd (show true = false from h) (by decide)) | refine s_know TrydT_ok (fun _ => ?_) (fun h => absurd (show true = false from h) (by decide)) | refine g_cnd TrydT_ok Tryd.func40 rfl (fun h => absurd (show false = true from h) (by decide)) (fun _ => ?_) | refine g_know TrydT_ok Tryd.func40 rfl (fun h => absurd (show false = true from h) (by decide)) (fun _ => ?_) | refine s_know TrydT_ok (fun h => absurd (show false = true from h) (by decide)) (fun _ => ?_))
  first | refine g_cnd TrydT_ok Tryd.func40 rfl (fun g0 => ?_) (fun g0 => ?_) | refine g_know TrydT_ok Tryd.func40 rfl (fun g0 => ?_) (fun g0 => ?_) | refine s_know TrydT_ok (fun g0 => ?_) (fun g0 => ?_)
  · have := beqT g0
    omega
  clear g0
  refine g_tb TrydT_ok Tryd.func40 rfl rfl rfl rfl rfl rfl rfl rfl ?_
  refine g_loop ?_
  refine rch_wk (wk_niltb 7 60 5 1 rfl rfl rfl) ?_
  refine rch_loop2 (fun x : Nat × List UInt8 × Bool => [(0, vrs l), (7, .own 0 7 0 0), (22, bxs boxes), (23, ii boxes.length), (24, ii x.1)]) (fun x => [(7, .tb 168 [dpD x.2.2, .osl 0 60]), (60, oby x.2.1)]) (fun _ => O) 56
    (fun x => x.1 ≤ boxes.length ∧ x.2.1.length ≤ 40000 * x.1 ∧ (x.1 = 0 ∨ x.2.1 ≠ []) ∧ boxesBy l (boxes.drop x.1) x.1 x.2.1 = TX) (fun x => boxes.length - x.1) (0, [], false)
    ⟨Nat.zero_le _, by simp, .inl rfl, hT0.symm⟩ ⟨rfl, rfl, rfl, rfl, rfl, trivial⟩ rfl ⟨rfl, rfl, trivial⟩ rfl rfl ?_
  clear hT0
  rintro ⟨i, T, p⟩ ⟨hi, hTl, hT0, hno⟩ ih
  simp only at hi hTl hT0 hno
  refine g_run TrydT_ok Tryd.func40 ?_
  first | refine g_cnd TrydT_ok Tryd.func40 rfl (fun g1 => ?_) (fun g1 => ?_) | refine g_know TrydT_ok Tryd.func40 rfl (fun g1 => ?_) (fun g1 => ?_) | refine s_know TrydT_ok (fun g1 => ?_) (fun g1 => ?_)
  · have h2 : i < boxes.length := by simpa using g1
    clear g1
    have gb : (boxes.map bxI)[(i : Int).toNat]? = some (bxI boxes[i]) := get_mapZ h2
    have db : boxes.drop i = boxes[i] :: boxes.drop (i + 1) := List.drop_eq_getElem_cons h2
    have hbs := hb _ (List.getElem_mem h2)
    rw [db] at hno
    simp only [boxesBy, boxBy] at hno
    clear db
    have hli := fun O => literals91 O l boxes[i] hbs.1 hbs.2.1 hl16
    have hll : (boxes[i].lits l).length ≤ 2 * l.length := lits_len l 0 boxes[i].low boxes[i].high
    have hlx := chkV_lits (i := 0) (n := l.length) (by omega) hbs.2.2 (fun v hv => (hd.b v hv).1)
    have hly : ∀ x ∈ boxes[i].lits l, x.var < l.length ∧ (-65536 ≤ x.lo ∧ x.lo ≤ 65536) ∧ -65536 ≤ x.hi ∧ x.hi ≤ 65536 := hlx
    clear hlx
    generalize boxes[i] = b at *
    generalize b.lits l = L at *
    obtain ⟨lo, hi2⟩ := b
    have hi1 : ii (IntKind.i64.wrap ((i : Int) + 1)) = ii ((i + 1 : Nat) : Int) := congrArg ii (wsucc (n := 4096) (by omega) (by decide))
    first | refine g_need TrydT_ok Tryd.func40 (by exact ⟨by omega, by show (i : Int) < (boxes.length : Int); omega⟩) ?_ | refine s_need TrydT_ok (by exact ⟨by omega, by show (i : Int) < (boxes.length : Int); omega⟩) ?_
    first | refine g_elem TrydT_ok Tryd.func40 (gb) ?_ | refine s_elem TrydT_ok (gb) ?_
    generalize hT1 : T ++ (if i > 0 then orB else []) = T1 at *
    have hT1l : T1.length ≤ T.length + 4 := by
      rw [← hT1, List.length_append]
      split <;> simp [orB]
    apply join_q (P := fun _ : Bool => True) (s6 := fun p => { σ := [(0, vrs l), (7, .own 0 7 0 0), (22, bxs boxes), (23, ii boxes.length), (24, ii i), (9, .own 0 9 0 0)], S := [(7, .tb 168 [dpD p, .osl 0 60]), (60, oby T1), (9, .box [ints lo, ints hi2])] :: O, n := 56 })
    · intro J
      first | refine g_cnd TrydT_ok Tryd.func40 rfl (fun c1 => ?_) (fun c1 => ?_) | refine g_know TrydT_ok Tryd.func40 rfl (fun c1 => ?_) (fun c1 => ?_) | refine s_know TrydT_ok (fun c1 => ?_) (fun c1 => ?_)
      · have c1 : 0 < i := by have := of_decide_eq_true c1; omega
        rw [if_pos c1] at hT1
        refine g_callP TrydT_ok Tryd.func40 rfl rfl rfl rfl (does_ws rfl ⟨#[32, 111, 114, 32]⟩ T (dpD_or p) (by show T.length + 4 ≤ _; omega) rfl (show 31 < 56 by decide) rfl rfl rfl (by decide)) ?_
        refine g_stop ?_
        refine rch_meet (J true trivial) ⟨rfl, rfl, rfl, rfl, rfl, rfl, trivial⟩ rfl ⟨rfl, by rw [← hT1]; rfl, rfl, trivial⟩ rfl rfl
      · have c1 : ¬ 0 < i := by have := of_decide_eq_false c1; omega
        rw [if_neg c1, List.append_nil] at hT1
        refine g_stop ?_
        refine rch_meet (J p trivial) ⟨rfl, rfl, rfl, rfl, rfl, rfl, trivial⟩ rfl ⟨rfl, by rw [← hT1]; rfl, rfl, trivial⟩ (by cases p <;> rfl) rfl
    · rintro p2 -
      refine g_run TrydT_ok Tryd.func40 ?_
      refine g_go TrydT_ok Tryd.func40 ?_
      first | refine g_call TrydT_ok Tryd.func40 (hli _) rfl rfl rfl rfl rfl ?_ | refine s_callq TrydT_ok (fun _ => hli _) rfl rfl rfl ?_
      cases hL : L with
      | nil =>
        rw [hL] at hno
        simp only [List.isEmpty_nil, if_true] at hno
        repeat (first | refine g_cnd TrydT_ok Tryd.func40 rfl (fun _ => ?_) (fun h => absurd h (by decide)) | refine g_know TrydT_ok Tryd.func40 rfl (fun _ => ?_) (fun h => absurd h (by decide)) | refine s_know TrydT_ok (fun _ => ?_) (fun h => absurd h (by decide)) | refine g_cnd TrydT_ok Tryd.func40 rfl (fun h => absurd h (by decide)) (fun _ => ?_) | refine g_know TrydT_ok Tryd.func40 rfl (fun h => absurd h (by decide)) (fun _ => ?_) | refine s_know TrydT_ok (fun h => absurd h (by decide)) (fun _ => ?_) | refine g_cnd TrydT_ok Tryd.func40 rfl (fun _ => ?_) (fun h => absurd (show true = false from h) (by decide)) | refine g_know TrydT_ok Tryd.func40 rfl (fun _ => ?_) (fun h => absurd (show true = false from h) (by decide)) | refine s_know TrydT_ok (fun _ => ?_) (fun h => absurd (show true = false from h) (by decide)) | refine g_cnd TrydT_ok Tryd.func40 rfl (fun h => absurd (show false = true from h) (by decide)) (fun _ => ?_) | refine g_know TrydT_ok Tryd.func40 rfl (fun h => absurd (show false = true from h) (by decide)) (fun _ => ?_) | refine s_know TrydT_ok (fun h => absurd (show false = true from h) (by decide)) (fun _ => ?_))
        refine g_callP TrydT_ok Tryd.func40 rfl rfl rfl rfl (does_ws rfl ⟨#[116, 114, 117, 101]⟩ T1 (dpD_or p2) (by show T1.length + 4 ≤ _; omega) rfl (show 38 < 56 by decide) rfl rfl rfl (by decide)) ?_
        refine g_loop ?_
        refine g_run TrydT_ok Tryd.func40 ?_
        repeat (first | refine g_cnd TrydT_ok Tryd.func40 rfl (fun _ => ?_) (fun h => absurd h (by decide)) | refine g_know TrydT_ok Tryd.func40 rfl (fun _ => ?_) (fun h => absurd h (by decide)) | refine s_know TrydT_ok (fun _ => ?_) (fun h => absurd h (by decide)) | refine g_cnd TrydT_ok Tryd.func40 rfl (fun h => absurd h (by decide)) (fun _ => ?_) | refine g_know TrydT_ok Tryd.func40 rfl (fun h => absurd h (by decide)) (fun _ => ?_) | refine s_know TrydT_ok (fun h => absurd h (by decide)) (fun _ => ?_) | refine g_cnd TrydT_ok Tryd.func40 rfl (fun _ => ?_) (fun h => absurd (show true = false from h) (by decide)) | refine g_know TrydT_ok Tryd.func40 rfl (fun _ => ?_) (fun h => absurd (show true = false from h) (by decide)) | refine s_know TrydT_ok (fun _ => ?_) (fun h => absurd (show true = false from h) (by decide)) | refine g_cnd TrydT_ok Tryd.func40 rfl (fun h => absurd (show false = true from h) (by decide)) (fun _ => ?_) | refine g_know TrydT_ok Tryd.func40 rfl (fun h => absurd (show false = true from h) (by decide)) (fun _ => ?_) | refine s_know TrydT_ok (fun h => absurd (show false = true from h) (by decide)) (fun _ => ?_))
        refine g_loop ?_
        refine ih (i + 1, T1 ++ trueB, true) _ _ ⟨h2, by simp only [List.length_append]; show T1.length + 4 ≤ _; omega, .inr (by simp [trueB]), hno⟩ (by simp only; omega) ⟨rfl, rfl, rfl, rfl, hi1, trivial⟩ rfl ⟨rfl, rfl, trivial⟩ rfl rfl
      | cons x0 r0 =>
        have hne : L ≠ [] := by rw [hL]; simp
        have hie : ¬ L.isEmpty = true := by rw [hL]; simp
        rw [if_neg hie] at hno
        rw [← hL]
        have hpos2 : 0 < L.length := List.length_pos_iff.2 hne
        clear hL
        first | refine g_cnd TrydT_ok Tryd.func40 rfl (fun c2 => ?_) (fun c2 => ?_) | refine g_know TrydT_ok Tryd.func40 rfl (fun c2 => ?_) (fun c2 => ?_) | refine s_know TrydT_ok (fun c2 => ?_) (fun c2 => ?_)
        · have := beqT c2
          omega
        clear c2
        have hF0 : litsBy l L 0 T1 = litsBy l (L.drop 0) 0 T1 := rfl
        generalize litsBy l L 0 T1 = F at *
        refine g_loop ?_
        refine rch_loop2 (fun x : Nat × List UInt8 × Bool => [(0, vrs l), (7, .own 0 7 0 0), (22, bxs boxes), (23, ii boxes.length), (24, ii i), (39, litsD L), (40, ii L.length), (41, ii x.1)]) (fun x => [(7, .tb 168 [dpD x.2.2, .osl 0 60]), (60, oby x.2.1)]) (fun _ => O) 56
          (fun x => x.1 ≤ L.length ∧ x.2.1.length ≤ T1.length + 1100 * x.1 ∧ (x.1 = 0 ∨ x.2.1 ≠ []) ∧ F = litsBy l (L.drop x.1) x.1 x.2.1) (fun x => L.length - x.1) (0, T1, p2)
          ⟨Nat.zero_le _, by simp, .inl rfl, hF0⟩ ⟨rfl, rfl, rfl, rfl, rfl, rfl, rfl, rfl, trivial⟩ rfl ⟨rfl, rfl, trivial⟩ (by cases p2 <;> rfl) rfl ?_
        clear hF0
        rintro ⟨k, U, q⟩ ⟨hk, hUl, hU0, hF⟩ ih2
        simp only at hk hUl hU0 hF
        refine g_run TrydT_ok Tryd.func40 ?_
        first | refine g_cnd TrydT_ok Tryd.func40 rfl (fun g2 => ?_) (fun g2 => ?_) | refine g_know TrydT_ok Tryd.func40 rfl (fun g2 => ?_) (fun g2 => ?_) | refine s_know TrydT_ok (fun g2 => ?_) (fun g2 => ?_)
        · have h3 : k < L.length := by simpa using g2
          clear g2
          have gl : (L.map litI)[(k : Int).toNat]? = some (litI L[k]) := get_mapZ h3
          have dl : L.drop k = L[k] :: L.drop (k + 1) := List.drop_eq_getElem_cons h3
          have hx := hly _ (List.getElem_mem h3)
          rw [dl] at hF
          simp only [litsBy] at hF
          clear dl
          generalize L[k] = x at *
          have hxs := litTx_size hx.1 hn ⟨by omega, by omega⟩ ⟨by omega, by omega⟩
          have hlt := fun O => litText92 hg (ty := ty) (fr := fr) O l x hx.1 hn ⟨by omega, by omega⟩ ⟨by omega, by omega⟩
          generalize litTx l x = W at *
          obtain ⟨xv, xlo, xhi, xf, xt⟩ := x
          have hk1 : ii (IntKind.i64.wrap ((k : Int) + 1)) = ii ((k + 1 : Nat) : Int) := congrArg ii (wsucc (n := 4096) (by omega) (by decide))
          first | refine g_need TrydT_ok Tryd.func40 (by exact ⟨by omega, by show (k : Int) < (L.length : Int); omega⟩) ?_ | refine s_need TrydT_ok (by exact ⟨by omega, by show (k : Int) < (L.length : Int); omega⟩) ?_
          first | refine g_elem TrydT_ok Tryd.func40 (gl) ?_ | refine s_elem TrydT_ok (gl) ?_
          generalize hU1 : U ++ (if k > 0 then andB else []) = U1 at *
          have hU1l : U1.length ≤ U.length + 5 := by
            rw [← hU1, List.length_append]
            split <;> simp [andB]
          apply join_q (P := fun _ : Bool => True) (s6 := fun p => { σ := [(0, vrs l), (7, .own 0 7 0 0), (22, bxs boxes), (23, ii boxes.length), (24, ii i), (12, .own 0 12 0 0), (39, litsD L), (40, ii L.length), (41, ii k)], S := [(7, .tb 168 [dpD p, .osl 0 60]), (60, oby U1), (12, .box [ii (xv : Int), ii xlo, ii xhi, bb xf, bb xt])] :: O, n := 56 })
          · intro J
            first | refine g_cnd TrydT_ok Tryd.func40 rfl (fun c1 => ?_) (fun c1 => ?_) | refine g_know TrydT_ok Tryd.func40 rfl (fun c1 => ?_) (fun c1 => ?_) | refine s_know TrydT_ok (fun c1 => ?_) (fun c1 => ?_)
            · have c1 : 0 < k := by have := of_decide_eq_true c1; omega
              rw [if_pos c1] at hU1
              refine g_callP TrydT_ok Tryd.func40 rfl rfl rfl rfl (does_ws rfl ⟨#[32, 97, 110, 100, 32]⟩ U (dpD_or q) (by show U.length + 5 ≤ _; omega) rfl (show 48 < 56 by decide) rfl rfl rfl (by decide)) ?_
              refine g_stop ?_
              refine rch_meet (J true trivial) ⟨rfl, rfl, rfl, rfl, rfl, rfl, rfl, rfl, rfl, trivial⟩ rfl ⟨rfl, by rw [← hU1]; rfl, rfl, trivial⟩ rfl rfl
            · have c1 : ¬ 0 < k := by have := of_decide_eq_false c1; omega
              rw [if_neg c1, List.append_nil] at hU1
              refine g_stop ?_
              refine rch_meet (J q trivial) ⟨rfl, rfl, rfl, rfl, rfl, rfl, rfl, rfl, rfl, trivial⟩ rfl ⟨rfl, by rw [← hU1]; rfl, rfl, trivial⟩ (by cases q <;> rfl) rfl
          · rintro q2 -
            refine g_run TrydT_ok Tryd.func40 ?_
            refine g_go TrydT_ok Tryd.func40 ?_
            refine g_callT TrydT_ok Tryd.func40 hE (hlt _) rfl rfl rfl rfl rfl rfl ?_
            refine g_callP TrydT_ok Tryd.func40 rfl rfl rfl rfl (does_ws rfl W U1 (dpD_or q2) (by omega) rfl (show 52 < 56 by decide) rfl rfl rfl (by decide)) ?_
            refine g_loop ?_
            refine ih2 (k + 1, U1 ++ W.data.toList, true) _ _ ⟨h3, by simp only [List.length_append, size_list]; omega, .inr fun e => ?_, hF⟩ (by simp only; omega) ⟨rfl, rfl, rfl, rfl, rfl, rfl, rfl, hk1, trivial⟩ rfl ⟨rfl, rfl, trivial⟩ rfl rfl
            have := congrArg List.length e
            simp only [List.length_append, size_list, List.length_nil] at this
            omega
        · have h3 : L.length ≤ k := by simpa using g2
          rw [List.drop_eq_nil_of_le h3] at hF
          simp only [litsBy] at hF
          rw [hF] at hno
          refine g_loop ?_
          exact ih (i + 1, U, q) _ _ ⟨h2, by simp only; omega, hU0.imp (fun e => by omega) id, hno⟩ (by simp only; omega) ⟨rfl, rfl, rfl, rfl, hi1, trivial⟩ rfl ⟨rfl, rfl, trivial⟩ (by cases q <;> rfl) rfl
  · have h2 : boxes.length ≤ i := by simpa using g1
    rw [List.drop_eq_nil_of_le h2] at hno
    simp only [boxesBy] at hno
    subst hno
    have hT0 : T ≠ [] := hT0.resolve_left (by omega)
    refine g_callP TrydT_ok Tryd.func40 rfl rfl rfl rfl (does_bs rfl hT0 rfl (show 55 < 56 by decide) rfl rfl rfl) ?_
    subst hR
    refine g_ret TrydT_ok (r := .tup [.i (.v (.string ⟨T.toArray⟩)), ii 0]) rfl rfl rfl trivial rfl rfl ?_
    rfl
end Go.AI


/- The examples of the chapter on guards. -/
namespace Go.AI
open Go.Proofs
set_option maxRecDepth 20000
def cmpE (op v n : Int) : Ex := .mk op 0 0 [.mk 1 0 v [], .mk 0 n 0 []]
def twoV : List Vr := [⟨⟨#[120]⟩, 0, 3, 0⟩, ⟨⟨#[121]⟩, 0, 1, 0⟩]
def xE : Ex := .mk 12 0 0 [cmpE 8 0 2, cmpE 6 1 1]
theorem compare69 (O : List Heap) (op v n : Int) : ASpec Tryd.prog 69 [ii op, ii v, ii n] O (exA (cmpE op v n)) [] O := by
  refine aspec_intro TrydT_ok Tryd.func69 rfl Tryd.call69 Tryd.ntmps69 (Nat.le_of_ble_eq_true rfl) fun E => ?_
  refine g_run TrydT_ok Tryd.func69 ?_
  refine g_ret_co TrydT_ok (r := _) rfl rfl rfl trivial rfl rfl ?_
  show CoD _ (.agg [ii op, ii 0, ii 0, .i (.sl 4 2 [[vi 1, vi 0, vi v, .sl 4 0 []], [vi 0, vi n, vi 0, .sl 4 0 []]])])
  repeat' (first | refine coD_tup ?_ | refine coD_agg ?_ | refine coD_i ?_ | refine CoDL.cons ?_ ?_ | exact CoDL.nil | exact coI_nil | refine coI_sl ?_ | refine CoLL.cons ?_ ?_ | exact CoLL.nil | refine CoL.cons ?_ ?_ | exact CoL.nil | exact CoI.refl _ | exact CoL.refl _ | exact CoLL.refl _ | exact CoDL.refl _ | exact CoD.refl _)
theorem two70 (O : List Heap) : ASpec Tryd.prog 70 [] O (vrs twoV) [] O := by
  refine aspec_intro TrydT_ok Tryd.func70 rfl Tryd.call70 Tryd.ntmps70 (Nat.le_of_ble_eq_true rfl) fun E => ?_
  refine g_run TrydT_ok Tryd.func70 ?_
  refine g_ret TrydT_ok (r := vrs twoV) rfl rfl rfl trivial rfl rfl ?_
  rfl
def tK : List Bool := [true, true, true, true, false, true, false, true]
def cK : List Bool := [true, true, true, true, true, true, true, true]
def bK : List Bx := [⟨[0, 0], [1, 1]⟩, ⟨[0, 1], [3, 1]⟩]
theorem known_t : tableG twoV xE = (tK, 0) := by kernel_rfl
theorem known_c : tableG twoV trueE = (cK, 0) := by kernel_rfl
theorem known_b : boxesG twoV tK cK = (bK, 0) := by kernel_rfl
theorem known_s : textR twoV bK = (⟨#[120, 32, 60, 61, 32, 49, 32, 111, 114, 32, 121, 32, 61, 32, 49]⟩, 0) := by kernel_rfl
theorem known_n : literalsR twoV bK = (2, 0) := by kernel_rfl
theorem known_i : cmpR (fun a b => a && !b) twoV (cmpE 8 0 3) (cmpE 8 0 2) = ([2, 0], false, 0) := by kernel_rfl
theorem known_y : simplR twoV xE (cmpE 6 1 1) = (trueE, 0) := by kernel_rfl
theorem exOk_cmp (op v n : Int) : exOk (cmpE op v n) := exOk_two (exOk_leaf _ _ _) (exOk_leaf _ _ _)
theorem exOk_xE : exOk xE := exOk_two (exOk_cmp _ _ _) (exOk_cmp _ _ _)
theorem two_len : twoV.length ≤ max63 := by decide
theorem two_nm : ∀ v ∈ twoV, v.name.size ≤ max63 := by
  intro v hv
  simp only [twoV, List.mem_cons, List.mem_nil_iff, or_false] at hv
  rcases hv with rfl | rfl <;> decide
theorem two_nm2 : ∀ v ∈ twoV, v.name.size ≤ 1000 := by
  intro v hv
  simp only [twoV, List.mem_cons, List.mem_nil_iff, or_false] at hv
  rcases hv with rfl | rfl <;> decide
theorem known15 {g : Nat} (hg : IsTab g) {ty : TypeId} {fr : Nat × Nat} (O : List Heap) : ASpecT g (ptab ty fr) Tryd.prog 15 [] O (bb true) [] O := by
  have ht := fun O => table31 O twoV xE two_len two_nm exOk_xE
  have hc := fun O => table31 O twoV trueE two_len two_nm exOk_true
  have hb := fun O => boxes19 O twoV tK cK two_len two_nm
  have hs := fun O => text40 hg (ty := ty) (fr := fr) O twoV bK two_len two_nm2 (by decide)
  have hn := fun O => literals41 O twoV bK two_len two_nm (by decide)
  have hi := fun O => implies34 O twoV (cmpE 8 0 3) (cmpE 8 0 2) two_len two_nm (exOk_cmp _ _ _) (exOk_cmp _ _ _)
  have hy := fun O => simplify24 O twoV xE (cmpE 6 1 1) two_len two_nm exOk_xE (exOk_cmp _ _ _)
  simp only [known_t] at ht
  simp only [known_c] at hc
  simp only [known_b] at hb
  simp only [known_s] at hs
  simp only [known_n] at hn
  simp only [known_i] at hi
  simp only [known_y] at hy
  have he := fun O => equal41 (SizeOf.sizeOf trueE + 1) trueE trueE (by omega) exOk_true O
  have hsi := fun O => sameInts36 O [2, 0] [2, 0] (by decide)
  refine aspecT_stop [] TrydT_ok Tryd.func15 rfl Tryd.call15 Tryd.ntmps15 (Nat.le_of_ble_eq_true rfl) fun E hE => ?_
  refine g_run TrydT_ok Tryd.func15 ?_
  first | refine g_call TrydT_ok Tryd.func15 (compare69 _ 8 0 2) rfl rfl rfl rfl rfl ?_ | refine s_callq TrydT_ok (fun _ => compare69 _ 8 0 2) rfl rfl rfl ?_
  first | refine g_call TrydT_ok Tryd.func15 (compare69 _ 6 1 1) rfl rfl rfl rfl rfl ?_ | refine s_callq TrydT_ok (fun _ => compare69 _ 6 1 1) rfl rfl rfl ?_
  refine g_drawn TrydT_ok Tryd.func15 mixedT rfl ?_
  first | refine g_call TrydT_ok Tryd.func15 (two70 _) rfl rfl rfl rfl rfl ?_ | refine s_callq TrydT_ok (fun _ => two70 _) rfl rfl rfl ?_
  first | refine g_call TrydT_ok Tryd.func15 (ht _) rfl rfl rfl rfl rfl ?_ | refine s_callq TrydT_ok (fun _ => ht _) rfl rfl rfl ?_
  refine e_done TrydT_ok Tryd.func15 (by kernel_rfl) ?_
  first | refine g_call TrydT_ok Tryd.func15 (two70 _) rfl rfl rfl rfl rfl ?_ | refine s_callq TrydT_ok (fun _ => two70 _) rfl rfl rfl ?_
  first | refine g_call TrydT_ok Tryd.func15 (true56A _) rfl rfl rfl rfl rfl ?_ | refine s_callq TrydT_ok (fun _ => true56A _) rfl rfl rfl ?_
  first | refine g_call TrydT_ok Tryd.func15 (hc _) rfl rfl rfl rfl rfl ?_ | refine s_callq TrydT_ok (fun _ => hc _) rfl rfl rfl ?_
  first | refine g_call TrydT_ok Tryd.func15 (two70 _) rfl rfl rfl rfl rfl ?_ | refine s_callq TrydT_ok (fun _ => two70 _) rfl rfl rfl ?_
  first | refine g_call TrydT_ok Tryd.func15 (hb _) rfl rfl rfl rfl rfl ?_ | refine s_callq TrydT_ok (fun _ => hb _) rfl rfl rfl ?_
  first | refine g_call TrydT_ok Tryd.func15 (two70 _) rfl rfl rfl rfl rfl ?_ | refine s_callq TrydT_ok (fun _ => two70 _) rfl rfl rfl ?_
  refine g_callT TrydT_ok Tryd.func15 hE (hs _) rfl rfl rfl rfl rfl rfl ?_
  first | refine g_call TrydT_ok Tryd.func15 (two70 _) rfl rfl rfl rfl rfl ?_ | refine s_callq TrydT_ok (fun _ => two70 _) rfl rfl rfl ?_
  first | refine g_call TrydT_ok Tryd.func15 (hn _) rfl rfl rfl rfl rfl ?_ | refine s_callq TrydT_ok (fun _ => hn _) rfl rfl rfl ?_
  first | refine g_call TrydT_ok Tryd.func15 (two70 _) rfl rfl rfl rfl rfl ?_ | refine s_callq TrydT_ok (fun _ => two70 _) rfl rfl rfl ?_
  first | refine g_call TrydT_ok Tryd.func15 (compare69 _ 8 0 3) rfl rfl rfl rfl rfl ?_ | refine s_callq TrydT_ok (fun _ => compare69 _ 8 0 3) rfl rfl rfl ?_
  first | refine g_call TrydT_ok Tryd.func15 (compare69 _ 8 0 2) rfl rfl rfl rfl rfl ?_ | refine s_callq TrydT_ok (fun _ => compare69 _ 8 0 2) rfl rfl rfl ?_
  first | refine g_call TrydT_ok Tryd.func15 (hi _) rfl rfl rfl rfl rfl ?_ | refine s_callq TrydT_ok (fun _ => hi _) rfl rfl rfl ?_
  refine g_drawn TrydT_ok Tryd.func15 mixedT rfl ?_
  first | refine g_call TrydT_ok Tryd.func15 (two70 _) rfl rfl rfl rfl rfl ?_ | refine s_callq TrydT_ok (fun _ => two70 _) rfl rfl rfl ?_
  first | refine g_call TrydT_ok Tryd.func15 (compare69 _ 6 1 1) rfl rfl rfl rfl rfl ?_ | refine s_callq TrydT_ok (fun _ => compare69 _ 6 1 1) rfl rfl rfl ?_
  first | refine g_call TrydT_ok Tryd.func15 (hy _) rfl rfl rfl rfl rfl ?_ | refine s_callq TrydT_ok (fun _ => hy _) rfl rfl rfl ?_
  refine s_put TrydT_ok rfl rfl rfl ?_
  refine e_done TrydT_ok Tryd.func15 (by kernel_rfl) ?_
  refine g_drawn TrydT_ok Tryd.func15 mixedT rfl ?_
  repeat (first | refine g_cnd TrydT_ok Tryd.func15 rfl (fun _ => ?_) (fun h => absurd h (by decide)) | refine g_know TrydT_ok Tryd.func15 rfl (fun _ => ?_) (fun h => absurd h (by decide)) | refine s_know TrydT_ok (fun _ => ?_) (fun h => absurd h (by decide)) | refine g_cnd TrydT_ok Tryd.func15 rfl (fun h => absurd h (by decide)) (fun _ => ?_) | refine g_know TrydT_ok Tryd.func15 rfl (fun h => absurd h (by decide)) (fun _ => ?_) | refine s_know TrydT_ok (fun h => absurd h (by decide)) (fun _ => ?_) | refine g_cnd TrydT_ok Tryd.func15 rfl (fun _ => ?_) (fun h => absurd (show true = false from h) (by decide)) | refine g_know TrydT_ok Tryd.func15 rfl (fun _ => ?_) (fun h => absurd (show true = false from h) (by decide)) | refine s_know TrydT_ok (fun _ => ?_) (fun h => absurd (show true = false from h) (by decide)) | refine g_cnd TrydT_ok Tryd.func15 rfl (fun h => absurd (show false = true from h) (by decide)) (fun _ => ?_) | refine g_know TrydT_ok Tryd.func15 rfl (fun h => absurd (show false = true from h) (by decide)) (fun _ => ?_) | refine s_know TrydT_ok (fun h => absurd (show false = true from h) (by decide)) (fun _ => ?_))
  first | refine g_cnd TrydT_ok Tryd.func15 rfl (fun hq => ?_) (fun hq => ?_) | refine g_know TrydT_ok Tryd.func15 rfl (fun hq => ?_) (fun hq => ?_) | refine s_know TrydT_ok (fun hq => ?_) (fun hq => ?_)
  rotate_left
  · exact absurd hq (by simp)
  repeat (first | refine g_cnd TrydT_ok Tryd.func15 rfl (fun _ => ?_) (fun h => absurd h (by decide)) | refine g_know TrydT_ok Tryd.func15 rfl (fun _ => ?_) (fun h => absurd h (by decide)) | refine s_know TrydT_ok (fun _ => ?_) (fun h => absurd h (by decide)) | refine g_cnd TrydT_ok Tryd.func15 rfl (fun h => absurd h (by decide)) (fun _ => ?_) | refine g_know TrydT_ok Tryd.func15 rfl (fun h => absurd h (by decide)) (fun _ => ?_) | refine s_know TrydT_ok (fun h => absurd h (by decide)) (fun _ => ?_) | refine g_cnd TrydT_ok Tryd.func15 rfl (fun _ => ?_) (fun h => absurd (show true = false from h) (by decide)) | refine g_know TrydT_ok Tryd.func15 rfl (fun _ => ?_) (fun h => absurd (show true = false from h) (by decide)) | refine s_know TrydT_ok (fun _ => ?_) (fun h => absurd (show true = false from h) (by decide)) | refine g_cnd TrydT_ok Tryd.func15 rfl (fun h => absurd (show false = true from h) (by decide)) (fun _ => ?_) | refine g_know TrydT_ok Tryd.func15 rfl (fun h => absurd (show false = true from h) (by decide)) (fun _ => ?_) | refine s_know TrydT_ok (fun h => absurd (show false = true from h) (by decide)) (fun _ => ?_))
  first | refine g_call TrydT_ok Tryd.func15 (hsi _) rfl rfl rfl rfl rfl ?_ | refine s_callq TrydT_ok (fun _ => hsi _) rfl rfl rfl ?_
  repeat (first | refine g_cnd TrydT_ok Tryd.func15 rfl (fun _ => ?_) (fun h => absurd h (by decide)) | refine g_know TrydT_ok Tryd.func15 rfl (fun _ => ?_) (fun h => absurd h (by decide)) | refine s_know TrydT_ok (fun _ => ?_) (fun h => absurd h (by decide)) | refine g_cnd TrydT_ok Tryd.func15 rfl (fun h => absurd h (by decide)) (fun _ => ?_) | refine g_know TrydT_ok Tryd.func15 rfl (fun h => absurd h (by decide)) (fun _ => ?_) | refine s_know TrydT_ok (fun h => absurd h (by decide)) (fun _ => ?_) | refine g_cnd TrydT_ok Tryd.func15 rfl (fun _ => ?_) (fun h => absurd (show true = false from h) (by decide)) | refine g_know TrydT_ok Tryd.func15 rfl (fun _ => ?_) (fun h => absurd (show true = false from h) (by decide)) | refine s_know TrydT_ok (fun _ => ?_) (fun h => absurd (show true = false from h) (by decide)) | refine g_cnd TrydT_ok Tryd.func15 rfl (fun h => absurd (show false = true from h) (by decide)) (fun _ => ?_) | refine g_know TrydT_ok Tryd.func15 rfl (fun h => absurd (show false = true from h) (by decide)) (fun _ => ?_) | refine s_know TrydT_ok (fun h => absurd (show false = true from h) (by decide)) (fun _ => ?_))
  first | refine g_call TrydT_ok Tryd.func15 (true56A _) rfl rfl rfl rfl rfl ?_ | refine s_callq TrydT_ok (fun _ => true56A _) rfl rfl rfl ?_
  first | refine g_call TrydT_ok Tryd.func15 (he _) rfl rfl rfl rfl rfl ?_ | refine s_callq TrydT_ok (fun _ => he _) rfl rfl rfl ?_
  refine e_done TrydT_ok Tryd.func15 (by kernel_rfl) ?_
  refine g_ret TrydT_ok (r := bb true) rfl rfl rfl trivial rfl rfl ?_
  rfl
end Go.AI


/- GuardBoxes. -/
namespace Go.AI
open Go.Proofs
set_option maxRecDepth 20000
theorem boxesG_small {l : List Vr} (h : small l) (t c : List Bool) : boxesG l t c = if t.length ≠ (allV l).length ∨ c.length ≠ (allV l).length then ([], 4) else (coverR l (allV l) t c, 0) := by
  unfold boxesG
  rw [h.all]
  simp
end Go.AI


/- GuardCovers. -/
namespace Go.AI
open Go.Proofs
set_option maxRecDepth 20000
def cwR : List Bx → Nat → List Int → Nat × Nat → Nat × Nat
  | [], _, _, p => p
  | b :: r, k, v, p => cwR r (k + 1) v (if b.has v then (p.1 + 1, k) else p)
def ownF (R : List Bx) : List (List Int) → List Bool → List Bool → List Bool
  | d :: ds, c :: cs, o => ownF R ds cs (if c && ((cwR R 0 d (0, 0)).1 == 1) then o.set (cwR R 0 d (0, 0)).2 true else o)
  | _, _, o => o
theorem cwR_app : ∀ (a b : List Bx) (k : Nat) (v : List Int) (p : Nat × Nat), cwR (a ++ b) k v p = cwR b (k + a.length) v (cwR a k v p)
  | [], b, k, v, p => by simp [cwR]
  | x :: a, b, k, v, p => by
    simp only [List.cons_append, cwR, List.length_cons]
    rw [cwR_app a b (k + 1), show k + 1 + a.length = k + (a.length + 1) by omega]
theorem cwR_none : ∀ (a : List Bx) (k : Nat) (v : List Int) (p : Nat × Nat), inBs a v = false → cwR a k v p = p
  | [], _, _, _, _ => rfl
  | x :: a, k, v, p, h => by
    rw [inBs_cons] at h
    simp only [Bool.or_eq_false_iff] at h
    simp only [cwR, h.1]
    exact cwR_none a (k + 1) v p h.2
theorem cwR_lt : ∀ (a : List Bx) (k : Nat) (v : List Int) (p : Nat × Nat), cwR a k v p = p ∧ inBs a v = false ∨ (p.1 < (cwR a k v p).1 ∧ (cwR a k v p).1 ≤ p.1 + a.length ∧ (cwR a k v p).2 < k + a.length ∧ inBs a v = true)
  | [], _, _, _ => .inl ⟨rfl, rfl⟩
  | x :: a, k, v, p => by
    simp only [cwR, inBs_cons, List.length_cons]
    cases hx : x.has v with
    | true =>
      simp only [if_true, Bool.true_or]
      rcases cwR_lt a (k + 1) v (p.1 + 1, k) with ⟨h1, _⟩ | ⟨h1, h2, h3, _⟩
      · rw [h1]; exact .inr ⟨by simp, by simp only; omega, by simp only; omega, trivial⟩
      · simp only at h1 h2
        exact .inr ⟨by omega, by omega, by omega, trivial⟩
    | false =>
      simp only [Bool.false_or, Bool.false_eq_true, if_false]
      rcases cwR_lt a (k + 1) v p with ⟨h1, h2⟩ | ⟨h1, h2, h3, h4⟩
      · exact .inl ⟨h1, h2⟩
      · exact .inr ⟨h1, by omega, by omega, h4⟩
theorem cwR_one {R k1 k2 : List Bx} {b : Bx} {v : List Int} (e : R = k1 ++ b :: k2) (hb : b.has v = true) (hn : inBs (k1 ++ k2) v = false) : cwR R 0 v (0, 0) = (1, k1.length) := by
  rw [inBs_app] at hn
  simp only [Bool.or_eq_false_iff] at hn
  rw [e, cwR_app, cwR_none k1 _ _ _ hn.1]
  simp only [cwR, hb, if_true]
  rw [cwR_none k2 _ _ _ hn.2]
  simp
theorem ownL_len (R : List Bx) : ∀ (ds : List (List Int)) (cs o : List Bool), (ownF R ds cs o).length = o.length
  | [], _, _ => rfl
  | _ :: _, [], _ => rfl
  | d :: ds, c :: cs, o => by
    simp only [ownF]
    rw [ownL_len R ds cs]
    split <;> simp
theorem ownL_mono (R : List Bx) : ∀ (ds : List (List Int)) (cs o : List Bool) (k : Nat), o[k]? = some true → (ownF R ds cs o)[k]? = some true
  | [], _, _, _, h => h
  | _ :: _, [], _, _, h => h
  | d :: ds, c :: cs, o, k, h => by
    simp only [ownF]
    refine ownL_mono R ds cs _ k ?_
    split
    · rw [List.getElem?_set]
      split
      · rename_i e
        subst e
        have := (List.getElem?_eq_some_iff.1 h).1
        simp [this]
      · exact h
    · exact h
theorem ownL_true (R : List Bx) : ∀ (ds : List (List Int)) (cs o : List Bool) (i k : Nat) (v : List Int), ds[i]? = some v → cs[i]? = some true → cwR R 0 v (0, 0) = (1, k) → k < o.length → (ownF R ds cs o)[k]? = some true
  | d :: ds, c :: cs, o, 0, k, v, h1, h2, h3, h4 => by
    simp only [List.getElem?_cons_zero, Option.some.injEq] at h1 h2
    subst h1 h2
    simp only [ownF, h3]
    refine ownL_mono R ds cs _ k ?_
    simp [h4]
  | d :: ds, c :: cs, o, i + 1, k, v, h1, h2, h3, h4 => by
    simp only [ownF]
    refine ownL_true R ds cs _ i k v (by simpa using h1) (by simpa using h2) h3 ?_
    split <;> simp [h4]
  | [], _, _, _, _, _, h1, _, _, _ => by simp at h1
  | _ :: _, [], _, _, _, _, _, h2, _, _ => by simp at h2
theorem own_all {l : List Vr} {all : List (List Int)} {t c : List Bool} {R : List Bx} (h : CovR l all t c R) : ownF R all c (List.replicate R.length false) = List.replicate R.length true := by
  apply List.ext_getElem?
  intro k
  by_cases hk : k < R.length
  · have e : R = R.take k ++ R[k] :: R.drop (k + 1) := by rw [← List.drop_eq_getElem_cons hk, List.take_append_drop]
    obtain ⟨i, v, h1, h2, h3, h4⟩ := h.own _ _ _ e
    have h5 := cwR_one e h3 h4
    rw [ownL_true R all c _ i k v h1 h2 (by rw [h5, List.length_take, Nat.min_eq_left (by omega)]) (by simpa using hk)]
    simp [hk]
  · rw [List.getElem?_eq_none (by rw [ownL_len]; simp; omega), List.getElem?_eq_none (by simp; omega)]
theorem guardCovers5 {g : Nat} (hg : IsTab g) {ty : TypeId} {fr : Nat × Nat} (O : List Heap) (r : List (Int × Int)) (t c : Int) (hr : r.length ≤ max63) (hp : ∀ p ∈ r, pairOk p) (ht : 0 ≤ t) (hc : 0 ≤ c) : ASpecT g (ptab ty fr) Tryd.prog 5 [r8s r, u64D t, u64D c] O (bb true) [] O := by
  have hkn := fun O => known15 hg (ty := ty) (fr := fr) O
  have hrg := fun O => ranges45 O r hr hp
  have hs := rngs_small hp
  generalize rngsR r = l at *
  have hdm := fun O => domain17 O l hs.dom.len hs.dom.b hs.dom.cnt
  have hmx := hs.max
  have hb1 := fun O => bits18 O t (allV l).length ht hs.most
  have hb2 := fun O => bits18 O c (allV l).length hc hs.most
  have e1 := bitsR_len t (allV l).length
  have e2 := bitsR_len c (allV l).length
  have hx1 := fun O => boxes19 O l (bitsR t (allV l).length) (bitsR c (allV l).length) hmx.1 hmx.2
  rw [boxesG_small hs, if_neg (by omega)] at hx1
  have hcv := coverR_ok (l := l) (t := bitsR t (allV l).length) (c := bitsR c (allV l).length) (allV_dom l)
  have hRl := coverR_len l (allV l) (bitsR t (allV l).length) (bitsR c (allV l).length)
  have hmost := hs.most
  have hl3 := hs.len
  have hvl : ∀ v ∈ allV l, v.length = l.length := fun v h => allV_mem_len h
  simp only at hx1
  generalize coverR l (allV l) (bitsR t (allV l).length) (bitsR c (allV l).length) = R at *
  generalize bitsR t (allV l).length = A at *
  generalize bitsR c (allV l).length = B at *
  generalize allV l = dom at *
  have hown := own_all hcv
  clear hs
  refine aspecT_stop [] TrydT_ok Tryd.func5 rfl Tryd.call5 Tryd.ntmps5 (Nat.le_of_ble_eq_true rfl) fun E hE => ?_
  refine g_run TrydT_ok Tryd.func5 ?_
  refine g_callT TrydT_ok Tryd.func5 hE (hkn _) rfl rfl rfl rfl rfl rfl ?_
  repeat (first | refine g_cnd TrydT_ok Tryd.func5 rfl (fun _ => ?_) (fun h => absurd h (by decide)) | refine g_know TrydT_ok Tryd.func5 rfl (fun _ => ?_) (fun h => absurd h (by decide)) | refine s_know TrydT_ok (fun _ => ?_) (fun h => absurd h (by decide)) | refine g_cnd TrydT_ok Tryd.func5 rfl (fun h => absurd h (by decide)) (fun _ => ?_) | refine g_know TrydT_ok Tryd.func5 rfl (fun h => absurd h (by decide)) (fun _ => ?_) | refine s_know TrydT_ok (fun h => absurd h (by decide)) (fun _ => ?_) | refine g_cnd TrydT_ok Tryd.func5 rfl (fun _ => ?_) (fun h => absurd (show true = false from h) (by decide)) | refine g_know TrydT_ok Tryd.func5 rfl (fun _ => ?_) (fun h => absurd (show true = false from h) (by decide)) | refine s_know TrydT_ok (fun _ => ?_) (fun h => absurd (show true = false from h) (by decide)) | refine g_cnd TrydT_ok Tryd.func5 rfl (fun h => absurd (show false = true from h) (by decide)) (fun _ => ?_) | refine g_know TrydT_ok Tryd.func5 rfl (fun h => absurd (show false = true from h) (by decide)) (fun _ => ?_) | refine s_know TrydT_ok (fun h => absurd (show false = true from h) (by decide)) (fun _ => ?_))
  first | refine g_call TrydT_ok Tryd.func5 (hrg _) rfl rfl rfl rfl rfl ?_ | refine s_callq TrydT_ok (fun _ => hrg _) rfl rfl rfl ?_
  first | refine g_call TrydT_ok Tryd.func5 (hdm _) rfl rfl rfl rfl rfl ?_ | refine s_callq TrydT_ok (fun _ => hdm _) rfl rfl rfl ?_
  first | refine g_call TrydT_ok Tryd.func5 (hb1 _) rfl rfl rfl rfl rfl ?_ | refine s_callq TrydT_ok (fun _ => hb1 _) rfl rfl rfl ?_
  first | refine g_call TrydT_ok Tryd.func5 (hb2 _) rfl rfl rfl rfl rfl ?_ | refine s_callq TrydT_ok (fun _ => hb2 _) rfl rfl rfl ?_
  first | refine g_call TrydT_ok Tryd.func5 (hx1 _) rfl rfl rfl rfl rfl ?_ | refine s_callq TrydT_ok (fun _ => hx1 _) rfl rfl rfl ?_
  repeat (first | refine g_cnd TrydT_ok Tryd.func5 rfl (fun _ => ?_) (fun h => absurd h (by decide)) | refine g_know TrydT_ok Tryd.func5 rfl (fun _ => ?_) (fun h => absurd h (by decide)) | refine s_know TrydT_ok (fun _ => ?_) (fun h => absurd h (by decide)) | refine g_cnd TrydT_ok Tryd.func5 rfl (fun h => absurd h (by decide)) (fun _ => ?_) | refine g_know TrydT_ok Tryd.func5 rfl (fun h => absurd h (by decide)) (fun _ => ?_) | refine s_know TrydT_ok (fun h => absurd h (by decide)) (fun _ => ?_) | refine g_cnd TrydT_ok Tryd.func5 rfl (fun _ => ?_) (fun h => absurd (show true = false from h) (by decide)) | refine g_know TrydT_ok Tryd.func5 rfl (fun _ => ?_) (fun h => absurd (show true = false from h) (by decide)) | refine s_know TrydT_ok (fun _ => ?_) (fun h => absurd (show true = false from h) (by decide)) | refine g_cnd TrydT_ok Tryd.func5 rfl (fun h => absurd (show false = true from h) (by decide)) (fun _ => ?_) | refine g_know TrydT_ok Tryd.func5 rfl (fun h => absurd (show false = true from h) (by decide)) (fun _ => ?_) | refine s_know TrydT_ok (fun h => absurd (show false = true from h) (by decide)) (fun _ => ?_))
  first | refine g_need TrydT_ok Tryd.func5 (by exact ⟨by omega, by omega, by show (R.length : Int) * 1 ≤ 140737488355328; omega, by omega⟩) ?_ | refine s_need TrydT_ok (by exact ⟨by omega, by omega, by show (R.length : Int) * 1 ≤ 140737488355328; omega, by omega⟩) ?_
  have hz : some (Ob.arr 4 1 R.length (List.replicate R.length [I.v (.bool false)]) true) = some (obools (List.replicate R.length false)) := by simp
  refine g_loop ?_
  refine rch_loop2 (fun k : Nat => [(7, vrs l), (8, intss dom), (9, bools A), (10, bools B), (11, bxs R), (13, .osl 0 45), (14, ii k)]) (fun _ => [(45, obools (List.replicate R.length false))]) (fun _ => O) 131
    (fun k => k ≤ R.length) (fun k => R.length - k) 0 (Nat.zero_le _) ⟨rfl, rfl, rfl, rfl, rfl, rfl, rfl, trivial⟩ rfl ⟨hz, trivial⟩ rfl rfl ?_
  intro k hk ih
  refine g_run TrydT_ok Tryd.func5 ?_
  first | refine g_cnd TrydT_ok Tryd.func5 rfl (fun g1 => ?_) (fun g1 => ?_) | refine g_know TrydT_ok Tryd.func5 rfl (fun g1 => ?_) (fun g1 => ?_) | refine s_know TrydT_ok (fun g1 => ?_) (fun g1 => ?_)
  · have h1 : k < R.length := by simpa using g1
    have gb : (R.map bxI)[(k : Int).toNat]? = some (bxI R[k]) := get_mapZ h1
    have hlo := hcv.low _ (List.getElem_mem h1)
    have hhi := hcv.high _ (List.getElem_mem h1)
    have hbk : 0 ≤ (k : Int) ∧ (k : Int) < (R.length : Int) := by omega
    generalize R[k] = b at *
    first | refine g_need TrydT_ok Tryd.func5 (by exact hbk) ?_ | refine s_need TrydT_ok (by exact hbk) ?_
    first | refine g_elem TrydT_ok Tryd.func5 (gb) ?_ | refine s_elem TrydT_ok (gb) ?_
    first | refine g_cnd TrydT_ok Tryd.func5 rfl (fun g2 => ?_) (fun g2 => ?_) | refine g_know TrydT_ok Tryd.func5 rfl (fun g2 => ?_) (fun g2 => ?_) | refine s_know TrydT_ok (fun g2 => ?_) (fun g2 => ?_)
    · exact absurd (by omega) (bneT g2)
    first | refine g_need TrydT_ok Tryd.func5 (by exact hbk) ?_ | refine s_need TrydT_ok (by exact hbk) ?_
    first | refine g_elem TrydT_ok Tryd.func5 (gb) ?_ | refine s_elem TrydT_ok (gb) ?_
    first | refine g_cnd TrydT_ok Tryd.func5 rfl (fun g3 => ?_) (fun g3 => ?_) | refine g_know TrydT_ok Tryd.func5 rfl (fun g3 => ?_) (fun g3 => ?_) | refine s_know TrydT_ok (fun g3 => ?_) (fun g3 => ?_)
    · exact absurd (by omega) (bneT g3)
    refine g_loop ?_
    exact ih (k + 1) _ _ h1 (by omega) ⟨rfl, rfl, rfl, rfl, rfl, rfl, congrArg ii (wsucc (n := 4096) (by omega) (by decide)), trivial⟩ rfl ⟨rfl, trivial⟩ rfl rfl
  clear ih
  refine g_loop ?_
  have hF0 : ownF R dom B (List.replicate R.length false) = ownF R (dom.drop 0) (B.drop 0) (List.replicate R.length false) := rfl
  rw [hown] at hF0
  refine rch_loop2 (fun x : Nat × List Bool => [(7, vrs l), (8, intss dom), (9, bools A), (10, bools B), (11, bxs R), (13, .osl 0 45), (15, ii x.1)]) (fun x => [(45, obools x.2)]) (fun _ => O) 131
    (fun x => x.1 ≤ dom.length ∧ x.2.length = R.length ∧ List.replicate R.length true = ownF R (dom.drop x.1) (B.drop x.1) x.2) (fun x => dom.length - x.1) (0, List.replicate R.length false) ⟨Nat.zero_le _, by simp, hF0⟩ ⟨rfl, rfl, rfl, rfl, rfl, rfl, rfl, trivial⟩ rfl ⟨rfl, trivial⟩ rfl rfl ?_
  clear hF0 hown hz
  rintro ⟨i, F⟩ ⟨hi, hFl, hno⟩ ih
  simp only at hi hFl hno
  refine g_run TrydT_ok Tryd.func5 ?_
  first | refine g_cnd TrydT_ok Tryd.func5 rfl (fun g1 => ?_) (fun g1 => ?_) | refine g_know TrydT_ok Tryd.func5 rfl (fun g1 => ?_) (fun g1 => ?_) | refine s_know TrydT_ok (fun g1 => ?_) (fun g1 => ?_)
  · have h1 : i < dom.length := by simpa using g1
    clear g1
    have gv : (dom.map fun x => [intsI x])[(i : Int).toNat]? = some [intsI dom[i]] := get_mapZ (f := fun x => [intsI x]) h1
    have gl : (A.map fun x => [I.v (.bool x)])[(i : Int).toNat]? = some [I.v (.bool (A[i]'(by omega)))] := get_mapZ (f := fun x => [I.v (.bool x)]) (by omega)
    have gh : (B.map fun x => [I.v (.bool x)])[(i : Int).toNat]? = some [I.v (.bool (B[i]'(by omega)))] := get_mapZ (f := fun x => [I.v (.bool x)]) (by omega)
    have dv : dom.drop i = dom[i] :: dom.drop (i + 1) := List.drop_eq_getElem_cons h1
    have dh : B.drop i = (B[i]'(by omega)) :: B.drop (i + 1) := List.drop_eq_getElem_cons (by omega)
    have hsay := hcv.say i dom[i] (A[i]'(by omega)) (List.getElem?_eq_getElem h1) (List.getElem?_eq_getElem (by omega))
    rw [show B[i]? = some (B[i]'(by omega)) from List.getElem?_eq_getElem (by omega)] at hsay
    have hx1 := hvl _ (List.getElem_mem h1)
    rw [dv, dh] at hno
    simp only [ownF] at hno
    clear dv dh
    generalize dom[i] = v at *
    generalize A[i]'(by omega) = a at *
    generalize B[i]'(by omega) = c at *
    have hbi : 0 ≤ (i : Int) ∧ (i : Int) < (dom.length : Int) := by omega
    have hwi := fun O (b : Bx) (hb : b ∈ R) => within28 O b v (by have := hcv.low b hb; omega) (by have := hcv.high b hb; omega) (by simp only [max63]; omega)
    have hi1 : ii (IntKind.i64.wrap ((i : Int) + 1)) = ii ((i + 1 : Nat) : Int) := congrArg ii (wsucc (n := 4096) (by omega) (by decide))
    have hcl := cwR_lt R 0 v (0, 0)
    have hC0 : cwR R 0 v (0, 0) = cwR (R.drop 0) 0 v (0, 0) := rfl
    generalize cwR R 0 v (0, 0) = C at *
    refine g_loop ?_
    refine rch_loop2 (fun x : Nat × Nat × Nat => [(7, vrs l), (8, intss dom), (9, bools A), (10, bools B), (11, bxs R), (13, .osl 0 45), (15, ii i), (16, ii x.2.1), (17, ii x.2.2), (18, ii x.1)]) (fun x => [(45, obools F)]) (fun _ => O) 131
      (fun x => x.1 ≤ R.length ∧ x.2.1 ≤ x.1 ∧ C = cwR (R.drop x.1) x.1 v x.2) (fun x => R.length - x.1) (0, 0, 0) ⟨Nat.zero_le _, Nat.le_refl _, hC0⟩ ⟨rfl, rfl, rfl, rfl, rfl, rfl, rfl, rfl, rfl, rfl, trivial⟩ rfl ⟨rfl, trivial⟩ rfl rfl ?_
    clear hC0
    rintro ⟨k, n, w⟩ ⟨hk, hnk, hcw⟩ ih2
    simp only at hk hnk hcw
    refine g_run TrydT_ok Tryd.func5 ?_
    first | refine g_cnd TrydT_ok Tryd.func5 rfl (fun g2 => ?_) (fun g2 => ?_) | refine g_know TrydT_ok Tryd.func5 rfl (fun g2 => ?_) (fun g2 => ?_) | refine s_know TrydT_ok (fun g2 => ?_) (fun g2 => ?_)
    · have h2 : k < R.length := by simpa using g2
      have gb : (R.map bxI)[(k : Int).toNat]? = some (bxI R[k]) := get_mapZ h2
      have dk : R.drop k = R[k] :: R.drop (k + 1) := List.drop_eq_getElem_cons h2
      have hwi := fun O => hwi O R[k] (List.getElem_mem h2)
      rw [dk] at hcw
      simp only [cwR] at hcw
      clear dk
      generalize R[k] = b at *
      generalize b.has v = q at *
      have hk1 : ii (IntKind.i64.wrap ((k : Int) + 1)) = ii ((k + 1 : Nat) : Int) := congrArg ii (wsucc (n := 4096) (by omega) (by decide))
      have hn1 : ii (IntKind.i64.wrap ((n : Int) + 1)) = ii ((n + 1 : Nat) : Int) := congrArg ii (wsucc (n := 4096) (by omega) (by decide))
      refine g_drawn TrydT_ok Tryd.func5 mixedT rfl ?_
      first | refine g_need TrydT_ok Tryd.func5 (by exact ⟨by omega, by show (k : Int) < (R.length : Int); omega⟩) ?_ | refine s_need TrydT_ok (by exact ⟨by omega, by show (k : Int) < (R.length : Int); omega⟩) ?_
      first | refine g_elem TrydT_ok Tryd.func5 (gb) ?_ | refine s_elem TrydT_ok (gb) ?_
      first | refine g_need TrydT_ok Tryd.func5 (by exact hbi) ?_ | refine s_need TrydT_ok (by exact hbi) ?_
      first | refine g_elem TrydT_ok Tryd.func5 (gv) ?_ | refine s_elem TrydT_ok (gv) ?_
      first | refine g_call TrydT_ok Tryd.func5 (hwi _) rfl rfl rfl rfl rfl ?_ | refine s_callq TrydT_ok (fun _ => hwi _) rfl rfl rfl ?_
      refine e_done TrydT_ok Tryd.func5 (by kernel_rfl) ?_
      cases q with
      | true =>
        repeat (first | refine g_cnd TrydT_ok Tryd.func5 rfl (fun _ => ?_) (fun h => absurd h (by decide)) | refine g_know TrydT_ok Tryd.func5 rfl (fun _ => ?_) (fun h => absurd h (by decide)) | refine s_know TrydT_ok (fun _ => ?_) (fun h => absurd h (by decide)) | refine g_cnd TrydT_ok Tryd.func5 rfl (fun h => absurd h (by decide)) (fun _ => ?_) | refine g_know TrydT_ok Tryd.func5 rfl (fun h => absurd h (by decide)) (fun _ => ?_) | refine s_know TrydT_ok (fun h => absurd h (by decide)) (fun _ => ?_) | refine g_cnd TrydT_ok Tryd.func5 rfl (fun _ => ?_) (fun h => absurd (show true = false from h) (by decide)) | refine g_know TrydT_ok Tryd.func5 rfl (fun _ => ?_) (fun h => absurd (show true = false from h) (by decide)) | refine s_know TrydT_ok (fun _ => ?_) (fun h => absurd (show true = false from h) (by decide)) | refine g_cnd TrydT_ok Tryd.func5 rfl (fun h => absurd (show false = true from h) (by decide)) (fun _ => ?_) | refine g_know TrydT_ok Tryd.func5 rfl (fun h => absurd (show false = true from h) (by decide)) (fun _ => ?_) | refine s_know TrydT_ok (fun h => absurd (show false = true from h) (by decide)) (fun _ => ?_))
        refine g_loop ?_
        exact ih2 (k + 1, n + 1, k) _ _ ⟨h2, by simp only; omega, hcw⟩ (by simp only; omega) ⟨rfl, rfl, rfl, rfl, rfl, rfl, rfl, hn1, rfl, hk1, trivial⟩ rfl ⟨rfl, trivial⟩ rfl rfl
      | false =>
        repeat (first | refine g_cnd TrydT_ok Tryd.func5 rfl (fun _ => ?_) (fun h => absurd h (by decide)) | refine g_know TrydT_ok Tryd.func5 rfl (fun _ => ?_) (fun h => absurd h (by decide)) | refine s_know TrydT_ok (fun _ => ?_) (fun h => absurd h (by decide)) | refine g_cnd TrydT_ok Tryd.func5 rfl (fun h => absurd h (by decide)) (fun _ => ?_) | refine g_know TrydT_ok Tryd.func5 rfl (fun h => absurd h (by decide)) (fun _ => ?_) | refine s_know TrydT_ok (fun h => absurd h (by decide)) (fun _ => ?_) | refine g_cnd TrydT_ok Tryd.func5 rfl (fun _ => ?_) (fun h => absurd (show true = false from h) (by decide)) | refine g_know TrydT_ok Tryd.func5 rfl (fun _ => ?_) (fun h => absurd (show true = false from h) (by decide)) | refine s_know TrydT_ok (fun _ => ?_) (fun h => absurd (show true = false from h) (by decide)) | refine g_cnd TrydT_ok Tryd.func5 rfl (fun h => absurd (show false = true from h) (by decide)) (fun _ => ?_) | refine g_know TrydT_ok Tryd.func5 rfl (fun h => absurd (show false = true from h) (by decide)) (fun _ => ?_) | refine s_know TrydT_ok (fun h => absurd (show false = true from h) (by decide)) (fun _ => ?_))
        refine g_loop ?_
        exact ih2 (k + 1, n, w) _ _ ⟨h2, by simp only; omega, hcw⟩ (by simp only; omega) ⟨rfl, rfl, rfl, rfl, rfl, rfl, rfl, rfl, rfl, hk1, trivial⟩ rfl ⟨rfl, trivial⟩ rfl rfl
    · have h2 : R.length ≤ k := by simpa using g2
      rw [List.drop_eq_nil_of_le h2] at hcw
      simp only [cwR] at hcw
      subst hcw
      simp only at hno hcl
      clear ih2
      first | refine g_need TrydT_ok Tryd.func5 (by exact ⟨by omega, by show (i : Int) < (B.length : Int); omega⟩) ?_ | refine s_need TrydT_ok (by exact ⟨by omega, by show (i : Int) < (B.length : Int); omega⟩) ?_
      first | refine g_elem TrydT_ok Tryd.func5 (gh) ?_ | refine s_elem TrydT_ok (gh) ?_
      cases c with
      | false =>
        repeat (first | refine g_cnd TrydT_ok Tryd.func5 rfl (fun _ => ?_) (fun h => absurd h (by decide)) | refine g_know TrydT_ok Tryd.func5 rfl (fun _ => ?_) (fun h => absurd h (by decide)) | refine s_know TrydT_ok (fun _ => ?_) (fun h => absurd h (by decide)) | refine g_cnd TrydT_ok Tryd.func5 rfl (fun h => absurd h (by decide)) (fun _ => ?_) | refine g_know TrydT_ok Tryd.func5 rfl (fun h => absurd h (by decide)) (fun _ => ?_) | refine s_know TrydT_ok (fun h => absurd h (by decide)) (fun _ => ?_) | refine g_cnd TrydT_ok Tryd.func5 rfl (fun _ => ?_) (fun h => absurd (show true = false from h) (by decide)) | refine g_know TrydT_ok Tryd.func5 rfl (fun _ => ?_) (fun h => absurd (show true = false from h) (by decide)) | refine s_know TrydT_ok (fun _ => ?_) (fun h => absurd (show true = false from h) (by decide)) | refine g_cnd TrydT_ok Tryd.func5 rfl (fun h => absurd (show false = true from h) (by decide)) (fun _ => ?_) | refine g_know TrydT_ok Tryd.func5 rfl (fun h => absurd (show false = true from h) (by decide)) (fun _ => ?_) | refine s_know TrydT_ok (fun h => absurd (show false = true from h) (by decide)) (fun _ => ?_))
        first | refine g_need TrydT_ok Tryd.func5 (by exact ⟨by omega, by show (i : Int) < (B.length : Int); omega⟩) ?_ | refine s_need TrydT_ok (by exact ⟨by omega, by show (i : Int) < (B.length : Int); omega⟩) ?_
        first | refine g_elem TrydT_ok Tryd.func5 (gh) ?_ | refine s_elem TrydT_ok (gh) ?_
        repeat (first | refine g_cnd TrydT_ok Tryd.func5 rfl (fun _ => ?_) (fun h => absurd h (by decide)) | refine g_know TrydT_ok Tryd.func5 rfl (fun _ => ?_) (fun h => absurd h (by decide)) | refine s_know TrydT_ok (fun _ => ?_) (fun h => absurd h (by decide)) | refine g_cnd TrydT_ok Tryd.func5 rfl (fun h => absurd h (by decide)) (fun _ => ?_) | refine g_know TrydT_ok Tryd.func5 rfl (fun h => absurd h (by decide)) (fun _ => ?_) | refine s_know TrydT_ok (fun h => absurd h (by decide)) (fun _ => ?_) | refine g_cnd TrydT_ok Tryd.func5 rfl (fun _ => ?_) (fun h => absurd (show true = false from h) (by decide)) | refine g_know TrydT_ok Tryd.func5 rfl (fun _ => ?_) (fun h => absurd (show true = false from h) (by decide)) | refine s_know TrydT_ok (fun _ => ?_) (fun h => absurd (show true = false from h) (by decide)) | refine g_cnd TrydT_ok Tryd.func5 rfl (fun h => absurd (show false = true from h) (by decide)) (fun _ => ?_) | refine g_know TrydT_ok Tryd.func5 rfl (fun h => absurd (show false = true from h) (by decide)) (fun _ => ?_) | refine s_know TrydT_ok (fun h => absurd (show false = true from h) (by decide)) (fun _ => ?_))
        refine g_loop ?_
        exact ih (i + 1, F) _ _ ⟨h1, hFl, hno⟩ (by simp only; omega) ⟨rfl, rfl, rfl, rfl, rfl, rfl, hi1, trivial⟩ rfl ⟨rfl, trivial⟩ rfl rfl
      | true =>
        have hsay := hsay rfl
        have hna : decide ((0 : Int) < (n : Int)) = a := by
          rw [← hsay]
          rcases hcl with ⟨e, h⟩ | ⟨h3, _, _, h⟩
          · simp only [Prod.mk.injEq] at e
            rw [h, e.1]; rfl
          · rw [h]; exact decide_eq_true (by omega)
        repeat (first | refine g_cnd TrydT_ok Tryd.func5 rfl (fun _ => ?_) (fun h => absurd h (by decide)) | refine g_know TrydT_ok Tryd.func5 rfl (fun _ => ?_) (fun h => absurd h (by decide)) | refine s_know TrydT_ok (fun _ => ?_) (fun h => absurd h (by decide)) | refine g_cnd TrydT_ok Tryd.func5 rfl (fun h => absurd h (by decide)) (fun _ => ?_) | refine g_know TrydT_ok Tryd.func5 rfl (fun h => absurd h (by decide)) (fun _ => ?_) | refine s_know TrydT_ok (fun h => absurd h (by decide)) (fun _ => ?_) | refine g_cnd TrydT_ok Tryd.func5 rfl (fun _ => ?_) (fun h => absurd (show true = false from h) (by decide)) | refine g_know TrydT_ok Tryd.func5 rfl (fun _ => ?_) (fun h => absurd (show true = false from h) (by decide)) | refine s_know TrydT_ok (fun _ => ?_) (fun h => absurd (show true = false from h) (by decide)) | refine g_cnd TrydT_ok Tryd.func5 rfl (fun h => absurd (show false = true from h) (by decide)) (fun _ => ?_) | refine g_know TrydT_ok Tryd.func5 rfl (fun h => absurd (show false = true from h) (by decide)) (fun _ => ?_) | refine s_know TrydT_ok (fun h => absurd (show false = true from h) (by decide)) (fun _ => ?_))
        first | refine g_need TrydT_ok Tryd.func5 (by exact ⟨by omega, by show (i : Int) < (A.length : Int); omega⟩) ?_ | refine s_need TrydT_ok (by exact ⟨by omega, by show (i : Int) < (A.length : Int); omega⟩) ?_
        first | refine g_elem TrydT_ok Tryd.func5 (gl) ?_ | refine s_elem TrydT_ok (gl) ?_
        rw [hna]
        first | refine g_cnd TrydT_ok Tryd.func5 rfl (fun g3 => ?_) (fun g3 => ?_) | refine g_know TrydT_ok Tryd.func5 rfl (fun g3 => ?_) (fun g3 => ?_) | refine s_know TrydT_ok (fun g3 => ?_) (fun g3 => ?_)
        · exact absurd g3 (by simp)
        first | refine g_need TrydT_ok Tryd.func5 (by exact ⟨by omega, by show (i : Int) < (B.length : Int); omega⟩) ?_ | refine s_need TrydT_ok (by exact ⟨by omega, by show (i : Int) < (B.length : Int); omega⟩) ?_
        first | refine g_elem TrydT_ok Tryd.func5 (gh) ?_ | refine s_elem TrydT_ok (gh) ?_
        repeat (first | refine g_cnd TrydT_ok Tryd.func5 rfl (fun _ => ?_) (fun h => absurd h (by decide)) | refine g_know TrydT_ok Tryd.func5 rfl (fun _ => ?_) (fun h => absurd h (by decide)) | refine s_know TrydT_ok (fun _ => ?_) (fun h => absurd h (by decide)) | refine g_cnd TrydT_ok Tryd.func5 rfl (fun h => absurd h (by decide)) (fun _ => ?_) | refine g_know TrydT_ok Tryd.func5 rfl (fun h => absurd h (by decide)) (fun _ => ?_) | refine s_know TrydT_ok (fun h => absurd h (by decide)) (fun _ => ?_) | refine g_cnd TrydT_ok Tryd.func5 rfl (fun _ => ?_) (fun h => absurd (show true = false from h) (by decide)) | refine g_know TrydT_ok Tryd.func5 rfl (fun _ => ?_) (fun h => absurd (show true = false from h) (by decide)) | refine s_know TrydT_ok (fun _ => ?_) (fun h => absurd (show true = false from h) (by decide)) | refine g_cnd TrydT_ok Tryd.func5 rfl (fun h => absurd (show false = true from h) (by decide)) (fun _ => ?_) | refine g_know TrydT_ok Tryd.func5 rfl (fun h => absurd (show false = true from h) (by decide)) (fun _ => ?_) | refine s_know TrydT_ok (fun h => absurd (show false = true from h) (by decide)) (fun _ => ?_))
        simp only [Bool.true_and] at hno
        first | refine g_cnd TrydT_ok Tryd.func5 rfl (fun g4 => ?_) (fun g4 => ?_) | refine g_know TrydT_ok Tryd.func5 rfl (fun g4 => ?_) (fun g4 => ?_) | refine s_know TrydT_ok (fun g4 => ?_) (fun g4 => ?_)
        · have g4 : (n : Int) = 1 := beqT g4
          have g4 : n = 1 := by omega
          subst g4
          have hw : w < R.length := by
            rcases hcl with ⟨e, h⟩ | ⟨_, _, h3, _⟩
            · simp only [Prod.mk.injEq] at e
              omega
            · omega
          have hno : List.replicate R.length true = ownF R (dom.drop (i + 1)) (B.drop (i + 1)) (F.set w true) := hno
          first | refine g_need TrydT_ok Tryd.func5 (by exact ⟨by omega, by show (w : Int) < (F.length : Int); omega⟩) ?_ | refine s_need TrydT_ok (by exact ⟨by omega, by show (w : Int) < (F.length : Int); omega⟩) ?_
          refine g_loop ?_
          refine ih (i + 1, F.set w true) _ _ ⟨h1, by simp [hFl], hno⟩ (by simp only; omega) ⟨rfl, rfl, rfl, rfl, rfl, rfl, hi1, trivial⟩ rfl ⟨?_, trivial⟩ rfl rfl
          show some (Ob.arr 4 1 F.length ((F.map fun b => [I.v (.bool b)]).set w [.v (.bool true)]) true) = some (obools (F.set w true))
          simp [List.map_set]
        · have g4 : (n : Int) ≠ 1 := beqF g4
          rw [if_neg (by simp; omega)] at hno
          refine g_loop ?_
          exact ih (i + 1, F) _ _ ⟨h1, hFl, hno⟩ (by simp only; omega) ⟨rfl, rfl, rfl, rfl, rfl, rfl, hi1, trivial⟩ rfl ⟨rfl, trivial⟩ rfl rfl
  · have h1 : dom.length ≤ i := by simpa using g1
    rw [List.drop_eq_nil_of_le h1] at hno
    simp only [ownF] at hno
    subst hno
    clear ih
    refine g_loop ?_
    refine rch_loop2 (fun k : Nat => [(11, bxs R), (13, .osl 0 45), (19, ii k)]) (fun _ => [(45, obools (List.replicate R.length true))]) (fun _ => O) 131
      (fun k => k ≤ R.length) (fun k => R.length - k) 0 (Nat.zero_le _) ⟨rfl, rfl, rfl, trivial⟩ rfl ⟨rfl, trivial⟩ rfl rfl ?_
    intro k hk ih
    refine g_run TrydT_ok Tryd.func5 ?_
    first | refine g_cnd TrydT_ok Tryd.func5 rfl (fun g2 => ?_) (fun g2 => ?_) | refine g_know TrydT_ok Tryd.func5 rfl (fun g2 => ?_) (fun g2 => ?_) | refine s_know TrydT_ok (fun g2 => ?_) (fun g2 => ?_)
    · have h2 : k < R.length := by simpa using g2
      have gt : ((List.replicate R.length true).map fun x => [I.v (.bool x)])[(k : Int).toNat]? = some [I.v (.bool true)] := by
        rw [get_mapZ (f := fun x => [I.v (.bool x)]) (show k < (List.replicate R.length true).length by simpa using h2)]
        simp
      first | refine g_need TrydT_ok Tryd.func5 (by exact ⟨by omega, by show (k : Int) < ((List.replicate R.length true).length : Int); simp; omega⟩) ?_ | refine s_need TrydT_ok (by exact ⟨by omega, by show (k : Int) < ((List.replicate R.length true).length : Int); simp; omega⟩) ?_
      first | refine g_elem TrydT_ok Tryd.func5 (gt) ?_ | refine s_elem TrydT_ok (gt) ?_
      repeat (first | refine g_cnd TrydT_ok Tryd.func5 rfl (fun _ => ?_) (fun h => absurd h (by decide)) | refine g_know TrydT_ok Tryd.func5 rfl (fun _ => ?_) (fun h => absurd h (by decide)) | refine s_know TrydT_ok (fun _ => ?_) (fun h => absurd h (by decide)) | refine g_cnd TrydT_ok Tryd.func5 rfl (fun h => absurd h (by decide)) (fun _ => ?_) | refine g_know TrydT_ok Tryd.func5 rfl (fun h => absurd h (by decide)) (fun _ => ?_) | refine s_know TrydT_ok (fun h => absurd h (by decide)) (fun _ => ?_) | refine g_cnd TrydT_ok Tryd.func5 rfl (fun _ => ?_) (fun h => absurd (show true = false from h) (by decide)) | refine g_know TrydT_ok Tryd.func5 rfl (fun _ => ?_) (fun h => absurd (show true = false from h) (by decide)) | refine s_know TrydT_ok (fun _ => ?_) (fun h => absurd (show true = false from h) (by decide)) | refine g_cnd TrydT_ok Tryd.func5 rfl (fun h => absurd (show false = true from h) (by decide)) (fun _ => ?_) | refine g_know TrydT_ok Tryd.func5 rfl (fun h => absurd (show false = true from h) (by decide)) (fun _ => ?_) | refine s_know TrydT_ok (fun h => absurd (show false = true from h) (by decide)) (fun _ => ?_))
      refine g_loop ?_
      exact ih (k + 1) _ _ h2 (by omega) ⟨rfl, rfl, congrArg ii (wsucc (n := 4096) (by omega) (by decide)), trivial⟩ rfl ⟨rfl, trivial⟩ rfl rfl
    · refine g_ret TrydT_ok (r := bb true) rfl rfl rfl trivial rfl rfl ?_
      rfl
end Go.AI
