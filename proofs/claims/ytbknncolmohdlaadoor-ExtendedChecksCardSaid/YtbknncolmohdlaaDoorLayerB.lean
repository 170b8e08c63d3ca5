/- The layer of abstract runs, part 2. -/
import Derived.Test.YtbknncolmohdlaaDoorLayerA
set_option linter.unusedSimpArgs false
set_option linter.unusedVariables false
set_option linter.all false
/- Each operation does what the abstract one says (3): lengths, slices, parts, literals, new variables. -/
namespace Go.AI
section
variable {P : Program} {T : TT} {E : Env} {K : Kn} {ρ : Nat → Nat → Loc} {s : St} {w : World} {dst : Nat}

theorem rlen_slice {t e : TypeId} (a : Option Addr) (n c : Nat) (ty : TypeId) (h : P.underlying t = some (.slice e)) : (Builtin.len_ #[t] ty #[.slice a n c]).run P w = .ok (.int .i64 n) w := by
  simp [Builtin.len_, run_underlying h, goInt]
theorem rlen_str {t : TypeId} (b : ByteArray) (ty : TypeId) (h : P.underlying t = some .string) : (Builtin.len_ #[t] ty #[.string b]).run P w = .ok (.int .i64 b.size) w := by
  simp [Builtin.len_, run_underlying h, goInt]

theorem snd_len (hT : TOk P T) {t ty : Nat} {vx : Value} {x : D} (hx : RepD K ρ (shape s.S) vx x) : SndV P dst K ρ s.S w (Builtin.len_ #[t] ty #[vx]) (exLen T s t x) := by
  unfold exLen
  split
  · rename_i es n xs sz by_ e z hi
    have hu : P.underlying t = some (.slice e) := (hT _ _ hi).kind
    cases hx with
    | i r =>
      cases r with
      | nil => exact ⟨_, rlen_slice _ _ _ _ hu, rep_v rfl⟩
      | sl => exact ⟨_, rlen_slice _ _ _ _ hu, rep_v rfl⟩
  · rename_i es n xs sz by_ e z hi
    have hu : P.underlying t = some (.slice e) := (hT _ _ hi).kind
    cases hx with
    | xsl => exact ⟨_, rlen_slice _ _ _ _ hu, rep_v rfl⟩
    | xnil => exact ⟨_, rlen_slice _ _ _ _ hu, rep_v rfl⟩
  · rename_i sz by_ e z hi
    have hu : P.underlying t = some (.slice e) := (hT _ _ hi).kind
    obtain rfl := inv_v hx
    exact ⟨_, rlen_slice _ _ _ _ hu, rep_v rfl⟩
  · rename_i dep nm sz by_ e z hi
    have hu : P.underlying t = some (.slice e) := (hT _ _ hi).kind
    refine hobj rfl fun ob ho => ?_
    cases ob with
    | mp => trivial
    | box => trivial
    | arr ty es n xs wr =>
      cases hx with
      | omp e' => rw [shape_of dep nm ho] at e'; cases e'
      | osl e' =>
        rw [shape_of dep nm ho] at e'
        simp only [Ob.sh, Option.some.injEq, Sh.arr.injEq] at e'
        obtain ⟨rfl, rfl⟩ := e'
        exact ⟨_, rlen_slice _ _ _ _ hu, rep_v rfl⟩
  · rename_i b sz by_ z hi
    have hu : P.underlying t = some .string := (hT _ _ hi).kind
    obtain rfl := inv_v hx
    exact ⟨_, rlen_str _ _ hu, rep_v rfl⟩
  · trivial

/-- A slice whose content is data, as its value shows it. -/
structure Shows (K : Kn) (v : Value) (es n : Nat) (xs : List (List I)) : Prop where
  len : xs.length = n
  el : ∀ d ∈ xs, d.length = es
  at' : ∃ a cap, v = .slice a n cap ∧ n ≤ cap ∧ ((n = 0 ∧ cap = 0) ∨ ∃ b o cs, a = some ⟨b, o, none⟩ ∧ RepL K cs xs.flatten ∧ ∀ j c, cs[j]? = some c → K b (o + j) = some c)

theorem snd_cont (hw : HInv E K ρ s.S w) {m : Sem Value} {vx : Value} {x : D} (hx : RepD K ρ (shape s.S) vx x) {k : Nat → Nat → List (List I) → Ask}
    (h : ∀ es n xs, Shows K vx es n xs → SndV P dst K ρ s.S w m (k es n xs)) : SndV P dst K ρ s.S w m (contOf s x k) := by
  unfold contOf
  split
  · cases hx with
    | i r =>
      cases r with
      | nil => exact h _ _ _ ⟨rfl, by simp, _, 0, rfl, Nat.le_refl _, .inl ⟨rfl, rfl⟩⟩
      | sl r e k c l => exact h _ _ _ ⟨l, e, _, _, rfl, c, .inr ⟨_, _, _, rfl, r, k⟩⟩
  · cases hx with
    | xnil => exact h _ _ _ ⟨rfl, by simp, _, 0, rfl, Nat.le_refl _, .inl ⟨rfl, rfl⟩⟩
    | xsl r e k l => exact h _ _ _ ⟨l, e, _, _, rfl, Nat.le_refl _, .inr ⟨_, _, _, rfl, r, k⟩⟩
  · rename_i dep nm
    refine hobj rfl fun ob ho => ?_
    cases ob with
    | mp => trivial
    | box => trivial
    | arr ty es n xs wr =>
      cases wr with
      | true => trivial
      | false =>
        cases hx with
        | omp e' => rw [shape_of dep nm ho] at e'; cases e'
        | osl e' =>
          rw [shape_of dep nm ho] at e'
          simp only [Ob.sh, Option.some.injEq, Sh.arr.injEq] at e'
          obtain ⟨rfl, rfl⟩ := e'
          obtain ⟨h1, h2, h3, h3', h4⟩ := own_at hw ho
          refine h _ _ _ ⟨h2, h1, _, _, rfl, h3, ?_⟩
          rcases h4 with ⟨h4, h4'⟩ | ⟨h5, c, h6, h7, h8, h9, h10, h11⟩
          · exact .inl ⟨by omega, h4⟩
          · refine .inr ⟨_, 0, _, h5, h8, ?_⟩
            intro j x hx
            rw [List.getElem?_take] at hx
            split at hx
            · rw [Nat.zero_add, h11 rfl j (by assumption)]
              simpa using hx
            · cases hx
  · trivial

theorem run_sl (t e : TypeId) (i : TI) (hu : P.underlying t = some (.slice e)) (hi : TIok P e i) (a : Option Addr) (n cap : Nat) (lo hi' mx : Option Value) (l h m : Nat)
    (hb : (Instr.sliceBounds true n cap lo hi' mx).run P w = .ok (l, h, m) w) :
    (Instr.sliceAt t (.slice a n cap) lo hi' mx).run P w = .ok (.slice (if m = l then a else a.map (·.add (l * i.size))) (h - l) (m - l)) w := by
  simp [Instr.sliceAt, Instr.slice, run_underlying hu, hb, run_sizeOf hi]

theorem flat_take {es : Nat} {xs : List (List I)} (b : Nat) (he : ∀ d ∈ xs, d.length = es) (hb : b ≤ xs.length) : xs.flatten.take (b * es) = (xs.take b).flatten := by
  have := flat_len (xs.take b) (fun d hd => he d (List.mem_of_mem_take hd))
  rw [List.length_take, Nat.min_eq_left hb] at this
  conv => lhs; rw [← List.take_append_drop b xs, List.flatten_append]
  rw [← this, List.take_left]
theorem flat_drop {es : Nat} {xs : List (List I)} (b : Nat) (he : ∀ d ∈ xs, d.length = es) (hb : b ≤ xs.length) : xs.flatten.drop (b * es) = (xs.drop b).flatten := by
  have := flat_len (xs.take b) (fun d hd => he d (List.mem_of_mem_take hd))
  rw [List.length_take, Nat.min_eq_left hb] at this
  conv => lhs; rw [← List.take_append_drop b xs, List.flatten_append]
  rw [← this, List.drop_left]
theorem sub_repL {cs : List Value} {xs : List (List I)} {es a b : Nat} (hr : RepL K cs xs.flatten) (he : ∀ d ∈ xs, d.length = es) (hb : b ≤ xs.length) (hab : a ≤ b) :
    RepL K ((cs.take (b * es)).drop (a * es)) ((xs.take b).drop a).flatten := by
  rw [← flat_drop a (fun d hd => he d (List.mem_of_mem_take hd)) (by simp; omega), ← flat_take b he hb]
  exact (hr.take _).drop _

/-- A part of a slice whose content is data. -/
theorem Shows.sub {v : Value} {es n : Nat} {xs : List (List I)} (h : Shows K v es n xs) :
    ∃ p cap, v = .slice p n cap ∧ n ≤ cap ∧ ∀ a b m, a ≤ b → b ≤ n → b ≤ m → m ≤ cap → 
      Rep K (.slice (if m = a then p else p.map (·.add (a * es))) (b - a) (m - a)) (.sl es (b - a) ((xs.take b).drop a)) ∧
      (b = m → ∀ (ρ : Nat → Nat → Loc) (sh : Nat → Nat → Option Sh), RepD K ρ sh (.slice (if m = a then p else p.map (·.add (a * es))) (b - a) (m - a)) (.xsl es (b - a) ((xs.take b).drop a))) := by
  obtain ⟨h1, h2, p, cap, rfl, h3, h4⟩ := h
  refine ⟨p, cap, rfl, h3, fun a b m hab hbn hbm hmc => ?_⟩
  have hlen : ((xs.take b).drop a).length = b - a := by simp; omega
  have hel : ∀ d ∈ (xs.take b).drop a, d.length = es := fun d hd => h2 d (List.mem_of_mem_take (List.mem_of_mem_drop hd))
  rcases h4 with ⟨h4, rfl⟩ | ⟨bl, o, cs, rfl, h6, h7⟩
  · have hb0 : b = 0 := by omega
    have ha0 : a = 0 := by omega
    have hm0 : m = 0 := by omega
    subst hb0; subst ha0; subst hm0
    have hx : xs = [] := List.eq_nil_of_length_eq_zero (by omega)
    subst hx
    exact ⟨by simpa using Rep.nil, fun _ _ _ => by simpa using RepD.xnil⟩
  · have hr := sub_repL h6 h2 (by omega : b ≤ xs.length) hab
    by_cases hm : m = a
    · have hba : b = a := by omega
      have hx : (xs.take b).drop a = [] := List.eq_nil_of_length_eq_zero (by omega)
      rw [hx] at hr hlen hel ⊢
      simp only [hm, if_true, hba, Nat.sub_self]
      exact ⟨.sl .nil (by simp) (fun _ _ h => by simp at h) (Nat.le_refl _) rfl, fun _ _ _ => .xsl .nil (by simp) (fun _ _ h => by simp at h) rfl⟩
    · simp only [hm, if_false, Option.map_some, Addr.add_lit]
      have hk : ∀ j c, ((cs.take (b * es)).drop (a * es))[j]? = some c → K bl (o + a * es + j) = some c := by
        intro j c hc
        rw [List.getElem?_drop, List.getElem?_take] at hc
        split at hc
        · have := h7 _ _ hc
          rwa [show o + a * es + j = o + (a * es + j) by omega]
        · cases hc
      exact ⟨.sl hr hel hk (by omega) hlen, fun e _ _ => by subst e; exact .xsl hr hel hk hlen⟩

theorem bound_ok {k : IntKind} {x : Int} {y : Nat} {c : BoundsCode} (h : 0 ≤ x ∧ x ≤ y) : (Instr.sliceBound (.int k x) y c).run P w = .ok x.toNat w := by
  simp [Instr.sliceBound, asIntOf, h.1, h.2]

theorem snd_slice (hT : TOk P T) (hw : HInv E K ρ s.S w) {t : Nat} {vx : Value} {x : D} (hx : RepD K ρ (shape s.S) vx x) {vlo vhi vmx : Option Value} {lo hi mx : Option D}
    (hlo : ∀ d, lo = some d → ∃ v, vlo = some v ∧ RepD K ρ (shape s.S) v d) (hlo' : lo = none → vlo = none)
    (hhi : ∀ d, hi = some d → ∃ v, vhi = some v ∧ RepD K ρ (shape s.S) v d) (hhi' : hi = none → vhi = none)
    (hmx : ∀ d, mx = some d → ∃ v, vmx = some v ∧ RepD K ρ (shape s.S) v d) (hmx' : mx = none → vmx = none) :
    SndV P dst K ρ s.S w (Instr.sliceAt t vx vlo vhi vmx) (exSlice T s t x lo hi mx) := by
  unfold exSlice
  split
  · rename_i sz by_ e z hi0
    have hu : P.underlying t = some (.slice e) := (hT _ _ hi0).kind
    unfold sizeT
    cases he : look T e with
    | none => trivial
    | some ie =>
      have hie := hT _ _ he
      refine snd_cont hw hx fun es n xs hs => ?_
      cases hb : Nat.beq es ie.size with
      | false => trivial
      | true =>
        obtain rfl := Nat.eq_of_beq_eq_true hb
        obtain ⟨p, cap, rfl, hn, hsub⟩ := hs.sub
        have hln := hs.len
        simp only [Bool.not_true, cond_false]
        split
        · obtain rfl := hlo' rfl
          obtain rfl := hhi' rfl
          obtain rfl := hmx' rfl
          have h := (hsub 0 n cap (Nat.zero_le _) (Nat.le_refl _) hn (Nat.le_refl _)).1
          refine ⟨_, run_sl t e ie hu hie p n cap none none none 0 n cap (by simp [Instr.sliceBounds]), .i ?_⟩
          simpa [← hln] using h
        · rename_i k a
          obtain ⟨vl, rfl, hl⟩ := hlo _ rfl
          obtain rfl := inv_v hl
          obtain rfl := hhi' rfl
          obtain rfl := hmx' rfl
          intro hk
          have h := (hsub a.toNat n cap (by omega) (Nat.le_refl _) hn (Nat.le_refl _)).1
          refine ⟨_, run_sl t e ie hu hie p n cap _ none none a.toNat n cap (by simp [Instr.sliceBounds, bound_ok hk]), .i ?_⟩
          simpa [← hln] using h
        · rename_i k b
          obtain ⟨vl, rfl, hl⟩ := hhi _ rfl
          obtain rfl := inv_v hl
          obtain rfl := hlo' rfl
          obtain rfl := hmx' rfl
          intro hk
          have h := (hsub 0 b.toNat cap (Nat.zero_le _) (by omega) (by omega) (Nat.le_refl _)).1
          refine ⟨_, run_sl t e ie hu hie p n cap none _ none 0 b.toNat cap (by simp [Instr.sliceBounds, bound_ok (P := P) (w := w) (k := k) (c := .sliceAcap) (show 0 ≤ b ∧ b ≤ (cap : Int) by omega)]), .i ?_⟩
          simpa using h
        · rename_i k a k' b
          obtain ⟨vl, rfl, hl⟩ := hlo _ rfl
          obtain rfl := inv_v hl
          obtain ⟨vh, rfl, hh⟩ := hhi _ rfl
          obtain rfl := inv_v hh
          obtain rfl := hmx' rfl
          intro hk
          have h := (hsub a.toNat b.toNat cap (by omega) (by omega) (by omega) (Nat.le_refl _)).1
          refine ⟨_, run_sl t e ie hu hie p n cap _ _ none a.toNat b.toNat cap (by simp [Instr.sliceBounds, bound_ok (P := P) (w := w) (k := k') (c := .sliceAcap) (show 0 ≤ b ∧ b ≤ (cap : Int) by omega), bound_ok (P := P) (w := w) (k := k) (c := .sliceB) (show 0 ≤ a ∧ a ≤ (b.toNat : Int) by omega)]), .i ?_⟩
          exact h
        · rename_i k b k' c
          obtain ⟨vl, rfl, hl⟩ := hhi _ rfl
          obtain rfl := inv_v hl
          obtain ⟨vh, rfl, hh⟩ := hmx _ rfl
          obtain rfl := inv_v hh
          obtain rfl := hlo' rfl
          intro hk
          obtain ⟨hk1, rfl, hk2⟩ := hk
          have h := (hsub 0 b.toNat b.toNat (Nat.zero_le _) (by omega) (Nat.le_refl _) (by omega)).2 rfl ρ (shape s.S)
          refine ⟨_, run_sl t e ie hu hie p n cap none _ _ 0 b.toNat b.toNat (by simp [Instr.sliceBounds, bound_ok (P := P) (w := w) (k := k') (c := .slice3Acap) (show 0 ≤ b ∧ b ≤ (cap : Int) by omega), bound_ok (P := P) (w := w) (k := k) (c := .slice3B) (show 0 ≤ b ∧ b ≤ (b.toNat : Int) by omega)]), ?_⟩
          simpa using h
        · trivial
  · rename_i sz by_ z hi0
    have hu : P.underlying t = some .string := (hT _ _ hi0).kind
    split
    · rename_i b
      obtain rfl := inv_v hx
      split
      · rename_i k l
        obtain ⟨vl, rfl, hl⟩ := hlo _ rfl
        obtain rfl := inv_v hl
        obtain rfl := hhi' rfl
        obtain rfl := hmx' rfl
        intro hk
        refine ⟨_, ?_, rep_v rfl⟩
        simp [Instr.sliceAt, Instr.slice, run_underlying hu, Instr.sliceBounds, bound_ok (P := P) (w := w) (k := k) (c := .sliceB) hk]
      · rename_i k h
        obtain ⟨vl, rfl, hl⟩ := hhi _ rfl
        obtain rfl := inv_v hl
        obtain rfl := hlo' rfl
        obtain rfl := hmx' rfl
        intro hk
        refine ⟨_, ?_, rep_v rfl⟩
        simp [Instr.sliceAt, Instr.slice, run_underlying hu, Instr.sliceBounds, bound_ok (P := P) (w := w) (k := k) (c := .sliceAlen) hk]
      · trivial
    · trivial
  · trivial

theorem snd_index (hT : TOk P T) {S : List Heap} {t : Nat} {vx vi : Value} {x ix : D} (hx : RepD K ρ (shape S) vx x) (hix : RepD K ρ (shape S) vi ix) :
    SndV P dst K ρ S w (Instr.index t vx vi) (exIndex T t x ix) := by
  unfold exIndex
  split
  · rename_i sz by_ z b kk k hi
    have hu : P.underlying t = some .string := (hT _ _ hi).kind
    obtain rfl := inv_v hx
    obtain rfl := inv_v hix
    intro hk
    refine ⟨_, ?_, rep_v rfl⟩
    have hlt : k.toNat < b.size := by omega
    have hlt' : k.toNat < b.data.size := hlt
    simp [Instr.index, asIntOf, run_underlying hu, hk.1, hlt, List.getD, hlt']
    rfl
  · trivial

theorem snd_field (hT : TOk P T) {S : List Heap} {t : Nat} {vx : Value} {x : D} (hx : RepD K ρ (shape S) vx x) (f : Nat) : SndV P dst K ρ S w (Instr.field t vx f) (exField T t x f) := by
  unfold exField
  split
  · rename_i sz by_ fs z hi
    obtain ⟨fields, hu, _, hf⟩ := (hT _ _ hi).kind
    split
    · rename_i o z cs hfo
      obtain ⟨fl, inf, h1, h2, h3, h4, h5, h6⟩ := hf _ _ hfo
      simp only at h2 h4 h5 h6
      cases hx with
      | agg r =>
        cases hb : Nat.ble (o + z) cs.length with
        | false => trivial
        | true =>
          have hle : o + z ≤ cs.length := Nat.le_of_ble_eq_true hb
          refine sndV_forceL ⟨_, ?_, .agg ((r.drop o).take z)⟩
          simp [Instr.field, run_underlying hu, h1, asAgg, part, h6, Go.sizeOf, typeInfo, h3, h4, h2]
    · rename_i o z cs hfo
      obtain ⟨fl, inf, h1, h2, h3, h4, h5, h6⟩ := hf _ _ hfo
      simp only at h2 h4 h5 h6
      cases hx with
      | agg r =>
        cases hd : cs.drop o with
        | nil => trivial
        | cons d rr =>
          have hd0 : cs[o]? = some d := by
            have := congrArg (fun l => l[0]?) hd
            simpa using this
          obtain ⟨y, hy, hrep⟩ := r.get hd0
          refine sndV_force ⟨y, ?_, hrep⟩
          simp [Instr.field, run_underlying hu, h1, asAgg, part, h6, h2, hy]
    · trivial
  · trivial
end
end Go.AI

/- Each operation does what the abstract one says (4): literals, new variables. -/
namespace Go.AI
def upd (ρ : Nat → Nat → Loc) (nm : Nat) (l : Loc) : Nat → Nat → Loc := fun d n => if d = 0 ∧ n = nm then l else ρ d n
theorem upd_same (ρ : Nat → Nat → Loc) (nm : Nat) (l : Loc) : upd ρ nm l 0 nm = l := by simp [upd]
theorem upd_other (ρ : Nat → Nat → Loc) (nm : Nat) (l : Loc) {d n : Nat} (h : d ≠ 0 ∨ n ≠ nm) : upd ρ nm l d n = ρ d n := by
  unfold upd
  rw [if_neg]
  rintro ⟨h1, h2⟩
  rcases h with h | h
  · exact h h1
  · exact h h2
section
variable {P : Program} {T : TT} {E : Env} {K : Kn} {ρ : Nat → Nat → Loc} {S : List Heap} {w : World} {dst : Nat}

theorem HInv.K_fresh (hw : HInv E K ρ S w) {b o : Nat} (hb : w.heap.size ≤ b) : K b o = none := by
  cases h : K b o with
  | none => rfl
  | some x =>
    have := hw.holds _ _ _ h
    simp [World.cell?, Array.getElem?_eq_none hb] at this

theorem stays_add (hf : objAt S 0 dst = none) (ob : Ob) (l : Loc) : Stays K K ρ (upd ρ dst l) (shape S) (shape (addS S [(dst, ob)])) := by
  have hne : ∀ dep nm x, shape S dep nm = some x → dep ≠ 0 ∨ nm ≠ dst := by
    intro dep nm x e
    by_cases hd : dep = 0
    · subst hd
      refine .inr fun hn => ?_
      subst hn
      simp [shape, hf] at e
    · exact .inl hd
  refine ⟨K.le_refl, fun dep nm x e => ?_, fun dep nm x e => upd_other _ _ _ (hne _ _ _ e)⟩
  cases S with
  | nil => simp [shape, objAt] at e
  | cons H O =>
    have h1 := objAt_addS H O [(dst, ob)] dep nm
    unfold shape at *
    rw [h1]
    split
    · rename_i hd
      subst hd
      have : look [(dst, ob)] nm = none := by
        rw [look_cons, if_neg]
        · rfl
        · have := hne _ _ _ e
          omega
      rw [this]
      simpa [objAt] using e
    · exact e

theorem grow_alloc (hw : HInv E K ρ S w) (hf : objAt S 0 dst = none) {ob : Ob} {l : Loc} {cells : Array Value} {ty : TypeId} {w' : World} (hw' : w' = w ∨ w' = w.drew) (hl : backed l ob → l.block = w.heap.size)
    (hown : OwnAt K (upd ρ dst l) (shape (addS S [(dst, ob)])) (w'.alloc (.cells cells ty)) l ob) : Grow K ρ S w [(dst, ob)] K (upd ρ dst l) (w'.alloc (.cells cells ty)) := by
  have hheap : w'.heap = w.heap := by rcases hw' with rfl | rfl <;> rfl
  have hold : ∀ b, b < w.heap.size → (w'.alloc (.cells cells ty)).heap[b]? = w.heap[b]? := by
    intro b hb
    have := heap_alloc_old w' (.cells cells ty) b (by rw [hheap]; exact hb)
    rw [this, hheap]
  refine ⟨K.le_refl, fun _ _ _ h => .inl h, by simp [World.size_alloc, hheap], hold, ?_, ?_, ?_, ?_, ?_⟩
  · rcases hw' with rfl | rfl <;> exact ⟨rfl, rfl, rfl⟩
  · intro dep nm h
    refine upd_other _ _ _ ?_
    rcases h with h | h
    · exact .inl h
    · rw [look_cons] at h
      split at h
      · cases h
      · rename_i hn; exact .inr fun e => hn e.symm
  · intro b o x hx
    have h1 := hw.holds _ _ _ hx
    have hb : b < w.heap.size := by
      rcases Nat.lt_or_ge b w.heap.size with h | h
      · exact h
      · rw [hw.K_fresh h] at hx; cases hx
    rw [World.cell?, hold b hb]
    exact h1
  · intro nm ob' h
    rw [look_cons] at h
    split at h
    · rename_i hn
      subst hn
      simp only [Option.some.injEq] at h
      subst h
      rw [upd_same]
      exact ⟨hown, fun hb => by rw [hl hb]; exact Nat.le_refl _⟩
    · simp [look] at h
  · intro nm ob1 nm' ob2 h1 h2 _ _ _
    rw [look_cons] at h1 h2
    split at h1
    · split at h2
      · omega
      · simp [look] at h2
    · simp [look] at h1

theorem new_box (hw : HInv E K ρ S w) (hf : objAt S 0 dst = none) {cs : List Value} {ds : List D} (hr : RepDL K ρ (shape S) cs ds) (ty : TypeId) :
    ∃ l, Grow K ρ S w [(dst, .box ds)] K (upd ρ dst l) (w.alloc (.cells cs.toArray ty)) ∧ RepD K (upd ρ dst l) (shape (addS S [(dst, .box ds)])) (.pointer (some ⟨w.heap.size, 0, none⟩)) (.own 0 dst 0 0) := by
  have hst := stays_add (K := K) (ρ := ρ) hf (.box ds) ⟨w.heap.size, 0, none⟩
  refine ⟨⟨w.heap.size, 0, none⟩, grow_alloc hw hf (.inl rfl) (fun _ => rfl) ⟨cs.toArray, ty, heap_alloc_new w _, by simpa using hr.stays hst, fun o => hw.K_fresh (Nat.le_refl _)⟩, ?_⟩
  have hsh : shape (addS S [(dst, .box ds)]) 0 dst = some .box := by
    cases S with
    | nil => simp [shape, addS, objAt, look_cons, Ob.sh]
    | cons H O => simp [shape, objAt_addS, look_cons, Ob.sh]
  have := RepD.box (K := K) (ρ := upd ρ dst ⟨w.heap.size, 0, none⟩) (off := 0) hsh
  rwa [upd_same] at this

theorem ones_of {l : List Value} (h : ∀ x ∈ l, x.oneCell' = true) : RepDL K ρ (shape S) l (l.map fun v => .i (.v v)) := by
  induction l with
  | nil => exact .nil
  | cons x l ih => exact .cons (.i (.v (h x (by simp)))) (ih fun y hy => h y (by simp [hy]))

theorem snd_alloc (hT : TOk P T) (hw : HInv E K ρ S w) {t : Nat} : SndV P dst K ρ S w (Instr.alloc t true (.tuple #[])) (zeroOf T t fun cs => .new [(dst, .box cs)] (.own 0 dst 0 0)) := by
  unfold zeroOf
  cases hi : look T t with
  | none => trivial
  | some i =>
    have hok := hT _ _ hi
    simp only [forceL_eq]
    intro hf
    have hf := hf dst (by simp [look_cons])
    obtain ⟨inf, h1, h2, h3, z, h4, h5, -⟩ := hok.info
    obtain ⟨l, g, r⟩ := new_box (dst := dst) hw hf (ones_of hok.one) t
    refine ⟨_, _, _, _, ?_, g, r⟩
    have hz : z.cells = i.zero.toArray := by rw [← h5]
    simp [Instr.alloc, zeroValue, typeInfo, h1, h4, newVar, newRow, hz]

theorem snd_box (hT : TOk P T) (hw : HInv E K ρ S w) {t : Nat} {vx : Value} {x : D} (hx : RepD K ρ (shape S) vx x) :
    SndV P dst K ρ S w (Instr.box t vx) (cellsOf T t x fun cs => .new [(dst, .box cs)] (.own 0 dst 0 0)) := by
  unfold cellsOf
  cases hi : look T t with
  | none => trivial
  | some i =>
    dsimp only
    cases hb : Nat.beq x.cells.length i.size && D.ones x.cells with
    | false => trivial
    | true =>
      simp only [Bool.and_eq_true] at hb
      simp only [forceL_eq, cond_true]
      intro hf
      have hf := hf dst (by simp [look_cons])
      obtain ⟨l, g, r⟩ := new_box (dst := dst) hw hf (hx.cells hb.2) t
      refine ⟨_, _, _, _, ?_, g, r⟩
      simp [Instr.box, newVar, newRow]

theorem fold_set (off : Nat) : ∀ (vs : List Value) (j : Nat) (cs : Array Value), off + j + vs.length ≤ cs.size →
    ((vs.zipIdx j).foldl (fun (c : Array Value) p => c.setIfInBounds (off + p.2) p.1) cs).toList = cs.toList.take (off + j) ++ vs ++ cs.toList.drop (off + j + vs.length)
  | [], j, cs, h => by simp
  | v :: vs, j, cs, h => by
    simp only [List.length_cons] at h
    rw [List.zipIdx_cons, List.foldl_cons, fold_set off vs (j + 1) _ (by simp; omega)]
    have hlt : off + j < cs.size := by omega
    simp only [Array.setIfInBounds, hlt, dite_true, Array.toList_set]
    apply List.ext_getElem?
    intro k
    simp only [List.getElem?_append, List.getElem?_take, List.getElem?_drop, List.length_append, List.length_take, List.length_set, Array.length_toList, List.length_cons, List.getElem?_set]
    by_cases h1 : k < off + j
    · have : k < off + (j + 1) := by omega
      have e1 : min (off + j) cs.size = off + j := by omega
      have e2 : min (off + (j + 1)) cs.size = off + (j + 1) := by omega
      simp [h1, this, e1, e2, show ¬ (off + j = k) by omega, show k < off + (j + 1) + vs.length by omega, show k < off + j + (vs.length + 1) by omega]
    · by_cases h2 : k = off + j
      · subst h2
        have e1 : min (off + j) cs.size = off + j := by omega
        have e2 : min (off + (j + 1)) cs.size = off + (j + 1) := by omega
        simp [e1, e2, hlt, show off + j < off + (j + 1) + vs.length by omega, show off + j < off + (j + 1) by omega]
      · have e1 : min (off + j) cs.size = off + j := by omega
        have e2 : min (off + (j + 1)) cs.size = off + (j + 1) := by omega
        obtain ⟨m, rfl⟩ : ∃ m, k = off + j + 1 + m := ⟨k - (off + j + 1), by omega⟩
        simp only [e1, e2, show ¬ (off + j + 1 + m < off + (j + 1)) by omega, show ¬ (off + j + 1 + m < off + j) by omega, if_false]
        by_cases h3 : m < vs.length
        · simp [show off + j + 1 + m < off + (j + 1) + vs.length by omega, show off + j + 1 + m < off + j + (vs.length + 1) by omega, show off + j + 1 + m - (off + (j + 1)) = m by omega, show off + j + 1 + m - (off + j) = m + 1 by omega]
        · simp [show ¬ (off + j + 1 + m < off + (j + 1) + vs.length) by omega, show ¬ (off + j + 1 + m < off + j + (vs.length + 1)) by omega, show ¬ (off + j = off + (j + 1) + vs.length + (off + j + 1 + m - (off + (j + 1) + vs.length))) by omega, show off + (j + 1) + vs.length + (off + j + 1 + m - (off + (j + 1) + vs.length)) = off + j + (vs.length + 1) + (off + j + 1 + m - (off + j + (vs.length + 1))) by omega]
          intro h; omega

inductive RepParts (K : Kn) (ρ : Nat → Nat → Loc) (sh : Nat → Nat → Option Sh) : List (Nat × Value) → List (Nat × D) → Prop
  | nil : RepParts K ρ sh [] []
  | cons {i : Nat} {v : Value} {d : D} {vs : List (Nat × Value)} {ds : List (Nat × D)} : RepD K ρ sh v d → RepParts K ρ sh vs ds → RepParts K ρ sh ((i, v) :: vs) ((i, d) :: ds)

theorem fill_ok {sh : Nat → Nat → Option Sh} {place : Nat → Option (Nat × Nat)} : ∀ {vs : List (Nat × Value)} {ds : List (Nat × D)} {cs : Array Value} {dc dc' : List D}, RepParts K ρ sh vs ds → RepDL K ρ sh cs.toList dc →
    fillD place dc ds = some dc' → ∃ cs', Instr.fill place cs vs = some cs' ∧ RepDL K ρ sh cs'.toList dc' ∧ cs'.size = cs.size
  | _, _, cs, dc, dc', .nil, h, e => by
    simp only [fillD, Option.some.injEq] at e
    subst e
    exact ⟨cs, rfl, h, rfl⟩
  | _, _, cs, dc, dc', .cons (i := i) (v := v) (d := d) r rs, h, e => by
    simp only [fillD] at e
    cases hp : place i with
    | none => simp [hp] at e
    | some p =>
      obtain ⟨o, z⟩ := p
      simp only [hp] at e
      cases hb : Nat.beq d.cells.length z && Nat.ble (o + z) dc.length && D.ones d.cells with
      | false => simp [hb] at e
      | true =>
        simp only [hb, cond_true] at e
        simp only [Bool.and_eq_true] at hb
        obtain ⟨⟨h1, h2⟩, h3⟩ := hb
        have h1 := Nat.eq_of_beq_eq_true h1
        have h2 : o + z ≤ dc.length := Nat.le_of_ble_eq_true h2
        have hc := r.cells h3
        have hcl : v.cells.size = z := by have := hc.length; simpa [h1] using this
        have hsz : cs.size = dc.length := by have := h.length; simpa using this
        have hfold := fold_set o v.cells.toList 0 cs (by simp [hcl]; omega)
        have hz : (v.cells.zipIdx.foldl (fun cs (p : Value × Nat) => cs.setIfInBounds (o + p.2) p.1) cs) = (v.cells.toList.zipIdx.foldl (fun cs (p : Value × Nat) => cs.setIfInBounds (o + p.2) p.1) cs) := by
          rw [← Array.foldl_toList]
          simp
        have hrep : RepDL K ρ sh (v.cells.zipIdx.foldl (fun cs (p : Value × Nat) => cs.setIfInBounds (o + p.2) p.1) cs).toList (dc.take o ++ d.cells ++ dc.drop (o + z)) := by
          rw [hz, hfold]
          simp only [Nat.add_zero, Array.length_toList, hcl]
          exact ((h.take o).append hc).append (h.drop (o + z))
        obtain ⟨cs', e1, e2, e3⟩ := fill_ok rs hrep e
        refine ⟨cs', ?_, e2, ?_⟩
        · simp only [Instr.fill, hp, hcl]
          rw [if_neg (by simp; omega)]
          exact e1
        · rw [e3]
          have := congrArg List.length hfold
          rw [hz, ← Array.length_toList, this]
          simp [hcl]
          omega
end
end Go.AI

/- Each operation does what the abstract one says (5): literals. -/
namespace Go.AI
section
variable {P : Program} {T : TT} {E : Env} {K : Kn} {ρ : Nat → Nat → Loc} {S : List Heap} {w : World} {dst : Nat}

theorem snd_build (hT : TOk P T) {t : Nat} {vs : Array (Nat × Value)} {ds : List (Nat × D)} (hp : RepParts K ρ (shape S) vs.toList ds) :
    SndV P dst K ρ S w (Instr.build t vs) (exBuild T t ds) := by
  unfold exBuild
  cases hi : look T t with
  | none => trivial
  | some i =>
    have hok := hT _ _ hi
    have hkind := hok.kind
    obtain ⟨inf, h1, h2, h3, z, h4, h5, -⟩ := hok.info
    have hzr : RepDL K ρ (shape S) z.cells.toList (i.zero.map fun v => .i (.v v)) := by rw [h5]; exact ones_of hok.one
    dsimp only
    split
    · rename_i fs hk
      rw [hk] at hkind
      obtain ⟨fields, hu, hpl, _⟩ := hkind
      split
      · rename_i cs hcs
        refine sndV_forceL ?_
        obtain ⟨cs', e1, e2, e3⟩ := fill_ok hp hzr hcs
        refine ⟨.agg cs', ?_, by simpa using RepD.agg e2⟩
        have hpl' : (fun (x : Nat) => (fs.map fun f => (f.1, f.2.1)).toArray[x]?) = (fun (j : Nat) => (fs[j]?).map fun (p : Nat × Nat × Bool) => (p.1, p.2.1)) := by
          funext j; simp
        simp only [Instr.build, zeroValue, typeInfo, h1, h4, run_underlying hu, Sem.run_bind, Sem.run_pure, run_program, Result.andThen_ok, hpl]
        rw [hpl', e1]
        rfl
      · trivial
    · rename_i n e hk
      rw [hk] at hkind
      unfold sizeT
      cases he : look T e with
      | none => trivial
      | some ie =>
        dsimp only
        split
        · rename_i cs hcs
          refine sndV_forceL ?_
          obtain ⟨cs', e1, e2, e3⟩ := fill_ok hp hzr hcs
          refine ⟨.agg cs', ?_, by simpa using RepD.agg e2⟩
          simp only [Instr.build, zeroValue, typeInfo, h1, h4, run_underlying hkind, Sem.run_bind, Sem.run_pure, run_program, Result.andThen_ok, run_sizeOf (hT _ _ he)]
          rw [e1]
          rfl
        · trivial
    · trivial

theorem repl_map {α β : Type} (f : α → β) (n : Nat) (l : List α) : repl n (l.map f) = (repl n l).map f := by
  induction n with
  | zero => rfl
  | succ n ih => simp [repl, ih]
theorem repl_len {α : Type} (n : Nat) (l : List α) : (repl n l).length = n * l.length := by
  induction n with
  | zero => simp [repl]
  | succ n ih => simp [repl, ih, Nat.add_mul]; omega
theorem repl_mem {α : Type} {n : Nat} {l : List α} {x : α} (h : x ∈ repl n l) : x ∈ l := by
  induction n with
  | zero => simp [repl] at h
  | succ n ih =>
    rcases List.mem_append.1 h with h | h
    · exact h
    · exact ih h
theorem repl_get {α : Type} (l : List α) (hl : 0 < l.length) : ∀ (n k : Nat), k < n * l.length → (repl n l)[k]? = l[k % l.length]?
  | 0, k, h => by omega
  | n + 1, k, h => by
    simp only [repl]
    by_cases hk : k < l.length
    · rw [List.getElem?_append_left hk, Nat.mod_eq_of_lt hk]
    · rw [List.getElem?_append_right (by omega), repl_get l hl n (k - l.length) (by rw [Nat.add_mul] at h; omega)]
      congr 1
      conv => rhs; rw [show k = (k - l.length) + l.length by omega, Nat.add_mod_right]
theorem range_zero (z : Array Value) (n : Nat) (hz : 0 < z.size) : ((Array.range (n * z.size)).map (fun x => z[x % z.size]!)).toList = repl n z.toList := by
  apply List.ext_getElem?
  intro k
  by_cases hk : k < n * z.size
  · rw [repl_get z.toList (by simpa using hz) n k (by simpa using hk)]
    have hm := Nat.mod_lt k hz
    simp [hk, hm]
  · rw [List.getElem?_eq_none (by simp; omega), List.getElem?_eq_none (by rw [repl_len]; simp; omega)]

theorem chunk_flat (z : Nat) : ∀ (n : Nat) (l : List I), l.length = n * z → (chunk z n l).flatten = l
  | 0, l, h => by simp at h; subst h; rfl
  | n + 1, l, h => by
    rw [Nat.add_mul] at h
    simp only [chunk, List.flatten_cons, chunk_flat z n (l.drop z) (by simp; omega)]
    exact List.take_append_drop z l
theorem chunk_len (z : Nat) : ∀ (n : Nat) (l : List I), (chunk z n l).length = n
  | 0, l => rfl
  | n + 1, l => by simp [chunk, chunk_len z n]
theorem chunk_el (z : Nat) : ∀ (n : Nat) (l : List I), l.length = n * z → ∀ d ∈ chunk z n l, d.length = z
  | 0, l, _, d, h => by simp [chunk] at h
  | n + 1, l, hl, d, h => by
    rw [Nat.add_mul] at hl
    simp only [chunk, List.mem_cons] at h
    rcases h with rfl | h
    · simp; omega
    · exact chunk_el z n (l.drop z) (by simp; omega) d h

theorem rep_toI {sh : Nat → Nat → Option Sh} {v : Value} {d : D} {x : I} (h : RepD K ρ sh v d) (e : d.toI = some x) : Rep K v x := by
  cases h <;> simp only [D.toI, Option.some.injEq, reduceCtorEq] at e
  case i r => subst e; exact r
  case xsl a b c l => subst e; exact .sl a b c (Nat.le_refl _) l
  case xnil => subst e; exact .nil
  case bt => subst e; exact .v rfl
  case bf => subst e; exact .v rfl
theorem rep_toIs {sh : Nat → Nat → Option Sh} : ∀ {vs : List Value} {ds : List D} {xs : List I}, RepDL K ρ sh vs ds → D.toIs ds = some xs → RepL K vs xs
  | _, _, _, .nil, e => by simp only [D.toIs, Option.some.injEq] at e; subst e; exact .nil
  | _, _, _, .cons (d := d) (ds := ds) r rs, e => by
    simp only [D.toIs] at e
    cases h1 : d.toI with
    | none => simp [h1] at e
    | some x =>
      cases h2 : D.toIs ds with
      | none => simp [h1, h2] at e
      | some ys =>
        simp only [h1, h2, Option.some.injEq] at e
        subst e
        exact .cons (rep_toI r h1) (rep_toIs rs h2)

theorem new_arr (hw : HInv E K ρ S w) (hf : objAt S 0 dst = none) {w' : World} (hw' : w' = w ∨ w' = w.drew) {cs : Array Value} {es n cap : Nat} {xs : List (List I)} {ty : TypeId} (hel : ∀ d ∈ xs, d.length = es) (hn : xs.length = n)
    (hcap : n ≤ cap) (hm : cap ≤ maxLen) (hsz : cs.size = cap * es) (hr : RepL K (cs.toList.take (n * es)) xs.flatten) :
    ∃ l, Grow K ρ S w [(dst, .arr ty es n xs true)] K (upd ρ dst l) (w'.alloc (.cells cs ty)) ∧
      RepD K (upd ρ dst l) (shape (addS S [(dst, .arr ty es n xs true)])) (.slice (some ⟨w.heap.size, 0, none⟩) n cap) (.osl 0 dst) := by
  have hheap : w'.heap = w.heap := by rcases hw' with rfl | rfl <;> rfl
  refine ⟨⟨w.heap.size, cap, some ⟨w.heap.size, 0, none⟩⟩, grow_alloc hw hf hw' (fun _ => rfl) ⟨hel, hn, hcap, hm, ?_⟩, ?_⟩
  · refine .inr ⟨rfl, cs, ?_, hsz, hr, fun _ o => hw.K_fresh (Nat.le_refl _), fun o _ => hw.K_fresh (Nat.le_refl _), fun h => by cases h⟩
    have := heap_alloc_new w' (.cells cs ty)
    rwa [hheap] at this
  · have hsh : shape (addS S [(dst, .arr ty es n xs true)]) 0 dst = some (.arr es n) := by
      cases S with
      | nil => simp [shape, addS, objAt, look_cons, Ob.sh]
      | cons H O => simp [shape, objAt_addS, look_cons, Ob.sh]
    have := RepD.osl (K := K) (ρ := upd ρ dst ⟨w.heap.size, cap, some ⟨w.heap.size, 0, none⟩⟩) hsh
    rwa [upd_same] at this

/-- New memory that nobody writes from now on. -/
theorem grow_data (hw : HInv E K ρ S w) {cs : Array Value} {es n : Nat} {xs : List (List I)} {ty : TypeId} (hel : ∀ d ∈ xs, d.length = es) (hn : xs.length = n) (hr : RepL K cs.toList xs.flatten) :
    ∃ K', Grow K ρ S w [] K' ρ (w.alloc (.cells cs ty)) ∧ Rep K' (.slice (some ⟨w.heap.size, 0, none⟩) n n) (.sl es n xs) := by
  let K' : Kn := fun b o => if b = w.heap.size then cs[o]? else K b o
  have hle : K.le K' := by
    intro b o x hx
    have hb : b ≠ w.heap.size := fun e => by subst e; rw [hw.K_fresh (Nat.le_refl _)] at hx; cases hx
    simp only [K', if_neg hb]; exact hx
  have hold : ∀ b, b < w.heap.size → (w.alloc (.cells cs ty)).heap[b]? = w.heap[b]? := fun b hb => heap_alloc_old w (.cells cs ty) b hb
  have hnew : (w.alloc (.cells cs ty)).heap[w.heap.size]? = some (.cells cs ty) := heap_alloc_new w (.cells cs ty)
  refine ⟨K', ⟨hle, fun b o x hx => ?_, by simp [World.size_alloc], hold, ⟨rfl, rfl, rfl⟩, fun _ _ _ => rfl, fun b o x hx => ?_, fun _ _ h => by simp [look] at h, fun _ _ _ _ h => by simp [look] at h⟩, ?_⟩
  · by_cases hb : b = w.heap.size
    · exact .inr (by omega)
    · simp only [K', if_neg hb] at hx; exact .inl hx
  · by_cases hb : b = w.heap.size
    · subst hb
      simp only [K', if_true] at hx
      rw [cell_of_heap hnew]; exact hx
    · simp only [K', if_neg hb] at hx
      have h1 := hw.holds _ _ _ hx
      have hlt : b < w.heap.size := by
        rcases Nat.lt_or_ge b w.heap.size with h | h
        · exact h
        · rw [hw.K_fresh h] at hx; cases hx
      rw [World.cell?, hold b hlt]
      exact h1
  · refine .sl (hr.mono hle) hel (fun j c hc => ?_) (Nat.le_refl _) hn
    simp only [K', Nat.zero_add, if_true]
    simpa using hc
theorem grow_none (hw : HInv E K ρ S w) {w' : World} (hw' : w' = w ∨ w' = w.drew) (o : Obj) : Grow K ρ S w [] K ρ (w'.alloc o) := by
  have hheap : w'.heap = w.heap := by rcases hw' with rfl | rfl <;> rfl
  have hold : ∀ b, b < w.heap.size → (w'.alloc o).heap[b]? = w.heap[b]? := by
    intro b hb
    have := heap_alloc_old w' o b (by rw [hheap]; exact hb)
    rw [this, hheap]
  refine ⟨K.le_refl, fun _ _ _ h => .inl h, by simp [World.size_alloc, hheap], hold, ?_, fun _ _ _ => rfl, ?_, fun _ _ h => by simp [look] at h, fun _ _ _ _ h => by simp [look] at h⟩
  · rcases hw' with rfl | rfl <;> exact ⟨rfl, rfl, rfl⟩
  · intro b o' x hx
    have h1 := hw.holds _ _ _ hx
    have hb : b < w.heap.size := by
      rcases Nat.lt_or_ge b w.heap.size with h | h
      · exact h
      · rw [hw.K_fresh h] at hx; cases hx
    rw [World.cell?, hold b hb]
    exact h1

theorem snd_buildSlice (hT : TOk P T) (hw : HInv E K ρ S w) {t len : Nat} {vs : Array (Nat × Value)} {ds : List (Nat × D)} (hp : RepParts K ρ (shape S) vs.toList ds) :
    SndV P dst K ρ S w (Instr.buildSlice t len vs) (exBuildSlice T dst t len ds) := by
  unfold exBuildSlice
  split
  · rename_i sz by_ e z hi
    have hu : P.underlying t = some (.slice e) := (hT _ _ hi).kind
    cases he : look T e with
    | none => trivial
    | some i =>
      have hok := hT _ _ he
      dsimp only
      cases len with
      | zero =>
        cases hp' : vs.toList with
        | nil =>
          rw [hp'] at hp
          cases hp
          dsimp only
          intro hf
          have hf := hf dst (by simp [look_cons])
          obtain ⟨lc, g, r⟩ := new_arr (dst := dst) (cs := #[]) (ty := e) (n := 0) (cap := 0) (xs := []) (es := i.size) hw hf (.inl rfl) (by simp) rfl (Nat.le_refl _) (by simp) (by simp) (by simpa using RepL.nil)
          refine ⟨_, _, _, _, ?_, g, r⟩
          simp [Instr.buildSlice, run_underlying hu, run_sizeOf hok, hp', Instr.fill, newRow, Array.range_zero']
        | cons p ps =>
          rw [hp'] at hp
          cases hp
          trivial
      | succ len =>
        dsimp only
        split
        · rename_i cs hcs
          split
          · rename_i l hl
            cases hb : Nat.ble ((len + 1) * i.size) 16777216 with
            | false => trivial
            | true =>
              have hle : (len + 1) * i.size ≤ 16777216 := Nat.le_of_ble_eq_true hb
              simp only [cond_true]
              obtain ⟨inf, h1, h2, h3, z, h4, h5, -⟩ := hok.info
              have hzs : z.cells.size = i.size := by rw [← Array.length_toList, h5, hok.len]
              have hpos : 0 < z.cells.size := by have := hok.pos; omega
              have hrz := range_zero z.cells (len + 1) hpos
              rw [hzs] at hrz
              have hzr : RepDL K ρ (shape S) ((Array.range ((len + 1) * i.size)).map (fun x => z.cells[x % i.size]!)).toList (repl (len + 1) (i.zero.map fun v => .i (.v v))) := by
                rw [hrz, repl_map, h5]
                exact ones_of fun x hx => hok.one x (repl_mem hx)
              obtain ⟨cs', e1, e2, e3⟩ := fill_ok hp hzr hcs
              have hr := rep_toIs e2 hl
              have hszc : cs'.size = (len + 1) * i.size := by rw [e3]; simp
              have hll : l.length = (len + 1) * i.size := by have := hr.length; simpa [hszc] using this.symm
              have hlen16 : len + 1 ≤ 16777216 := Nat.le_trans (Nat.le_mul_of_pos_right _ (by have := hok.pos; omega)) hle
              have hne : ¬ ((len + 1) * i.size = 0) := by
                have := hok.pos
                have := Nat.mul_pos (show 0 < len + 1 by omega) (Nat.pos_of_ne_zero this)
                omega
              have hgt : ¬ ((len + 1) * i.size > 2 ^ 24) := by omega
              have hrun : (Instr.buildSlice t (len + 1) vs).run P w = .ok (.slice (some ⟨w.heap.size, 0, none⟩) (len + 1) (len + 1)) (w.alloc (.cells cs' e)) := by
                simp only [Instr.buildSlice, run_underlying hu, Sem.run_bind, Result.andThen_ok, run_sizeOf hok, hne, hgt, if_false, Sem.run_pure, zeroValue, typeInfo, h1, h4, run_program, hzs, e1, newRow, run_newObj]
                rfl
              have hflat : RepL K cs'.toList (chunk i.size (len + 1) l).flatten := by rw [chunk_flat _ _ _ hll]; exact hr
              refine ⟨fun hf => ?_, fun _ => ?_⟩
              case refine_2 =>
                obtain ⟨K', g, r⟩ := grow_data (cs := cs') (ty := e) hw (chunk_el i.size (len + 1) l hll) (chunk_len _ _ _) hflat
                exact ⟨_, K', ρ, _, hrun, g, .i r⟩
              have hf := hf dst (by simp [look_cons])
              obtain ⟨lc, g, r⟩ := new_arr (dst := dst) (cs := cs') (ty := e) (cap := len + 1) hw hf (.inl rfl) (chunk_el i.size (len + 1) l hll) (chunk_len _ _ _) (Nat.le_refl _) (by simp only [maxLen]; omega) hszc (by
                rw [chunk_flat _ _ _ hll, ← hszc, ← Array.length_toList, List.take_length]
                exact hr)
              exact ⟨_, _, _, _, hrun, g, r⟩
          · trivial
        · trivial
    done
  · trivial
end
end Go.AI

/- Operations that turn the memory of an object: stores. -/
namespace Go.AI
theorem objAt_setAt : ∀ {S : List Heap} {dep nm : Nat} {ob : Ob}, (objAt S dep nm).isSome = true → ∀ d n, objAt (setAt S dep nm ob) d n = if d = dep ∧ n = nm then some ob else objAt S d n
  | [], dep, nm, ob, h, d, n => by simp [objAt] at h
  | H :: O, 0, nm, ob, h, d, n => by
    cases d with
    | zero =>
      simp only [setAt, objAt, List.getElem?_cons_zero, look_cons, true_and]
      by_cases hn : nm = n
      · subst hn; simp
      · rw [if_neg hn, if_neg (fun e => hn e.symm)]
    | succ d => simp [setAt, objAt]
  | H :: O, dep + 1, nm, ob, h, d, n => by
    cases d with
    | zero => simp [setAt, objAt]
    | succ d =>
      have h' : (objAt O dep nm).isSome = true := by simpa [objAt] using h
      have := objAt_setAt (ob := ob) h' d n
      simpa [setAt, objAt] using this

section
variable {P : Program} {T : TT} {E : Env} {K : Kn} {ρ : Nat → Nat → Loc} {S : List Heap} {w : World}

theorem shape_setAt {dep nm : Nat} {ob ob' : Ob} (h : objAt S dep nm = some ob) (hs : ob'.sh = ob.sh) : shape (setAt S dep nm ob') = shape S := by
  funext d n
  unfold shape
  rw [objAt_setAt (by simp [h])]
  split
  · rename_i he; obtain ⟨rfl, rfl⟩ := he; simp [h, hs]
  · rfl

/-- An object's memory, written anew. -/
theorem HInv.put {w' : World} (h : HInv E K ρ S w) {dep nm : Nat} {ob ob' : Ob} (ho : objAt S dep nm = some ob) (hs : ob'.sh = ob.sh) (hb : backed (ρ dep nm) ob) (hb' : backed (ρ dep nm) ob')
    (hsize : w'.heap.size = w.heap.size) (hold : ∀ b, b ≠ (ρ dep nm).block → w'.heap[b]? = w.heap[b]?) (hrest : w'.tape = w.tape ∧ w'.os = w.os ∧ w'.output = w.output)
    (hholds : ∀ o x, K (ρ dep nm).block o = some x → w'.cell? ⟨(ρ dep nm).block, o, none⟩ = some x)
    (hown : OwnAt K (fun d n => ρ (dep + d) n) (fun d n => shape S (dep + d) n) w' (ρ dep nm) ob') : HInv E K ρ (setAt S dep nm ob') w' := by
  have hsh := shape_setAt ho hs
  have hobj := objAt_setAt (S := S) (dep := dep) (nm := nm) (ob := ob') (by simp [ho])
  have hcase : ∀ d n o, objAt (setAt S dep nm ob') d n = some o → (d = dep ∧ n = nm ∧ o = ob') ∨ (objAt S d n = some o ∧ ¬ (d = dep ∧ n = nm)) := by
    intro d n o he
    rw [hobj] at he
    split at he
    · rename_i hh; exact .inl ⟨hh.1, hh.2, by simpa using he.symm⟩
    · rename_i hh; exact .inr ⟨he, hh⟩
  refine ⟨?_, ?_, ?_, by rw [hsize]; exact h.size, ?_, ?_, h.outer, h.Kle, h.Knew, ?_⟩
  · intro b o x hx
    by_cases hbb : b = (ρ dep nm).block
    · subst hbb; exact hholds _ _ hx
    · rw [World.cell?, hold b hbb]; exact h.holds _ _ _ hx
  · intro d n o he
    have e2 : shape ((setAt S dep nm ob').drop d) = fun d' n => shape S (d + d') n := by
      funext d' n'; rw [shape_drop, hsh]
    rw [e2]
    rcases hcase d n o he with ⟨rfl, rfl, rfl⟩ | ⟨he', hne⟩
    · exact hown
    · have h0 := h.own _ _ _ he'
      have e1 : shape (S.drop d) = fun d' n => shape S (d + d') n := by
        funext d' n'; rw [shape_drop]
      rw [e1] at h0
      refine h0.stays ⟨K.le_refl, fun _ _ _ e => e, fun _ _ _ _ => rfl⟩ (fun hbk => ?_) (fun _ _ => rfl)
      refine hold _ fun hbe => hne ?_
      exact h.inj _ _ _ _ _ _ he' ho hbk hb hbe
  · intro d n o d' n' o' h1 h2 b1 b2 hbe
    rcases hcase _ _ _ h1 with ⟨rfl, rfl, rfl⟩ | ⟨h1', _⟩ <;> rcases hcase _ _ _ h2 with ⟨rfl, rfl, rfl⟩ | ⟨h2', _⟩
    · exact ⟨rfl, rfl⟩
    · exact h.inj _ _ _ _ _ _ ho h2' hb b2 hbe
    · exact h.inj _ _ _ _ _ _ h1' ho b1 hb hbe
    · exact h.inj _ _ _ _ _ _ h1' h2' b1 b2 hbe
  · intro b hblt hno
    have hne : b ≠ (ρ dep nm).block := by
      intro hbe
      cases dep with
      | zero =>
        have := h.loc _ _ ho hb
        exact this (hbe ▸ hblt)
      | succ dep =>
        have := hno dep nm ob' (by rw [hobj]; simp) hb'
        exact this hbe.symm
    rw [hold b hne]
    refine h.old b hblt fun d n o ho' hbk => ?_
    by_cases hh : d + 1 = dep ∧ n = nm
    · obtain ⟨rfl, rfl⟩ := hh
      exact fun e => hne e.symm
    · exact hno d n o (by rw [hobj, if_neg hh]; exact ho') hbk
  · intro n o ho' hbk
    rcases hcase _ _ _ ho' with ⟨h1, h2, h3⟩ | ⟨h', _⟩
    · subst h1; subst h2; exact h.loc _ _ ho hb
    · exact h.loc _ _ h' hbk
  · obtain ⟨a1, a2, a3⟩ := hrest
    obtain ⟨b1, b2, b3⟩ := h.rest
    exact ⟨a1.trans b1, a2.trans b2, a3.trans b3⟩

/-- What is left of the references when one object has gone. -/
def Keeps (g : Option Nat) (ρ ρ' : Nat → Nat → Loc) (sh sh' : Nat → Nat → Option Sh) : Prop := ∀ dep nm x, (dep ≠ 0 ∨ g ≠ some nm) → sh dep nm = some x → sh' dep nm = some x ∧ ρ' dep nm = ρ dep nm
/-- What an answer that turns the state promises. -/
def SndM (P : Program) (E : Env) (K : Kn) (ρ : Nat → Nat → Loc) (S : List Heap) (a : Act) (w : World) (o : Oper) (g : Option Nat) : Ask → Prop
  | .mod s' => ∃ r w' K' ρ', (execOp a.eval o).run P w = .ok r w' ∧ K.le K' ∧ Keeps g ρ ρ' (shape S) (shape s'.S) ∧ ((r = .skip ∧ Inv E K' ρ' s' (a.put o.dst undef) w') ∨ ∃ v, r = .value v ∧ Inv E K' ρ' s' (a.put o.dst v) w')
  | .need p k => p → SndM P E K ρ S a w o g k
  | .elem xs i k => ∀ d, xs[i]? = some d → SndM P E K ρ S a w o g (k d)
  | .obj dep nm k => ∀ ob, objAt S dep nm = some ob → SndM P E K ρ S a w o g (k ob)
  | .alt x y => SndM P E K ρ S a w o g x ∧ SndM P E K ρ S a w o g y
  | _ => True

theorem splice_rep {sh : Nat → Nat → Option Sh} {cs : List Value} {ds : List D} {vs : List Value} {l : List D} (off : Nat) (h : RepDL K ρ sh cs ds) (h' : RepDL K ρ sh vs l) :
    RepDL K ρ sh (cs.take off ++ vs ++ cs.drop (off + vs.length)) (splice ds off l) := by
  have := h'.length
  unfold splice
  rw [← this]
  exact ((h.take off).append h').append (h.drop _)
theorem splice_repI {cs : List Value} {ds : List I} {vs : List Value} {l : List I} (off : Nat) (h : RepL K cs ds) (h' : RepL K vs l) :
    RepL K (cs.take off ++ vs ++ cs.drop (off + vs.length)) (spliceI ds off l) := by
  have := h'.length
  unfold spliceI
  rw [← this]
  exact ((h.take off).append h').append (h.drop _)

theorem flat_set : ∀ {es : Nat} (xs : List (List I)) (i : Nat) {d l : List I} {off : Nat}, (∀ d ∈ xs, d.length = es) → xs[i]? = some d → off + l.length ≤ es →
    (xs.set i (spliceI d off l)).flatten = spliceI xs.flatten (i * es + off) l
  | es, [], i, d, l, off, _, h, _ => by simp at h
  | es, x :: xs, 0, d, l, off, hl, h, hle => by
    have hx : x.length = es := hl x (by simp)
    simp at h
    subst h
    simp only [List.set_cons_zero, List.flatten_cons, spliceI, Nat.zero_mul, Nat.zero_add]
    rw [List.take_append_of_le_length (by omega), List.drop_append_of_le_length (by omega)]
    simp
  | es, x :: xs, i + 1, d, l, off, hl, h, hle => by
    have hx : x.length = es := hl x (by simp)
    simp at h
    have ih := flat_set xs i (fun d hd => hl d (by simp [hd])) h hle
    simp only [List.set_cons_succ, List.flatten_cons, ih]
    unfold spliceI
    have e : (i + 1) * es + off = x.length + (i * es + off) := by rw [Nat.add_mul, hx]; omega
    rw [e, Nat.add_assoc x.length, List.take_length_add_append, List.drop_length_add_append]
    simp

theorem inv_box {sh : Nat → Nat → Option Sh} {v : Value} {dep nm i off : Nat} (h : RepD K ρ sh v (.own dep nm i off)) (e : sh dep nm = some .box) : v = .pointer (some ⟨(ρ dep nm).block, off, none⟩) := by
  cases h with
  | box => rfl
  | arr e' => rw [e] at e'; cases e'
theorem inv_arr {sh : Nat → Nat → Option Sh} {v : Value} {dep nm i off es len : Nat} (h : RepD K ρ sh v (.own dep nm i off)) (e : sh dep nm = some (.arr es len)) :
    i < len ∧ v = .pointer (some ⟨(ρ dep nm).block, i * es + off, none⟩) := by
  cases h with
  | box e' => rw [e] at e'; cases e'
  | arr e' l => rw [e] at e'; simp only [Option.some.injEq, Sh.arr.injEq] at e'; obtain ⟨rfl, rfl⟩ := e'; exact ⟨l, rfl⟩

theorem setRow_rest (w : World) (g : Nat) (cs : Array Value) : (w.setRow g cs).tape = w.tape ∧ (w.setRow g cs).os = w.os ∧ (w.setRow g cs).output = w.output := ⟨rfl, rfl, rfl⟩

theorem run_storeAt {t : Nat} {i : TI} (hi : TIok P t i) {b o : Nat} {v : Value} {cur : Array Value} {ty : TypeId} (hg : w.heap[b]? = some (.cells cur ty (0, 0))) (hsz : v.cells.size = i.size)
    (hfit : o + i.size ≤ cur.size) (h1 : ∀ x ∈ v.cells.toList, x.oneCell' = true) :
    (Instr.storeAt t (.pointer (some ⟨b, o, none⟩)) v).run P w = .ok () (w.setRow b (cur.toList.take o ++ v.cells.toList ++ cur.toList.drop (o + v.cells.toList.length)).toArray) := by
  have hst := run_storeCells_at P b o ty v.cells.toList 0 cur w hg (by simp; omega) h1
  simp only [Nat.add_zero] at hst
  simp [Instr.storeAt, Instr.sureAddr, storeVar, run_sizeOf hi, hsz, hst]

theorem inv_S {s : St} {a : Act} (h : Inv E K ρ s a w) {S' : List Heap} {w' : World} (h' : HInv E K ρ S' w') (hsh : shape S' = shape s.S) : Inv E K ρ { s with S := S' } a w' :=
  ⟨h', h.defers, h.size, fun t d e => by show RepD K ρ (shape S') _ d; rw [hsh]; exact h.slots t d e⟩

theorem repDL_map_i {sh : Nat → Nat → Option Sh} : ∀ {vs : List Value} {l : List I}, RepL K vs l → RepDL K ρ sh vs (l.map .i) := RepDL.ofL

theorem snd_store (hT : TOk P T) {s : St} {a : Act} (h : Inv E K ρ s a w) {o : Oper} {t : Nat} {x y : Operand} (ho : o.op = .store t x y) (hd : o.dst = none) {p v : D}
    (hp : RepD K ρ (shape s.S) (a.eval x) p) (hv : RepD K ρ (shape s.S) (a.eval y) v) : SndM P E K ρ s.S a w o none (exStore T s t p v) := by
  unfold exStore
  cases hi : look T t with
  | none => trivial
  | some i =>
    have hok := hT _ _ hi
    dsimp only
    cases hb : !(Nat.beq v.cells.length i.size && D.ones v.cells) with
    | true => trivial
    | false =>
      simp only [Bool.not_eq_false', Bool.and_eq_true] at hb
      have hvl := Nat.eq_of_beq_eq_true hb.1
      have hcells := hv.cells hb.2
      have hones := hcells.one hb.2
      have hvs : (a.eval y).cells.size = i.size := by have := hcells.length; simpa [hvl] using this
      simp only [cond_false]
      have hfin : ∀ {b off : Nat} {cur : Array Value} {ty : TypeId} {S' : List Heap}, a.eval x = .pointer (some ⟨b, off, none⟩) → w.heap[b]? = some (.cells cur ty (0, 0)) → off + i.size ≤ cur.size → shape S' = shape s.S →
          HInv E K ρ S' (w.setRow b (cur.toList.take off ++ (a.eval y).cells.toList ++ cur.toList.drop (off + (a.eval y).cells.toList.length)).toArray) → SndM P E K ρ s.S a w o none (.mod { s with S := S' }) := by
        intro b off cur ty S' hx hg hfit hsh hh
        have hrun := run_storeAt (w := w) hok hg hvs hfit hones
        generalize w.setRow b (cur.toList.take off ++ (a.eval y).cells.toList ++ cur.toList.drop (off + (a.eval y).cells.toList.length)).toArray = w1 at hh hrun
        have hI := inv_S h hh hsh
        have hput : a.put o.dst undef = a := by rw [hd]; rfl
        rw [← hput] at hI
        refine ⟨.skip, _, K, ρ, ?_, K.le_refl, fun d n x _ e => ⟨by rw [hsh]; exact e, rfl⟩, .inl ⟨rfl, hI⟩⟩
        simp only [execOp, ho, hx, hrun, Sem.run_bind, Result.andThen_ok, Sem.run_pure]
      split
      · rename_i dep nm xi off
        have hobjm : ∀ {k : Ob → Ask}, (∀ ob, objAt s.S dep nm = some ob → SndM P E K ρ s.S a w o none (k ob)) → SndM P E K ρ s.S a w o none (objOf s dep nm k) := by
          intro k hk
          unfold objOf
          cases dep with
          | zero =>
            dsimp only
            cases ho' : objAt s.S 0 nm with
            | none => trivial
            | some ob => exact hk ob ho'
          | succ d => exact hk
        refine hobjm fun ob hob => ?_
        have hown := own_at h.h hob
        have hsh0 := shape_of dep nm hob
        cases ob with
        | mp => trivial
        | box cs =>
          obtain ⟨cur, ty, hg, hr, hKn⟩ := hown
          have hcl : cs.length = cur.size := by have := hr.length; simpa using this.symm
          have haddr := inv_box hp hsh0
          dsimp only
          cases hfitb : Nat.ble (off + i.size) cs.length with
          | false => trivial
          | true =>
            have hfit : off + i.size ≤ cs.length := Nat.le_of_ble_eq_true hfitb
            simp only [cond_true]
            have hput : ∀ l : List D, RepDL K (fun d n => ρ (dep + d) n) (fun d n => shape s.S (dep + d) n) (a.eval y).cells.toList l →
                HInv E K ρ (setAt s.S dep nm (.box (splice cs off l))) (w.setRow (ρ dep nm).block (cur.toList.take off ++ (a.eval y).cells.toList ++ cur.toList.drop (off + (a.eval y).cells.toList.length)).toArray) := by
              intro l hl
              refine h.h.put hob rfl trivial trivial (by simp) (fun b hb => setRow_other _ _ _ _ hb) (setRow_rest _ _ _) (fun o' x' hx' => by rw [hKn] at hx'; cases hx') ⟨_, ty, setRow_heap _ _ _ _ _ _ hg, ?_, hKn⟩
              exact splice_rep off hr hl
            cases dep with
            | zero =>
              dsimp only
              rw [forceL_eq]
              refine hfin haddr hg (by omega) (shape_setAt hob rfl) (hput _ ?_)
              simpa using hcells
            | succ dep =>
              dsimp only
              cases htl : D.toIs v.cells with
              | none => trivial
              | some l =>
                dsimp only
                rw [forceL_eq]
                exact hfin haddr hg (by omega) (shape_setAt hob rfl) (hput _ (repDL_map_i (rep_toIs hcells htl)))
        | arr ty es n xs wr =>
          cases wr with
          | false => trivial
          | true =>
            dsimp only
            cases htl : D.toIs v.cells with
            | none => trivial
            | some l =>
              dsimp only
              have hlr := rep_toIs hcells htl
              have hll : l.length = i.size := by have := hlr.length; simpa [hvs] using this.symm
              have hidx := inv_arr hp hsh0
              obtain ⟨hin, haddr⟩ := hidx
              obtain ⟨hel, hn, hcap, hmx, hrest⟩ := hown
              rcases hrest with ⟨h0, _⟩ | ⟨hbase, cur, hg, hcs, hr, hKn, _, _⟩
              · omega
              · have hbk : backed (ρ dep nm) (.arr ty es n xs true) := by show _ ≠ none; rw [hbase]; simp
                obtain ⟨d, hd'⟩ : ∃ d, xs[xi]? = some d := ⟨xs[xi], by rw [List.getElem?_eq_getElem]⟩
                have hdl : d.length = es := hel d (List.mem_of_getElem? hd')
                have hput : ∀ off', off' = off → off' + i.size ≤ es → SndM P E K ρ s.S a w o none (.mod { s with S := setAt s.S dep nm (.arr ty es n (xs.set xi (spliceI d off' l)) true) }) := by
                  intro off' he hle
                  subst he
                  have hmul : (xi + 1) * es ≤ n * es := Nat.mul_le_mul_right _ hin
                  have hmul2 : n * es ≤ (ρ dep nm).cap * es := Nat.mul_le_mul_right _ hcap
                  rw [Nat.add_mul] at hmul
                  have hvl' : (a.eval y).cells.toList.length = i.size := by simpa using hvs
                  refine hfin haddr hg (by omega) (shape_setAt hob rfl) ?_
                  refine h.h.put hob rfl hbk hbk (by simp) (fun b hb => setRow_other _ _ _ _ hb) (setRow_rest _ _ _) (fun o' x' hx' => by rw [hKn rfl] at hx'; cases hx') ?_
                  refine ⟨?_, by simpa using hn, hcap, hmx, .inr ⟨hbase, _, setRow_heap _ _ _ _ _ _ hg, ?_, ?_, hKn, fun o _ => hKn rfl o, fun e => by cases e⟩⟩
                  · intro d2 hd2
                    rcases List.mem_or_eq_of_mem_set hd2 with h2 | h2
                    · exact hel d2 h2
                    · subst h2
                      simp [spliceI]
                      omega
                  · simp; omega
                  · rw [flat_set xs xi hel hd' (by omega)]
                    have := splice_repI (xi * es + off') hr hlr
                    refine cast ?_ this
                    congr 1
                    rw [hvl']
                    apply List.ext_getElem?
                    intro k
                    simp only [List.getElem?_append, List.getElem?_take, List.getElem?_drop, List.length_append, List.length_take, List.length_drop, hvl', Array.length_toList, List.size_toArray]
                    have e1 : min (xi * es + off') cur.size = xi * es + off' := by omega
                    have e2 : min (n * es) cur.size = n * es := by omega
                    have e3 : min (xi * es + off') (n * es) = xi * es + off' := by omega
                    simp only [e1, e2, e3]
                    by_cases hk1 : k < xi * es + off'
                    · simp [hk1, show k < xi * es + off' + i.size by omega, show k < n * es by omega]
                    · by_cases hk2 : k < xi * es + off' + i.size
                      · simp [hk1, hk2, show k < n * es by omega]
                      · by_cases hk3 : k < n * es
                        · simp [hk1, hk2, hk3, show xi * es + off' + i.size + (k - (xi * es + off' + i.size)) = k by omega]
                        · simp [hk1, hk2, hk3, show ¬ (xi * es + off' + i.size + (k - (xi * es + off' + i.size)) < n * es) by omega]
                cases hw0 : Nat.beq off 0 && Nat.beq i.size es with
                | true =>
                  simp only [Bool.and_eq_true] at hw0
                  have h0 := Nat.eq_of_beq_eq_true hw0.1
                  have h1 := Nat.eq_of_beq_eq_true hw0.2
                  have := hput 0 h0.symm (by omega)
                  have e : spliceI d 0 l = l := by simp [spliceI]; omega
                  rw [e] at this
                  exact this
                | false =>
                  intro d2 hd2
                  rw [hd'] at hd2
                  simp only [Option.some.injEq] at hd2
                  subst hd2
                  dsimp only
                  by_cases hfb : Nat.ble (off + i.size) d.length = true
                  · rw [hfb]
                    have := Nat.le_of_ble_eq_true hfb
                    exact hput off rfl (by omega)
                  · rw [Bool.not_eq_true] at hfb
                    rw [hfb]
                    trivial
      · trivial
end
end Go.AI

/- append. -/
namespace Go.AI
section
variable {P : Program} {T : TT} {E : Env} {K : Kn} {ρ : Nat → Nat → Loc} {S : List Heap} {w : World}

/-- What a slice shows in a world. -/
structure Now (K : Kn) (w : World) (v : Value) (es m : Nat) (ys : List (List I)) : Prop where
  len : ys.length = m
  el : ∀ d ∈ ys, d.length = es
  at' : ∃ p cap, v = .slice p m cap ∧ ((m = 0 ∧ p = none ∧ cap = 0) ∨ ∃ (ad : Addr) (cs : List Value), p = some ad ∧ RepL K cs ys.flatten ∧ ∀ j c, cs[j]? = some c → w.cell? (ad.add j) = some c)

theorem own_row {l : Loc} {ty es n : Nat} {xs : List (List I)} {wr : Bool} {sh : Nat → Nat → Option Sh} (h : OwnAt K ρ sh w l (.arr ty es n xs wr)) :
    ∃ cs, RepL K cs xs.flatten ∧ w.ownsRow 0 ty es (.slice l.base n l.cap) n cs := by
  obtain ⟨h1, h2, h3, h4, h5⟩ := h
  rcases h5 with ⟨h5, h6⟩ | ⟨h5, c, h6, h7, h8, _⟩
  · have hn : n = 0 := by omega
    subst hn
    have hx : xs = [] := List.eq_nil_of_length_eq_zero h2
    subst hx
    refine ⟨[], .nil, ?_⟩
    rw [h5, h6]
    exact World.ownsRow_nil w 0 ty es
  · refine ⟨c.toList.take (n * es), h8, ?_, .inr ⟨l.block, l.cap, c, by rw [h5], Nat.zero_le _, h6, h3, h4, h7, rfl⟩⟩
    have := h8.length
    rw [this, flat_len xs h1, h2]

/-- What becomes of memory by an append. -/
structure Apnd (K : Kn) (w w' : World) (l l' : Loc) : Prop where
  size : w.heap.size ≤ w'.heap.size
  old : ∀ b, b < w.heap.size → (l.base ≠ none → b ≠ l.block) → w'.heap[b]? = w.heap[b]?
  rest : w'.tape = w.tape ∧ w'.os = w.os ∧ w'.output = w.output
  blk : l'.base ≠ none → w.heap.size ≤ l'.block ∨ (l.base ≠ none ∧ l'.block = l.block)

theorem app_fresh {l : Loc} {ty es n m : Nat} {xs ys : List (List I)} {sh sh' : Nat → Nat → Option Sh} {ρ' : Nat → Nat → Loc} {i : TI} (hok : TIok P ty i) (hes : i.size = es) {olds news : List Value} (hrx : RepL K olds xs.flatten) (hry : RepL K news ys.flatten)
    (hex : ∀ d ∈ xs, d.length = es) (hey : ∀ d ∈ ys, d.length = es) (hn : xs.length = n) (hm : ys.length = m) {cap : Nat} (hcap : n + m ≤ cap) (hmx : cap ≤ maxLen) {z : Array Value} (hz : z.size = es)
    (hfresh : ∀ o, K w.heap.size o = none) {w1 : World} (hw1 : w1.heap = w.heap ∧ w1.tape = w.tape ∧ w1.os = w.os ∧ w1.output = w.output) :
    OwnAt K ρ' sh' (w1.alloc (.cells (olds.toArray ++ news.toArray ++ Builtin.zeroCells z (cap - (n + m))) ty)) ⟨w.heap.size, cap, some ⟨w.heap.size, 0, none⟩⟩ (.arr ty es (n + m) (xs ++ ys) true) ∧
      Apnd K w (w1.alloc (.cells (olds.toArray ++ news.toArray ++ Builtin.zeroCells z (cap - (n + m))) ty)) l ⟨w.heap.size, cap, some ⟨w.heap.size, 0, none⟩⟩ := by
  obtain ⟨a1, a2, a3, a4⟩ := hw1
  have hlx : olds.length = n * es := by rw [hrx.length, flat_len xs hex, hn]
  have hly : news.length = m * es := by rw [hry.length, flat_len ys hey, hm]
  refine ⟨⟨?_, by simp [hn, hm], hcap, hmx, .inr ⟨rfl, (olds.toArray ++ news.toArray ++ Builtin.zeroCells z (cap - (n + m))), ?_, ?_, ?_, fun _ o => hfresh o, fun o _ => hfresh o, fun h => by cases h⟩⟩, ?_⟩
  · intro d hd
    rcases List.mem_append.1 hd with h | h
    · exact hex d h
    · exact hey d h
  · have := heap_alloc_new w1 (.cells (olds.toArray ++ news.toArray ++ Builtin.zeroCells z (cap - (n + m))) ty)
    rw [a1] at this
    exact this
  · simp only [Array.size_append, List.size_toArray, size_zeroCells, hz, hlx, hly, ← Nat.add_mul]
    congr 1
    omega
  · simp only [Array.toList_append, List.flatten_append]
    have : (n + m) * es = (olds ++ news).length := by rw [List.length_append, hlx, hly, Nat.add_mul]
    rw [this, List.take_left]
    exact hrx.append hry
  · refine ⟨by simp [World.size_alloc, a1], fun b hb _ => ?_, ⟨a2, a3, a4⟩, fun _ => .inl (Nat.le_refl _)⟩
    have := heap_alloc_old w1 (.cells (olds.toArray ++ news.toArray ++ Builtin.zeroCells z (cap - (n + m))) ty) b (by rw [a1]; exact hb)
    rw [this, a1]

theorem app_run {t : Nat} {i : TI} {l : Loc} {ty n m : Nat} {xs ys : List (List I)} {sh : Nat → Nat → Option Sh} (hu : P.underlying t = some (.slice ty)) (hok : TIok P ty i) (h : OwnAt K ρ sh w l (.arr ty i.size n xs true))
    {v : Value} (hy : Now K w v i.size m ys) (hb : (n + m) * i.bytes ≤ 140737488355328) (h63 : n + m ≤ 9223372036854775807) (rty : TypeId) (hfresh : ∀ o, K w.heap.size o = none) :
    ∃ l' w', (Builtin.append_ #[t, t] rty #[.slice l.base n l.cap, v]).run P w = .ok (.slice l'.base (n + m) l'.cap) w' ∧
      (∀ (ρ' : Nat → Nat → Loc) (sh' : Nat → Nat → Option Sh), OwnAt K ρ' sh' w' l' (.arr ty i.size (n + m) (xs ++ ys) true)) ∧ Apnd K w w' l l' := by
  obtain ⟨inf, hi1, hi2, hi3, z, hi4, hi5, -⟩ := hok.info
  have hzs : z.cells.size = i.size := by rw [← Array.length_toList, hi5, hok.len]
  obtain ⟨olds, hrx, hrow⟩ := own_row h
  obtain ⟨hym, hyel, p, cap, rfl, hyat⟩ := hy
  have h' := h
  obtain ⟨h1, h2, h3, h4, h5⟩ := h'
  have hlx : olds.length = n * i.size := by rw [hrx.length, flat_len xs h1, h2]
  have sameR : ∀ v', v' = Value.slice l.base n l.cap → (Builtin.append_ #[t, t] rty #[.slice l.base n l.cap, .slice p m cap]).run P w = .ok v' w → m = 0 →
      ∃ l' w', (Builtin.append_ #[t, t] rty #[.slice l.base n l.cap, .slice p m cap]).run P w = .ok (.slice l'.base (n + m) l'.cap) w' ∧
        (∀ (ρ' : Nat → Nat → Loc) (sh' : Nat → Nat → Option Sh), OwnAt K ρ' sh' w' l' (.arr ty i.size (n + m) (xs ++ ys) true)) ∧ Apnd K w w' l l' := by
    intro v' hv' hrun hm0
    subst hv'
    subst hm0
    have hys : ys = [] := List.eq_nil_of_length_eq_zero hym
    subst hys
    refine ⟨l, w, by simpa using hrun, fun ρ' sh' => by simpa using (show OwnAt K ρ' sh' w l (.arr ty i.size n xs true) from h), ⟨Nat.le_refl _, fun _ _ _ => rfl, ⟨rfl, rfl, rfl⟩, fun hb => .inr ⟨hb, rfl⟩⟩⟩
  rcases hyat with ⟨rfl, rfl, rfl⟩ | ⟨ad, news, rfl, hry, hadd⟩
  · exact sameR _ rfl (run_append_owned_none w 0 t rty ty inf i.size hu hi1 _ n olds hrow) rfl
  · have hly : news.length = m * i.size := by rw [hry.length, flat_len ys hyel, hym]
    have hgm : ∀ old, grownCap w (n + m) old ty ≤ maxLen := fun old => grownCap_le_maxLen w (n + m) old ty (by simp only [maxLen]; omega)
    have hgg : ∀ old, n + m ≤ grownCap w (n + m) old ty := fun old => grownCap_ge w (n + m) old ty
    rcases h5 with ⟨h5, h6⟩ | ⟨h5, c, h6, h7, h8, h9, _⟩
    · have hn : n = 0 := by omega
      subst hn
      have hx : xs = [] := List.eq_nil_of_length_eq_zero h2
      subst hx
      by_cases hm0 : m = 0
      · subst hm0
        have hnews : news = [] := List.eq_nil_of_length_eq_zero (by simpa using hly)
        subst hnews
        refine sameR (.slice none 0 0) (by rw [h5, h6]) ?_ rfl
        rw [h5, h6]
        simp [Builtin.append_, run_underlying hu, Go.sizeOf, typeInfo, hi1, Builtin.lenOf, Builtin.firstCells, loadCells, loadCellsFrom]
      · have hr := run_append_nil (P := P) w t rty ty inf z hu hi1 hi4 ad m cap news (by rw [hi2]; exact hly) hadd (by omega) (by omega) (by rw [hi3]; simp only [Nat.zero_add] at hb; omega)
        have hg := hgg 0
        have hgm0 := hgm 0
        simp only [Nat.zero_add] at hg hgm0
        have hf := fun (ρ' : Nat → Nat → Loc) (sh' : Nat → Nat → Option Sh) => app_fresh (K := K) (w := w) (l := l) (xs := []) (ys := ys) (n := 0) (m := m) (ρ' := ρ') (sh' := sh') (sh := sh') hok rfl .nil hry (by simp) hyel rfl hym (by simpa using hg) hgm0 hzs hfresh (w1 := w.drew) ⟨rfl, rfl, rfl, rfl⟩
        refine ⟨⟨w.heap.size, _, some ⟨w.heap.size, 0, none⟩⟩, _, ?_, fun ρ' sh' => (hf ρ' sh').1, (hf ρ sh).2⟩
        rw [h5, h6, hr]
        simp
    · by_cases hroom : n + m ≤ l.cap
      · have hfit : n * inf.size + news.length ≤ c.size := by rw [hi2, hly, h7, ← Nat.add_mul]; exact Nat.mul_le_mul_right _ hroom
        have hr := run_append_room (P := P) w t rty ty inf hu hi1 l.block n l.cap c h6 ad m cap news (by rw [hi2]; exact hly) hadd hry.one hroom hfit
        rw [hi2] at hr hfit
        refine ⟨l, _, by rw [h5]; exact hr, fun ρ' sh' => ⟨?_, by simp [h2, hym], hroom, h4, .inr ⟨h5, (c.toList.take (n * i.size) ++ news ++ c.toList.drop (n * i.size + news.length)).toArray, setRow_heap _ _ _ _ _ _ h6, ?_, ?_, h9, fun o _ => h9 rfl o, fun e => by cases e⟩⟩, ⟨by simp, fun b' hb' hne => ?_, ⟨rfl, rfl, rfl⟩, fun hbn => .inr ⟨hbn, rfl⟩⟩⟩
        · intro d hd
          rcases List.mem_append.1 hd with h | h
          · exact h1 d h
          · exact hyel d h
        · simp only [List.size_toArray, List.length_append, List.length_take, List.length_drop, Array.length_toList]
          omega
        · rw [List.flatten_append]
          have e : (n + m) * i.size = (c.toList.take (n * i.size) ++ news).length := by
            rw [List.length_append, hly, Nat.add_mul, List.length_take, Array.length_toList]
            omega
          rw [e]
          simp only
          rw [List.take_left]
          exact h8.append hry
        · exact setRow_other _ _ _ _ (hne (by rw [h5]; simp))
      · have holds : ∀ j u, olds[j]? = some u → w.cell? ((⟨l.block, 0, none⟩ : Addr).add j) = some u := by
          have := hrow.cells (g := l.block) (by rw [h5]; rfl)
          exact this
        have hr := run_append_grow (P := P) w t rty ty inf z hu hi1 hi4 ⟨l.block, 0, none⟩ n l.cap olds (by rw [hi2]; exact hlx) holds ad m cap news (by rw [hi2]; exact hly) hadd (by omega) (by omega) (by rw [hi3]; exact growslice_fits (by omega) hb)
        have hf := fun (ρ' : Nat → Nat → Loc) (sh' : Nat → Nat → Option Sh) => app_fresh (K := K) (w := w) (l := l) (xs := xs) (ys := ys) (n := n) (m := m) (ρ' := ρ') (sh' := sh') (sh := sh') hok rfl hrx hry h1 hyel h2 hym (hgg l.cap) (hgm l.cap) hzs hfresh (w1 := w.drew) ⟨rfl, rfl, rfl, rfl⟩
        refine ⟨⟨w.heap.size, _, some ⟨w.heap.size, 0, none⟩⟩, _, ?_, fun ρ' sh' => (hf ρ' sh').1, (hf ρ sh).2⟩
        rw [h5, hr]
end
end Go.AI

/- append (2). -/
namespace Go.AI
theorem beq_of_eq {a b : Nat} (h : a = b) : Nat.beq a b = true := by subst h; simp
theorem beq_of_ne {a b : Nat} (h : a ≠ b) : Nat.beq a b = false := by
  cases hb : Nat.beq a b
  · rfl
  · exact absurd (Nat.eq_of_beq_eq_true hb) h
theorem look_killH (m : Nat) : ∀ (H : Heap) (n : Nat), look (killH m H) n = if n = m then none else (look H n).map (Ob.kill m)
  | [], n => by simp [killH, look]
  | (t, o) :: r, n => by
    have ih := look_killH m r n
    simp only [killH]
    by_cases ht : t = m
    · rw [beq_of_eq ht, cond_true, ih, look_cons]
      subst ht
      by_cases hn : n = t
      · simp [hn]
      · simp [hn, Ne.symm hn]
    · rw [beq_of_ne ht, cond_false, look_cons, look_cons, ih]
      by_cases hn : t = n
      · subst hn; simp [ht]
      · simp [hn]
theorem look_killσ (m : Nat) : ∀ (σ : List (Nat × D)) (t : Nat), look (killσ m σ) t = (look σ t).map (D.kill m)
  | [], t => by simp [killσ, look]
  | (k, d) :: r, t => by
    simp only [killσ, look_cons, look_killσ m r t]
    split <;> simp
section
variable {P : Program} {T : TT} {E : Env} {K : Kn} {ρ ρ' : Nat → Nat → Loc} {S : List Heap} {w : World} {sh sh' : Nat → Nat → Option Sh} {m : Nat}

/-- What stays but for one object of the own frame. -/
def But (m : Nat) (ρ ρ' : Nat → Nat → Loc) (sh sh' : Nat → Nat → Option Sh) : Prop := ∀ dep n x, (dep ≠ 0 ∨ n ≠ m) → sh dep n = some x → sh' dep n = some x ∧ ρ' dep n = ρ dep n

mutual
theorem RepD.kill (h : But m ρ ρ' sh sh') : ∀ {v : Value} {d : D}, RepD K ρ sh v d → RepD K ρ' sh' v (d.kill m)
  | _, _, .dead x => .dead x
  | _, _, .i r => .i r
  | _, _, .agg r => .agg (RepDL.kill h r)
  | _, _, .tup r => .tup (RepDL.kill h r)
  | _, _, .box (dep := dep) (nm := nm) e => by
    cases dep with
    | zero =>
      simp only [D.kill]
      by_cases hn : nm = m
      · rw [beq_of_eq hn]; exact .dead _
      · rw [beq_of_ne hn]
        obtain ⟨h1, h2⟩ := h _ _ _ (.inr hn) e
        rw [← h2]; exact .box h1
    | succ dep =>
      obtain ⟨h1, h2⟩ := h _ _ _ (.inl (by omega)) e
      rw [← h2]; exact .box h1
  | _, _, .arr (dep := dep) (nm := nm) e l => by
    cases dep with
    | zero =>
      simp only [D.kill]
      by_cases hn : nm = m
      · rw [beq_of_eq hn]; exact .dead _
      · rw [beq_of_ne hn]
        obtain ⟨h1, h2⟩ := h _ _ _ (.inr hn) e
        rw [← h2]; exact .arr h1 l
    | succ dep =>
      obtain ⟨h1, h2⟩ := h _ _ _ (.inl (by omega)) e
      rw [← h2]; exact .arr h1 l
  | _, _, .osl (dep := dep) (nm := nm) e => by
    cases dep with
    | zero =>
      simp only [D.kill]
      by_cases hn : nm = m
      · rw [beq_of_eq hn]; exact .dead _
      · rw [beq_of_ne hn]
        obtain ⟨h1, h2⟩ := h _ _ _ (.inr hn) e
        rw [← h2]; exact .osl h1
    | succ dep =>
      obtain ⟨h1, h2⟩ := h _ _ _ (.inl (by omega)) e
      rw [← h2]; exact .osl h1
  | _, _, .omp (dep := dep) (nm := nm) e => by
    cases dep with
    | zero =>
      simp only [D.kill]
      by_cases hn : nm = m
      · rw [beq_of_eq hn]; exact .dead _
      · rw [beq_of_ne hn]
        obtain ⟨h1, h2⟩ := h _ _ _ (.inr hn) e
        rw [← h2]; exact .omp h1
    | succ dep =>
      obtain ⟨h1, h2⟩ := h _ _ _ (.inl (by omega)) e
      rw [← h2]; exact .omp h1
  | _, _, .xsl r e k l => .xsl r e k l
  | _, _, .xnil => .xnil
  | _, _, .bt => .bt
  | _, _, .bf => .bf
  | _, _, .fn r s => .fn (RepDL.kill h r) (RepDL.kill h s)
theorem RepDL.kill (h : But m ρ ρ' sh sh') : ∀ {v : List Value} {d : List D}, RepDL K ρ sh v d → RepDL K ρ' sh' v (D.kills m d)
  | _, _, .nil => .nil
  | _, _, .cons r rs => .cons (RepD.kill h r) (RepDL.kill h rs)
end

theorem Ob.kill_sh (m : Nat) (o : Ob) : (o.kill m).sh = o.sh := by cases o <;> rfl
theorem backed_kill (m : Nat) (l : Loc) (o : Ob) : backed l (o.kill m) ↔ backed l o := by cases o <;> rfl

theorem OwnAt.kill {w' : World} {l : Loc} {ob : Ob} (h : OwnAt K ρ sh w l ob) (hb : But m ρ ρ' sh sh') (hw : backed l ob → w'.heap[l.block]? = w.heap[l.block]?) : OwnAt K ρ' sh' w' l (ob.kill m) := by
  cases ob with
  | mp kk m =>
    obtain ⟨⟨es, ck, h1, h2⟩, h3⟩ := h
    exact ⟨⟨es, ck, by rw [hw trivial]; exact h1, h2⟩, h3⟩
  | box cs =>
    obtain ⟨c, T, h1, h2, h3⟩ := h
    exact ⟨c, T, by rw [hw trivial]; exact h1, h2.kill hb, h3⟩
  | arr ty es n xs wr =>
    obtain ⟨h1, h2, h2', h2'', h3⟩ := h
    refine ⟨h1, h2, h2', h2'', ?_⟩
    rcases h3 with h3 | ⟨h4, c, h5, h6⟩
    · exact .inl h3
    · exact .inr ⟨h4, c, by rw [hw (by show _ ≠ none; rw [h4]; simp)]; exact h5, h6⟩

/-- An object of the own frame gone, another one come. -/
theorem HInv.renew {w' : World} {H : Heap} {O : List Heap} {nm dst : Nat} {ob ob' : Ob} {l' : Loc} (h : HInv E K ρ (H :: O) w) (ho : look H nm = some ob) (hd : look (killH nm H) dst = none)
    (hap : Apnd K w w' (ρ 0 nm) l') (hbo : backed (ρ 0 nm) ob ↔ (ρ 0 nm).base ≠ none) (hbo' : backed l' ob' ↔ l'.base ≠ none) (hKo : backed (ρ 0 nm) ob → ∀ o, K (ρ 0 nm).block o = none)
    (hown : ∀ (ρ' : Nat → Nat → Loc) (sh' : Nat → Nat → Option Sh), OwnAt K ρ' sh' w' l' ob') :
    HInv E K (upd ρ dst l') (((dst, ob') :: killH nm H) :: O) w' ∧ But nm ρ (upd ρ dst l') (shape (H :: O)) (shape (((dst, ob') :: killH nm H) :: O)) := by
  have hobj : ∀ d n, objAt (((dst, ob') :: killH nm H) :: O) d n = if d = 0 then (if dst = n then some ob' else if n = nm then none else (look H n).map (Ob.kill nm)) else objAt (H :: O) d n := by
    intro d n
    cases d with
    | zero => simp only [objAt, List.getElem?_cons_zero, look_cons, look_killH, if_true]
    | succ d => simp [objAt]
  have hdst : dst = nm ∨ look H dst = none := by
    rw [look_killH] at hd
    by_cases hdn : dst = nm
    · exact .inl hdn
    · rw [if_neg hdn] at hd
      exact .inr (by simpa using hd)
  have hbut : But nm ρ (upd ρ dst l') (shape (H :: O)) (shape (((dst, ob') :: killH nm H) :: O)) := by
    intro d n x hdn hx
    by_cases hd0 : d = 0
    · subst hd0
      have hn : n ≠ nm := by rcases hdn with h | h <;> first | exact absurd rfl h | exact h
      have hne : dst ≠ n := by
        intro e
        subst e
        rcases hdst with h | h
        · exact hn h
        · simp [shape, objAt, h] at hx
      refine ⟨?_, upd_other _ _ _ (.inr fun e => hne e.symm)⟩
      unfold shape at *
      rw [hobj]
      simp only [if_true, if_neg hne, if_neg hn]
      simp only [objAt, List.getElem?_cons_zero] at hx
      cases hl : look H n with
      | none => simp [hl] at hx
      | some o => simpa [hl, Ob.kill_sh] using hx
    · refine ⟨?_, upd_other _ _ _ (.inl hd0)⟩
      unfold shape at *
      rw [hobj, if_neg hd0]
      exact hx
  have hcase : ∀ d n o, objAt (((dst, ob') :: killH nm H) :: O) d n = some o →
      (d = 0 ∧ n = dst ∧ o = ob') ∨ ∃ o0, objAt (H :: O) d n = some o0 ∧ ¬ (d = 0 ∧ n = nm) ∧ ¬ (d = 0 ∧ n = dst) ∧ ((d = 0 ∧ o = o0.kill nm) ∨ (d ≠ 0 ∧ o = o0)) := by
    intro d n o he
    rw [hobj] at he
    by_cases hd0 : d = 0
    · subst hd0
      rw [if_pos rfl] at he
      by_cases hn : dst = n
      · rw [if_pos hn] at he
        exact .inl ⟨rfl, hn.symm, by simpa using he.symm⟩
      · rw [if_neg hn] at he
        by_cases hn2 : n = nm
        · rw [if_pos hn2] at he; cases he
        · rw [if_neg hn2] at he
          cases hl : look H n with
          | none => simp [hl] at he
          | some o0 =>
            refine .inr ⟨o0, by simpa [objAt] using hl, fun e => hn2 e.2, fun e => hn e.2.symm, .inl ⟨rfl, ?_⟩⟩
            simpa [hl] using he.symm
    · rw [if_neg hd0] at he
      exact .inr ⟨o, he, fun e => hd0 e.1, fun e => hd0 e.1, .inr ⟨hd0, rfl⟩⟩
  have hbk : ∀ {d : Nat} {o o0 : Ob} {l : Loc}, ((d = 0 ∧ o = o0.kill nm) ∨ (d ≠ 0 ∧ o = o0)) → (backed l o ↔ backed l o0) := by
    intro d o o0 l hh
    rcases hh with ⟨_, rfl⟩ | ⟨_, rfl⟩
    · exact backed_kill _ _ _
    · exact Iff.rfl
  have hnmo : objAt (H :: O) 0 nm = some ob := by simpa [objAt] using ho
  have hold : ∀ {d n : Nat} {o0 : Ob}, objAt (H :: O) d n = some o0 → ¬ (d = 0 ∧ n = nm) → backed (ρ d n) o0 → w'.heap[(ρ d n).block]? = w.heap[(ρ d n).block]? := by
    intro d n o0 h1 h2 h3
    refine hap.old _ ((h.own _ _ _ h1).lt h3) fun hbn hbe => h2 ?_
    exact h.inj _ _ _ _ _ _ h1 hnmo h3 (hbo.2 hbn) hbe
  refine ⟨⟨?_, ?_, ?_, by have := h.size; have := hap.size; omega, ?_, ?_, ?_, h.Kle, h.Knew, ?_⟩, hbut⟩
  · intro b o x hx
    have h1 := h.holds _ _ _ hx
    have hlt : b < w.heap.size := by
      rcases Nat.lt_or_ge b w.heap.size with h' | h'
      · exact h'
      · rw [h.K_fresh h'] at hx; cases hx
    rw [World.cell?, hap.old b hlt fun hbn hbe => by subst hbe; rw [hKo (hbo.2 hbn)] at hx; cases hx]
    exact h1
  · intro d n o he
    rcases hcase _ _ _ he with ⟨rfl, rfl, rfl⟩ | ⟨o0, h1, h2, h3, h4⟩
    · rw [upd_same]; exact hown _ _
    · have h0 := h.own _ _ _ h1
      have e1 : upd ρ dst l' d n = ρ d n := upd_other _ _ _ (by omega)
      rw [e1]
      rcases h4 with ⟨rfl, rfl⟩ | ⟨hd0, rfl⟩
      · refine h0.kill ?_ (fun hb => hold h1 h2 hb)
        intro d' n' x hx hx'
        rw [shape_drop] at hx' ⊢
        simp only [Nat.zero_add] at hx' ⊢
        exact hbut _ _ _ hx hx'
      · refine h0.stays ⟨K.le_refl, ?_, ?_⟩ (fun hb => hold h1 h2 hb) (fun _ _ => rfl)
        · intro d' n' x hx
          rw [shape_drop] at hx ⊢
          exact (hbut _ _ _ (.inl (by omega)) hx).1
        · intro d' n' x hx
          exact upd_other _ _ _ (.inl (by omega))
  · intro d n o d' n' o' h1 h2 b1 b2 hbe
    rcases hcase _ _ _ h1 with ⟨rfl, rfl, rfl⟩ | ⟨o0, h1', hn1, hd1, hk1⟩ <;> rcases hcase _ _ _ h2 with ⟨rfl, rfl, rfl⟩ | ⟨o0', h2', hn2, hd2, hk2⟩
    · exact ⟨rfl, rfl⟩
    · have e2 : upd ρ n l' d' n' = ρ d' n' := upd_other _ _ _ (by omega)
      rw [e2] at b2 hbe
      rw [upd_same] at b1 hbe
      have b2' := (hbk hk2).1 b2
      have hlt := (h.own _ _ _ h2').lt b2'
      rcases hap.blk (hbo'.1 b1) with h' | ⟨h', h''⟩
      · omega
      · rw [h''] at hbe
        exact absurd (h.inj _ _ _ _ _ _ h2' hnmo b2' (hbo.2 h') hbe.symm) hn2
    · have e1 : upd ρ n' l' d n = ρ d n := upd_other _ _ _ (by omega)
      rw [e1] at b1 hbe
      rw [upd_same] at b2 hbe
      have b1' := (hbk hk1).1 b1
      have hlt := (h.own _ _ _ h1').lt b1'
      rcases hap.blk (hbo'.1 b2) with h' | ⟨h', h''⟩
      · omega
      · rw [h''] at hbe
        exact absurd (h.inj _ _ _ _ _ _ h1' hnmo b1' (hbo.2 h') hbe) hn1
    · have e1 : upd ρ dst l' d n = ρ d n := upd_other _ _ _ (by omega)
      have e2 : upd ρ dst l' d' n' = ρ d' n' := upd_other _ _ _ (by omega)
      rw [e1] at b1 hbe
      rw [e2] at b2 hbe
      exact h.inj _ _ _ _ _ _ h1' h2' ((hbk hk1).1 b1) ((hbk hk2).1 b2) hbe
  · intro b hb hno
    have hsz := h.size
    rw [hap.old b (by have := E.lt b hb; omega) fun hbn hbe => h.loc _ _ hnmo (hbo.2 hbn) (hbe ▸ hb)]
    refine h.old b hb fun d n o h1 hbk' => ?_
    have e : upd ρ dst l' (d + 1) n = ρ (d + 1) n := upd_other _ _ _ (.inl (by omega))
    have := hno d n o (by rw [hobj, if_neg (by omega)]; exact h1) (by rw [e]; exact hbk')
    rwa [e] at this
  · intro n o h1 hbk'
    rcases hcase _ _ _ h1 with ⟨_, rfl, rfl⟩ | ⟨o0, h1', hn1, hd1, hk1⟩
    · rw [upd_same] at hbk' ⊢
      have hsz := h.size
      rcases hap.blk (hbo'.1 hbk') with h' | ⟨h', h''⟩
      · intro hp
        have := E.lt _ hp
        omega
      · rw [h'']; exact h.loc _ _ hnmo (hbo.2 h')
    · have e1 : upd ρ dst l' 0 n = ρ 0 n := upd_other _ _ _ (by omega)
      rw [e1] at hbk' ⊢
      exact h.loc _ _ h1' ((hbk hk1).1 hbk')
  · intro d
    funext n
    rw [upd_other _ _ _ (.inl (by omega)), h.outer]
  · obtain ⟨a1, a2, a3⟩ := hap.rest
    obtain ⟨b1, b2, b3⟩ := h.rest
    exact ⟨a1.trans b1, a2.trans b2, a3.trans b3⟩
end
end Go.AI
