/- The layer of abstract runs, part 3. -/
import Derived.Test.YtbknncolmohdlaaDoorLayerB
import Derived.Laws.MakeOwn
import Derived.Laws.Small
set_option linter.unusedSimpArgs false
set_option linter.unusedVariables false
set_option linter.all false
/- append (3); make; the whole operation. -/
namespace Go.AI
section
variable {P : Program} {T : TT} {E : Env} {K : Kn} {ρ : Nat → Nat → Loc} {S : List Heap} {w : World} {s : St}

theorem tmps_put {a : Act} {dst : Nat} {v : Value} (h : dst < a.tmps.size) (t : Nat) : (a.put (some dst) v).tmps.getD t undef = if dst = t then v else a.tmps.getD t undef := by
  simp only [Act.put, Array.getD_eq_getD_getElem?, Array.getElem?_setIfInBounds]
  split
  · rename_i e
    subst e
    simp [h]
  · rfl

theorem inv_set {a : Act} {w' : World} {K' : Kn} {ρ' : Nat → Nat → Loc} {S' : List Heap} (h : Inv E K ρ s a w) {dst : Nat} (hd : dst < s.n) {v : Value} {d : D} (hh : HInv E K' ρ' S' w')
    (hst : Stays K K' ρ ρ' (shape s.S) (shape S')) (hr : RepD K' ρ' (shape S') v d) : Inv E K' ρ' { σ := (dst, d) :: s.σ, S := S', n := s.n } (a.put (some dst) v) w' := by
  refine ⟨hh, h.defers, by simp [Act.put]; exact h.size, fun t d' e => ?_⟩
  rw [tmps_put (by rw [h.size]; exact hd)]
  simp only [look_cons] at e
  split at e
  · rename_i e'
    simp only [Option.some.injEq] at e
    subst e
    rw [if_pos e']
    exact hr
  · rename_i e'
    rw [if_neg e']
    exact (h.slots _ _ e).stays hst

theorem Stays.refl (K : Kn) (ρ : Nat → Nat → Loc) (sh : Nat → Nat → Option Sh) : Stays K K ρ ρ sh sh := ⟨K.le_refl, fun _ _ _ h => h, fun _ _ _ _ => rfl⟩

/-- Of what a slice shows now, whatever the answer promises. -/
theorem now_of (hw : HInv E K ρ s.S w) {vx : Value} {x : D} (hx : RepD K ρ (shape s.S) vx x) {z : Nat} {k : Nat → List (List I) → Ask} {G : Ask → Prop} (hbad : G .bad)
    (hobj : ∀ dep nm k', (∀ ob, objAt s.S dep nm = some ob → G (k' ob)) → G (objOf s dep nm k')) (h : ∀ m ys, Now K w vx z m ys → G (k m ys)) : G (nowOf s x z k) := by
  unfold nowOf
  split
  · rename_i es n xs
    cases hb : Nat.beq es z with
    | false => exact hbad
    | true =>
      obtain rfl := Nat.eq_of_beq_eq_true hb
      cases hx with
      | i r =>
        cases r with
        | @nil _ ao =>
          cases ao with
          | none => exact h _ _ ⟨rfl, by simp, none, 0, rfl, .inl ⟨rfl, rfl, rfl⟩⟩
          | some ad => exact h _ _ ⟨rfl, by simp, some ad, 0, rfl, .inr ⟨ad, [], rfl, .nil, by simp⟩⟩
        | sl r e k c l => exact h _ _ ⟨l, e, _, _, rfl, .inr ⟨_, _, rfl, r, fun j c hc => by rw [Addr.add_lit]; exact hw.holds _ _ _ (k j c hc)⟩⟩
  · rename_i es n xs
    cases hb : Nat.beq es z with
    | false => exact hbad
    | true =>
      obtain rfl := Nat.eq_of_beq_eq_true hb
      cases hx with
      | @xnil _ ao =>
        cases ao with
        | none => exact h _ _ ⟨rfl, by simp, none, 0, rfl, .inl ⟨rfl, rfl, rfl⟩⟩
        | some ad => exact h _ _ ⟨rfl, by simp, some ad, 0, rfl, .inr ⟨ad, [], rfl, .nil, by simp⟩⟩
      | xsl r e k l => exact h _ _ ⟨l, e, _, _, rfl, .inr ⟨_, _, rfl, r, fun j c hc => by rw [Addr.add_lit]; exact hw.holds _ _ _ (k j c hc)⟩⟩
  · obtain rfl := inv_v hx
    exact h _ _ ⟨rfl, by simp, none, 0, rfl, .inl ⟨rfl, rfl, rfl⟩⟩
  · rename_i dep nm
    refine hobj _ _ _ fun ob ho => ?_
    cases ob with
    | mp => exact hbad
    | box => exact hbad
    | arr ty es n xs wr =>
      dsimp only
      cases hb : Nat.beq es z with
      | false => exact hbad
      | true =>
        obtain rfl := Nat.eq_of_beq_eq_true hb
        have hown := own_at hw ho
        cases hx with
        | omp e' => rw [shape_of dep nm ho] at e'; cases e'
        | osl e' =>
          rw [shape_of dep nm ho] at e'
          simp only [Ob.sh, Option.some.injEq, Sh.arr.injEq] at e'
          obtain ⟨rfl, rfl⟩ := e'
          obtain ⟨h1, h2, h3, h4, h5⟩ := hown
          refine h _ _ ⟨h2, h1, _, _, rfl, ?_⟩
          rcases h5 with ⟨h5, h6⟩ | ⟨h5, c, h6, h7, h8, _⟩
          · exact .inl ⟨by omega, h6, h5⟩
          · refine .inr ⟨_, _, h5, h8, fun j x hx => ?_⟩
            rw [Addr.add_lit]
            rw [List.getElem?_take] at hx
            split at hx
            · rw [cell_of_heap h6]; simpa using hx
            · cases hx
  · exact hbad

theorem objM {a : Act} {o : Oper} {g : Option Nat} (dep nm : Nat) (k : Ob → Ask) (hk : ∀ ob, objAt s.S dep nm = some ob → SndM P E K ρ s.S a w o g (k ob)) : SndM P E K ρ s.S a w o g (objOf s dep nm k) := by
  unfold objOf
  cases dep with
  | zero =>
    dsimp only
    cases ho' : objAt s.S 0 nm with
    | none => trivial
    | some ob => exact hk ob ho'
  | succ d => exact hk

theorem inv_osl {sh : Nat → Nat → Option Sh} {v : Value} {dep nm es len : Nat} (h : RepD K ρ sh v (.osl dep nm)) (e : sh dep nm = some (.arr es len)) : v = .slice (ρ dep nm).base len (ρ dep nm).cap := by
  cases h with
  | omp e' => rw [e] at e'; cases e'
  | osl e' => rw [e] at e'; simp only [Option.some.injEq, Sh.arr.injEq] at e'; obtain ⟨rfl, rfl⟩ := e'; rfl

def goneA (x : D) : Option Nat := match x with
  | .osl 0 nm => some nm
  | _ => none
/-- The append that takes an object of the own frame. -/
theorem snd_append_own (hT : TOk P T) {a : Act} (h : Inv E K ρ s a w) {o : Oper} {t dst : Nat} {x y : Operand} (ho : o.op = .call { callee := .builtin .append, args := #[x, y], argTypes := #[t, t] }) (hd : o.dst = some dst) {dx dy : D}
    (hp : RepD K ρ (shape s.S) (a.eval x) dx) (hv : RepD K ρ (shape s.S) (a.eval y) dy) : SndM P E K ρ s.S a w o (goneA dx) (exAppend T s dst t dx dy) := by
  unfold exAppend
  split
  · rename_i sz by_ e z hi
    have hu : P.underlying t = some (.slice e) := (hT _ _ hi).kind
    cases he : look T e with
    | none => trivial
    | some i =>
      have hok := hT _ _ he
      dsimp only
      refine now_of (G := SndM P E K ρ s.S a w o (goneA dx)) h.h hv trivial (fun dep nm k' hk => objM dep nm k' hk) fun m ys hnow => ?_
      split
      · rename_i nm
        split
        · rename_i ty es n xs hob
          cases hb : Nat.beq ty e && Nat.beq es i.size with
          | false => trivial
          | true =>
            simp only [Bool.and_eq_true] at hb
            obtain rfl := Nat.eq_of_beq_eq_true hb.1
            obtain rfl := Nat.eq_of_beq_eq_true hb.2
            intro hneed
            obtain ⟨hn1, hn2⟩ := hneed
            split
            · rename_i H O hS
              split
              · rename_i hl
                cases hlt : Nat.ble s.n dst with
                | true => trivial
                | false =>
                  have hdn : dst < s.n := by
                    rcases Nat.lt_or_ge dst s.n with h' | h'
                    · exact h'
                    · rw [Nat.ble_eq_true_of_le h'] at hlt; cases hlt
                  have hh := h.h
                  rw [hS] at hh hob
                  have hown := hh.own _ _ _ hob
                  have hnm : look H nm = some (.arr ty i.size n xs true) := by simpa [objAt] using hob
                  have hva : a.eval x = .slice (ρ 0 nm).base n (ρ 0 nm).cap := inv_osl (es := i.size) hp (by rw [hS]; simp [shape, hob, Ob.sh])
                  obtain ⟨l', w', hrun, hown', hap⟩ := app_run hu hok hown hnow hn1 hn2 o.type (fun o => hh.K_fresh (Nat.le_refl _))
                  have hKo : backed (ρ 0 nm) (.arr ty i.size n xs true) → ∀ o, K (ρ 0 nm).block o = none := by
                    intro hbk
                    obtain ⟨_, _, _, _, h5⟩ := hown
                    rcases h5 with ⟨_, h6⟩ | ⟨_, c, _, _, _, h9, _⟩
                    · exact absurd h6 hbk
                    · exact h9 rfl
                  obtain ⟨hI, hbut⟩ := hh.renew (dst := dst) hnm hl hap Iff.rfl (ob' := .arr ty i.size (n + m) (xs ++ ys) true) Iff.rfl hKo hown'
                  refine ⟨.value (.slice l'.base (n + m) l'.cap), w', K, upd ρ dst l', ?_, K.le_refl, fun d n' x h1 e => hbut d n' x (h1.imp id fun h e' => h (by rw [e']; rfl)) (by rw [hS] at e; exact e), .inr ⟨_, rfl, ?_⟩⟩
                  · simp only [execOp, ho, resolve, invoke, builtin, Sem.run_bind, Sem.run_pure, Result.andThen_ok, List.map_toArray, List.map_cons, List.map_nil, hva]
                    rw [hrun]
                    rfl
                  · rw [hd]
                    refine ⟨hI, h.defers, by simp [Act.put]; exact h.size, fun t' d' e' => ?_⟩
                    rw [tmps_put (by rw [h.size]; exact hdn)]
                    simp only [look_cons] at e'
                    split at e'
                    · rename_i e2
                      simp only [Option.some.injEq] at e'
                      subst e'
                      rw [if_pos e2]
                      have hsh : shape (((dst, Ob.arr ty i.size (n + m) (xs ++ ys) true) :: killH nm H) :: O) 0 dst = some (.arr i.size (n + m)) := by simp [shape, objAt, look_cons, Ob.sh]
                      have := RepD.osl (K := K) (ρ := upd ρ dst l') hsh
                      rwa [upd_same] at this
                    · rename_i e2
                      rw [if_neg e2]
                      rw [look_killσ] at e'
                      cases hls : look s.σ t' with
                      | none => simp [hls] at e'
                      | some d0 =>
                        simp only [hls, Option.map_some, Option.some.injEq] at e'
                        subst e'
                        have hr := h.slots _ _ hls
                        rw [hS] at hr
                        exact hr.kill hbut
              · trivial
            · trivial
        · trivial
      · intro _; trivial
      · cases hb : Nat.beq _ i.size with
        | false => trivial
        | true => intro _; trivial
      · trivial
  · trivial

theorem snd_append_new (hT : TOk P T) (hw : HInv E K ρ s.S w) {t dst rty : Nat} {vx vy : Value} {dx dy : D} (hx : RepD K ρ (shape s.S) vx dx) (hy : RepD K ρ (shape s.S) vy dy) :
    SndV P dst K ρ s.S w (Builtin.append_ #[t, t] rty #[vx, vy]) (exAppend T s dst t dx dy) := by
  unfold exAppend
  split
  · rename_i sz by_ e z hi
    have hu : P.underlying t = some (.slice e) := (hT _ _ hi).kind
    cases he : look T e with
    | none => trivial
    | some i =>
      have hok := hT _ _ he
      dsimp only
      refine now_of (G := SndV P dst K ρ s.S w (Builtin.append_ #[t, t] rty #[vx, vy])) hw hy trivial (fun dep nm k' hk => hobj rfl hk) fun m ys hnow => ?_
      have hsh : ∀ n zs, shape (addS s.S [(dst, .arr e i.size n zs true)]) 0 dst = some (.arr i.size n) := by
        intro n zs
        cases s.S with
        | nil => simp [shape, addS, objAt, look_cons, Ob.sh]
        | cons H O => simp [shape, objAt_addS, look_cons, Ob.sh]
      split
      · split
        · cases hb : Nat.beq _ e && Nat.beq _ i.size with
          | false => trivial
          | true =>
            intro _
            split
            · split
              · cases Nat.ble s.n dst <;> trivial
              · trivial
            · trivial
        · trivial
      · obtain rfl := inv_v hx
        intro hneed
        obtain ⟨hn1, hn2⟩ := hneed
        intro hf
        have hf := hf dst (by simp [look_cons])
        have hown0 : OwnAt K ρ (shape s.S) w ⟨0, 0, none⟩ (.arr e i.size 0 [] true) := ⟨by simp, rfl, Nat.le_refl _, by simp, .inl ⟨rfl, rfl⟩⟩
        obtain ⟨l', w', hrun, hown', hap⟩ := app_run hu hok hown0 hnow (by simpa using hn1) (by simpa using hn2) rty (fun o => hw.K_fresh (Nat.le_refl _))
        simp only [Nat.zero_add, List.nil_append] at hrun hown'
        refine ⟨_, K, upd ρ dst l', w', hrun, ?_, ?_⟩
        · refine ⟨K.le_refl, fun _ _ _ h => .inl h, hap.size, fun b hb => hap.old b hb fun h => absurd rfl h, hap.rest, ?_, ?_, ?_, ?_⟩
          · intro dep nm h
            refine upd_other _ _ _ ?_
            rcases h with h | h
            · exact .inl h
            · rw [look_cons] at h
              split at h
              · cases h
              · rename_i hn; exact .inr fun e => hn e.symm
          · intro b o x hx
            have h1 := hw.holds _ _ _ hx
            have hlt : b < w.heap.size := by
              rcases Nat.lt_or_ge b w.heap.size with h' | h'
              · exact h'
              · rw [hw.K_fresh h'] at hx; cases hx
            rw [World.cell?, hap.old b hlt fun h => absurd rfl h]
            exact h1
          · intro nm ob h
            rw [look_cons] at h
            split at h
            · rename_i hn
              subst hn
              simp only [Option.some.injEq] at h
              subst h
              rw [upd_same]
              refine ⟨hown' _ _, fun hb => ?_⟩
              rcases hap.blk hb with h' | ⟨h', _⟩
              · exact h'
              · exact absurd rfl h'
            · simp [look] at h
          · intro nm ob1 nm' ob2 h1 h2 _ _ _
            rw [look_cons] at h1 h2
            split at h1
            · split at h2
              · omega
              · simp [look] at h2
            · simp [look] at h1
        · have := RepD.osl (K := K) (ρ := upd ρ dst l') (hsh m ys)
          rwa [upd_same] at this
      · rename_i es n xs
        cases hb : Nat.beq es i.size with
        | false => trivial
        | true =>
          obtain rfl := Nat.eq_of_beq_eq_true hb
          intro hneed
          obtain ⟨hn1, hn2, hn3⟩ := hneed
          intro hf
          have hf := hf dst (by simp [look_cons])
          obtain ⟨inf, hi1, hi2, hi3, z, hi4, hi5, -⟩ := hok.info
          have hzs : z.cells.size = i.size := by rw [← Array.length_toList, hi5, hok.len]
          obtain ⟨hym, hyel, p, cap, rfl, hyat⟩ := hnow
          rcases hyat with ⟨h0, _, _⟩ | ⟨ad, news, rfl, hry, hadd⟩
          · omega
          · have hly : news.length = m * i.size := by rw [hry.length, flat_len ys hyel, hym]
            have hmain : ∀ olds, RepL K olds xs.flatten → (∀ d ∈ xs, d.length = i.size) → xs.length = n → (∀ c, (Builtin.append_ #[t, t] rty #[vx, .slice (some ad) m cap]).run P w = .ok (.slice (some ⟨w.heap.size, 0, none⟩) (n + m) c)
                (w.drew.alloc (.cells (olds.toArray ++ news.toArray ++ Builtin.zeroCells z.cells (c - (n + m))) e)) → n + m ≤ c → c ≤ maxLen →
                ∃ v K' ρ' w', (Builtin.append_ #[t, t] rty #[vx, .slice (some ad) m cap]).run P w = .ok v w' ∧ Grow K ρ s.S w [(dst, .arr e i.size (n + m) (xs ++ ys) true)] K' ρ' w' ∧ RepD K' ρ' (shape (addS s.S [(dst, .arr e i.size (n + m) (xs ++ ys) true)])) v (.osl 0 dst)) := by
              intro olds hro hel hln c hrun hc1 hc2
              have hlo : olds.length = n * i.size := by rw [hro.length, flat_len xs hel, hln]
              obtain ⟨lc, g, r⟩ := new_arr (dst := dst) (ty := e) (cap := c) (n := n + m) (es := i.size) (xs := xs ++ ys) (cs := olds.toArray ++ news.toArray ++ Builtin.zeroCells z.cells (c - (n + m))) hw hf (.inr rfl)
                (by intro d hd; rcases List.mem_append.1 hd with h | h <;> first | exact hel d h | exact hyel d h) (by simp [hln, hym]) hc1 hc2
                (by simp only [Array.size_append, List.size_toArray, size_zeroCells, hzs, hlo, hly, ← Nat.add_mul]; congr 1; omega)
                (by
                  simp only [Array.toList_append, List.flatten_append]
                  have : (n + m) * i.size = (olds ++ news).length := by rw [List.length_append, hlo, hly, Nat.add_mul]
                  rw [this, List.take_left]
                  exact hro.append hry)
              exact ⟨_, _, _, _, hrun, g, r⟩
            have hgm : ∀ old, grownCap w (n + m) old e ≤ maxLen := fun old => grownCap_le_maxLen w (n + m) old e (by simp only [maxLen]; omega)
            have hgg : ∀ old, n + m ≤ grownCap w (n + m) old e := fun old => grownCap_ge w (n + m) old e
            cases hx with
            | @xnil _ ao =>
              cases ao with
              | some ao =>
                have hr := run_append_grow (P := P) w t rty e inf z hu hi1 hi4 ao 0 0 [] (by simp) (by simp) ad m cap news (by rw [hi2]; exact hly) hadd (by omega) (by omega) (by rw [hi3]; exact growslice_fits (by omega) hn1)
                exact hmain [] .nil (by simp) rfl _ hr (hgg 0) (hgm 0)
              | none =>
              have hr := run_append_nil (P := P) w t rty e inf z hu hi1 hi4 ad m cap news (by rw [hi2]; exact hly) hadd (by omega) (by omega) (by rw [hi3]; simp only [Nat.zero_add] at hn1; omega)
              refine hmain [] .nil (by simp) rfl (grownCap w (0 + m) 0 e) ?_ (hgg 0) (hgm 0)
              simpa using hr
            | xsl r e' k l =>
              rename_i b' o' cs
              have hr := run_append_grow (P := P) w t rty e inf z hu hi1 hi4 ⟨b', o', none⟩ n n cs (by rw [hi2, r.length, flat_len xs e', l]) (by
                intro j u hju
                rw [Addr.add_lit]
                exact hw.holds _ _ _ (k j u hju)) ad m cap news (by rw [hi2]; exact hly) hadd (by omega) (by omega) (by rw [hi3]; exact growslice_fits (by omega) hn1)
              exact hmain cs r e' l _ hr (hgg n) (hgm n)
      · trivial
  · trivial
end
end Go.AI

/- Maps. -/
namespace Go.AI
section
variable {P : Program} {T : TT} {E : Env} {K : Kn} {ρ : Nat → Nat → Loc} {S : List Heap} {w : World} {s : St} {dst : Nat}

theorem isKK_ok {t : Nat} {i : TI} {kk : KK} (hok : TIok P t i) (h : i.k.isKK kk = true) : (kk = .str ∧ P.underlying t = some .string) ∨ ∃ k, kk = .int k ∧ P.underlying t = some (.int k) := by
  have hk := hok.kind
  cases hi : i.k <;> rw [hi] at hk h <;> cases kk <;> simp_all [TK.isKK, TKok]
theorem kk_ok {t : Nat} {i : TI} {kk : KK} (hok : TIok P t i) (h : i.k.kk = some kk) : i.k.isKK kk = true := by
  cases hi : i.k <;> rw [hi] at h <;> simp only [TK.kk, Option.some.injEq, reduceCtorEq] at h <;> subst h <;> simp [TK.isKK]
theorem kok_str {v : Value} (h : KK.ok .str v = true) : ∃ b, v = .string b := by
  cases v <;> simp_all [KK.ok]
theorem kok_int {k : IntKind} {v : Value} (h : KK.ok (.int k) v = true) : ∃ n, v = .int k n := by
  cases v <;> simp_all [KK.ok]
/-- What the model compares of keys. -/
theorem same_ok {t : Nat} {i : TI} {kk : KK} {d : TypeDesc} (hd : P.underlying t = some d) (hok : TIok P t i) (h : i.k.isKK kk = true) {a b : Value} (ha : kk.ok a = true) (hb : kk.ok b = true) : Instr.sameNow d a b = some (keyB a b) := by
  rcases isKK_ok hok h with ⟨rfl, hu⟩ | ⟨k, rfl, hu⟩
  · rw [hu] at hd
    simp only [Option.some.injEq] at hd
    subst hd
    obtain ⟨x, rfl⟩ := kok_str ha
    obtain ⟨y, rfl⟩ := kok_str hb
    rfl
  · rw [hu] at hd
    simp only [Option.some.injEq] at hd
    subst hd
    obtain ⟨x, rfl⟩ := kok_int ha
    obtain ⟨y, rfl⟩ := kok_int hb
    simp [Instr.sameNow, keyB]
def mfindI : List (Value × Value) → Value → Nat → Option (Nat × Value)
  | [], _, _ => none
  | (k', x) :: r, k, i => bif keyB k k' then some (i, x) else mfindI r k (i + 1)
theorem findNow_ok {d : TypeDesc} {key : Value} : ∀ (es : List MapEntry) (i : Nat), (∀ e ∈ es, Instr.sameNow d key e.key = some (keyB key e.key)) → Instr.findNow d key es i = some (mfindI (es.map fun e => (e.key, e.val)) key i)
  | [], i, _ => rfl
  | e :: r, i, h => by
    simp only [Instr.findNow, h e (by simp), List.map_cons, mfindI]
    cases keyB key e.key with
    | true => rfl
    | false => exact findNow_ok r (i + 1) fun e he => h e (by simp [he])
theorem mfindI_look {α : Type} (f : α → Value) : ∀ (es : List (Value × α)) (k : Value) (i : Nat), (mfindI (es.map fun p => (p.1, f p.2)) k i).map (·.2) = (mlook es k).map f
  | [], k, i => rfl
  | (k', x) :: r, k, i => by
    simp only [List.map_cons, mfindI, mlook]
    cases keyB k k' with
    | true => rfl
    | false => exact mfindI_look f r k (i + 1)
theorem run_checkKeyS {t : Nat} {i : TI} {kk : KK} (hok : TIok P t i) (h : i.k.isKK kk = true) {key : Value} (hk : kk.ok key = true) (e : Bool) (n : Nat) (w : World) : (Instr.checkKey e (n + 1) t key).run P w = .ok () w := by
  rcases isKK_ok hok h with ⟨rfl, hu⟩ | ⟨k, rfl, hu⟩
  · obtain ⟨x, rfl⟩ := kok_str hk
    simp [Instr.checkKey, run_underlying hu]
  · obtain ⟨x, rfl⟩ := kok_int hk
    simp [Instr.checkKey, run_underlying hu]
theorem run_checkKey {t : Nat} {i : TI} {kk : KK} (hok : TIok P t i) (h : i.k.isKK kk = true) {key : Value} (hk : kk.ok key = true) (e : Bool) (w : World) : (Instr.checkKey e 10000 t key).run P w = .ok () w := run_checkKeyS hok h hk e 9999 w
theorem und_of {t : Nat} {i : TI} {kk : KK} (hok : TIok P t i) (h : i.k.isKK kk = true) : ∃ d, P.underlying t = some d := by
  rcases isKK_ok hok h with ⟨rfl, hu⟩ | ⟨k, rfl, hu⟩
  · exact ⟨_, hu⟩
  · exact ⟨_, hu⟩
theorem run_findKey {t : Nat} {i : TI} {kk : KK} (hok : TIok P t i) (h : i.k.isKK kk = true) {key : Value} (hk : kk.ok key = true) {es : List MapEntry} {m : List (Value × Value)} (he : es.map (fun e => (e.key, e.val)) = m) (hm : ∀ p ∈ m, kk.ok p.1 = true) (w : World) :
    (Instr.findKey t key es).run P w = .ok (mfindI m key 0) w := by
  obtain ⟨d, hd⟩ := und_of hok h
  have := findNow_ok (d := d) (key := key) es 0 fun e h1 => same_ok hd hok h hk (hm (e.key, e.val) (by rw [← he]; exact List.mem_map.2 ⟨e, h1, rfl⟩))
  simp [Instr.findKey, run_underlying hd, this, he]
theorem zero_of {t : Nat} {i : TI} (hok : TIok P t i) {z : Value} (hz : i.zero = [z]) (ha : i.k.agg = false) (w : World) : (zeroValue t).run P w = .ok z w := by
  obtain ⟨inf, h1, h2, h3, z', h4, h5, h6⟩ := hok.info
  have := h6 ha
  rw [hz] at this
  simp only [List.cons.injEq, and_true] at this
  subst this
  simp [zeroValue, typeInfo, h1, h4]
theorem isFalse_ok {l : List Value} (h : isFalse' l = true) : l = [.bool false] := by
  unfold isFalse' at h
  split at h
  · rfl
  · cases h
theorem isZero_ok {k : IntKind} {l : List Value} (h : isZero' k l = true) : l = [.int k 0] := by
  unfold isZero' at h
  split at h
  · simp only [decide_eq_true_eq] at h; subst h; rfl
  · cases h
theorem inv_omp {sh : Nat → Nat → Option Sh} {v : Value} {dep nm : Nat} (h : RepD K ρ sh v (.osl dep nm)) (e : sh dep nm = some .mp) : v = .map (some (ρ dep nm).block) := by
  cases h with
  | omp => rfl
  | osl e' => rw [e] at e'; cases e'
theorem run_lookup {t kt vt : Nat} {ki vi : TI} {kk : KK} (hu : P.underlying t = some (.map kt vt)) (hk : TIok P kt ki) (hv : TIok P vt vi) (hkk : ki.k.isKK kk = true) {key z : Value} (hkey : kk.ok key = true) (hz : vi.zero = [z]) (ha : vi.k.agg = false)
    {b : Nat} {es : Array MapEntry} {ck : Nat} {m : List (Value × Value)} (hb : w.heap[b]? = some (.map es ck)) (he : es.toList.map (fun e => (e.key, e.val)) = m) (hm : ∀ p ∈ m, kk.ok p.1 = true) (ok : Bool) :
    (Instr.lookup t (.map (some b)) key ok).run P w = .ok (match ok with
      | true => .tuple #[((mfindI m key 0).map (·.2)).getD z, .bool (mfindI m key 0).isSome]
      | false => ((mfindI m key 0).map (·.2)).getD z) w := by
  have hf := run_findKey hk hkk hkey he hm w
  have hc := run_checkKey (P := P) hk hkk hkey es.isEmpty w
  have hzz := zero_of (P := P) hv hz ha w
  have hg : (getObj b).run P w = .ok (.map es ck) w := by simp [getObj, Sem.run, hb]
  simp only [Instr.lookup, Sem.run_bind, run_underlying hu, Result.andThen_ok, hg, Sem.run_pure, hc, hf]
  cases hmf : mfindI m key 0 with
  | some r => cases ok <;> simp
  | none => cases ok <;> simp [hzz]
theorem snd_lookup (hT : TOk P T) (hw : HInv E K ρ s.S w) {t : Nat} {vx vi : Value} {x ix : D} (hx : RepD K ρ (shape s.S) vx x) (hix : RepD K ρ (shape s.S) vi ix) (ok : Bool) :
    SndV P dst K ρ s.S w (Instr.lookup t vx vi ok) (exLookup T s t x ix ok) := by
  unfold exLookup
  split
  · rename_i sz by_ kt vt z hi
    have hu : P.underlying t = some (.map kt vt) := (hT _ _ hi).kind
    split
    · rename_i ki vi' hki hvi
      have hk := hT _ _ hki
      have hv := hT _ _ hvi
      split
      · rename_i dep nm key
        obtain rfl := (inv_v hix).symm
        refine hobj rfl fun ob ho => ?_
        cases ob with
        | box => trivial
        | arr => trivial
        | mp kk m =>
          have hown := own_at hw ho
          obtain rfl := inv_omp hx (shape_of dep nm ho)
          obtain ⟨⟨es, ck, h1, h2, h3⟩, h4⟩ := hown
          cases m with
          | b l =>
            dsimp only
            cases hb : (ki.k.isKK kk && kk.ok key && isFalse' vi'.zero && !vi'.k.agg) with
            | false => trivial
            | true =>
              simp only [Bool.and_eq_true, Bool.not_eq_true'] at hb
              obtain ⟨⟨⟨b1, b2⟩, b3⟩, b4⟩ := hb
              have hr := run_lookup (w := w) hu hk hv b1 b2 (isFalse_ok b3) b4 h1 h2 h3 ok
              have hl := mfindI_look (fun b : Bool => Value.bool b) l key 0
              have hg : ((mfindI (MC.vals (.b l)) key 0).map (·.2)).getD (.bool false) = .bool (mgetB l key) := by
                show ((mfindI (l.map fun p => (p.1, Value.bool p.2)) key 0).map (·.2)).getD _ = _
                rw [hl]
                unfold mgetB
                cases mlook l key <;> rfl
              have hs : (mfindI (MC.vals (.b l)) key 0).isSome = mhas l key := by
                show (mfindI (l.map fun p => (p.1, Value.bool p.2)) key 0).isSome = _
                have := congrArg Option.isSome hl
                simpa [mhas] using this
              rw [hg, hs] at hr
              cases ok with
              | true => exact ⟨_, hr, .tup (.cons (rep_v rfl) (.cons (rep_v rfl) .nil))⟩
              | false => exact ⟨_, hr, rep_v rfl⟩
          | i k l =>
            dsimp only
            cases hb : (ki.k.isKK kk && kk.ok key && isZero' k vi'.zero && !vi'.k.agg) with
            | false => trivial
            | true =>
              simp only [Bool.and_eq_true, Bool.not_eq_true'] at hb
              obtain ⟨⟨⟨b1, b2⟩, b3⟩, b4⟩ := hb
              have hr := run_lookup (w := w) hu hk hv b1 b2 (isZero_ok b3) b4 h1 h2 h3 ok
              have hl := mfindI_look (fun n : Int => Value.int k n) l key 0
              have hg : ((mfindI (MC.vals (.i k l)) key 0).map (·.2)).getD (.int k 0) = .int k (mgetI l key) := by
                show ((mfindI (l.map fun p => (p.1, Value.int k p.2)) key 0).map (·.2)).getD _ = _
                rw [hl]
                unfold mgetI
                cases mlook l key <;> rfl
              have hs : (mfindI (MC.vals (.i k l)) key 0).isSome = mhas l key := by
                show (mfindI (l.map fun p => (p.1, Value.int k p.2)) key 0).isSome = _
                have := congrArg Option.isSome hl
                simpa [mhas] using this
              rw [hg, hs] at hr
              cases ok with
              | true => exact ⟨_, hr, .tup (.cons (rep_v rfl) (.cons (rep_v rfl) .nil))⟩
              | false => exact ⟨_, hr, rep_v rfl⟩
      · trivial
    · trivial
  · trivial
theorem grow_allocO (hw : HInv E K ρ S w) (hf : objAt S 0 dst = none) {ob : Ob} {l : Loc} {oo : Obj} {w' : World} (hw' : w' = w ∨ w' = w.drew) (hl : backed l ob → l.block = w.heap.size)
    (hown : OwnAt K (upd ρ dst l) (shape (addS S [(dst, ob)])) (w'.alloc oo) l ob) : Grow K ρ S w [(dst, ob)] K (upd ρ dst l) (w'.alloc oo) := by
  have hheap : w'.heap = w.heap := by rcases hw' with rfl | rfl <;> rfl
  have hold : ∀ b, b < w.heap.size → (w'.alloc oo).heap[b]? = w.heap[b]? := by
    intro b hb
    have := heap_alloc_old w' oo b (by rw [hheap]; exact hb)
    rw [this, hheap]
  refine ⟨K.le_refl, fun _ _ _ h => .inl h, by simp [World.size_alloc, hheap], hold, ?_, ?_, ?_, ?_, ?_⟩
  · rcases hw' with rfl | rfl <;> exact ⟨rfl, rfl, rfl⟩
  · intro dep nm h
    refine upd_other _ _ _ ?_
    rcases h with h | h
    · exact .inl h
    · rw [look_cons] at h
      split at h
      · cases h
      · rename_i hn; exact .inr fun e => hn e.symm
  · intro b o x hx
    have h1 := hw.holds _ _ _ hx
    have hb : b < w.heap.size := by
      rcases Nat.lt_or_ge b w.heap.size with h | h
      · exact h
      · rw [hw.K_fresh h] at hx; cases hx
    rw [World.cell?, hold b hb]
    exact h1
  · intro nm ob' h
    rw [look_cons] at h
    split at h
    · rename_i hn
      subst hn
      simp only [Option.some.injEq] at h
      subst h
      rw [upd_same]
      exact ⟨hown, fun hb => by rw [hl hb]; exact Nat.le_refl _⟩
    · simp [look] at h
  · intro nm ob1 nm' ob2 h1 h2 _ _ _
    rw [look_cons] at h1 h2
    split at h1
    · split at h2
      · omega
      · simp [look] at h2
    · simp [look] at h1


theorem snd_makeMap (hT : TOk P T) (hw : HInv E K ρ S w) {t : Nat} {vr : Option Value} {r : Option D} (hr : ∀ d, r = some d → ∃ v, vr = some v ∧ RepD K ρ (shape S) v d) (hr' : r = none → vr = none) :
    SndV P dst K ρ S w (Instr.makeMap t vr) (exMakeMap T dst t r) := by
  have main : ∀ {kt vt : Nat} {kk : KK} {m : MC}, P.underlying t = some (.map kt vt) → m.vals = [] → (∀ w, (Instr.makeMap t vr).run P w = .ok (.map (some w.heap.size)) (w.alloc (.map #[] 0))) → SndV P dst K ρ S w (Instr.makeMap t vr) (.new [(dst, .mp kk m)] (.osl 0 dst)) := by
    intro kt vt kk m hu hm hrun hf
    have hf' : objAt S 0 dst = none := hf dst (by simp [look_cons])
    have hg : Grow K ρ S w [(dst, .mp kk m)] K (upd ρ dst ⟨w.heap.size, 0, none⟩) (w.alloc (.map #[] 0)) := by
      refine grow_allocO hw hf' (.inl rfl) (fun _ => rfl) ⟨⟨#[], 0, heap_alloc_new w _, by rw [hm]; rfl, by rw [hm]; simp⟩, fun o => hw.K_fresh (Nat.le_refl _)⟩
    refine ⟨_, K, _, _, hrun w, hg, ?_⟩
    have hsh : shape (addS S [(dst, .mp kk m)]) 0 dst = some .mp := by
      cases S with
      | nil => simp [shape, addS, objAt, look_cons, Ob.sh]
      | cons H O => simp [shape, objAt_addS, look_cons, Ob.sh]
    have := RepD.omp (K := K) (ρ := upd ρ dst ⟨w.heap.size, 0, none⟩) hsh
    rwa [upd_same] at this
  have hm0 : ∀ {i : TI} {m : MC}, i.k.mc = some m → m.vals = [] := by
    intro i m h
    cases hi : i.k <;> rw [hi] at h <;> simp only [TK.mc, Option.some.injEq, reduceCtorEq] at h <;> subst h <;> rfl
  unfold exMakeMap
  split
  · rename_i sz by_ kt vt z hi
    have hu : P.underlying t = some (.map kt vt) := (hT _ _ hi).kind
    split
    · rename_i hki hvi
      split
      · rename_i kk m h1 h2
        rw [hr' rfl] at main ⊢
        exact main hu (hm0 h2) fun w => rfl
      · trivial
    · rename_i hki hvi
      split
      · rename_i kk m h1 h2
        obtain ⟨v, rfl, hv⟩ := hr _ rfl
        obtain rfl := inv_v hv
        exact main hu (hm0 h2) fun w => by simp only [Instr.makeMap, Sem.run_bind, run_underlying hu, Result.andThen_ok, asInt, Sem.run_pure]; rfl
      · trivial
    · trivial
  · trivial

theorem ba_eq (x y : ByteArray) : (x == y) = true ↔ x = y := by
  cases x; cases y
  show ByteArray.beq _ _ = true ↔ _
  simp [ByteArray.beq]
theorem keyB_eq {kk : KK} {a b : Value} (ha : kk.ok a = true) (hb : kk.ok b = true) (h : keyB a b = true) : a = b := by
  cases kk with
  | str =>
    obtain ⟨x, rfl⟩ := kok_str ha
    obtain ⟨y, rfl⟩ := kok_str hb
    simp only [keyB, ba_eq] at h
    rw [h]
  | int k =>
    obtain ⟨x, rfl⟩ := kok_int ha
    obtain ⟨y, rfl⟩ := kok_int hb
    simp only [keyB, beq_iff_eq] at h
    rw [h]
theorem same_bits {kk : KK} {a : Value} (ha : kk.ok a = true) (n : Nat) : Instr.sameBits n a a = true := by
  cases kk with
  | str => obtain ⟨x, rfl⟩ := kok_str ha; simp only [Instr.sameBits, ba_eq]
  | int k => obtain ⟨x, rfl⟩ := kok_int ha; simp [Instr.sameBits]
theorem mfindI_some : ∀ {l : List (Value × Value)} {k : Value} {i j : Nat} {v : Value}, mfindI l k i = some (j, v) → i ≤ j ∧ ∃ k', l[j - i]? = some (k', v) ∧ keyB k k' = true
  | [], k, i, j, v, h => by cases h
  | (k', x) :: r, k, i, j, v, h => by
    simp only [mfindI] at h
    cases hb : keyB k k' with
    | true =>
      rw [hb] at h
      simp only [cond_true, Option.some.injEq, Prod.mk.injEq] at h
      obtain ⟨rfl, rfl⟩ := h
      exact ⟨Nat.le_refl _, k', by simp, hb⟩
    | false =>
      rw [hb] at h
      obtain ⟨h1, k'', h2, h3⟩ := mfindI_some h
      refine ⟨by omega, k'', ?_, h3⟩
      rw [show j - i = (j - (i + 1)) + 1 by omega]
      simpa using h2
theorem mset_some {α : Type} (f : α → Value) {x : α} {k : Value} : ∀ {l : List (Value × α)} {i j : Nat} {v : Value}, mfindI (l.map fun p => (p.1, f p.2)) k i = some (j, v) → (mset l k x).map (fun p => (p.1, f p.2)) = (l.map fun p => (p.1, f p.2)).modify (j - i) fun _ => (k, f x)
  | [], i, j, v, h => by cases h
  | (k', y) :: r, i, j, v, h => by
    simp only [List.map_cons, mfindI] at h
    simp only [mset]
    cases hb : keyB k k' with
    | true =>
      rw [hb] at h
      simp only [cond_true, Option.some.injEq, Prod.mk.injEq] at h
      obtain ⟨rfl, rfl⟩ := h
      simp
    | false =>
      rw [hb] at h
      have h1 := (mfindI_some h).1
      simp only [cond_false, List.map_cons]
      rw [mset_some f h, show j - i = (j - (i + 1)) + 1 by omega]
      simp
theorem mset_none {α : Type} (f : α → Value) {x : α} {k : Value} : ∀ {l : List (Value × α)} {i : Nat}, mfindI (l.map fun p => (p.1, f p.2)) k i = none → (mset l k x).map (fun p => (p.1, f p.2)) = (l.map fun p => (p.1, f p.2)) ++ [(k, f x)]
  | [], i, h => rfl
  | (k', y) :: r, i, h => by
    simp only [List.map_cons, mfindI] at h
    simp only [mset]
    cases hb : keyB k k' with
    | true => rw [hb] at h; cases h
    | false =>
      rw [hb] at h
      simp only [cond_false, List.map_cons, List.cons_append]
      rw [mset_none f h]
theorem run_mapUpdate {t kt vt : Nat} {ki : TI} {kk : KK} (hu : P.underlying t = some (.map kt vt)) (hk : TIok P kt ki) (hkk : ki.k.isKK kk = true) {key val : Value} (hkey : kk.ok key = true)
    {b : Nat} {es : Array MapEntry} {ck : Nat} {m : List (Value × Value)} (hb : w.heap[b]? = some (.map es ck)) (he : es.toList.map (fun e => (e.key, e.val)) = m) (hm : ∀ p ∈ m, kk.ok p.1 = true) :
    ∃ es' ck', (Instr.mapUpdate t (.map (some b)) key val).run P w = .ok () { w with heap := w.heap.setIfInBounds b (.map es' ck') } ∧
      es'.toList.map (fun e => (e.key, e.val)) = match mfindI m key 0 with
        | some (j, _) => m.modify j fun _ => (key, val)
        | none => m ++ [(key, val)] := by
  have hf := run_findKey hk hkk hkey he hm w
  have hc := run_checkKey (P := P) hk hkk hkey false w
  have hg : (getObj b).run P w = .ok (.map es ck) w := by simp [getObj, Sem.run, hb]
  have hs : ∀ o, (setObj b o).run P w = .ok () { w with heap := w.heap.setIfInBounds b o } := fun o => by simp [setObj, Sem.run, hb]
  cases hmf : mfindI m key 0 with
  | none =>
    refine ⟨es.push { key := key, val := val, born := ck }, ck + 1, ?_, by simp [he]⟩
    simp only [Instr.mapUpdate, Sem.run_bind, run_underlying hu, Result.andThen_ok, hg, hc, hf, hmf, hs]
  | some r =>
    obtain ⟨j, v⟩ := r
    obtain ⟨-, k', h2, h3⟩ := mfindI_some hmf
    rw [Nat.sub_zero] at h2
    have hk' : kk.ok k' = true := hm _ (List.mem_of_getElem? h2)
    obtain rfl := keyB_eq hkey hk' h3
    rw [← he, List.getElem?_map] at h2
    obtain ⟨e, he1, he2⟩ := Option.map_eq_some_iff.1 h2
    simp only [Prod.mk.injEq] at he2
    obtain ⟨rfl, rfl⟩ := he2
    have hej : es[j]? = some e := by simpa using he1
    refine ⟨es.modify j fun e' => { e' with key := e.key, val := val }, ck, ?_, ?_⟩
    · have hst : (Instr.keyThatStays (((es[j]?).map (·.key)).getD e.key) e.key).run P w = .ok e.key w := by
        rw [hej]
        simp only [Option.map_some, Option.getD_some, Instr.keyThatStays, same_bits hkey, if_true, Sem.run_pure]
      simp only [Instr.mapUpdate, Sem.run_bind, run_underlying hu, Result.andThen_ok, hg, hc, hf, hmf, hst, hs]
    · rw [← he]
      simp only [Array.toList_modify]
      generalize es.toList = l
      clear hej hmf he1 h2
      induction l generalizing j with
      | nil => simp
      | cons a r ih =>
        cases j with
        | zero => simp
        | succ j => simpa using ih j
theorem snd_mapset (hT : TOk P T) {s : St} {a : Act} (h : Inv E K ρ s a w) {o : Oper} {t : Nat} {x y z : Operand} (ho : o.op = .mapUpdate t x y z ∨ o.op = .insert t x y z) (hd : o.dst = none) {dx dy dz : D}
    (hx : RepD K ρ (shape s.S) (a.eval x) dx) (hy : RepD K ρ (shape s.S) (a.eval y) dy) (hz : RepD K ρ (shape s.S) (a.eval z) dz) : SndM P E K ρ s.S a w o none (exMapSet T s t dx dy dz) := by
  unfold exMapSet
  split
  · rename_i sz by_ kt vt zr hi
    have hu : P.underlying t = some (.map kt vt) := (hT _ _ hi).kind
    split
    · rename_i ki hki
      have hk := hT _ _ hki
      split
      · rename_i dep nm key
        have hyv := inv_v hy
        refine objM _ _ _ fun ob hob => ?_
        cases ob with
        | box => trivial
        | arr => trivial
        | mp kk m =>
          have hown := own_at h.h hob
          have hxv := inv_omp hx (shape_of dep nm hob)
          obtain ⟨⟨es, ck, h1, h2, h3⟩, h4⟩ := hown
          have main : ∀ {m' : MC} {val : Value}, a.eval z = val → ki.k.isKK kk = true → kk.ok key = true →
              (m'.vals = match mfindI m.vals key 0 with
                | some (j, _) => m.vals.modify j fun _ => (key, val)
                | none => m.vals ++ [(key, val)]) → SndM P E K ρ s.S a w o none (.mod { s with S := setAt s.S dep nm (.mp kk m') }) := by
            intro m' val hzv b1 b2 hm'
            obtain ⟨es', ck', hrun, hes⟩ := run_mapUpdate (P := P) (w := w) (val := val) hu hk b1 b2 h1 h2 h3
            rw [← hm'] at hes
            have hlt : (ρ dep nm).block < w.heap.size := (Array.getElem?_eq_some_iff.1 h1).1
            have hok : ∀ p ∈ m'.vals, kk.ok p.1 = true := by
              intro p hp
              rw [hm'] at hp
              split at hp
              · rename_i j v hj
                rw [List.mem_iff_getElem?] at hp
                obtain ⟨n, hn⟩ := hp
                rw [List.getElem?_modify] at hn
                split at hn
                · obtain ⟨q, hq1, hq2⟩ := Option.map_eq_some_iff.1 hn
                  rw [← hq2]; exact b2
                · have hn : m.vals[n]? = some p := by simpa using hn
                  exact h3 p (List.mem_of_getElem? hn)
              · rcases List.mem_append.1 hp with hp | hp
                · exact h3 p hp
                · simp only [List.mem_singleton] at hp
                  subst hp; exact b2
            have hI : HInv E K ρ (setAt s.S dep nm (.mp kk m')) { w with heap := w.heap.setIfInBounds (ρ dep nm).block (.map es' ck') } := by
              refine h.h.put hob rfl trivial trivial (by simp) (fun b hb => ?_) ⟨rfl, rfl, rfl⟩ (fun o x hk => ?_) ⟨⟨es', ck', by simp [hlt], hes, hok⟩, h4⟩
              · simp only [Array.getElem?_setIfInBounds]
                rw [if_neg (fun e => hb e.symm)]
              · rw [h4 o] at hk; cases hk
            have hsh : shape (setAt s.S dep nm (.mp kk m')) = shape s.S := shape_setAt hob rfl
            have hI2 := inv_S h hI hsh
            have hput : a.put o.dst undef = a := by rw [hd]; rfl
            rw [← hput] at hI2
            refine ⟨.skip, _, K, ρ, ?_, K.le_refl, fun d n x _ e => ⟨by rw [hsh]; exact e, rfl⟩, .inl ⟨rfl, hI2⟩⟩
            rcases ho with ho | ho <;> simp only [execOp, ho, hxv, hyv, hzv, hrun, Sem.run_bind, Result.andThen_ok, Sem.run_pure]
          cases m with
          | b l =>
            dsimp only
            cases hb : (ki.k.isKK kk && kk.ok key) with
            | false => trivial
            | true =>
              simp only [Bool.and_eq_true] at hb
              simp only [cond_true]
              split
              · rename_i b hbb
                refine main (inv_toB hz hbb) hb.1 hb.2 ?_
                show (mset l key b).map (fun p => (p.1, Value.bool p.2)) = _
                split
                · rename_i j v hj
                  have := mset_some (fun b : Bool => Value.bool b) (x := b) hj
                  rw [Nat.sub_zero] at this
                  exact this
                · rename_i hj
                  exact mset_none (fun b : Bool => Value.bool b) hj
              · trivial
          | i k l =>
            dsimp only
            cases hb : (ki.k.isKK kk && kk.ok key) with
            | false => trivial
            | true =>
              simp only [Bool.and_eq_true] at hb
              simp only [cond_true]
              split
              · rename_i k' n
                cases hkk : decide (k = k') with
                | false => trivial
                | true =>
                  have := of_decide_eq_true hkk
                  subst this
                  refine main (inv_v hz) hb.1 hb.2 ?_
                  show (mset l key n).map (fun p => (p.1, Value.int k p.2)) = _
                  split
                  · rename_i j v hj
                    have := mset_some (fun n : Int => Value.int k n) (x := n) hj
                    rw [Nat.sub_zero] at this
                    exact this
                  · rename_i hj
                    exact mset_none (fun n : Int => Value.int k n) hj
              · trivial
      · trivial
    · trivial
  · trivial
end
end Go.AI

/- The whole operation: what the abstract answer promises of the model's. -/
namespace Go.AI
section
variable {P : Program} {T : TT} {E : Env} {K : Kn} {ρ : Nat → Nat → Loc} {S : List Heap} {w : World} {s : St} {dst : Nat}

/-- What an answer promises of an operation. -/
def SndO (P : Program) (dst : Nat) (K : Kn) (ρ : Nat → Nat → Loc) (S : List Heap) (w : World) (a : Act) (o : Oper) : Ask → Prop
  | .val d => ∃ v, (execOp a.eval o).run P w = .ok (.value v) w ∧ RepD K ρ (shape S) v d
  | .new adds d => (∀ nm, look adds nm ≠ none → objAt S 0 nm = none) → ∃ v K' ρ' w', (execOp a.eval o).run P w = .ok (.value v) w' ∧ Grow K ρ S w adds K' ρ' w' ∧ RepD K' ρ' (shape (addS S adds)) v d
  | .need p k => p → SndO P dst K ρ S w a o k
  | .elem xs i k => ∀ d, xs[i]? = some d → SndO P dst K ρ S w a o (k d)
  | .obj dep nm k => ∀ ob, objAt S dep nm = some ob → SndO P dst K ρ S w a o (k ob)
  | .anyb p => ∃ b, (execOp a.eval o).run P w = .ok (.value (.bool b)) w ∧ p b
  | .alt x y => SndO P dst K ρ S w a o x ∧ SndO P dst K ρ S w a o y
  | .call f args => ∃ vs, (execOp a.eval o).run P w = (callFunc f vs.toArray).run P w ∧ RepDL K ρ (shape S) vs args
  | _ => True

theorem sndO_of {m : Sem Value} {a : Act} {o : Oper} (hrun : ∀ v w', m.run P w = .ok v w' → (execOp a.eval o).run P w = .ok (.value v) w') : ∀ {k : Ask}, SndV P dst K ρ S w m k → SndO P dst K ρ S w a o k
  | .val d, ⟨v, h1, h2⟩ => ⟨v, hrun _ _ h1, h2⟩
  | .new adds d, h => fun hf => let ⟨v, K', ρ', w', h1, h2⟩ := h hf; ⟨v, K', ρ', w', hrun _ _ h1, h2⟩
  | .need p k, h => fun hp => sndO_of hrun (h hp)
  | .elem xs i k, h => fun d hd => sndO_of hrun (h d hd)
  | .obj dep nm k, h => fun ob ho => sndO_of hrun (h ob ho)
  | .anyb p, ⟨b, h1, h2⟩ => ⟨b, hrun _ _ h1, h2⟩
  | .alt x y, ⟨h1, h2⟩ => ⟨sndO_of hrun h1, sndO_of hrun h2⟩
  | .call f args, h => h.elim
  | .mod _, _ => trivial
  | .bad, _ => trivial

theorem rep_list {a : Act} (s : St) : ∀ (l : List Operand), (∀ x ∈ l, RepD K ρ (shape S) (a.eval x) (evD s x)) → RepDL K ρ (shape S) (l.map a.eval) (l.map (evD s))
  | [], _ => .nil
  | x :: l, h => .cons (h x (by simp)) (rep_list s l fun y hy => h y (by simp [hy]))
theorem rep_parts {a : Act} (s : St) : ∀ (l : List (Nat × Operand)), (∀ p ∈ l, RepD K ρ (shape S) (a.eval p.2) (evD s p.2)) → RepParts K ρ (shape S) (l.map fun p => (p.1, a.eval p.2)) (l.map fun p => (p.1, evD s p.2))
  | [], _ => .nil
  | (i, x) :: l, h => .cons (h (i, x) (by simp)) (rep_parts s l fun y hy => h y (by simp [hy]))

theorem snd_min (ts : Array TypeId) (ty : TypeId) : ∀ (l : List D) (vs : List Value) (k : IntKind) (x : Int), RepDL K ρ (shape S) vs l → SndV P dst K ρ S w (vs.foldlM Builtin.min2 (.int k x)) (exMin k x l)
  | [], _, k, x, .nil => ⟨.int k x, by simp, rep_v rfl⟩
  | d :: r, _, k, x, .cons (x := v) (xs := vs) h hs => by
    unfold exMin
    split
    · rename_i h1; cases h1
    · rename_i k' b r' h1
      simp only [List.cons.injEq] at h1
      obtain ⟨rfl, rfl⟩ := h1
      obtain rfl := inv_v h
      have ih := snd_min ts ty r vs k (if b < x then b else x) hs
      have e : List.foldlM Builtin.min2 (.int k x) (.int k' b :: vs) = List.foldlM Builtin.min2 (.int k (if b < x then b else x)) vs := by
        simp [List.foldlM_cons, Builtin.min2]
      rw [e]; exact ih
    · trivial
theorem snd_max (ts : Array TypeId) (ty : TypeId) : ∀ (l : List D) (vs : List Value) (k : IntKind) (x : Int), RepDL K ρ (shape S) vs l → SndV P dst K ρ S w (vs.foldlM Builtin.max2 (.int k x)) (exMax k x l)
  | [], _, k, x, .nil => ⟨.int k x, by simp, rep_v rfl⟩
  | d :: r, _, k, x, .cons (x := v) (xs := vs) h hs => by
    unfold exMax
    split
    · rename_i h1; cases h1
    · rename_i k' b r' h1
      simp only [List.cons.injEq] at h1
      obtain ⟨rfl, rfl⟩ := h1
      obtain rfl := inv_v h
      have ih := snd_max ts ty r vs k (if b > x then b else x) hs
      have e : List.foldlM Builtin.max2 (.int k x) (.int k' b :: vs) = List.foldlM Builtin.max2 (.int k (if b > x then b else x)) vs := by
        simp [List.foldlM_cons, Builtin.max2]
      rw [e]; exact ih
    · trivial

theorem snd_makeSlice (hT : TOk P T) (hw : HInv E K ρ S w) {t : Nat} {vl vc : Value} {l c : D} (hl : RepD K ρ (shape S) vl l) (hc : RepD K ρ (shape S) vc c) :
    SndV P dst K ρ S w (Instr.makeSlice t vl vc) (exMakeSlice T dst t l c) := by
  unfold exMakeSlice
  split
  · rename_i sz by_ e z a b hi
    have hu : P.underlying t = some (.slice e) := (hT _ _ hi).kind
    obtain rfl := inv_v hl
    obtain rfl := inv_v hc
    cases he : look T e with
    | none => trivial
    | some i =>
      have hok := hT _ _ he
      intro hneed
      obtain ⟨h1, h2, h3, h4⟩ := hneed
      intro hf
      have hf := hf dst (by simp [look_cons])
      obtain ⟨inf, hi1, hi2, hi3, zz, hi4, hi5, -⟩ := hok.info
      have hzs : zz.cells.size = i.size := by rw [← Array.length_toList, hi5, hok.len]
      have hr := run_make (P := P) w t e inf zz hu hi1 hi4 .i64 .i64 a b h1 h2 (by rw [hi3, Int.mul_comm]; omega) (by omega)
      rw [hi2] at hr
      have hel : ∀ d ∈ List.replicate a.toNat (i.zero.map I.v), d.length = i.size := by
        intro d hd
        rw [List.eq_of_mem_replicate hd, List.length_map, hok.len]
      have hpos : 0 < zz.cells.size := by have := hok.pos; omega
      have hcells : (madeCells zz.cells (b.toNat * i.size)).toList = repl b.toNat i.zero := by
        have := range_zero zz.cells b.toNat hpos
        rw [hzs, hi5] at this
        unfold madeCells
        rw [hzs]
        exact this
      have hflat : (List.replicate a.toNat (i.zero.map I.v)).flatten = repl a.toNat (i.zero.map I.v) := by
        generalize a.toNat = n
        induction n with
        | zero => rfl
        | succ n ih => simp [List.replicate_succ, repl, ih]
      have htake : (repl b.toNat i.zero).take (a.toNat * i.size) = repl a.toNat i.zero := by
        have hab : a.toNat ≤ b.toNat := by omega
        have hlz := hok.len
        generalize b.toNat = n at hab ⊢
        generalize a.toNat = m at hab ⊢
        induction m generalizing n with
        | zero => simp [repl]
        | succ m ih =>
          obtain ⟨k, rfl⟩ : ∃ k, n = k + 1 := ⟨n - 1, by omega⟩
          simp only [repl]
          rw [Nat.add_mul, Nat.one_mul, Nat.add_comm, ← hlz, List.take_length_add_append, hlz, ih k (by omega)]
      have hrepz : ∀ n, RepL K (repl n i.zero) (repl n (i.zero.map I.v)) := by
        intro n
        induction n with
        | zero => exact .nil
        | succ n ih =>
          refine RepL.append ?_ ih
          have : ∀ l : List Value, (∀ x ∈ l, x.oneCell' = true) → RepL K l (l.map I.v) := by
            intro l hl
            induction l with
            | nil => exact .nil
            | cons x l ih => exact .cons (.v (hl x (by simp))) (ih fun y hy => hl y (by simp [hy]))
          exact this _ hok.one
      obtain ⟨lc, g, r⟩ := new_arr (dst := dst) (ty := e) (cap := b.toNat) (n := a.toNat) (es := i.size) (cs := madeCells zz.cells (b.toNat * i.size)) hw hf (.inl rfl) hel (by simp) (by omega) (by simp only [maxLen]; omega)
        (by rw [size_madeCells]) (by rw [hcells, htake, hflat]; exact hrepz _)
      exact ⟨_, _, _, _, hr, g, r⟩
  · trivial

theorem snd_nil {x : D} {vx : Value} (hx : RepD K ρ (shape S) vx x) {a : Act} {o : Oper} {y : Operand} (ho : o.op = .nilCheck y) (hy : a.eval y = vx) : SndO P dst K ρ S w a o (exNil x) := by
  unfold exNil
  split
  · refine ⟨vx, ?_, hx⟩
    cases hx with
    | box e => simp [execOp, ho, hy]
    | arr e l => simp [execOp, ho, hy]
  · refine ⟨vx, ?_, hx⟩
    cases hx with
    | i r => cases r with
      | ptr => simp [execOp, ho, hy]
  · refine ⟨vx, ?_, hx⟩
    cases hx with
    | fn r s => simp [execOp, ho, hy]
  · trivial

theorem evD_const {v : Value} : RepD K ρ (shape S) v (evD s (.const v)) := by
  unfold evD
  dsimp only
  cases h : v.oneCell' with
  | true => exact rep_v h
  | false => exact .dead _

/-- Each operand shows what the state says of it. -/
theorem Inv.ev {a : Act} (h : Inv E K ρ s a w) (x : Operand) : RepD K ρ (shape s.S) (a.eval x) (evD s x) := by
  cases x with
  | tmp t => exact h.get t
  | const v => exact evD_const
  | global g => exact .dead _
  | func f => exact .fn .nil .nil

theorem rep_map_opt {a : Act} {x : Option Operand} (h : ∀ y, x = some y → RepD K ρ (shape S) (a.eval y) (evD s y)) :
    (∀ d, x.map (evD s) = some d → ∃ v, x.map a.eval = some v ∧ RepD K ρ (shape S) v d) ∧ (x.map (evD s) = none → x.map a.eval = none) := by
  cases x with
  | none => exact ⟨fun d h => by simp at h, fun _ => rfl⟩
  | some y => exact ⟨fun d hd => ⟨a.eval y, rfl, by simp at hd; subst hd; exact h y rfl⟩, fun h => by simp at h⟩

theorem sndO_store {a : Act} {o : Oper} {t : Nat} {p v : D} : SndO P dst K ρ S w a o (exStore T s t p v) := by
  unfold exStore
  cases look T t with
  | none => trivial
  | some i =>
    dsimp only
    cases !(Nat.beq v.cells.length i.size && D.ones v.cells) with
    | true => trivial
    | false =>
      simp only [cond_false]
      split
      · rename_i dep nm x off
        have hk : ∀ ob : Ob, SndO P dst K ρ S w a o ((fun
            | .box cs => bif Nat.ble (off + i.size) cs.length then (match dep with
                | 0 => forceL (splice cs off v.cells) fun cs' => .mod { s with S := setAt s.S 0 nm (.box cs') }
                | dep + 1 => match D.toIs v.cells with
                  | some l => forceL (splice cs off (l.map .i)) fun cs' => .mod { s with S := setAt s.S (dep + 1) nm (.box cs') }
                  | none => .bad) else .bad
            | .arr ty es n xs true => match D.toIs v.cells with
              | some l => bif Nat.beq off 0 && Nat.beq i.size es then .mod { s with S := setAt s.S dep nm (.arr ty es n (xs.set x l) true) }
                else .elem xs x fun d => bif Nat.ble (off + i.size) d.length then .mod { s with S := setAt s.S dep nm (.arr ty es n (xs.set x (spliceI d off l)) true) } else .bad
              | none => .bad
            | _ => .bad : Ob → Ask) ob) := by
          intro ob
          cases ob with
          | mp => trivial
          | box cs =>
            dsimp only
            cases Nat.ble (off + i.size) cs.length with
            | false => trivial
            | true =>
              simp only [cond_true]
              cases dep with
              | zero => dsimp only; rw [forceL_eq]; trivial
              | succ d =>
                dsimp only
                cases D.toIs v.cells with
                | none => trivial
                | some l => dsimp only; rw [forceL_eq]; trivial
          | arr ty es n xs wr =>
            cases wr with
            | false => trivial
            | true =>
              dsimp only
              cases D.toIs v.cells with
              | none => trivial
              | some l =>
                dsimp only
                cases Nat.beq off 0 && Nat.beq i.size es with
                | true => trivial
                | false =>
                  intro d _
                  dsimp only
                  cases Nat.ble (off + i.size) d.length <;> trivial
        unfold objOf
        cases dep with
        | zero =>
          dsimp only
          cases objAt s.S 0 nm with
          | none => trivial
          | some ob => exact hk ob
        | succ d => exact fun ob _ => hk ob
      · trivial

theorem sndO_mapset {a : Act} {o : Oper} {t : Nat} {x y z : D} : SndO P dst K ρ S w a o (exMapSet T s t x y z) := by
  unfold exMapSet
  split <;> try trivial
  split <;> try trivial
  split <;> try trivial
  rename_i ki hki _ _ dep nm key
  have hk : ∀ (k : Ob → Ask), (∀ ob, SndO P dst K ρ S w a o (k ob)) → SndO P dst K ρ S w a o (objOf s dep nm k) := by
    intro k hk
    unfold objOf
    cases dep with
    | zero =>
      dsimp only
      cases objAt s.S 0 nm with
      | none => trivial
      | some ob => exact hk ob
    | succ d => exact fun ob _ => hk ob
  refine hk _ fun ob => ?_
  cases ob with
  | box => trivial
  | arr => trivial
  | mp kk m =>
    cases m with
    | b l =>
      dsimp only
      cases (ki.k.isKK kk && kk.ok key) with
      | false => trivial
      | true => simp only [cond_true]; split <;> trivial
    | i k l =>
      dsimp only
      cases (ki.k.isKK kk && kk.ok key) with
      | false => trivial
      | true =>
        simp only [cond_true]
        split
        · rename_i k' n
          cases decide (k = k') <;> trivial
        · trivial
/-- THE OPERATION, in the forms that look only at its operands. -/
theorem exec_snd (hT : TOk P T) (hw : HInv E K ρ s.S w) {a : Act} {o : Oper} (hd : o.dst = some dst ∨ (o.dst = none)) (hops : ∀ x ∈ o.op.operands, RepD K ρ (shape s.S) (a.eval x) (evD s x)) :
    SndO P dst K ρ s.S w a o (exec T s o) := by
  have hdst : ∀ {k : Nat → Ask}, SndO P dst K ρ s.S w a o (k dst) → SndO P dst K ρ s.S w a o (match o.dst with | some d => k d | none => .bad) := by
    intro k hk
    rcases hd with hd | hd <;> rw [hd]
    · exact hk
    · trivial
  unfold exec
  cases hop : o.op with
  | move x =>
    rw [hop] at hops
    dsimp only
    rw [force_eq]
    exact ⟨a.eval x, by simp [execOp, hop], hops x (by simp [Op.operands])⟩
  | assign x =>
    rw [hop] at hops
    dsimp only
    rw [force_eq]
    exact ⟨a.eval x, by simp [execOp, hop], hops x (by simp [Op.operands])⟩
  | pick c x y =>
    rw [hop] at hops
    refine sndO_of (m := do pure (if ← asBool (a.eval c) then a.eval x else a.eval y)) ?_ (snd_pick (hops c (by simp [Op.operands])) (hops x (by simp [Op.operands])) (hops y (by simp [Op.operands])))
    intro v w' h
    simp only [execOp, hop]
    cases hc : a.eval c <;> simp [hc, asBool] at h ⊢ <;> simp_all
  | alloc t =>
    refine hdst (k := fun dst => zeroOf T t fun cs => .new [(dst, .box cs)] (.own 0 dst 0 0)) (sndO_of (m := Instr.alloc t true (.tuple #[])) ?_ (snd_alloc hT hw))
    intro v w' h
    simp [execOp, hop, h]
  | box t x =>
    rw [hop] at hops
    refine hdst (k := fun dst => cellsOf T t (evD s x) fun cs => .new [(dst, .box cs)] (.own 0 dst 0 0)) (sndO_of (m := Instr.box t (a.eval x)) ?_ (snd_box hT hw (hops x (by simp [Op.operands]))))
    intro v w' h
    simp [execOp, hop, h]
  | build t parts =>
    rw [hop] at hops
    refine sndO_of (m := Instr.build t (parts.map fun (i, x) => (i, a.eval x))) ?_ (snd_build hT ?_)
    · intro v w' h
      simp [execOp, hop, h]
    · have := rep_parts (K := K) (ρ := ρ) (S := s.S) (a := a) s parts.toList fun p hp => hops p.2 (by simp [Op.operands]; exact ⟨p.1, by simpa using hp⟩)
      simpa using this
  | buildSlice t len parts =>
    rw [hop] at hops
    refine hdst (k := fun dst => exBuildSlice T dst t len (parts.toList.map fun p => (p.1, evD s p.2))) (sndO_of (m := Instr.buildSlice t len (parts.map fun (i, x) => (i, a.eval x))) ?_ (snd_buildSlice hT hw ?_))
    · intro v w' h
      simp [execOp, hop, h]
    · have := rep_parts (K := K) (ρ := ρ) (S := s.S) (a := a) s parts.toList fun p hp => hops p.2 (by simp [Op.operands]; exact ⟨p.1, by simpa using hp⟩)
      simpa using this
  | load t x =>
    rw [hop] at hops
    refine sndO_of (m := Instr.loadAt t (a.eval x)) ?_ (snd_load hT hw (hops x (by simp [Op.operands])))
    intro v w' h
    simp [execOp, hop, h]
  | nilCheck x =>
    rw [hop] at hops
    exact snd_nil (hops x (by simp [Op.operands])) hop rfl
  | binOp op t x y yt =>
    rw [hop] at hops
    refine sndO_of (m := do eqGuard op t x y (a.eval x) (a.eval y); binOp op t (a.eval x) (a.eval y)) ?_ (snd_bin hT (hops x (by simp [Op.operands])) (hops y (by simp [Op.operands])))
    intro v w' h
    simp only [execOp, hop]
    rw [Sem.run_bind, h]
    rfl
  | unOp op t x =>
    rw [hop] at hops
    refine sndO_of (m := Op.unary op (a.eval x)) ?_ (snd_un (hops x (by simp [Op.operands])))
    intro v w' h
    simp [execOp, hop, h]
  | convert src tgt x =>
    rw [hop] at hops
    refine sndO_of (m := convert src tgt (a.eval x)) ?_ (snd_conv hT hw (hops x (by simp [Op.operands])))
    intro v w' h
    simp [execOp, hop, h]
  | makeFunc fn first cap =>
    rw [hop] at hops
    dsimp only
    rw [forceL_eq, forceL_eq]
    refine ⟨.func fn (first.map a.eval) (cap.map a.eval), by simp [execOp, hop, Instr.makeFunc], ?_⟩
    have h1 := rep_list (K := K) (ρ := ρ) (S := s.S) (a := a) s first.toList fun x hx => hops x (by simp [Op.operands]; exact .inl (by simpa using hx))
    have h2 := rep_list (K := K) (ρ := ρ) (S := s.S) (a := a) s cap.toList fun x hx => hops x (by simp [Op.operands]; exact .inr (by simpa using hx))
    have := RepD.fn (f := fn) h1 h2
    refine cast ?_ this
    congr 2 <;> apply Array.ext' <;> simp
  | makeSlice t l c =>
    rw [hop] at hops
    refine hdst (k := fun dst => exMakeSlice T dst t (evD s l) (evD s c)) (sndO_of (m := Instr.makeSlice t (a.eval l) (a.eval c)) ?_ (snd_makeSlice hT hw (hops l (by simp [Op.operands])) (hops c (by simp [Op.operands]))))
    intro v w' h
    simp [execOp, hop, h]
  | slice t x lo hi mx =>
    rw [hop] at hops
    have h1 := rep_map_opt (K := K) (ρ := ρ) (S := s.S) (a := a) (s := s) (x := lo) fun y hy => hops y (by subst hy; simp [Op.operands])
    have h2 := rep_map_opt (K := K) (ρ := ρ) (S := s.S) (a := a) (s := s) (x := hi) fun y hy => hops y (by subst hy; simp [Op.operands])
    have h3 := rep_map_opt (K := K) (ρ := ρ) (S := s.S) (a := a) (s := s) (x := mx) fun y hy => hops y (by subst hy; simp [Op.operands])
    refine sndO_of (m := Instr.sliceAt t (a.eval x) (lo.map a.eval) (hi.map a.eval) (mx.map a.eval)) ?_ (snd_slice hT hw (hops x (by simp [Op.operands])) h1.1 h1.2 h2.1 h2.2 h3.1 h3.2)
    intro v w' h
    simp [execOp, hop, h]
  | fieldAddr t x f =>
    rw [hop] at hops
    refine sndO_of (m := Instr.fieldAt t (a.eval x) f) ?_ (snd_fieldAddr hT (hops x (by simp [Op.operands])) f)
    intro v w' h
    simp [execOp, hop, h]
  | field t x f =>
    rw [hop] at hops
    refine sndO_of (m := Instr.field t (a.eval x) f) ?_ (snd_field hT (hops x (by simp [Op.operands])) f)
    intro v w' h
    simp [execOp, hop, h]
  | indexAddr t x ix =>
    rw [hop] at hops
    refine sndO_of (m := Instr.indexAt t (a.eval x) (a.eval ix)) ?_ (snd_indexAddr hT hw (hops x (by simp [Op.operands])) (hops ix (by simp [Op.operands])))
    intro v w' h
    simp [execOp, hop, h]
  | index t x ix =>
    rw [hop] at hops
    refine sndO_of (m := Instr.index t (a.eval x) (a.eval ix)) ?_ (snd_index hT (hops x (by simp [Op.operands])) (hops ix (by simp [Op.operands])))
    intro v w' h
    simp [execOp, hop, h]
  | extract t ix =>
    rw [hop] at hops
    have h := hops t (by simp [Op.operands])
    dsimp only
    split
    · rename_i l hl
      rw [hl] at h
      split
      · rename_i d hd'
        rw [force_eq]
        generalize hv : a.eval t = vt at h
        cases h with
        | tup r =>
          obtain ⟨y, hy, hr⟩ := r.get hd'
          exact ⟨y, by simp [execOp, hop, hv, Instr.extract, hy], hr⟩
      · trivial
    · trivial
  | call c =>
    rw [hop] at hops
    obtain ⟨callee, args, argTypes⟩ := c
    cases callee with
    | value f =>
      dsimp only
      have h := hops f (by simp [Op.operands, Call.operands])
      split
      · rename_i k first cap hf
        rw [hf] at h
        rw [forceL_eq]
        generalize hv : a.eval f = vf at h
        have hargs := rep_list (K := K) (ρ := ρ) (S := s.S) (a := a) s args.toList fun x hx => hops x (by simp [Op.operands, Call.operands]; exact .inr (by simpa using hx))
        cases h with
        | fn r1 r2 =>
          refine ⟨_, ?_, (r1.append hargs).append r2⟩
          simp [execOp, hop, resolve, hv, Deferred.ofValue, invoke]
          congr 2
          apply Array.ext'
          simp
      · trivial
    | invoke r m => trivial
    | builtin b =>
      cases b <;> try trivial
      case append =>
        dsimp only
        split
        · rename_i x y t t' dd h1 h2 h3
          obtain ⟨al⟩ := args
          obtain ⟨tl⟩ := argTypes
          simp only at h1 h2
          subst h1; subst h2
          have hdd : dd = dst := by
            rcases hd with hd | hd <;> rw [hd] at h3 <;> simp at h3
            exact h3.symm
          subst hdd
          cases hb : Nat.beq t t' with
          | false => trivial
          | true =>
            obtain rfl := Nat.eq_of_beq_eq_true hb
            refine sndO_of (m := Builtin.append_ #[t, t] o.type #[a.eval x, a.eval y]) ?_ (snd_append_new hT hw (hops x (by simp [Op.operands, Call.operands])) (hops y (by simp [Op.operands, Call.operands])))
            intro v w' h
            simp [execOp, hop, resolve, invoke, builtin, h]
        · trivial
      case len =>
        dsimp only
        split
        · rename_i x t h1 h2
          obtain ⟨al⟩ := args
          obtain ⟨tl⟩ := argTypes
          simp only at h1 h2
          subst h1; subst h2
          refine sndO_of (m := Builtin.len_ #[t] o.type #[a.eval x]) ?_ (snd_len hT (hops x (by simp [Op.operands, Call.operands])))
          intro v w' h
          simp [execOp, hop, resolve, invoke, builtin, h]
        · trivial
      case min =>
        dsimp only
        have hargs := rep_list (K := K) (ρ := ρ) (S := s.S) (a := a) s args.toList fun x hx => hops x (by simp [Op.operands, Call.operands]; simpa using hx)
        split
        · rename_i k n r h1
          rw [h1] at hargs
          generalize hvs : args.toList.map a.eval = vs at hargs
          cases hargs with
          | cons h hs =>
            obtain rfl := inv_v h
            rename_i vs'
            refine sndO_of (m := vs'.foldlM Builtin.min2 (.int k n)) ?_ (snd_min #[] 0 r vs' k n hs)
            intro v w' hh
            have : (args.map a.eval).toList = .int k n :: vs' := by simpa using hvs
            simp [execOp, hop, resolve, invoke, builtin, Builtin.min_, hvs, hh]
        · trivial
      case max =>
        dsimp only
        have hargs := rep_list (K := K) (ρ := ρ) (S := s.S) (a := a) s args.toList fun x hx => hops x (by simp [Op.operands, Call.operands]; simpa using hx)
        split
        · rename_i k n r h1
          rw [h1] at hargs
          generalize hvs : args.toList.map a.eval = vs at hargs
          cases hargs with
          | cons h hs =>
            obtain rfl := inv_v h
            rename_i vs'
            refine sndO_of (m := vs'.foldlM Builtin.max2 (.int k n)) ?_ (snd_max #[] 0 r vs' k n hs)
            intro v w' hh
            simp [execOp, hop, resolve, invoke, builtin, Builtin.max_, hvs, hh]
        · trivial
  | store t x y =>
    dsimp only
    cases o.dst with
    | none =>
      exact sndO_store
    | some _ => trivial
  | mapUpdate t x y z =>
    dsimp only
    cases o.dst with
    | none => exact sndO_mapset
    | some _ => trivial
  | insert t x y z =>
    dsimp only
    cases o.dst with
    | none => exact sndO_mapset
    | some _ => trivial
  | lookup t x ix ok =>
    rw [hop] at hops
    refine sndO_of (m := Instr.lookup t (a.eval x) (a.eval ix) ok) ?_ (snd_lookup hT hw (hops x (by simp [Op.operands])) (hops ix (by simp [Op.operands])) ok)
    intro v w' h
    simp [execOp, hop, h]
  | makeMap t r =>
    rw [hop] at hops
    refine hdst ?_
    refine sndO_of (m := Instr.makeMap t (r.map a.eval)) ?_ (snd_makeMap hT hw (fun d hd => ?_) fun hd => ?_)
    · intro v w' h
      simp [execOp, hop, h]
    · cases r with
      | none => cases hd
      | some x =>
        simp only [Option.map_some, Option.some.injEq] at hd
        subst hd
        exact ⟨_, rfl, hops x (by simp [Op.operands])⟩
    · cases r with
      | none => rfl
      | some x => cases hd
  | _ => trivial

/-- May it turn the state? -/
def turns (o : Oper) : Bool := match o.op with
  | .store _ _ _ => true
  | .mapUpdate _ _ _ _ => true
  | .insert _ _ _ _ => true
  | .call { callee := .builtin .append, .. } => true
  | _ => false

/-- The object that goes. -/
def goneOf (s : St) (o : Oper) : Option Nat := match o.op with
  | .call { callee := .builtin .append, args := args, .. } => match args.toList with
    | [x, _] => goneA (evD s x)
    | _ => none
  | _ => none
/-- THE OPERATION, where it turns the state. -/
theorem exec_mod (hT : TOk P T) {a : Act} (h : Inv E K ρ s a w) {o : Oper} (hm : turns o = true) : SndM P E K ρ s.S a w o (goneOf s o) (exec T s o) := by
  unfold turns at hm
  split at hm
  · rename_i t x y hop
    unfold exec
    rw [hop]
    dsimp only
    cases hd : o.dst with
    | none =>
      have : goneOf s o = none := by simp [goneOf, hop]
      rw [this]
      exact snd_store hT h hop hd (h.ev x) (h.ev y)
    | some _ => trivial
  · rename_i t x y z hop
    unfold exec
    rw [hop]
    dsimp only
    cases hd : o.dst with
    | none =>
      have : goneOf s o = none := by simp [goneOf, hop]
      rw [this]
      exact snd_mapset hT h (.inl hop) hd (h.ev x) (h.ev y) (h.ev z)
    | some _ => trivial
  · rename_i t x y z hop
    unfold exec
    rw [hop]
    dsimp only
    cases hd : o.dst with
    | none =>
      have : goneOf s o = none := by simp [goneOf, hop]
      rw [this]
      exact snd_mapset hT h (.inr hop) hd (h.ev x) (h.ev y) (h.ev z)
    | some _ => trivial
  · rename_i args argTypes hop
    unfold exec
    rw [hop]
    dsimp only
    split
    · rename_i x y t t' dd h1 h2 h3
      obtain ⟨al⟩ := args
      obtain ⟨tl⟩ := argTypes
      simp only at h1 h2
      subst h1; subst h2
      cases hb : Nat.beq t t' with
      | false => trivial
      | true =>
        obtain rfl := Nat.eq_of_beq_eq_true hb
        have : goneOf s o = goneA (evD s x) := by simp [goneOf, hop]
        rw [this]
        exact snd_append_own hT h hop h3 (h.ev x) (h.ev y)
    · trivial
  · cases hm
end
end Go.AI

/- Running: regions, control, calls. -/
namespace Go.AI

/-- The call comes to an end: it is entered and returns, or the model answers it. -/
def Exec (P : Program) (f : FuncId) (vs : Array Value) (w : World) (R : Value → World → Prop) : Prop :=
  ((callFunc f vs).run P w = .ok (.enter f vs) w ∧ Calls P f vs w fun e w' => ∃ v, e = .returned v ∧ R v w') ∨ ∃ v w', (callFunc f vs).run P w = .ok (.value v) w' ∧ R v w'

/-- THE CONTRACT OF A FUNCTION, in abstract values: the arguments as the caller's frame sees them; the result as the callee's own frame does (dep 0: what it hands over). -/
def ASpec (P : Program) (f : FuncId) (args : List D) (O : List Heap) (res : D) (Hr : Heap) (O' : List Heap) : Prop :=
  ∀ E K ρ w vs, HInv E K ρ O w → RepDL K ρ (shape O) vs args →
    Exec P f vs.toArray w fun v w' => ∃ K' ρ', HInv (.of K ρ w) K' ρ' (Hr :: O') w' ∧ RepD K' ρ' (shape (Hr :: O')) v res

/-- One function's run. -/
structure Cx where
  P : Program
  T : TT
  E : Env
  f : FuncId
  fn : Func
  post : Value → World → Prop
  stop : List Nat := []

def Rch (c : Cx) (todo : List Item) (s : St) : Prop :=
  ∀ (K : Kn) (ρ : Nat → Nat → Loc) (a : Act) (w : World) (b : Frame) (cs : List Frame), Inv c.E K ρ s a w → b.fn = c.f → b.kind = .normal →
    ∃ (v : Value) (w' : World) (fr : Frame), c.post v w' ∧ Steps c.P (lone (b.at a todo) cs w) (lone fr cs w') ∧ fr.fn = c.f ∧ fr.leaving c.P w' (.returned v)

section
variable {c : Cx} {s : St} {k : List Item}

theorem rch_step {todo todo' : List Item} {s' : St} (hs : ∀ K ρ a w (b : Frame) cs, Inv c.E K ρ s a w → step c.P (lone (b.at a todo) cs w) = .next (lone (b.at a todo') cs w) ∧ Inv c.E K ρ s' a w) (h : Rch c todo' s') : Rch c todo s := by
  intro K ρ a w b cs hi hb hk
  obtain ⟨h1, h2⟩ := hs K ρ a w b cs hi
  obtain ⟨v, w', fr, hp, hst, h3⟩ := h K ρ a w b cs h2 hb hk
  exact ⟨v, w', fr, hp, .head h1 hst, h3⟩

theorem rch_seq {x y : Code} (h : Rch c (.code x :: .code y :: k) s) : Rch c (.code (.seq x y) :: k) s := rch_step (fun _ _ _ _ _ _ hi => ⟨step_seq, hi⟩) h
theorem rch_skip (h : Rch c k s) : Rch c (.code .skip :: k) s := rch_step (fun _ _ _ _ _ _ hi => ⟨step_skip, hi⟩) h
theorem rch_block {id : Nat} {x : Code} (h : Rch c (.code x :: .inBlock id :: k) s) : Rch c (.code (.block id x) :: k) s := rch_step (fun _ _ _ _ _ _ hi => ⟨step_block, hi⟩) h
theorem rch_inBlock {id : Nat} (h : Rch c k s) : Rch c (.inBlock id :: k) s := rch_step (fun _ _ _ _ _ _ hi => ⟨step_inBlock, hi⟩) h
theorem rch_loop {x : Code} (h : Rch c (.code x :: .inLoop x :: k) s) : Rch c (.code (.loop x) :: k) s := rch_step (fun _ _ _ _ _ _ hi => ⟨step_loop, hi⟩) h
theorem rch_inLoop {x : Code} (h : Rch c (.code x :: .inLoop x :: k) s) : Rch c (.inLoop x :: k) s := rch_step (fun _ _ _ _ _ _ hi => ⟨step_inLoop, hi⟩) h
theorem rch_exit {id : Nat} {k' : List Item} (he : exitTo id k = some k') (h : Rch c k' s) : Rch c (.code (.exit id) :: k) s := rch_step (fun _ _ _ _ _ _ hi => ⟨step_exit he, hi⟩) h
theorem rch_cond_t {x : Operand} {a b : Code} (hx : evD s x = .bt) (h : Rch c (.code a :: k) s) : Rch c (.code (.cond x a b) :: k) s :=
  rch_step (fun K ρ ac w fr cs hi => ⟨by
    have hr := hi.ev x
    rw [hx] at hr
    have hv : ac.eval x = .bool true := by generalize ac.eval x = v at hr; cases hr; rfl
    exact step_cond (t := true) hv, hi⟩) h
theorem rch_cond_f {x : Operand} {a b : Code} (hx : evD s x = .bf) (h : Rch c (.code b :: k) s) : Rch c (.code (.cond x a b) :: k) s :=
  rch_step (fun K ρ ac w fr cs hi => ⟨by
    have hr := hi.ev x
    rw [hx] at hr
    have hv : ac.eval x = .bool false := by generalize ac.eval x = v at hr; cases hr; rfl
    exact step_cond (t := false) hv, hi⟩) h
theorem rch_cond {x : Operand} {a b : Code} {t : Bool} (hx : evD s x = .i (.v (.bool t))) (ht : t = true → Rch c (.code a :: k) s) (hf : t = false → Rch c (.code b :: k) s) : Rch c (.code (.cond x a b) :: k) s := by
  cases t with
  | true =>
    exact rch_step (fun K ρ ac w fr cs hi => ⟨by
      have hr := hi.ev x
      rw [hx] at hr
      exact step_cond (t := true) (inv_v hr), hi⟩) (ht rfl)
  | false =>
    exact rch_step (fun K ρ ac w fr cs hi => ⟨by
      have hr := hi.ev x
      rw [hx] at hr
      exact step_cond (t := false) (inv_v hr), hi⟩) (hf rfl)

/-- A region's operations, in their order, lead to a state that has the property. -/
def RG (c : Cx) (ops : Array Oper) (l : List Nat) (s : St) (Q : St → Prop) : Prop :=
  ∀ K ρ a w, Inv c.E K ρ s a w → wpOps c.P ops (fun e a' w' => e = .normal ∧ ∃ s' K' ρ', Inv c.E K' ρ' s' a' w' ∧ Q s') l a w

theorem rch_region {id : Nat} {ops : Array Oper} (h : RG c ops (List.range ops.size) s (Rch c k)) : Rch c (.code (.region id ops false) :: k) s := by
  intro K ρ a w b cs hi hb hk
  obtain ⟨e, a', w', ⟨rfl, s', K', ρ', hi', hq⟩, harr⟩ := wp_region (id := id) (h K ρ a w hi) b k cs
  obtain ⟨v, w'', fr, hp, hst, h3⟩ := hq K' ρ' a' w' b cs hi' hb hk
  exact ⟨v, w'', fr, hp, Steps.trans harr hst, h3⟩

theorem rg_nil {ops : Array Oper} {Q : St → Prop} (h : Q s) : RG c ops [] s Q := fun K ρ a w hi => ⟨rfl, s, K, ρ, hi, h⟩

/-- What an operation, wanted, does to the state. -/
def Stp (c : Cx) (o : Oper) (s : St) (Q : St → Prop) : Prop :=
  ∀ K ρ a w, Inv c.E K ρ s a w → ∀ (next : Act → World → Prop) (Qe : Exit → Act → World → Prop), (∀ v w' s' K' ρ', K.le K' → Keeps (goneOf s o) ρ ρ' (shape s.S) (shape s'.S) → Inv c.E K' ρ' s' (a.put o.dst v) w' → Q s' → next (a.put o.dst v) w') → o.wp c.P a w next Qe

def wantedD (ops : Array Oper) (s : St) (o : Oper) : Option Bool := match o.guard with
  | none => some true
  | some (j, want) => match (ops[j]?).bind (·.dst) with
    | none => none
    | some t => match s.get t with
      | .bt => some want
      | .bf => some (!want)
      | .tup [] => some false
      | _ => none

theorem wanted_of {ops : Array Oper} {o : Oper} {b : Bool} {E : Env} {K : Kn} {ρ : Nat → Nat → Loc} {a : Act} {w : World} (hi : Inv E K ρ s a w) (h : wantedD ops s o = some b) : Region.wanted o (yielded ops a.tmps) = b := by
  unfold wantedD at h
  unfold Region.wanted
  split at h
  · rename_i hg
    rw [hg]
    simpa using h
  · rename_i j want hg
    rw [hg]
    split at h
    · cases h
    · rename_i t ht
      have hr := hi.get t
      have hy : ∀ x, a.tmps.getD t undef = .bool x → yielded ops a.tmps j = some x := by
        intro x hx
        unfold yielded
        rw [ht]
        simp only [Option.bind_some]
        simp only [Array.getD_eq_getD_getElem?] at hx
        cases hh : a.tmps[t]? with
        | none => rw [hh] at hx; simp [undef] at hx
        | some y => rw [hh] at hx; simp only [Option.getD_some] at hx; rw [hx]
      split at h
      · rename_i hs
        rw [hs] at hr
        have hv : a.tmps.getD t undef = .bool true := by generalize a.tmps.getD t undef = v at hr; cases hr; rfl
        simp only [hy _ hv]
        cases want <;> simp_all
      · rename_i hs
        rw [hs] at hr
        have hv : a.tmps.getD t undef = .bool false := by generalize a.tmps.getD t undef = v at hr; cases hr; rfl
        simp only [hy _ hv]
        cases want <;> simp_all
      · rename_i hs
        rw [hs] at hr
        have hv : a.tmps.getD t undef = .tuple #[] := by
          generalize a.tmps.getD t undef = v at hr
          cases hr with
          | tup r => cases r; rfl
        have hyn : yielded ops a.tmps j = none := by
          unfold yielded
          rw [ht]
          simp only [Option.bind_some]
          simp only [Array.getD_eq_getD_getElem?] at hv
          cases hh : a.tmps[t]? with
          | none => rfl
          | some y => rw [hh] at hv; simp only [Option.getD_some] at hv; rw [hv]
        simp only [Option.some.injEq] at h
        rw [← h]
        show (yielded ops a.tmps j == some want) = false
        rw [hyn]
        rfl
      · cases h

theorem rg_op {ops : Array Oper} {i : Nat} {rest : List Nat} {o : Oper} {Q : St → Prop} (ho : ops[i]? = some o) (hw : wantedD ops s o = some true) (h : Stp c o s fun s' => RG c ops rest s' Q) : RG c ops (i :: rest) s Q := by
  intro K ρ a w hi
  simp only [wpOps, ho, wanted_of hi hw, if_true]
  exact .inl (h K ρ a w hi _ _ fun v w' s' K' ρ' _ _ hi' hq => hq K' ρ' _ w' hi')

theorem rg_skip {ops : Array Oper} {i : Nat} {rest : List Nat} {o : Oper} {Q : St → Prop} {d : Nat} (ho : ops[i]? = some o) (hw : wantedD ops s o = some false) (hd : o.dst = some d) (hn : d < s.n) (h : RG c ops rest (s.set d (.tup [])) Q) : RG c ops (i :: rest) s Q := by
  intro K ρ a w hi
  simp only [wpOps, ho, wanted_of hi hw]
  rw [if_neg (by simp), hd]
  exact h K ρ _ w (inv_set hi hn hi.h (Stays.refl _ _ _) (.tup .nil))

/-- The outcome of a test, known from now on. -/
theorem rg_know {ops : Array Oper} {l : List Nat} {Q : St → Prop} {t : Nat} {b : Bool} (ht : s.get t = .i (.v (.bool b))) (h1 : b = true → RG c ops l (s.set t .bt) Q) (h2 : b = false → RG c ops l (s.set t .bf) Q) : RG c ops l s Q := by
  intro K ρ a w hi
  have hr := hi.get t
  rw [ht] at hr
  have hv := inv_v hr
  have hset : ∀ d, RepD K ρ (shape s.S) (.bool b) d → Inv c.E K ρ (s.set t d) a w := by
    intro d hd
    refine ⟨hi.h, hi.defers, hi.size, fun t' d' e => ?_⟩
    simp only [St.set, look_cons] at e
    split at e
    · rename_i e'
      subst e'
      simp only [Option.some.injEq] at e
      subst e
      rw [hv]
      exact hd
    · exact hi.slots _ _ e
  cases b with
  | true => exact h1 rfl K ρ a w (hset _ .bt)
  | false => exact h2 rfl K ρ a w (hset _ .bf)

/-- THE STEP, by what the operation answers. -/
def Does (c : Cx) (o : Oper) (s : St) (Q : St → Prop) : Ask → Prop
  | .val d => match o.dst with
    | some t => t < s.n ∧ Q (s.set t d)
    | none => False
  | .new adds d => match o.dst, s.S with
    | some t, H :: O => t < s.n ∧ (∀ nm, look adds nm ≠ none → look H nm = none) ∧ Q { σ := (t, d) :: s.σ, S := (adds ++ H) :: O, n := s.n }
    | _, _ => False
  | .mod s' => turns o = true ∧ Q s'
  | .need p k => p ∧ Does c o s Q k
  | .elem xs i k => ∃ d, xs[i]? = some d ∧ Does c o s Q (k d)
  | .obj dep nm k => ∃ ob, objAt s.S dep nm = some ob ∧ Does c o s Q (k ob)
  | .alt x y => Does c o s Q x ∨ Does c o s Q y
  | .anyb p => match o.dst with
    | some t => t < s.n ∧ ∀ b, p b → Q (s.set t (.i (.v (.bool b))))
    | none => False
  | .call f args => ∀ K ρ a w, Inv c.E K ρ s a w → (∃ vs, (execOp a.eval o).run c.P w = (callFunc f vs.toArray).run c.P w ∧ RepDL K ρ (shape s.S) vs args) →
      ∀ (next : Act → World → Prop) (Qe : Exit → Act → World → Prop), (∀ v w' s' K' ρ', K.le K' → Keeps (goneOf s o) ρ ρ' (shape s.S) (shape s'.S) → Inv c.E K' ρ' s' (a.put o.dst v) w' → Q s' → next (a.put o.dst v) w') → o.wp c.P a w next Qe
  | .bad => False

theorem stp_of_does (hT : TOk c.P c.T) {o : Oper} {Q : St → Prop} (h : Does c o s Q (exec c.T s o)) : Stp c o s Q := by
  intro K ρ a w hi next Qe hn
  have hcase : ∀ (k : Ask), Does c o s Q k → ((o.dst = none ∧ SndO c.P 0 K ρ s.S w a o k) ∨ ∃ t, o.dst = some t ∧ SndO c.P t K ρ s.S w a o k) → (turns o = true → SndM c.P c.E K ρ s.S a w o (goneOf s o) k) → o.wp c.P a w next Qe := by
    intro k
    induction k with
    | val d =>
      intro h hs _
      simp only [Does] at h
      rcases hs with ⟨hs, _⟩ | ⟨t, ht, hs⟩
      · rw [hs] at h; exact h.elim
      · rw [ht] at h
        obtain ⟨v, hr, hrep⟩ := hs
        simp only [Oper.wp, hr, Oper.upon]
        exact hn _ _ (s.set t d) _ _ K.le_refl (fun _ _ _ _ e => ⟨e, rfl⟩) (by rw [ht]; exact inv_set hi h.1 hi.h (Stays.refl _ _ _) hrep) h.2
    | new adds d =>
      intro h hs _
      simp only [Does] at h
      rcases hs with ⟨hs, _⟩ | ⟨t, ht, hs⟩
      · rw [hs] at h; exact h.elim
      · rw [ht] at h
        cases hS : s.S with
        | nil => rw [hS] at h; exact h.elim
        | cons H O =>
          rw [hS] at h hs
          obtain ⟨h1, h2, h3⟩ := h
          obtain ⟨v, K', ρ', w', hr, hg, hrep⟩ := hs (by simpa [objAt] using h2)
          have hh := hi.h
          rw [hS] at hh
          obtain ⟨hI, hst⟩ := HInv.grow (S := H :: O) rfl hh (fun _ _ _ e => e) h2 hg
          simp only [Oper.wp, hr, Oper.upon]
          refine hn _ _ _ _ _ hst.le (fun d n x _ e => ⟨hst.shp _ _ _ (by rw [hS] at e; exact e), hst.loc _ _ _ (by rw [hS] at e; exact e)⟩) ?_ h3
          rw [ht]
          refine inv_set hi h1 hI ?_ hrep
          rw [hS]; exact hst
    | mod s' =>
      intro h _ hm
      obtain ⟨r, w', K', ρ', hr, hle, hk, h1⟩ := hm h.1
      simp only [Oper.wp, hr]
      rcases h1 with ⟨rfl, hi'⟩ | ⟨v, rfl, hi'⟩
      · exact hn _ _ _ _ _ hle hk hi' h.2
      · exact hn _ _ _ _ _ hle hk hi' h.2
    | need p k ih =>
      intro h hs hm
      refine ih h.2 ?_ (fun ht => hm ht h.1)
      rcases hs with ⟨hs, hs'⟩ | ⟨t, ht, hs⟩
      · exact .inl ⟨hs, hs' h.1⟩
      · exact .inr ⟨t, ht, hs h.1⟩
    | elem xs i k ih =>
      intro h hs hm
      obtain ⟨d, hd, h⟩ := h
      refine ih d h ?_ (fun ht => hm ht d hd)
      rcases hs with ⟨hs, hs'⟩ | ⟨t, ht, hs⟩
      · exact .inl ⟨hs, hs' d hd⟩
      · exact .inr ⟨t, ht, hs d hd⟩
    | obj dep nm k ih =>
      intro h hs hm
      obtain ⟨ob, ho, h⟩ := h
      refine ih ob h ?_ (fun ht => hm ht ob ho)
      rcases hs with ⟨hs, hs'⟩ | ⟨t, ht, hs⟩
      · exact .inl ⟨hs, hs' ob ho⟩
      · exact .inr ⟨t, ht, hs ob ho⟩
    | anyb p =>
      intro h hs _
      simp only [Does] at h
      rcases hs with ⟨hs, _⟩ | ⟨t, ht, hs⟩
      · rw [hs] at h; exact h.elim
      · rw [ht] at h
        obtain ⟨b, hr, hp⟩ := hs
        simp only [Oper.wp, hr, Oper.upon]
        exact hn (.bool b) _ (s.set t (.i (.v (.bool b)))) _ _ K.le_refl (fun _ _ _ _ e => ⟨e, rfl⟩) (by rw [ht]; exact inv_set hi h.1 hi.h (Stays.refl _ _ _) (rep_v rfl)) (h.2 b hp)
    | call f args =>
      intro h hs _
      rcases hs with ⟨_, hs⟩ | ⟨t, ht, hs⟩
      · exact h K ρ a w hi hs next Qe hn
      · exact h K ρ a w hi hs next Qe hn
    | alt x y ih1 ih2 =>
      intro h hs hm
      rcases h with h | h
      · refine ih1 h ?_ fun _ => ?_
        · rcases hs with ⟨h1, h2⟩ | ⟨t, ht, hs⟩
          · exact .inl ⟨h1, h2.1⟩
          · exact .inr ⟨t, ht, hs.1⟩
        · rename_i htn; exact (hm htn).1
      · refine ih2 h ?_ fun _ => ?_
        · rcases hs with ⟨h1, h2⟩ | ⟨t, ht, hs⟩
          · exact .inl ⟨h1, h2.2⟩
          · exact .inr ⟨t, ht, hs.2⟩
        · rename_i htn; exact (hm htn).2
    | bad => intro h; exact h.elim
  refine hcase _ h ?_ (fun ht => exec_mod hT hi ht)
  cases hd : o.dst with
  | none => exact .inl ⟨rfl, exec_snd hT hi.h (.inr hd) fun x _ => hi.ev x⟩
  | some t => exact .inr ⟨t, rfl, exec_snd hT hi.h (.inl hd) fun x _ => hi.ev x⟩
end
end Go.AI
