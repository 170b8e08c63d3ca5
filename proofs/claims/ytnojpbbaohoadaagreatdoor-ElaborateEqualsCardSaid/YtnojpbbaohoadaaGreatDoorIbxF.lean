/- The layer of abstract runs, part 6. -/
import Derived.Test.YtnojpbbaohoadaaGreatDoorIbxE
set_option linter.unusedSimpArgs false
set_option linter.unusedVariables false
set_option linter.all false
set_option maxHeartbeats 4000000
namespace Go.AI
section
variable {P:Program} {T:TT} {E:Env} {K:Kn} {ρ:Nat→Nat→Loc} {s:St} {w:World} {dst:Nat}
theorem zcg {t e:TypeId} (a:Option Addr) (n c:Nat) (ty:TypeId) (h:P.underlying t=some (.slice e)):(Builtin.len_ #[t] ty #[.slice a n c]).run P w=.ok (.int .i64 n) w:=by
 simp[Builtin.len_,run_underlying h,goInt]
theorem zuA {t:TypeId} (b:ByteArray) (ty:TypeId) (h:P.underlying t=some .string):(Builtin.len_ #[t] ty #[.string b]).run P w=.ok (.int .i64 b.size) w:=by
 simp[Builtin.len_,run_underlying h,goInt]
theorem zwU (hT:TOk P T) {t ty:Nat} {vx:Value} {x:D} (hx:RepD K ρ (shape s.S) vx x):SndV P dst K ρ s.S w (Builtin.len_ #[t] ty #[vx]) (zp8 T s t x):=by
 unfold zp8
 split
 ·rename_i es n xs sz by_ e z cm hi;have hu:P.underlying t=some (.slice e):=(hT _ _ hi).kind
  cases hx with
  |i r=>
   cases r with
   |nil=>exact⟨_,zcg _ _ _ _ hu,zbg rfl⟩
   |sl=>exact⟨_,zcg _ _ _ _ hu,zbg rfl⟩
 ·rename_i es n xs sz by_ e z cm hi;have hu:P.underlying t=some (.slice e):=(hT _ _ hi).kind
  cases hx with
  |xsl=>exact⟨_,zcg _ _ _ _ hu,zbg rfl⟩
  |xnil=>exact⟨_,zcg _ _ _ _ hu,zbg rfl⟩
 ·rename_i sz by_ e z cm hi;have hu:P.underlying t=some (.slice e):=(hT _ _ hi).kind;obtain rfl:=zaP hx;exact⟨_,zcg _ _ _ _ hu,zbg rfl⟩
 ·rename_i sz by_ e z cm hi;have hu:P.underlying t=some (.slice e):=(hT _ _ hi).kind;obtain rfl:=zaP hx;exact⟨_,zcg _ _ _ _ hu,zbg rfl⟩
 ·rename_i dep nm sz by_ e z cm hi;have hu:P.underlying t=some (.slice e):=(hT _ _ hi).kind;refine hobj rfl fun ob ho=>?_
  cases ob with
  |mp=>trivial
  |box=>trivial
  |tb=>trivial
  |arr ty es n xs wr=>
   cases hx with
   |omp e'=>rw[zcC dep nm ho] at e';cases e'
   |osl e'=>
    rw[zcC dep nm ho] at e';simp only[Ob.sh,Option.some.injEq,Sh.arr.injEq] at e';obtain⟨rfl,rfl⟩:=e';exact⟨_,zcg _ _ _ _ hu,zbg rfl⟩
 ·rename_i b sz by_ z cm hi;have hu:P.underlying t=some .string:=(hT _ _ hi).kind;obtain rfl:=zaP hx;exact⟨_,zuA _ _ hu,zbg rfl⟩
 ·trivial
structure Shows (K:Kn) (v:Value) (es n:Nat) (xs:List (List I)):Prop where
 len:xs.length=n
 el:∀d∈xs,d.length=es
 at':∃a cap,v=.slice a n cap∧n≤cap∧((n=0∧cap=0)∨∃b o cs,a=some ⟨b,o,none⟩∧RepL K cs xs.flatten∧∀j c,cs[j]? = some c→K b (o+j)=some c)
theorem zut (hw:HInv E K ρ s.S w) {m:Sem Value} {vx:Value} {x:D} (hx:RepD K ρ (shape s.S) vx x) {k:Nat→Nat→List (List I)→Ask}
  (h:∀es n xs,Shows K vx es n xs→SndV P dst K ρ s.S w m (k es n xs)):SndV P dst K ρ s.S w m (zik s x k):=by
 unfold zik
 split
 ·cases hx with
  |i r=>
   cases r with
   |nil=>exact h _ _ _ ⟨rfl,by simp,_,0,rfl,Nat.le_refl _,.inl ⟨rfl,rfl⟩⟩
   |sl r e k c l=>exact h _ _ _ ⟨l,e,_,_,rfl,c,.inr ⟨_,_,_,rfl,r,k⟩⟩
 ·cases hx with
  |xnil=>exact h _ _ _ ⟨rfl,by simp,_,0,rfl,Nat.le_refl _,.inl ⟨rfl,rfl⟩⟩
  |xsl r e k l=>exact h _ _ _ ⟨l,e,_,_,rfl,Nat.le_refl _,.inr ⟨_,_,_,rfl,r,k⟩⟩
 ·rename_i dep nm;refine hobj rfl fun ob ho=>?_
  cases ob with
  |mp=>trivial
  |box=>trivial
  |tb=>trivial
  |arr ty es n xs wr=>
   cases wr with
   |true=>trivial
   |false=>
    cases hx with
    |omp e'=>rw[zcC dep nm ho] at e';cases e'
    |osl e'=>
     rw[zcC dep nm ho] at e';simp only[Ob.sh,Option.some.injEq,Sh.arr.injEq] at e';obtain⟨rfl,rfl⟩:=e';obtain⟨h1,h2,h3,h3',h4⟩:=zep hw ho;refine h _ _ _ ⟨h2,h1,_,_,rfl,h3,?_⟩;rcases h4 with ⟨h4,h4'⟩|⟨h5,c,h6,h7,h8,h9,h10,h11⟩
     ·exact .inl ⟨by omega,h4⟩
     ·refine .inr ⟨_,0,_,h5,h8,?_⟩;intro j x hx;rw[List.getElem?_take] at hx
      split at hx
      ·rw[Nat.zero_add,h11 rfl j (by assumption)];simpa using hx
      ·cases hx
 ·trivial
theorem zjJ (t e:TypeId) (i:TI) (hu:P.underlying t=some (.slice e)) (hi:TIok P e i) (a:Option Addr) (n cap:Nat) (lo hi' mx:Option Value) (l h m:Nat)
  (hb:(Instr.sliceBounds true n cap lo hi' mx).run P w=.ok (l,h,m) w) :
  (Instr.sliceAt t (.slice a n cap) lo hi' mx).run P w=.ok (.slice (if m=l then a else a.map (·.add (l*i.size))) (h-l) (m-l)) w:=by
 simp[Instr.sliceAt,Instr.slice,run_underlying hu,hb,run_sizeOf hi]
theorem zsz {es:Nat} {xs:List (List I)} (b:Nat) (he:∀d∈xs,d.length=es) (hb:b≤xs.length):xs.flatten.take (b*es)=(xs.take b).flatten:=by
 have:=zbE (xs.take b) (fun d hd=>he d (List.mem_of_mem_take hd));rw[List.length_take,Nat.min_eq_left hb] at this
 conv=>lhs;rw[←List.take_append_drop b xs,List.flatten_append]
 rw[←this,List.take_left]
theorem zsB {es:Nat} {xs:List (List I)} (b:Nat) (he:∀d∈xs,d.length=es) (hb:b≤xs.length):xs.flatten.drop (b*es)=(xs.drop b).flatten:=by
 have:=zbE (xs.take b) (fun d hd=>he d (List.mem_of_mem_take hd));rw[List.length_take,Nat.min_eq_left hb] at this
 conv=>lhs;rw[←List.take_append_drop b xs,List.flatten_append]
 rw[←this,List.drop_left]
theorem zun {cs:List Value} {xs:List (List I)} {es a b:Nat} (hr:RepL K cs xs.flatten) (he:∀d∈xs,d.length=es) (hb:b≤xs.length) (hab:a≤b) :
  RepL K ((cs.take (b*es)).drop (a*es)) ((xs.take b).drop a).flatten:=by
 rw[←zsB a (fun d hd=>he d (List.mem_of_mem_take hd)) (by simp;omega),←zsz b he hb];exact (hr.take _).drop _
theorem Shows.sub {v:Value} {es n:Nat} {xs:List (List I)} (h:Shows K v es n xs) :
  ∃p cap,v=.slice p n cap∧n≤cap∧∀a b m,a≤b→b≤n→b≤m→m≤cap → 
   Rep K (.slice (if m=a then p else p.map (·.add (a*es))) (b-a) (m-a)) (.sl es (b-a) ((xs.take b).drop a)) ∧
   (b=m→∀(ρ:Nat→Nat→Loc) (sh:Nat→Nat→Option Sh),RepD K ρ sh (.slice (if m=a then p else p.map (·.add (a*es))) (b-a) (m-a)) (.xsl es (b-a) ((xs.take b).drop a))):=by
 obtain⟨h1,h2,p,cap,rfl,h3,h4⟩:=h;refine⟨p,cap,rfl,h3,fun a b m hab hbn hbm hmc=>?_⟩;have hlen:((xs.take b).drop a).length=b-a:=by simp;omega
 have hel:∀d∈(xs.take b).drop a,d.length=es:=fun d hd=>h2 d (List.mem_of_mem_take (List.mem_of_mem_drop hd));rcases h4 with ⟨h4,rfl⟩|⟨bl,o,cs,rfl,h6,h7⟩
 ·have hb0:b=0:=by omega
  have ha0:a=0:=by omega
  have hm0:m=0:=by omega
  subst hb0;subst ha0;subst hm0;have hx:xs=[]:=List.eq_nil_of_length_eq_zero (by omega);subst hx;exact⟨by simpa using Rep.nil,fun _ _ _=>by simpa using RepD.xnil⟩
 ·have hr:=zun h6 h2 (by omega:b≤xs.length) hab
  by_cases hm:m=a
  ·have hba:b=a:=by omega
   have hx:(xs.take b).drop a=[]:=List.eq_nil_of_length_eq_zero (by omega);rw[hx] at hr hlen hel ⊢;simp only[hm,if_true,hba,Nat.sub_self];exact⟨.sl .nil (by simp) (fun _ _ h=>by simp at h) (Nat.le_refl _) rfl,fun _ _ _=>.xsl .nil (by simp) (fun _ _ h=>by simp at h) rfl⟩
  ·simp only[hm,if_false,Option.map_some,Addr.add_lit];have hk:∀j c,((cs.take (b*es)).drop (a*es))[j]? = some c→K bl (o+a*es+j)=some c:=by
    intro j c hc;rw[List.getElem?_drop,List.getElem?_take] at hc
    split at hc
    ·have:=h7 _ _ hc;rwa [show o+a*es+j=o+(a*es+j) by omega]
    ·cases hc
   exact⟨.sl hr hel hk (by omega) hlen,fun e _ _=>by subst e;exact .xsl hr hel hk hlen⟩
theorem zc2 {k:IntKind} {x:Int} {y:Nat} {c:BoundsCode} (h:0≤x∧x≤y):(Instr.sliceBound (.int k x) y c).run P w=.ok x.toNat w:=by
 simp[Instr.sliceBound,asIntOf,h.1,h.2]
theorem zro (hT:TOk P T) (hw:HInv E K ρ s.S w) {t:Nat} {vx:Value} {x:D} (hx:RepD K ρ (shape s.S) vx x) {vlo vhi vmx:Option Value} {lo hi mx:Option D}
  (hlo:∀d,lo=some d→∃v,vlo=some v∧RepD K ρ (shape s.S) v d) (hlo':lo=none→vlo=none)
  (hhi:∀d,hi=some d→∃v,vhi=some v∧RepD K ρ (shape s.S) v d) (hhi':hi=none→vhi=none)
  (hmx:∀d,mx=some d→∃v,vmx=some v∧RepD K ρ (shape s.S) v d) (hmx':mx=none→vmx=none) :
  SndV P dst K ρ s.S w (Instr.sliceAt t vx vlo vhi vmx) (zfF T s t x lo hi mx):=by
 unfold zfF
 split
 ·rename_i sz by_ e z cm hi0;have hu:P.underlying t=some (.slice e):=(hT _ _ hi0).kind;unfold zjG
  cases he:look T e with
  |none=>trivial
  |some ie=>
   have hie:=hT _ _ he;refine zut hw hx fun es n xs hs=>?_
   cases hb:Nat.beq es ie.size with
   |false=>trivial
   |true=>
    obtain rfl:=Nat.eq_of_beq_eq_true hb;obtain⟨p,cap,rfl,hn,hsub⟩:=hs.sub;have hln:=hs.len;simp only[Bool.not_true,cond_false]
    split
    ·obtain rfl:=hlo' rfl;obtain rfl:=hhi' rfl;obtain rfl:=hmx' rfl;have h:=(hsub 0 n cap (Nat.zero_le _) (Nat.le_refl _) hn (Nat.le_refl _)).1;refine⟨_,zjJ t e ie hu hie p n cap none none none 0 n cap (by simp[Instr.sliceBounds]),.i ?_⟩;simpa [←hln] using h
    ·rename_i k a;obtain⟨vl,rfl,hl⟩:=hlo _ rfl;obtain rfl:=zaP hl;obtain rfl:=hhi' rfl;obtain rfl:=hmx' rfl;intro hk;have h:=(hsub a.toNat n cap (by omega) (Nat.le_refl _) hn (Nat.le_refl _)).1;refine⟨_,zjJ t e ie hu hie p n cap _ none none a.toNat n cap (by simp[Instr.sliceBounds,zc2 hk]),.i ?_⟩;simpa [←hln] using h
    ·rename_i k b;obtain⟨vl,rfl,hl⟩:=hhi _ rfl;obtain rfl:=zaP hl;obtain rfl:=hlo' rfl;obtain rfl:=hmx' rfl;intro hk;have h:=(hsub 0 b.toNat cap (Nat.zero_le _) (by omega) (by omega) (Nat.le_refl _)).1;refine⟨_,zjJ t e ie hu hie p n cap none _ none 0 b.toNat cap (by simp[Instr.sliceBounds,zc2 (P:=P) (w:=w) (k:=k) (c:=.sliceAcap) (show 0≤b∧b≤(cap:Int) by omega)]),.i ?_⟩;simpa using h
    ·rename_i k a k' b;obtain⟨vl,rfl,hl⟩:=hlo _ rfl;obtain rfl:=zaP hl;obtain⟨vh,rfl,hh⟩:=hhi _ rfl;obtain rfl:=zaP hh;obtain rfl:=hmx' rfl;intro hk;have h:=(hsub a.toNat b.toNat cap (by omega) (by omega) (by omega) (Nat.le_refl _)).1;refine⟨_,zjJ t e ie hu hie p n cap _ _ none a.toNat b.toNat cap (by simp[Instr.sliceBounds,zc2 (P:=P) (w:=w) (k:=k') (c:=.sliceAcap) (show 0≤b∧b≤(cap:Int) by omega),zc2 (P:=P) (w:=w) (k:=k) (c:=.sliceB) (show 0≤a∧a≤(b.toNat:Int) by omega)]),.i ?_⟩;exact h
    ·rename_i k b k' c;obtain⟨vl,rfl,hl⟩:=hhi _ rfl;obtain rfl:=zaP hl;obtain⟨vh,rfl,hh⟩:=hmx _ rfl;obtain rfl:=zaP hh;obtain rfl:=hlo' rfl;intro hk;obtain⟨hk1,rfl,hk2⟩:=hk;have h:=(hsub 0 b.toNat b.toNat (Nat.zero_le _) (by omega) (Nat.le_refl _) (by omega)).2 rfl ρ (shape s.S);refine⟨_,zjJ t e ie hu hie p n cap none _ _ 0 b.toNat b.toNat (by simp[Instr.sliceBounds,zc2 (P:=P) (w:=w) (k:=k') (c:=.slice3Acap) (show 0≤b∧b≤(cap:Int) by omega),zc2 (P:=P) (w:=w) (k:=k) (c:=.slice3B) (show 0≤b∧b≤(b.toNat:Int) by omega)]),?_⟩;simpa using h
    ·trivial
 ·rename_i sz by_ z cm hi0;have hu:P.underlying t=some .string:=(hT _ _ hi0).kind
  split
  ·rename_i b;obtain rfl:=zaP hx
   split
   ·rename_i k l;obtain⟨vl,rfl,hl⟩:=hlo _ rfl;obtain rfl:=zaP hl;obtain rfl:=hhi' rfl;obtain rfl:=hmx' rfl;intro hk;refine⟨_,?_,zbg rfl⟩;simp[Instr.sliceAt,Instr.slice,run_underlying hu,Instr.sliceBounds,zc2 (P:=P) (w:=w) (k:=k) (c:=.sliceB) hk]
   ·rename_i k h;obtain⟨vl,rfl,hl⟩:=hhi _ rfl;obtain rfl:=zaP hl;obtain rfl:=hlo' rfl;obtain rfl:=hmx' rfl;intro hk;refine⟨_,?_,zbg rfl⟩;simp[Instr.sliceAt,Instr.slice,run_underlying hu,Instr.sliceBounds,zc2 (P:=P) (w:=w) (k:=k) (c:=.sliceAlen) hk]
   ·trivial
  ·trivial
 ·trivial
theorem zrr (hT:TOk P T) {S:List Heap} {t:Nat} {vx vi:Value} {x ix:D} (hx:RepD K ρ (shape S) vx x) (hix:RepD K ρ (shape S) vi ix) :
  SndV P dst K ρ S w (Instr.index t vx vi) (zlq T t x ix):=by
 unfold zlq
 split
 ·rename_i sz by_ z cm b kk k hi;have hu:P.underlying t=some .string:=(hT _ _ hi).kind;obtain rfl:=zaP hx;obtain rfl:=zaP hix;intro hk;refine⟨_,?_,zbg rfl⟩;have hlt:k.toNat<b.size:=by omega
  have hlt':k.toNat<b.data.size:=hlt;simp[Instr.index,asIntOf,run_underlying hu,hk.1,hlt,List.getD,hlt'];rfl
 ·trivial
theorem zrs (hT:TOk P T) {S:List Heap} {t:Nat} {vx:Value} {x:D} (hx:RepD K ρ (shape S) vx x) (f:Nat):SndV P dst K ρ S w (Instr.field t vx f) (zlr T t x f):=by
 unfold zlr
 split
 ·rename_i sz by_ fs z cm hi;obtain⟨fields,hu,_,hf⟩:=(hT _ _ hi).kind
  split
  ·rename_i o z cs hfo;obtain⟨fl,inf,h1,h2,h3,h4,h5,h6⟩:=hf _ _ hfo;simp only at h2 h4 h5 h6
   cases hx with
   |agg r=>
    cases hb:Nat.ble (o+z) cs.length with
    |false=>trivial
    |true=>
     have hle:o+z≤cs.length:=Nat.le_of_ble_eq_true hb;refine zdo ⟨_,?_,.agg ((r.drop o).take z)⟩;simp[Instr.field,run_underlying hu,h1,asAgg,part,h6,Go.sizeOf,typeInfo,h3,h4,h2]
  ·rename_i o z cs hfo;obtain⟨fl,inf,h1,h2,h3,h4,h5,h6⟩:=hf _ _ hfo;simp only at h2 h4 h5 h6
   cases hx with
   |agg r=>
    cases hd:cs.drop o with
    |nil=>trivial
    |cons d rr=>
     have hd0:cs[o]? = some d:=by
      have:=congrArg (fun l=>l[0]?) hd;simpa using this
     obtain⟨y,hy,hrep⟩:=r.get hd0;refine zdZ ⟨y,?_,hrep⟩;simp[Instr.field,run_underlying hu,h1,asAgg,part,h6,h2,hy]
  ·trivial
 ·trivial
end
end Go.AI
