/- The layer of abstract runs, part 5. -/
import Derived.Test.YtnojpbbaohoadaaGreatDoorIbxD
import Derived.Laws.BytesString
set_option linter.unusedSimpArgs false
set_option linter.unusedVariables false
set_option linter.all false
set_option maxHeartbeats 4000000
namespace Go.AI
theorem zhn:∀{es:Nat} (xs:List (List I)) (i:Nat) {d:List I},(∀d∈xs,d.length=es)→xs[i]? = some d→(xs.flatten.drop (i*es)).take es=d
 |es,[],i,d,_,h=>by simp at h
 |es,x::xs,0,d,hl,h=>by
  have hx:x.length=es:=hl x (by simp);simp at h;subst h;simp[←hx]
 |es,x::xs,i+1,d,hl,h=>by
  have hx:x.length=es:=hl x (by simp);simp at h;have:=zhn xs i (fun d hd=>hl d (by simp[hd])) h;rw[List.flatten_cons,show (i+1)*es=x.length+i*es by rw[Nat.add_mul,hx];omega,List.drop_length_add_append];exact this
theorem zbE:∀{es:Nat} (xs:List (List I)),(∀d∈xs,d.length=es)→xs.flatten.length=xs.length*es
 |es,[],_=>by simp
 |es,x::xs,h=>by
  have hx:x.length=es:=h x (by simp);rw[List.flatten_cons,List.length_append,zbE xs (fun d hd=>h d (by simp[hd])),hx,List.length_cons,Nat.add_mul];omega
section
variable {P:Program} {T:TT} {E:Env} {K:Kn} {ρ:Nat→Nat→Loc} {s:St} {w:World} {dst:Nat}
theorem zep (hw:HInv E K ρ s.S w) {dep nm:Nat} {ob:Ob} (h:zab s.S dep nm=some ob) :
  OwnAt K (fun d n=>ρ (dep+d) n) (fun d n=>shape s.S (dep+d) n) w (ρ dep nm) ob:=by
 have:=hw.own _ _ _ h;have e:shape (s.S.drop dep)=fun d n=>shape s.S (dep+d) n:=by funext d n;exact zbk _ _ _ _
 rwa [e] at this
theorem zcC (dep nm:Nat) {ob:Ob} (h:zab s.S dep nm=some ob):shape s.S dep nm=some ob.sh:=by simp[shape,h]
theorem cell_of_heap {w:World} {b:Nat} {c:Array Value} {T:TypeId} {f:Nat×Nat} (h:w.heap[b]? = some (.cells c T f)) (o:Nat):w.cell? ⟨b,o,none⟩=c[o]?:=by
 simp[World.cell?,h]
theorem ztj {l:Loc} {ty es n:Nat} {xs:List (List I)} {wr:Bool} {sh:Nat→Nat→Option Sh} {ρ:Nat→Nat→Loc} (h:OwnAt K ρ sh w l (.arr ty es n xs wr)) {i:Nat} {d:List I} (hd:xs[i]? = some d) :
  ∃c,RepL K c d∧c.length=es∧∀j x,c[j]? = some x→w.cell? ⟨l.block,i*es+j,none⟩=some x:=by
 obtain⟨h1,h2,h2',_,h3⟩:=h;have hin:i<n:=by rw[←h2];exact (List.getElem?_eq_some_iff.1 hd).1
 rcases h3 with ⟨h3,_⟩|⟨_,c,hc,hsz,hr,_⟩
 ·omega
 ·refine⟨((c.toList.take (n*es)).drop (i*es)).take es,?_,?_,?_⟩
  ·have:=(hr.drop (i*es)).take es;rwa [zhn xs i h1 hd] at this
  ·have:=((hr.drop (i*es)).take es).length;rw[this,zhn xs i h1 hd,h1 d (List.mem_of_getElem? hd)]
  ·intro j x hx;rw[List.getElem?_take] at hx
   split at hx
   ·rw[List.getElem?_drop,List.getElem?_take] at hx
    split at hx
    ·rw[cell_of_heap hc];simpa using hx
    ·cases hx
   ·cases hx
theorem znd (hT:TOk P T) (hw:HInv E K ρ s.S w) {t:Nat} {vp:Value} {p:D} (hp:RepD K ρ (shape s.S) vp p) :
  SndV P dst K ρ s.S w (Instr.loadAt t vp) (zhp T s t p):=by
 unfold zhp
 cases hi:look T t with
 |none=>trivial
 |some i=>
  have hok:=hT _ _ hi
  cases hp with
  |box e=>
   rename_i dep nm off;refine hobj rfl fun ob ho=>?_;have hown:=zep hw ho
   cases ob with
   |mp kk m=>simp[shape,ho,Ob.sh] at e
   |tb=>trivial
   |box cs=>
    obtain⟨c,T',hc,hr,_⟩:=hown;have:=zew (dst:=dst) (b:=(ρ dep nm).block) (o:=0) (off:=off) hok hw (RepDL.shift (ρ:=ρ) (sh:=shape s.S) dep hr) (by
     intro j x hx;rw[Nat.zero_add,cell_of_heap hc];simpa using hx)
    simpa [Instr.loadAt,Instr.sureAddr] using this
   |arr ty es n xs wr=>simp[shape,ho,Ob.sh] at e
  |arr e l=>
   rename_i dep nm x off es len;refine hobj rfl fun ob ho=>?_;have hown:=zep hw ho
   cases ob with
   |mp kk m=>simp[shape,ho,Ob.sh] at e
   |box cs=>simp[shape,ho,Ob.sh] at e
   |tb=>simp[shape,ho,Ob.sh] at e
   |arr ty es' n xs wr=>
    simp only[shape,ho,Ob.sh,Option.map_some,Option.some.injEq,Sh.arr.injEq] at e;obtain⟨rfl,rfl⟩:=e;intro d hd;obtain⟨c,hr,hl,hk⟩:=ztj hown hd;have:=zew (dst:=dst) (b:=(ρ dep nm).block) (o:=x*es') (off:=off) hok hw (RepDL.ofL (ρ:=ρ) (sh:=shape s.S) hr) hk;simpa [Instr.loadAt,Instr.sureAddr] using this
  |i r=>
   cases r with
   |ptr r e k=>
    rename_i b o es x off cs xs;intro d hd;obtain⟨c,hr,hl,hk'⟩:=zuY r e k hd;have:=zew (dst:=dst) (b:=b) (o:=o+x*es) (off:=off) hok hw (RepDL.ofL (ρ:=ρ) (sh:=shape s.S) hr) (fun j y hy=>hw.holds _ _ _ (hk' j y hy));simpa [Instr.loadAt,Instr.sureAddr] using this
   |_=>trivial
  |_=>trivial
theorem zeo {b o t:Nat} {fl:Field} {inf:TypeInfo} (h:P.info? fl.type=some inf) (h0:inf.size≠0):(fieldPlace ⟨b,o,none⟩ fl).run P w=.ok ⟨b,o+fl.offset,none⟩ w:=by
 simp[fieldPlace,Go.sizeOf,typeInfo,h,h0,Addr.add_lit]
theorem ziE (hT:TOk P T) {S:List Heap} {t:Nat} {vp:Value} {p:D} (hp:RepD K ρ (shape S) vp p) (f:Nat) :
  SndV P dst K ρ S w (Instr.fieldAt t vp f) (zeM T t p f):=by
 unfold zeM
 split
 ·rename_i sz by_ fs z cm hi;have hok:=(hT _ _ hi).kind;obtain⟨fields,hu,hs,hf⟩:=hok
  split
  ·rename_i o z' ag hfo;obtain⟨fl,inf,h1,h2,h3,h4,h5,h6⟩:=hf _ _ hfo;simp only at h2 h4 h5;have h0:inf.size≠0:=by rw[h4];exact h5
   have hrun:∀b o',(Instr.fieldAt t (.pointer (some ⟨b,o',none⟩)) f).run P w=.ok (.pointer (some ⟨b,o'+fl.offset,none⟩)) w:=by
    intro b o';simp[Instr.fieldAt,run_underlying hu,h1,Instr.sureAddr,zeo (t:=t) (w:=w) h3 h0]
   cases hp with
   |box e=>exact⟨_,hrun _ _,by rw[h2];exact .box e⟩
   |arr e l=>exact⟨_,hrun _ _,by rw[h2,Nat.add_assoc];exact .arr e l⟩
   |i r=>
    cases r with
    |ptr r e k=>exact⟨_,hrun _ _,by rw[h2,Nat.add_assoc];exact .i (.ptr r e k)⟩
    |v e=>split<;>first|trivial|(rename_i h;cases h<;>exact⟨_,hrun _ _,by rw[h2];exact zbg rfl⟩)
    |_=>trivial
   |_=>trivial
  ·trivial
 ·trivial
theorem zbU {t e:Nat} {i:TI} (hu:P.underlying t=some (.slice e)) (hi:TIok P e i) {b o n cap:Nat} {k:IntKind} {x:Int} (h:0≤x∧x<n) :
  (Instr.indexAt t (.slice (some ⟨b,o,none⟩) n cap) (.int k x)).run P w=.ok (.pointer (some ⟨b,o+x.toNat*i.size,none⟩)) w:=by
 simp[Instr.indexAt,asIntOf,run_underlying hu,h.1,h.2,run_sizeOf hi,Addr.add_lit]
theorem ziD (hT:TOk P T) (hw:HInv E K ρ s.S w) {t:Nat} {vx vi:Value} {x ix:D} (hx:RepD K ρ (shape s.S) vx x) (hix:RepD K ρ (shape s.S) vi ix) :
  SndV P dst K ρ s.S w (Instr.indexAt t vx vi) (zcl T s t x ix):=by
 unfold zcl
 split
 ·rename_i kk k;obtain rfl:=zaP hix
  split
  ·rename_i sz by_ e z cm hi;have hu:P.underlying t=some (.slice e):=(hT _ _ hi).kind;unfold zjG
   cases he:look T e with
   |none=>trivial
   |some ie=>
    have hie:=hT _ _ he;simp only
    split
    ·rename_i es n xs
     cases hb:Nat.beq es ie.size with
     |false=>trivial
     |true=>
      obtain rfl:=Nat.eq_of_beq_eq_true hb;intro hk
      cases hx with
      |i r=>
       cases r with
       |nil=>simp only[Int.natCast_zero] at hk;omega
       |sl r e' k' c l=>exact⟨_,zbU hu hie hk,.i (by simpa using Rep.ptr (off:=0) (i:=k.toNat) r e' k')⟩
    ·rename_i es n xs
     cases hb:Nat.beq es ie.size with
     |false=>trivial
     |true=>
      obtain rfl:=Nat.eq_of_beq_eq_true hb;intro hk
      cases hx with
      |xnil=>simp only[Int.natCast_zero] at hk;omega
      |xsl r e' k' l=>exact⟨_,zbU hu hie hk,.i (by simpa using Rep.ptr (off:=0) (i:=k.toNat) r e' k')⟩
    ·rename_i dep nm;refine hobj rfl fun ob ho=>?_
     cases ob with
     |mp kk m=>trivial
     |box cs=>trivial
     |tb=>trivial
     |arr ty es n xs wr=>
      simp only
      cases hb:Nat.beq es ie.size with
      |false=>trivial
      |true=>
       obtain rfl:=Nat.eq_of_beq_eq_true hb;intro hk
       cases hx with
       |omp e'=>simp[shape,ho,Ob.sh] at e'
       |osl e'=>
        have hsh:shape s.S dep nm=some (.arr ie.size n):=by simp[shape,ho,Ob.sh]
        rw[hsh] at e';simp only[Option.some.injEq,Sh.arr.injEq] at e';obtain⟨rfl,rfl⟩:=e';obtain⟨_,_,h2',_,h3⟩:=zep hw ho;rcases h3 with ⟨h3,_⟩|⟨h4,_⟩
        ·omega
        ·rw[h4];have:=zbU (w:=w) (b:=(ρ dep nm).block) (o:=0) (cap:=(ρ dep nm).cap) (k:=kk) hu hie hk;exact⟨_,this,by simpa using RepD.arr (K:=K) (ρ:=ρ) (off:=0) hsh (by omega:k.toNat<n)⟩
    ·rename_i nm m;refine hobj rfl fun ob ho=>?_
     cases ob with
     |mp kk m=>trivial
     |box cs=>trivial
     |tb=>trivial
     |arr ty es n xs wr=>
      simp only
      cases hb:Nat.beq es ie.size with
      |false=>trivial
      |true=>
       obtain rfl:=Nat.eq_of_beq_eq_true hb;intro hk
       cases hx with
       |psl e' hm=>
        have hsh:shape s.S 0 nm=some (.arr ie.size n):=by simp[shape,ho,Ob.sh]
        rw[hsh] at e';simp only[Option.some.injEq,Sh.arr.injEq] at e';obtain⟨rfl,rfl⟩:=e';obtain⟨_,_,h2',_,h3⟩:=zep hw ho;rcases h3 with ⟨h3,_⟩|⟨h4,_⟩
        ·omega
        ·rw[h4];have:=zbU (w:=w) (b:=(ρ 0 nm).block) (o:=0) (cap:=(ρ 0 nm).cap) (k:=kk) hu hie hk;exact⟨_,this,by simpa using RepD.arr (K:=K) (ρ:=ρ) (off:=0) hsh (by omega:k.toNat<n)⟩
    ·intro hk;obtain rfl:=zaP hx;exact⟨_,zbU hu hie hk,zbg rfl⟩
    ·trivial
  ·rename_i sz by_ n e z cm hi;have hu:P.underlying t=some (.array n e):=(hT _ _ hi).kind;unfold zjG
   cases he:look T e with
   |none=>trivial
   |some ie=>
    have hie:=hT _ _ he;have hrun:∀b o',(0≤k∧k<n)→(Instr.indexAt t (.pointer (some ⟨b,o',none⟩)) (.int kk k)).run P w=.ok (.pointer (some ⟨b,o'+k.toNat*ie.size,none⟩)) w:=by
     intro b o' hk;simp[Instr.indexAt,asIntOf,run_underlying hu,Instr.sureAddr,hk.1,hk.2,run_sizeOf hie,Addr.add_lit]
    simp only
    split
    ·intro hk
     cases hx with
     |box e=>exact⟨_,hrun _ _ hk,.box e⟩
     |arr e l=>exact⟨_,hrun _ _ hk,by rw[Nat.add_assoc];exact .arr e l⟩
    ·intro hk
     cases hx with
     |i r=>
      cases r with
      |ptr r e k=>exact⟨_,hrun _ _ hk,by rw[Nat.add_assoc];exact .i (.ptr r e k)⟩
    ·trivial
  ·trivial
 ·trivial
theorem zpA (k yk:IntKind) (x y:Int) (h:0≤y∧y≤k.bits):Op.shift .shr k x yk y=pure (.int k (x/2 ^ y.toNat)):=shift_shr k yk x y h.1 h.2
theorem zpB (k yk:IntKind) (x y:Int) (h:0≤y∧y≤k.bits):Op.shift .shl k x yk y=pure (.int k (k.wrap (x*2 ^ y.toNat))):=shift_shl k yk x y h.1 h.2
theorem zsW (d:Nat) (t:TypeId) (a b:Bool) (h:P.underlying t=some .bool):(Op.equalIn (d+1) t (.bool a) (.bool b)).run P w=.ok (a==b) w:=by simp[Op.equalIn,run_underlying h]
theorem zig (t:TypeId) (a b:Bool) (h:P.underlying t=some .bool):(Op.equal t (.bool a) (.bool b)).run P w=.ok (a==b) w:=zsW 9999 t a b h
theorem zuB (t:TypeId) (a b:Bool) (h:P.underlying t=some .bool):(binOp .eql t (.bool a) (.bool b)).run P w=.ok (.bool (a==b)) w:=by
 simp only[binOp];simp[zig t a b h]
theorem zuz (t:TypeId) (a b:Bool) (h:P.underlying t=some .bool):(binOp .neq t (.bool a) (.bool b)).run P w=.ok (.bool (!(a==b))) w:=by
 simp only[binOp];simp[zig t a b h]
theorem zvF (d:Nat) {t e:TypeId} (p:Option Addr) (h:P.underlying t=some (.pointer e)):(Op.equalIn (d+1) t (.pointer p) (.pointer none)).run P w=.ok p.isNone w:=by cases p<;>simp[Op.equalIn,run_underlying h]
theorem zkv {t e:TypeId} (p:Option Addr) (h:P.underlying t=some (.pointer e)):(Op.equal t (.pointer p) (.pointer none)).run P w=.ok p.isNone w:=zvF 9999 p h
theorem zdK {t e:TypeId} (p:Option Addr) (h:P.underlying t=some (.pointer e)):(binOp .eql t (.pointer p) (.pointer none)).run P w=.ok (.bool p.isNone) w:=by
 simp only[binOp];simp[zkv p h]
theorem zdJ {t e:TypeId} (p:Option Addr) (h:P.underlying t=some (.pointer e)):(binOp .neq t (.pointer p) (.pointer none)).run P w=.ok (.bool (!p.isNone)) w:=by
 simp only[binOp];simp[zkv p h]
theorem zqd (d:Nat) {t e:TypeId} (a:Option Addr) (n c n' c':Nat) (h:P.underlying t=some (.slice e)):(Op.equalIn (d+1) t (.slice a n c) (.slice none n' c')).run P w=.ok a.isNone w:=by cases a<;>simp[Op.equalIn,run_underlying h]
theorem zlw {t e:TypeId} (a:Option Addr) (n c n' c':Nat) (h:P.underlying t=some (.slice e)):(Op.equal t (.slice a n c) (.slice none n' c')).run P w=.ok a.isNone w:=zqd 9999 a n c n' c' h
theorem zgM {t e:TypeId} (a:Option Addr) (n c n' c':Nat) (h:P.underlying t=some (.slice e)):(binOp .eql t (.slice a n c) (.slice none n' c')).run P w=.ok (.bool a.isNone) w:=by
 simp only[binOp];simp[zlw a n c n' c' h]
theorem zdM {t:Nat} {k:IntKind} (h:P.underlying t=some (.int k)):P.plainKey t=true:=by unfold Program.plainKey;rw[h]
theorem zrJ {t:Nat} (h:P.underlying t=some .string):P.plainKey t=true:=by unfold Program.plainKey;rw[h]
theorem zpK {t:Nat} (h:P.underlying t=some .bool):P.plainKey t=true:=by unfold Program.plainKey;rw[h]
theorem zws (pre:List Value) (v:Value) (vs:List Value):(pre++v::vs).toArray[pre.length]? = some v:=by simp
theorem zeT {k:IntKind} {r:List TK} {xs ys:List D} {e:Bool} (h:zbd (.int k::r) xs ys=some e):∃a b xs' ys' e',xs=.i (.v (.int k a))::xs'∧ys=.i (.v (.int k b))::ys'∧zbd r xs' ys'=some e'∧e=((a==b)&&e'):=by
 match xs,ys,h with
 |.i (.v (.int k1 a))::xs',.i (.v (.int k2 b))::ys',h=>
  simp only[zbd] at h
  cases hd:(decide (k=k1)&&decide (k=k2)) with
  |false=>rw[hd] at h;cases h
  |true=>
   rw[hd] at h;simp only[Bool.and_eq_true,decide_eq_true_eq] at hd;obtain⟨rfl,rfl⟩:=hd;simp only[cond_true] at h
   cases hc:zbd r xs' ys' with
   |none=>rw[hc] at h;cases h
   |some e'=>
    rw[hc] at h;simp only[Option.some.injEq] at h;exact⟨a,b,xs',ys',e',rfl,rfl,hc,h.symm⟩
theorem zlL {r:List TK} {xs ys:List D} {e:Bool} (h:zbd (.str::r) xs ys=some e):∃a b xs' ys' e',xs=.i (.v (.string a))::xs'∧ys=.i (.v (.string b))::ys'∧zbd r xs' ys'=some e'∧e=((a.toList==b.toList)&&e'):=by
 match xs,ys,h with
 |.i (.v (.string a))::xs',.i (.v (.string b))::ys',h=>
  simp only[zbd] at h
  cases hc:zbd r xs' ys' with
  |none=>rw[hc] at h;cases h
  |some e'=>
   rw[hc] at h;simp only[Option.some.injEq] at h;exact⟨a,b,xs',ys',e',rfl,rfl,hc,h.symm⟩
theorem zkJ {r:List TK} {xs ys:List D} {e:Bool} (h:zbd (.bool::r) xs ys=some e):∃a b xs' ys' e',xs=.i (.v (.bool a))::xs'∧ys=.i (.v (.bool b))::ys'∧zbd r xs' ys'=some e'∧e=((a==b)&&e'):=by
 match xs,ys,h with
 |.i (.v (.bool a))::xs',.i (.v (.bool b))::ys',h=>
  simp only[zbd] at h
  cases hc:zbd r xs' ys' with
  |none=>rw[hc] at h;cases h
  |some e'=>
   rw[hc] at h;simp only[Option.some.injEq] at h;exact⟨a,b,xs',ys',e',rfl,rfl,hc,h.symm⟩
theorem zlx {f : Field} {fs : List Field} {pre pre' vs us : List Value} {v u : Value} {d : Nat} {r : Bool} {w : World} (hn : f.name ≠ "_") (ho : f.offset = pre.length) (ho' : pre'.length = pre.length) (hp : P.plainKey f.type = true)
  (hr:(Op.equalIn d f.type v u).run P w=.ok r w) {e:Bool} (hrest:(Op.eqFields d (pre++v::vs).toArray (pre' ++ u::us).toArray fs).run P w=.ok e w) :
  (Op.eqFields d (pre++v::vs).toArray (pre' ++ u::us).toArray (f::fs)).run P w=.ok (r&&e) w:=by
 unfold Op.eqFields;rw[if_pos hn];simp only[Sem.run_bind];rw[run_part_plain w hp (by rw[ho];exact zws pre v vs)];simp only[Result.andThen_ok];rw[run_part_plain w hp (by rw[ho,←ho'];exact zws pre' u us)];simp only[Result.andThen_ok,hr]
 cases r with
 |true=>simpa using hrest
 |false=>simp
theorem zkH {sh:Nat→Nat→Option Sh}:∀{cmp:List TK} {fs:List Field} {off:Nat} {xs ys:List D} {vs us pre pre':List Value} {e:Bool},zc4 P fs off cmp→zbd cmp xs ys=some e→RepDL K ρ sh vs xs→RepDL K ρ sh us ys→pre.length=off→pre'.length=off →
  ∀d w,(Op.eqFields (d+1) (pre++vs).toArray (pre' ++ us).toArray fs).run P w=.ok e w:=by
 intro cmp
 induction cmp with
 |nil=>
  intro fs off xs ys vs us pre pre' e hf hc _ _ _ _ d w
  cases fs with
  |nil=>
   cases xs<;>cases ys<;>simp[zbd] at hc
   subst hc;simp[Op.eqFields]
  |cons f fs=>simp[zc4] at hf
 |cons c cmp ih=>
  intro fs off xs ys vs us pre pre' e hf hc hx hy hp hp' d w;have step : ∀ {f : Field} {fs' : List Field} {x y : Value} {xs' ys' : List D} {vs' us' : List Value} {r e' : Bool}, zc4 P fs' (off + 1) cmp → zbd cmp xs' ys' = some e' → RepDL K ρ sh vs' xs' → RepDL K ρ sh us' ys' → f.name ≠ "_" → f.offset = off → P.plainKey f.type = true → (∀ w, (Op.equalIn (d + 1) f.type x y).run P w = .ok r w) →
    (Op.eqFields (d+1) (pre++x::vs').toArray (pre' ++ y::us').toArray (f::fs')).run P w=.ok (r&&e') w:=by
   intro f fs' x y xs' ys' vs' us' r e' h1 h2 h3 h4 h5 h6 h7 h8;refine zlx h5 (by rw[h6,hp]) (by rw[hp,hp']) h7 (h8 w) ?_;have:=ih (pre:=pre++[x]) (pre':=pre' ++ [y]) h1 h2 h3 h4 (by simp[hp]) (by simp[hp']) d w;simpa using this
  cases fs with
  |nil=>cases c<;>simp[zc4] at hf
  |cons f fs=>
   cases c<;>simp only[zc4] at hf
   case int k=>
    obtain⟨h1,h2,h3,h4⟩:=hf;obtain⟨a,b,xs',ys',e',rfl,rfl,he',rfl⟩:=zeT hc
    cases hx with
    |cons rx rxs=>
     cases hy with
     |cons ry rys=>
      obtain rfl:=zaP rx;obtain rfl:=zaP ry;exact step h4 he' rxs rys h1 h2 (zdM h3) fun w=>run_equalIn_int w d f.type k k a b h3
   case str=>
    obtain⟨h1,h2,h3,h4⟩:=hf;obtain⟨a,b,xs',ys',e',rfl,rfl,he',rfl⟩:=zlL hc
    cases hx with
    |cons rx rxs=>
     cases hy with
     |cons ry rys=>
      obtain rfl:=zaP rx;obtain rfl:=zaP ry;exact step h4 he' rxs rys h1 h2 (zrJ h3) fun w=>run_equalIn_string w d f.type a b h3
   case bool=>
    obtain⟨h1,h2,h3,h4⟩:=hf;obtain⟨a,b,xs',ys',e',rfl,rfl,he',rfl⟩:=zkJ hc
    cases hx with
    |cons rx rxs=>
     cases hy with
     |cons ry rys=>
      obtain rfl:=zaP rx;obtain rfl:=zaP ry;exact step h4 he' rxs rys h1 h2 (zpK h3) fun w=>run_equalIn_bool' w d f.type a b h3
theorem zdA {P:Program} (w:World) (d t e:Nat) (k:IntKind) (inf:TypeInfo) (ht:P.underlying t=some (.array 2 e)) (he:P.underlying e=some (.int k)) (hi:P.info? e=some inf) (hs:inf.size=1) (a b c x:Int) :
  (Op.equalIn (d+2) t (.agg #[.int k a,.int k b]) (.agg #[.int k c,.int k x])).run P w=.ok (a==c&&b==x) w:=by
 have h0:∀w,(Go.sizeOf e).run P w=.ok 1 w:=fun w=>by simp[Go.sizeOf,typeInfo,hi,hs]
 have hp:=zdM he;have q0:∀w (u v:Int),(part e #[.int k u,.int k v] 0).run P w=.ok (.int k u) w:=fun w u v=>run_part_plain w hp rfl;have q1:∀w (u v:Int),(part e #[.int k u,.int k v] 1).run P w=.ok (.int k v) w:=fun w u v=>run_part_plain w hp rfl;have qe:∀w (u v:Int),(Op.equalIn (d+1) e (.int k u) (.int k v)).run P w=.ok (u==v) w:=fun w u v=>run_equalIn_int w d e k k u v he;rw[Op.equalIn];simp only[Sem.run_bind,run_underlying ht,Result.andThen_ok,h0];rw[Std.Legacy.Range.forIn_eq_forIn_range'];simp[List.range',q0,q1,qe,Sem.run_bind]
 by_cases h1:a=c<;>by_cases h2:b=x<;>simp[h1,h2]
theorem zrt {S:List Heap} {op:BinOp} {t:Nat} {ox oy:Operand} {vx vy:Value} {xs ys:List D} {cmp:List TK} {e:Bool} (hc:zkM P t cmp) (he:zbd cmp xs ys=some e) (hx:RepD K ρ (shape S) vx (.agg xs)) (hy:RepD K ρ (shape S) vy (.agg ys)) {r:Bool} (hop:(op=.eql∧r=e)∨(op=.neq∧r=!e)) :
  SndV P dst K ρ S w (do eqGuard op t ox oy vx vy;binOp op t vx vy) (.val (.i (.v (.bool r)))):=by
 cases hx with
 |agg hx=>
  cases hy with
  |agg hy=>
   rename_i vs us;have key:P.eqGuardType P.depth t=false∧(Op.equalIn 10000 t (.agg vs.toArray) (.agg us.toArray)).run P w=.ok e w:=by
    rcases hc with ⟨h1,h2,h3,h4⟩|⟨el,k,rfl,h1,h2,⟨inf,h3,h4⟩,h5⟩
    ·have hrun:=zkH (pre:=[]) (pre':=[]) h4 he hx hy rfl rfl 9998 w;simp only[List.nil_append] at hrun;exact⟨h3,by rw[run_equalIn_agg w 9999 t _ _ h1 h2,hrun]⟩
    ·refine⟨h5,?_⟩;obtain⟨a,b,xs',ys',e',rfl,rfl,he',rfl⟩:=zeT he;obtain⟨c,x,xs'',ys'',e'',rfl,rfl,he'',rfl⟩:=zeT he'
     cases xs'' with
     |cons _ _=>simp[zbd] at he''
     |nil=>
      cases ys'' with
      |cons _ _=>simp[zbd] at he''
      |nil=>
       have he3:e''=true:=by simpa [zbd] using he''.symm
       subst he3
       cases hx with
       |cons r1 r2=>cases r2 with
        |cons r3 r4=>cases r4 with
         |nil=>cases hy with
          |cons s1 s2=>cases s2 with
           |cons s3 s4=>cases s4 with
            |nil=>
             rw[zaP r1,zaP r3,zaP s1,zaP s3,Bool.and_true];exact zdA w 9998 t el k inf h1 h2 h3 h4 a c b x
   obtain⟨h3,hrun⟩:=key;refine⟨.bool r,?_,zbg rfl⟩;rw[Sem.run_bind,run_eqGuard_agg w op t ox oy _ _ h3];simp only[Result.andThen_ok];rcases hop with ⟨rfl,rfl⟩|⟨rfl,rfl⟩
   ·rw[run_eql_struct,hrun];rfl
   ·rw[run_neq_struct,hrun];rfl
theorem zwW (hT:TOk P T) {S:List Heap} {op:BinOp} {t:Nat} {ox oy:Operand} {vx vy:Value} {x y:D} (hx:RepD K ρ (shape S) vx x) (hy:RepD K ρ (shape S) vy y) :
  SndV P dst K ρ S w (do eqGuard op t ox oy vx vy;binOp op t vx vy) (zxN T op t x y):=by
 unfold zxN
 split
 ·rename_i k a k' b;obtain rfl:=zaP hx;obtain rfl:=zaP hy;have hcase:∀(ask:Ask),(k=k' → SndV P dst K ρ S w (do eqGuard op t ox oy (.int k a) (.int k' b);binOp op t (.int k a) (.int k' b)) ask)→SndV P dst K ρ S w (do eqGuard op t ox oy (.int k a) (.int k' b);binOp op t (.int k a) (.int k' b)) (bif decide (k=k') then ask else .bad):=by
   intro ask h
   by_cases hk:k=k'
   ·rw[decide_eq_true hk];exact h hk
   ·rw[decide_eq_false hk];trivial
  cases op
  case shl=>exact fun h=>⟨_,by simp[go_sem,zpB k k' a b h],zbg rfl⟩
  case shr=>exact fun h=>⟨_,by simp[go_sem,zpA k k' a b h],zbg rfl⟩
  case quo=>exact hcase _ fun hk h=>by subst hk;exact⟨_,by simp[go_sem,Op.intDiv,h],zbg rfl⟩
  case rem=>exact hcase _ fun hk h=>by subst hk;exact⟨_,by simp[go_sem,Op.intDiv,h],zbg rfl⟩
  all_goals exact hcase _ fun hk=>by subst hk;exact⟨_,by simp[go_sem,Op.intArith];done,zbg rfl⟩
 ·rename_i a b;obtain rfl:=zaP hx;obtain rfl:=zaP hy
  cases op
  case add=>exact fun h=>⟨_,by simp[go_sem,binOp,Op.stringOp,show ¬((9223372036854775807:Int)<(a.size:Int)+b.size) by omega],zbg rfl⟩
  case eql=>exact⟨.bool (a.toList==b.toList),by simp[go_sem,binOp,Op.stringOp],zbg rfl⟩
  case neq=>exact⟨.bool (!(a.toList==b.toList)),by simp[go_sem,binOp,Op.stringOp],zbg rfl⟩
  all_goals trivial
 ·rename_i a b;obtain rfl:=zaP hx;obtain rfl:=zaP hy
  split
  ·rename_i sz by_ z cm hi;have hu:P.underlying t=some .bool:=(hT _ _ hi).kind
   cases op
   case eql=>exact⟨.bool (a==b),by simp[go_sem,zuB t a b hu],zbg rfl⟩
   case neq=>exact⟨.bool (!(a==b)),by simp[go_sem,zuz t a b hu],zbg rfl⟩
   all_goals trivial
  ·trivial
 ·split
  ·rename_i hi
   split
   ·rename_i e he;have hc:=(hT _ _ hi).cmp.resolve_left (by simp)
    split
    ·exact zrt hc he hx hy (.inl ⟨rfl,rfl⟩)
    ·exact zrt hc he hx hy (.inr ⟨rfl,rfl⟩)
    ·trivial
   ·trivial
  ·trivial
 ·split
  ·rename_i sz by_ e z cm hi;have hu:P.underlying t=some (.pointer e):=(hT _ _ hi).kind
   split
   ·obtain rfl:=zaP hy
    split
    ·obtain rfl:=zaP hx;exact⟨_,by simp[go_sem,zdK _ hu,zdJ _ hu],zbg rfl⟩
    ·obtain rfl:=zaP hx;exact⟨_,by simp[go_sem,zdK _ hu,zdJ _ hu],zbg rfl⟩
    ·cases hx with
     |i r=>cases r with
      |ptr=>exact⟨_,by simp[go_sem,zdK _ hu,zdJ _ hu],zbg rfl⟩
    ·cases hx with
     |i r=>cases r with
      |ptr=>exact⟨_,by simp[go_sem,zdK _ hu,zdJ _ hu],zbg rfl⟩
    ·cases hx with
     |box=>exact⟨_,by simp[go_sem,zdK _ hu,zdJ _ hu],zbg rfl⟩
     |arr=>exact⟨_,by simp[go_sem,zdK _ hu,zdJ _ hu],zbg rfl⟩
    ·cases hx with
     |box=>exact⟨_,by simp[go_sem,zdK _ hu,zdJ _ hu],zbg rfl⟩
     |arr=>exact⟨_,by simp[go_sem,zdK _ hu,zdJ _ hu],zbg rfl⟩
    ·trivial
   ·trivial
  ·rename_i sz by_ e z cm hi;have hu:P.underlying t=some (.slice e):=(hT _ _ hi).kind
   split
   ·obtain rfl:=zaP hy
    split
    ·cases hx with
     |i r=>
      cases r with
      |@nil _ ao=>
       cases ao with
       |none=>exact⟨true,by simp[go_sem,zgM _ _ _ _ _ hu],fun _=>rfl⟩
       |some ao=>exact⟨false,by simp[go_sem,zgM _ _ _ _ _ hu],fun h=>by cases h⟩
      |sl=>exact⟨false,by simp[go_sem,zgM _ _ _ _ _ hu],fun h=>by cases h⟩
    ·trivial
   ·trivial
  ·trivial
theorem zyv {S:List Heap} {op:UnOp} {vx:Value} {x:D} (hx:RepD K ρ (shape S) vx x):SndV P dst K ρ S w (Op.unary op vx) (exUn op x):=by
 unfold exUn
 split
 ·obtain rfl:=zaP hx;exact⟨_,by simp[Op.unary],zbg rfl⟩
 ·cases hx;exact⟨_,by simp[Op.unary],.bf⟩
 ·cases hx;exact⟨_,by simp[Op.unary],.bt⟩
 ·obtain rfl:=zaP hx;exact⟨.int _ _,by simp only[Op.unary,Op.intArith,Sem.run_pure],zbg rfl⟩
 ·trivial
theorem zq9:∀{xs:List (List I)} {l:List Int} {cs:List Value},u8s xs=some l→RepL K cs xs.flatten→cs=l.map (Value.int .u8)
 |[],l,cs,h,hr=>by
  simp only[u8s,Option.some.injEq] at h;subst h
  cases hr
  rfl
 |[]::r,l,cs,h,hr=>by simp[u8s] at h
 |[x]::r,l,cs,h,hr=>by
  unfold u8s at h
  split at h
  ·rename_i hx;cases hx
  ·rename_i n r' hx;simp only[List.cons.injEq,and_true] at hx;obtain⟨rfl,rfl⟩:=hx
   split at h
   ·rename_i l' hl;simp only[Option.some.injEq] at h;subst h;simp only[List.flatten_cons,List.singleton_append] at hr
    cases hr with
    |cons h1 h2=>
     cases h1
     rw[zq9 hl h2];rfl
   ·cases h
  ·cases h
 |(x::y::z)::r,l,cs,h,hr=>by simp[u8s] at h
theorem zus (hT:TOk P T) {S:List Heap} (hw:HInv E K ρ S w) {src tgt:Nat} {vx:Value} {x:D} (hx:RepD K ρ (shape S) vx x):SndV P dst K ρ S w (convert src tgt vx) (zsO T src tgt x):=by
 unfold zsO
 split
 ·rename_i k n si di k' hs cm h1 h2;obtain rfl:=zaP hx;have hd:P.underlying tgt=some (.int k'):=(hT _ _ h2).kind;have hs':∃d,P.underlying src=some d:=by
   have:=(hT _ _ h1).kind;unfold TKok at this
   split at this<;>first|exact⟨_,this⟩|(obtain⟨d,hd,_⟩:=this;exact⟨_,hd⟩)
  obtain⟨ds,hs'⟩:=hs';refine⟨_,?_,zbg rfl⟩;simp[convert,run_underlying hd,run_underlying hs',Conv.intToInt]
 ·rename_i es n xs s1 s2 s3 e sc d1 d2 d3 dc h1 h2
  split
  ·rename_i s4 s5 s6 s7 h3
   cases hes:Nat.beq es 1 with
   |false=>trivial
   |true=>
    have hes:=Nat.eq_of_beq_eq_true hes;subst hes;rw[cond_true]
    split
    ·rename_i l hl;have hs:=(hT _ _ h1).kind;have hd:P.underlying tgt=some .string:=(hT _ _ h2).kind;have he:=(hT _ _ h3).kind
     cases hx with
     |i r=>
      cases r with
      |@nil _ ao=>
       simp only[u8s,Option.some.injEq] at hl;subst hl;refine⟨.string ByteArray.empty,?_,zbg rfl⟩;rw[run_convert_bytes_string w src tgt _ ao 0 0 hs he hd]
       cases ao with
       |none=>simp[Conv.bytesToString]
       |some ao=>
        refine run_bytesToString w ao 0 0 [] ?_;simp[loadCells,loadCellsFrom]
      |@sl b o cap _ _ cs _ hr hlen hk hle hn=>
       have hcs:=zq9 hl hr;subst hcs;have hnl:n=(l.map (Value.int .u8)).length:=by
        rw[hr.length,zbE xs hlen,hn,Nat.mul_one]
       refine⟨.string (bytesOf l),?_,zbg rfl⟩;rw[run_convert_bytes_string w src tgt _ _ n cap hs he hd];refine run_bytesToString w _ n cap l ?_;have:=run_loadCells_list (P:=P) (w:=w) ⟨b,o,none⟩ (l.map (Value.int .u8)) fun j v hv=>by
        have:=hw.holds _ _ _ (hk _ _ hv);have e:(⟨b,o,none⟩:Addr).add j=⟨b,o+j,none⟩:=by simp only[Addr.add];split<;>simp_all
        rw[e];exact this
       rw[←hnl] at this;exact this
    ·trivial
  ·trivial
 ·trivial
theorem zle {sh:Nat→Nat→Option Sh} {v:Value} {d:D} {b:Bool} (h:RepD K ρ sh v d) (hb:d.toB=some b):v=.bool b:=by
 unfold D.toB at hb
 split at hb
 ·cases h;simp at hb;rw[hb]
 ·cases h;simp at hb;rw[hb]
 ·simp at hb;subst hb;exact zaP h
 ·cases hb
theorem zur {S:List Heap} {vc va vb:Value} {c a b:D} (hc:RepD K ρ (shape S) vc c) (ha:RepD K ρ (shape S) va a) (hb:RepD K ρ (shape S) vb b) :
  SndV P dst K ρ S w (do pure (if ←asBool vc then va else vb)) (zsL c a b):=by
 unfold zsL
 split
 ·cases hc;exact zdZ ⟨va,by simp[asBool],ha⟩
 ·cases hc;exact zdZ ⟨vb,by simp[asBool],hb⟩
 ·rename_i c;obtain rfl:=zaP hc
  split
  ·rename_i x y hx hy;obtain rfl:=zle ha hx;obtain rfl:=zle hb hy;exact⟨.bool (bif c then x else y),by cases c<;>simp[asBool],zbg rfl⟩
  ·trivial
 ·trivial
end
end Go.AI
