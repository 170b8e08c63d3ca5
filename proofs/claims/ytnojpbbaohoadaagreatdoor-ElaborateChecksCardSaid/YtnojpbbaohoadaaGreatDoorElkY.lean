/- The layer of abstract runs, part 25. -/
import Derived.Test.YtnojpbbaohoadaaGreatDoorElkX
import Derived.Shelf.Strings.Builder1
import Derived.Deep.Heap
import Derived.KernelRfl
import Derived.Lib.SlicesCompact
import Derived.Lib.SliceRun
set_option linter.unusedSimpArgs false
set_option linter.unusedVariables false
set_option linter.all false
set_option maxHeartbeats 4000000
namespace Go.AI
theorem Base.eok {E0 E:Env} {O:List Heap} (hb:Base E0 E O):EOk E0 E O:=by
 refine⟨fun g tab O0 hO ht=>?_,hb.K⟩;obtain⟨⟨h1,h2⟩,h3⟩:=ht;have hρ:E.ρ0=E0.ρ0:=funext hb.ρ;refine⟨⟨?_,?_⟩,hb.pr g h3⟩
 ·rw[hb.old g h3 fun dep nm ob e hbk=>h2 dep nm ob.sh (by rw[←hO];simp[shape,e]) (zjm.1 hbk)];exact h1
 ·rw[hρ];exact h2
theorem EOk.trans {E0 E E':Env} {O:List Heap} (h:EOk E0 E O) (h':EOk E E' O):EOk E0 E' O:=⟨fun g tab O0 hO ht=>h'.tb g tab O0 hO (h.tb g tab O0 hO ht),Kn.le_trans h.kn h'.kn⟩
theorem zut {c:Cx} {E0 E:Env} {ops:Array Oper} {O:List Heap} {n:Nat} {o:Oper} {v:SH} {p:Pl} (hE:EOk E0 E O) (h:zc5 {c with E:=E0} ops O n o v p):zc5 {c with E:=E} ops O n o v p:=by
 rcases h with h|⟨h1,h2⟩
 ·exact .inl h
 ·exact .inr ⟨h1,fun E' hE'=>h2 E' (hE.trans hE')⟩
theorem zfg {ps ps':List Pl}:∀(l:List Nat) {x:SH},(∀i∈l,pl ps i=pl ps' i)→fold ps l x=fold ps' l x
 |[],_,_=>rfl
 |i::r,x,h=>by
  simp only[fold,List.foldl_cons];rw[h i (by simp)];exact zfg r fun j hj=>h j (by simp[hj])
theorem Inv.sameX {E:Env} {K:Kn} {ρ:Nat→Nat→Loc} {O:List Heap} {n:Nat} {x y:SH} {a:Act} {w:World} (hi:Inv E K ρ (St.of O n x) a w) (h1:∀t,look y.1 t=look x.1 t) (h2:∀nm,look y.2 nm=look x.2 nm):Inv E K ρ (St.of O n y) a w:=by
 have hh:HInv E K ρ (x.2::O) w:=hi.h;refine⟨hh.same fun nm=>h2 nm,hi.defers,hi.size,fun t d e=>?_⟩;have hsh:shape (St.of O n y).S=shape (x.2::O):=zd4 fun nm=>h2 nm;rw[hsh];have e':look y.1 t=some d:=e;rw[h1] at e';exact hi.slots t d e'
def flR (tF:Nat) (v:Value):Pl:=⟨[(tF,.i (.v v))],[],none⟩
theorem zuN {c:Cx} {E0:Env} (hT:TOk c.P c.T) (hm:c.P.follows .mixedOrders=true) {id:Nat} {ops:Array Oper} {O:List Heap} {n:Nat} {x0:SH} {ps:List Pl} {k:List Item} {tF t1 ty es j m tx ty2:Nat} {oF:Oper} {cl:Call} {ti1 ti2:TI} {v:Value} {xs ys:List (List I)} {vs:List Value} {xss:List (List (List I))}
  (hR:RowsO E0 c.E O ty es vs xss) (hv:vs[j]? = some v) (hxs:xss[j]? = some xs) (hb:(xs.length+m)*ti2.bytes≤140737488355328∧xs.length+m≤9223372036854775807)
  (hoF:ops[ps.length]? = some oF) (hg:oF.guard=none) (hd:oF.dst=some tF) (hop:oF.op=.call cl) (hc1:cl.callee=.builtin .append) (hc2:cl.args = #[.tmp tx,.tmp ty2]) (hc3:cl.argTypes = #[t1,t1])
  (h1:look c.T t1=some ti1) (hk1:ti1.k=.slice ty) (h2:look c.T ty=some ti2) (hes:ti2.size=es) (hx:look (zaH ops oF (zbQ ps x0)).1 tx=some (.i (.v v))) (hy:look (zaH ops oF (zbQ ps x0)).1 ty2=some (.i (.sl es m ys))) (hm1:Nat.ble 1 m=true) (hn:Nat.ble (tF+1) n=true)
  (hok:∀v',okT ops (ps++[flR tF v']) x0=true) (hch:zd2 {c with E:=E0} ops O n ops.toList ps x0)
  (hend:∀E' v',RowsO E0 E' O ty es (vs.set j v') (xss.set j (xs++ys))→RG {c with E:=E' } ops (List.range' (ps.length+1) (ops.size-(ps.length+1))) (St.of O n (zbQ (ps++[flR tF v']) x0)) k):Rch c (.code (.region id ops true)::k) (St.of O n x0):=by
 have hun:∀v',zjW ops (zcL ops.toList [])=true∧zrg ops (zcL ops.toList []) (ps.length+1)=true∧ps.length+1≤ops.size ∧
   ∀i o p,ops.toList[i]? = some o→(ps++[flR tF v'])[i]? = some p→okI ops (zcL ops.toList []) (ps++[flR tF v']) x0 (0+i) o (zbQ ((ps++[flR tF v']).take i) x0) p=true:=by
  intro v';have h:=hok v';simp only[okT,Bool.and_eq_true] at h;obtain⟨⟨hpre,hgo⟩,htl⟩:=h;obtain⟨hlen,hget⟩:=zgh hgo;refine⟨hpre,by simpa using htl,by simpa using hlen,hget⟩
 obtain⟨hpre,htl,hlen,-⟩:=hun undef;have hpl:∀v',pl (ps++[flR tF v']) ps.length=flR tF v':=fun v'=>by
  unfold pl;rw[List.getElem?_append_right (Nat.le_refl _),Nat.sub_self];rfl
 have hplt:∀v' i,i<ps.length→pl (ps++[flR tF v']) i=ps[i]?.getD ⟨[],[],none⟩:=fun v' i h=>by
  unfold pl;rw[List.getElem?_append_left h,List.getElem?_eq_getElem h];rfl
 have hlF:(ps++[flR tF undef]).length=ps.length+1:=by simp
 refine zjR (p:=ps.length+1) hm rfl hpre htl hlen (fun L a w=>∃E K ρ v',Inv E K ρ (St.of O n (fold (ps++[flR tF v']) (ord ops.size L) x0)) a w∧(L ps.length=false→E=c.E) ∧
  (L ps.length=true→RowsO E0 E O ty es (vs.set j v') (xss.set j (xs++ys)))) ?_ ?_ ?_ ?_
 ·rintro L L' a w hL ⟨E,K,ρ,v',hi,ha,hb⟩;refine⟨E,K,ρ,v',?_,fun h=>ha (by rw[hL _ (by omega)];exact h),fun h=>hb (by rw[hL _ (by omega)];exact h)⟩;rw[←ze4 fun k hk=>hL k hk];exact hi
 ·intro K ρ a w hi;refine⟨c.E,K,ρ,undef,?_,fun _=>rfl,fun h=>by cases h⟩;have e:ord ops.size (fun _=>false)=[]:=by simp[ord]
  rw[e];exact hi
 ·rintro L hc i o ho hip hLi hbef hno a w ⟨E,K,ρ,v',hinv,hE0,hE1⟩ Q next hnext
  have hEE:EOk E0 E O:=by
   cases hL:L ps.length with
   |false=>rw[hE0 hL];exact hR.base.eok
   |true=>exact (hE1 hL).base.eok
  by_cases hie:i=ps.length
  ·subst hie;obtain rfl:=hE0 hLi;rw[hoF] at ho;simp only[Option.some.injEq] at ho;subst ho;have hget:=fun v'=>(hun v').2.2.2;have key:∀v',Fits (fold (ps++[flR tF v']) (ord ops.size L) x0) (zaH ops oF (zbQ ps x0)) oF (pl (ps++[flR tF v']) ps.length) ∧
     (∀t,look (fold (ps++[flR tF v']) (ord ops.size fun k=>L k||Nat.beq k ps.length) x0).1 t=look ((pl (ps++[flR tF v']) ps.length).ap (fold (ps++[flR tF v']) (ord ops.size L) x0)).1 t) ∧
     ∀t,look (fold (ps++[flR tF v']) (ord ops.size fun k=>L k||Nat.beq k ps.length) x0).2 t=look ((pl (ps++[flR tF v']) ps.length).ap (fold (ps++[flR tF v']) (ord ops.size L) x0)).2 t:=by
    intro v';have hok1:=hget v' ps.length oF (flR tF v') (by simpa using hoF) (by rw[List.getElem?_append_right (Nat.le_refl _),Nat.sub_self];rfl);rw[Nat.zero_add] at hok1;have e:(ps++[flR tF v']).take ps.length=ps:=by simp
    rw[e] at hok1;have e2:zbQ ps x0=fold (ps++[flR tF v']) (ord ops.size fun k=>Nat.ble (k+1) ps.length) x0:=by
     rw[zcs (n:=ops.size) (by omega),zby _ (by simp),e]
    have hok2:okI ops (zcL ops.toList []) (ps++[flR tF v']) x0 ps.length oF (zbQ ps x0) (pl (ps++[flR tF v']) ps.length)=true:=by
     rw[hpl v'];exact hok1
    exact fits hpre hoF hok2 e2 hc hLi hbef
   have hw:zaR ops (St.of O n (fold (ps++[flR tF v']) (ord ops.size L) x0)) oF=some true:=by unfold zaR;rw[hg]
   have hsame:∀v2,fold (ps++[flR tF v2]) (ord ops.size L) x0=fold (ps++[flR tF v']) (ord ops.size L) x0:=fun v2=>by
    refine zfg _ fun i hi=>?_;obtain⟨hi1,hi2⟩:=zcy.1 hi;have hne:i≠ps.length:=fun e=>by rw[e] at hi2;rw[hi2] at hLi;cases hLi
    by_cases hlt:i<ps.length
    ·rw[hplt _ _ hlt,hplt _ _ hlt]
    ·have:=hno i hi1 (by omega);rw[this] at hi2;cases hi2
   obtain⟨hf,-,-⟩:=key v';have hsx:=hinv.slots tx _ (hf.v1 _ _ hx);have hvx:=zaT hsx;have hsy:=hinv.slots ty2 _ (hf.v1 _ _ hy);have hry:Rep K (a.tmps.getD ty2 undef) (.sl es m ys):=by
    revert hsy
    generalize a.tmps.getD ty2 undef=vy;intro h
    cases h with
    |i r=>exact r
   have hok1:=hT _ _ h1;have hu:c.P.underlying t1=some (.slice ty):=by have:=hok1.kind;rw[hk1] at this;exact this
   obtain⟨v2,w',E',K',hrun,hle,h1c,hi',hR'⟩:=zpD hinv rfl hR hv hxs (P:=c.P) hu (hT _ _ h2) hes hry (Nat.le_of_ble_eq_true hm1) hb.1 hb.2 oF.type;have ex:a.eval (.tmp tx)=v:=hvx;have ey:a.eval (.tmp ty2)=a.tmps.getD ty2 undef:=rfl;have hexec:(execOp a.eval oF).run c.P w=.ok (.value v2) w':=by
    unfold execOp;simp only[hop,hc1,hc2,hc3,resolve,invoke,builtin,Sem.run_bind,Sem.run_pure,Result.andThen_ok,List.map_toArray,List.map_cons,List.map_nil,ex,ey,hrun]
   unfold wpOp;rw[hoF]
   dsimp only
   rw[zb5 hinv hw,if_pos rfl];refine .inl ?_;simp only[Oper.wp,hexec,Oper.upon];refine hnext _ _ ⟨E',K',ρ,v2,?_,fun h=>?_,fun _=>hR'⟩
   ·obtain⟨-,hy1,hy2⟩:=key v2;rw[hpl,hsame] at hy1 hy2;rw[hd];have hset:=zdw hi' (Nat.le_of_ble_eq_true hn) hi'.h (Stays.refl _ _ _) (.i (.v h1c):RepD K' ρ _ v2 (.i (.v v2)));refine Inv.sameX (x:=((tF,.i (.v v2))::(fold (ps++[flR tF v']) (ord ops.size L) x0).1,(fold (ps++[flR tF v']) (ord ops.size L) x0).2)) hset (fun t=>?_) fun nm=>?_
    ·rw[hy1];rfl
    ·rw[hy2];rfl
   ·simp at h
  ·have hil:i<ps.length:=by omega
   have hp:(ps++[flR tF v'])[i]? = some ps[i]:=by rw[List.getElem?_append_left hil,List.getElem?_eq_getElem hil]
   have hok1:=(hun v').2.2.2 i o _ (by simpa using ho) hp;have hst:=zfr hch i o _ (by simpa using ho) (List.getElem?_eq_getElem hil);have e:(ps++[flR tF v']).take i=ps.take i:=by rw[List.take_append_of_le_length (by omega)]
   rw[←e] at hst;have hpl':pl (ps++[flR tF v']) i=ps[i]:=by simp[pl,hp]
   rw[Nat.zero_add] at hok1;rw[←zby i (by simp;omega),←zcs (n:=ops.size) (by omega)] at hok1 hst;rw[←hpl'] at hok1 hst;obtain⟨hf,hy1,hy2⟩:=fits hpre ho hok1 rfl hc hLi hbef;refine zfv (c:={ c with E:=E}) ho (zut hEE hst) hf hy1 hy2 hinv fun a' w' K' ρ' hinv'=>?_;have hbq:Nat.beq ps.length i=false:=by
    cases hb:Nat.beq ps.length i with
    |false=>rfl
    |true=>exact absurd (Nat.eq_of_beq_eq_true hb).symm hie
   exact hnext a' w' ⟨E,K',ρ',v',hinv',fun h=>hE0 (by simpa [hbq] using h),fun h=>hE1 (by simpa [hbq] using h)⟩
 ·rintro a w ⟨E,K,ρ,v',hinv,hE0,hE1⟩;have hR':=hE1 (Nat.ble_eq_true_of_le (Nat.le_refl _));rw[zcs (n:=ops.size) hlen,zby _ (by simp),List.take_of_length_le (by simp)] at hinv;exact hend E v' hR' K ρ a w hinv
def FDR (c:Cx) (E0:Env) (id:Nat) (ops:Array Oper) (O:List Heap) (n:Nat) (x0:SH) (k:List Item) (x:SH) (ps:List Pl):Prop:=
 x=zbQ ps x0→zd2 {c with E:=E0} ops O n ops.toList ps x0→Rch c (.code (.region id ops true)::k) (St.of O n x0)
theorem zvp {c:Cx} {s:St} {k:List Item} {ops:Array Oper} (hT:TOk c.P c.T) (E0:Env) (m:Nat) {id:Nat} {O:List Heap} {H:Heap} (hS:s.S=H::O)
  (h:GE {c with E:=E0} ops O s.n (FDR c E0 id ops O s.n (s.σ,H) k) (runS c.T ops O s.n 0 (ops.toList.take m) (s.σ,H) [])):GM c (.drawn id ops s k):=by
 obtain⟨qs,h1,h2⟩:=zbc (c:={ c with E:=E0}) hT _ _ _ _ h.h;rw[List.nil_append] at h2;have hs:s=St.of O s.n (s.σ,H):=by
  cases s
  simp only at hS;subst hS;rfl
 refine⟨?_⟩;show Rch c (.code (.region id ops true)::k) s;rw[hs];exact h2 rfl (zel h1)
theorem zwg {c:Cx} {E0:Env} (hT:TOk c.P c.T) (hfn:c.P.funcs[c.f]? = some c.fn) (hm:c.P.follows .mixedOrders=true) {id:Nat} {ops:Array Oper} {O:List Heap} {n:Nat} {x0 x:SH} {acc:List Pl} {k:List Item} {tF t1 ty es j m tx ty2:Nat} {oF:Oper} {cl:Call} {ti1 ti2:TI} {v:Value} {xs ys:List (List I)} {vs:List Value} {xss:List (List (List I))}
  (hR:RowsO E0 c.E O ty es vs xss) (hv:vs[j]? = some v) (hxs:xss[j]? = some xs) (hb:(xs.length+m)*ti2.bytes≤140737488355328∧xs.length+m≤9223372036854775807) (l:List Nat)
  (hoF:ops[acc.length]? = some oF) (hg:oF.guard=none) (hd:oF.dst=some tF) (hop:oF.op=.call cl) (hc1:cl.callee=.builtin .append) (hc2:cl.args = #[.tmp tx,.tmp ty2]) (hc3:cl.argTypes = #[t1,t1])
  (h1:look c.T t1=some ti1) (hk1:ti1.k=.slice ty) (h2:look c.T ty=some ti2) (hes:ti2.size=es) (hx:look (zaH ops oF x).1 tx=some (.i (.v v))) (hy:look (zaH ops oF x).1 ty2=some (.i (.sl es m ys))) (hm1:Nat.ble 1 m=true) (hn:Nat.ble (tF+1) n=true)
  (hok:∀v',okT ops (acc++[flR tF v']) x0=true) (hl:List.range' (acc.length+1) (ops.size-(acc.length+1))=l)
  (hend:∀E' v',RowsO E0 E' O ty es (vs.set j v') (xss.set j (xs++ys))→GM {c with E:=E' } (zhj x fun x=>run c.T c.stop 1000 (.inRegion ops l::k) (St.of O n ((tF,.i (.v v'))::x.1,x.2)))) :
  GE {c with E:=E0} ops O n (FDR c E0 id ops O n x0 k) (.done x acc):=by
 subst hl;refine⟨?_⟩;show FDR c E0 id ops O n x0 k x acc;intro hx0 hch;subst hx0;refine zuN hT hm hR hv hxs hb hoF hg hd hop hc1 hc2 hc3 h1 hk1 h2 hes hx hy hm1 hn hok hch fun E' v' hR'=>?_;have h:=(hend E' v' hR').h;rw[zfe] at h;have e:zbQ (acc++[flR tF v']) x0=((tF,.i (.v v'))::(zbQ acc x0).1,(zbQ acc x0).2):=by
  unfold zbQ;rw[List.foldl_append];simp[flR,Pl.ap,rmv]
 rw[e];exact za5 (c:={ c with E:=E' }) hT hfn 1000 (.inRegion ops _::k) _ h
end Go.AI
namespace Go.AI
open Go.Proofs
set_option maxRecDepth 20000
end Go.AI
namespace Go.Proofs
open Go.Shelf Go.RowKit
variable {P:Program} {ρ:Ren}
theorem zhe {w:World} {b:Nat} {p q v:Value} {T:TypeId} (h:w.heap[b]? = some (.cells #[p,v] T (0,0))):(w.setCell ⟨b,0,none⟩ q).heap[b]? = some (.cells #[q,v] T (0,0)):=by
 show (Array.modify _ _ _)[b]? = _;rw[Array.getElem?_modify,if_pos rfl,h];rfl
theorem zsA {w:World} {b:Nat} {p q v:Value} {T:TypeId} (h:w.heap[b]? = some (.cells #[p,v] T (0,0))):(w.setCell ⟨b,1,none⟩ q).heap[b]? = some (.cells #[p,q] T (0,0)):=by
 show (Array.modify _ _ _)[b]? = _;rw[Array.getElem?_modify,if_pos rfl,h];rfl
theorem zpM {w w':World} {e:TypeId} {v:Value} {n:Nat} {xs:List Value} (h:w.ownsRow 0 e 1 v n xs) (hb:∀k,v.ownBlock=some k→w'.heap[k]? = w.heap[k]?):w'.ownsRow 0 e 1 v n xs:=by
 refine⟨h.1,?_⟩;rcases h.2 with h1|⟨g,cap,cur,rfl,h2,h3,h4⟩
 ·exact .inl h1
 ·exact .inr ⟨g,cap,cur,rfl,h2,by rw[hb g rfl];exact h3,h4⟩
section
variable (w:World)
def zq2 (w:World) (v v':Value):Prop:=v'.ownBlock=v.ownBlock∨∀k,v'.ownBlock=some k→w.heap.size≤k
theorem zhM (t u ty e:TypeId) (i:TypeInfo) (ht:P.underlying t=some (.slice e)) (hu:P.underlying u=some .string) (hi:P.info? e=some i) (hz:i.zero=some (.int .u8 0))
  (hsize:i.size=1) (hby:i.bytes=1) (v:Value) (n:Nat) (xs:List Value) (hown:w.ownsRow 0 e 1 v n xs) (s:ByteArray) (h63:n+s.size≤maxLen) (hbytes:n+s.size≤140737488355328) :
  ∃v' w',(Builtin.append_ #[t,u] ty #[v,.string s]).run P w=.ok v' w'∧w'.ownsRow 0 e 1 v' (n+s.size) (xs++Lib.strCells s)∧w.grownBy w' v.ownBlock∧zq2 w v v':=by
 obtain⟨v',w',hr,h2,h3,-⟩:=Lib.run_append_own_string (P:=P) w 0 t u ty e i ht hu hi hz hsize hby v n xs hown s h63 hbytes (Nat.zero_le _);refine⟨v',w',hr,h2,h3,?_⟩;have hxl:xs.length=n:=by simpa using hown.1
 rcases hown.2 with ⟨rfl,rfl⟩|⟨g,cap,cur,rfl,hbg,hg,hnc,hcm,hcs,htake⟩
 ·obtain rfl:xs=[]:=List.eq_nil_of_length_eq_zero hxl;obtain⟨v2,w2,hr2,h5,-⟩:=Lib.run_append_own_string (P:=P) w w.heap.size t u ty e i ht hu hi hz hsize hby (.slice none 0 0) 0 [] (World.ownsRow_nil w _ e 1) s h63 hbytes (Nat.le_refl _);have e1:v'=v2:=by have:=hr.symm.trans hr2;injection this
  subst e1;exact .inr fun k hk=>(h5.lt k hk).1
 ·by_cases hroom:n+s.size≤cap
  ·have hr2:=Lib.run_append_room_string (P:=P) w t u ty e i ht hu hi hsize g n cap cur hg s hroom (by omega);have e1:v'=.slice (some ⟨g,0,none⟩) (n+s.size) cap:=by have:=hr.symm.trans hr2;injection this
   subst e1;exact .inl rfl
  ·have holds:∀j u,xs[j]? = some u→w.cell? ((⟨g,0,none⟩:Addr).add j)=some u:=hown.cells (g:=g) rfl;have hr2:=Lib.run_append_grow_string (P:=P) w t u ty e i (.int .u8 0) ht hu hi hz ⟨g,0,none⟩ n cap xs (by rw[hsize];simpa using hxl) holds s (by omega) (by simp only[maxLen] at h63;omega) (by rw[hby];exact growslice_fits (by omega) (by omega));have e1:v'=.slice (some ⟨w.heap.size,0,none⟩) (n+s.size) (grownCap w (n+s.size) cap e):=by have:=hr.symm.trans hr2;injection this
   subst e1;exact .inr fun k hk=>by simp[Value.ownBlock] at hk;omega
theorem zhN (t ty e:TypeId) (i:TypeInfo) (ht:P.underlying t=some (.slice e)) (hi:P.info? e=some i) (hz:i.zero=some (.int .u8 0))
  (hsize:i.size=1) (hby:i.bytes=1) (v:Value) (n:Nat) (xs:List Value) (hown:w.ownsRow 0 e 1 v n xs)
  (a:Addr) (m c:Nat) (news:List Value) (hl:news.length=m*1) (hnews:∀j u,news[j]? = some u→w.cell? (a.add j)=some u) (h1:∀u∈news,u.oneCell'=true)
  (h63:n+m≤maxLen) (hbytes:(n+m)*1≤140737488355328) :
  ∃v' w',(Builtin.append_ #[t,t] ty #[v,.slice (some a) m c]).run P w=.ok v' w'∧w'.ownsRow 0 e 1 v' (n+m) (xs++news)∧w.grownBy w' v.ownBlock∧zq2 w v v':=by
 obtain⟨v',w',hr,h2,h3,-⟩:=run_append_own (P:=P) w 0 t ty e i (.int .u8 0) 1 1 ht hi hz hsize hby rfl (by decide) v n xs hown a m c news hl hnews h1 h63 hbytes (Nat.zero_le _);refine⟨v',w',hr,h2,h3,?_⟩;have hxl:xs.length=n:=by simpa using hown.1
 rcases hown.2 with ⟨rfl,rfl⟩|⟨g,cap,cur,rfl,hbg,hg,hnc,hcm,hcs,htake⟩
 ·obtain rfl:xs=[]:=List.eq_nil_of_length_eq_zero hxl;obtain⟨v2,w2,hr2,h5,-⟩:=run_append_own (P:=P) w w.heap.size t ty e i (.int .u8 0) 1 1 ht hi hz hsize hby rfl (by decide) (.slice none 0 0) 0 [] (World.ownsRow_nil w _ e 1) a m c news hl hnews h1 h63 hbytes (Nat.le_refl _);have e1:v'=v2:=by have:=hr.symm.trans hr2;injection this
  subst e1;exact .inr fun k hk=>(h5.lt k hk).1
 ·by_cases hroom:n+m≤cap
  ·have hr2:=run_append_room (P:=P) w t ty e i ht hi g n cap cur hg a m c news (by rw[hsize];exact hl) hnews h1 hroom (by rw[hsize];omega);have e1:v'=.slice (some ⟨g,0,none⟩) (n+m) cap:=by have:=hr.symm.trans hr2;injection this
   subst e1;exact .inl rfl
  ·have holds:∀j u,xs[j]? = some u→w.cell? ((⟨g,0,none⟩:Addr).add j)=some u:=hown.cells (g:=g) rfl;have hr2:=run_append_grow (P:=P) w t ty e i (.int .u8 0) ht hi hz ⟨g,0,none⟩ n cap xs (by rw[hsize];simpa using hxl) holds a m c news (by rw[hsize];exact hl) hnews (by omega) (by simp only[maxLen] at h63;omega) (by rw[hby];exact growslice_fits (by omega) hbytes);have e1:v'=.slice (some ⟨w.heap.size,0,none⟩) (n+m) (grownCap w (n+m) cap e):=by have:=hr.symm.trans hr2;injection this
   subst e1;exact .inr fun k hk=>by simp[Value.ownBlock] at hk;omega
theorem zhy {ops:Array Oper} {rest:List Oper} {o:Oper} {a:Act} {Q:Exit→Act→World→Prop} (hgd:o.guard=none) (sl x:Operand) (t u:TypeId)
  (ho:o.op=.call {callee:=.builtin .append,args:=#[sl,x],argTypes:=#[t,u]})
  (e:TypeId) (i:TypeInfo) (ht:P.underlying t=some (.slice e)) (hu:P.underlying u=some .string) (hi:P.info? e=some i) (hz:i.zero=some (.int .u8 0)) (hsize:i.size=1) (hby:i.bytes=1)
  (v:Value) (n:Nat) (xs:List Value) (hs:a.eval sl=v) (hown:w.ownsRow 0 e 1 v n xs) (s:ByteArray) (hx:a.eval x=.string s) (h63:n+s.size≤maxLen) (hbytes:n+s.size≤140737488355328)
  (h:∀v' w',w'.ownsRow 0 e 1 v' (n+s.size) (xs++Lib.strCells s)→w.grownBy w' v.ownBlock→zq2 w v v' → wpList P ops Q rest (a.put o.dst v') w'):wpList P ops Q (o::rest) a w:=by
 refine wpList_plain hgd fun K hK=>?_;obtain⟨v',w',hr,h2,h3,h4⟩:=zhM (P:=P) w t u o.type e i ht hu hi hz hsize hby v n xs hown s h63 hbytes;unfold Oper.wp execOp;simp only[ho,resolve,invoke,builtin,Sem.run_bind,Sem.run_pure,Result.andThen_ok,List.map_toArray,List.map_cons,List.map_nil,hs,hx,hr];exact hK _ _ (h v' w' h2 h3 h4)
theorem zhz {ops:Array Oper} {rest:List Oper} {o:Oper} {a:Act} {Q:Exit→Act→World→Prop} (hgd:o.guard=none) (sl x:Operand) (t:TypeId)
  (ho:o.op=.call {callee:=.builtin .append,args:=#[sl,x],argTypes:=#[t,t]})
  (e:TypeId) (i:TypeInfo) (ht:P.underlying t=some (.slice e)) (hi:P.info? e=some i) (hz:i.zero=some (.int .u8 0)) (hsize:i.size=1) (hby:i.bytes=1)
  (v:Value) (n:Nat) (xs:List Value) (hs:a.eval sl=v) (hown:w.ownsRow 0 e 1 v n xs)
  (ad:Addr) (m c:Nat) (news:List Value) (hx:a.eval x=.slice (some ad) m c) (hl:news.length=m*1) (hnews:∀j u,news[j]? = some u→w.cell? (ad.add j)=some u) (h1:∀u∈news,u.oneCell'=true)
  (h63:n+m≤maxLen) (hbytes:(n+m)*1≤140737488355328)
  (h:∀v' w',w'.ownsRow 0 e 1 v' (n+m) (xs++news)→w.grownBy w' v.ownBlock→zq2 w v v' → wpList P ops Q rest (a.put o.dst v') w'):wpList P ops Q (o::rest) a w:=by
 refine wpList_plain hgd fun K hK=>?_;obtain⟨v',w',hr,h2,h3,h4⟩:=zhN (P:=P) w t o.type e i ht hi hz hsize hby v n xs hown ad m c news hl hnews h1 h63 hbytes;unfold Oper.wp execOp;simp only[ho,resolve,invoke,builtin,Sem.run_bind,Sem.run_pure,Result.andThen_ok,List.map_toArray,List.map_cons,List.map_nil,hs,hx,hr];exact hK _ _ (h v' w' h2 h3 h4)
end
def ztw (T e:TypeId) (b:Nat) (p v0:Value) (bs news:List Value) (w w':World):Prop:=
 ∃w1 w2 w3 v',((w1=w∧p=.pointer (some ⟨b,0,none⟩))∨(w1=w.setCell ⟨b,0,none⟩ (.pointer (some ⟨b,0,none⟩))∧p=.pointer none))∧(w2=w1∨∃o,w2=w1.alloc o) ∧
  w3.ownsRow 0 e 1 v' (bs.length+news.length) (bs++news)∧w2.grownBy w3 v0.ownBlock∧zq2 w2 v0 v'∧w'=w3.setCell ⟨b,1,none⟩ v'
set_option maxRecDepth 100000 in
theorem zqj (L:Lays.n169 P ρ) (X:Builder.Extra P ρ) (b:Nat) (p v:Value) (l:List UInt8) (w:World) (hbk:w.heap[b]? = some (.cells #[p,v] (ρ.t 72) (0,0))) (hown:w.ownsRow 0 (ρ.t 5) 1 v l.length (Lib.byteCells l)) (h0:l≠[]) :
  Calls P (ρ.f 169) #[.pointer (some ⟨b,0,none⟩)] w fun e w'=>e=.returned (.string ⟨l.toArray⟩)∧∃g,v.ownBlock=some g∧w'=w.drew.freeze ⟨g,0,none⟩ l.length:=by
 have hl0:l.length≠0:=by simpa using h0
 obtain⟨g,cap,cur,rfl,hbg,hg,hnc,hcm,hcs,htake⟩:∃g cap cur,v=.slice (some ⟨g,0,none⟩) l.length cap∧0≤g∧w.heap[g]? = some (.cells cur (ρ.t 5) (0,0))∧l.length≤cap∧cap≤maxLen∧cur.size=cap*1∧cur.toList.take (l.length*1)=Lib.byteCells l:=by
  rcases hown.2 with ⟨_,hz⟩|⟨g,cap,cur,hv,r⟩
  ·exact absurd hz hl0
  ·exact⟨g,cap,cur,hv,r⟩
 have c1:w.drew.cell? ⟨b,1,none⟩=some (.slice (some ⟨g,0,none⟩) l.length cap):=by
  have:w.drew.heap[b]? = some (.cells #[p,.slice (some ⟨g,0,none⟩) l.length cap] (ρ.t 72) (0,0)):=hbk;rw[Lib.cell_of_heap this];rfl
 have hSD:(Builtin.unsafeSliceData_ #[(ρ.t 37)] (ρ.t 127) #[.slice (some ⟨g,0,none⟩) l.length cap]).run P w.drew=.ok (.pointer (some ⟨g,0,none⟩)) w.drew:=
  Lib.run_unsafeSliceData_row _ _ _ _ _ _ (by omega)
 have hUS:(Builtin.unsafeString_ #[(ρ.t 127),(ρ.t 3)] (ρ.t 9) #[.pointer (some ⟨g,0,none⟩),.int .i64 l.length]).run P w.drew=.ok (.string ⟨l.toArray⟩) (w.drew.freeze ⟨g,0,none⟩ l.length):=by
  refine Lib.run_unsafeString_row w.drew (ρ.t 127) (ρ.t 3) (ρ.t 9) (ρ.t 5) L.t127 X.cellsByte g cur.size (by have hg':w.drew.heap[g]? = some (.cells cur (ρ.t 5) (0,0)):=hg;simp[World.shape?,hg']) l h0 (by omega) (by unfold maxLen at hcm;omega) ?_;intro j x hx;have:=hown.cells (g:=g) rfl j (.int .u8 x.toNat) (by simp[Lib.byteCells,hx]);exact this
 have mixed:=L.mixed;have t72:=L.t72;have a72:=L.a72;have z72:=L.z72;have v72:=L.v72;have u72:=run_underlying L.t72;have t70:=L.t70;have a70:=L.a70;have z70:=L.z70;have v70:=L.v70;have u70:=run_underlying L.t70;have t37:=L.t37;have a37:=L.a37;have z37:=L.z37;have v37:=L.v37;have u37:=run_underlying L.t37;have t127:=L.t127;have a127:=L.a127;have z127:=L.z127;have v127:=L.v127;have u127:=run_underlying L.t127;have t3:=L.t3;have a3:=L.a3;have z3:=L.z3;have v3:=L.v3;have u3:=run_underlying L.t3;have t9:=L.t9;have a9:=L.a9;have z9:=L.z9;have v9:=L.v9;have u9:=run_underlying L.t9;have t5:=X.t5;have a5:=X.a5;have z5:=X.z5;have v5:=X.v5;have u5:=run_underlying X.t5
 go_enter L.f169,Body.n169_ntmps ρ
 go_wp2
 go_region_o
 all_goals (go_wp2;go_ret;exact⟨rfl,g,rfl,rfl⟩)
end Go.Proofs
namespace Go.AI
open Go.Proofs
set_option maxRecDepth 20000
section
variable {E:Env} {K:Kn} {ρ:Nat→Nat→Loc} {w w':World}
theorem zqn {sh:Nat→Nat→Option Sh} {w3:World} {l:Loc} {ty n m:Nat} {xs ys:List (List I)} {olds news:List Value} {v':Value} (h:OwnAt K ρ sh w l (.arr ty 1 n xs true)) (ho:RepL K olds xs.flatten) (hn:RepL K news ys.flatten)
  (hy:∀d∈ys,d.length=1) (hm:ys.length=m) (hrow:w3.ownsRow 0 ty 1 v' (n+m) (olds++news)) (hg:w.grownBy w3 (Value.slice l.base n l.cap).ownBlock) (hat:zq2 w (.slice l.base n l.cap) v')
  (hfresh:∀b o,w.heap.size≤b→K b o=none) :
  ∃l':Loc,v'=.slice l'.base (n+m) l'.cap∧(∀(ρ':Nat→Nat→Loc) (sh':Nat→Nat→Option Sh),OwnAt K ρ' sh' w3 l' (.arr ty 1 (n+m) (xs++ys) true))∧Apnd K w w3 l l':=by
 have hel:∀d∈xs++ys,d.length=1:=fun d hd=>by
  rcases List.mem_append.1 hd with h1|h1
  ·exact h.1 d h1
  ·exact hy d h1
 have hlen:(xs++ys).length=n+m:=by simp[h.2.1,hm]
 have hbase:l.base=none∨l.base=some ⟨l.block,0,none⟩:=by
  rcases h.2.2.2.2 with ⟨_,h1⟩|⟨h1,_⟩
  ·exact .inl h1
  ·exact .inr h1
 have hold:∀b,b<w.heap.size→(l.base≠none→b≠l.block)→w3.heap[b]? = w.heap[b]?:=fun b hb hne=>hg.block b hb fun e=>by
  rcases hbase with h1|h1
  ·rw[h1] at e;simp[Value.ownBlock] at e
  ·rw[h1] at e;simp only[Value.ownBlock,Option.some.injEq] at e;exact hne (by rw[h1];simp) e
 rcases hrow.2 with ⟨rfl,h0⟩|⟨g,cap,cur,rfl,_,hg3,hnc,hcm,hcs,htake⟩
 ·refine⟨⟨0,0,none⟩,by rw[h0],fun ρ' sh'=>⟨hel,hlen,by simp only;omega,Nat.zero_le _,.inl ⟨rfl,rfl⟩⟩,⟨hg.size,hold,⟨hg.tape,hg.os,hg.output⟩,fun e=>absurd rfl e⟩⟩
 ·have hKg:∀o,K g o=none:=by
   rcases hat with h1|h1
   ·rcases hbase with h2|h2
    ·rw[h2] at h1;simp[Value.ownBlock] at h1
    ·rw[h2] at h1;simp only[Value.ownBlock,Option.some.injEq] at h1;subst h1;rcases h.2.2.2.2 with ⟨_,h3⟩|⟨_,c,_,_,_,h4,_⟩
     ·rw[h2] at h3;cases h3
     ·exact h4 rfl
   ·exact fun o=>hfresh g o (h1 g rfl)
  have htk:cur.toList.take ((n+m)*1)=olds++news:=htake;refine⟨⟨g,cap,some ⟨g,0,none⟩⟩,rfl,fun ρ' sh'=>⟨hel,hlen,hnc,hcm,.inr ⟨rfl,cur,hg3,hcs,?_,fun _ o=>hKg o,fun o _=>hKg o,fun e=>by cases e⟩⟩,⟨hg.size,hold,⟨hg.tape,hg.os,hg.output⟩,fun _=>?_⟩⟩
  ·rw[htk,List.flatten_append];exact ho.append hn
  ·rcases hat with h1|h1
   ·rcases hbase with h2|h2
    ·rw[h2] at h1;simp[Value.ownBlock] at h1
    ·rw[h2] at h1;simp only[Value.ownBlock,Option.some.injEq] at h1;exact .inr ⟨by rw[h2];simp,h1⟩
   ·exact .inl (h1 g rfl)
def zya (P:Program) (f:FuncId) (T ty:TypeId) (res x:Value) (news:List Value):Prop:=∀(b:Nat) (p v0:Value) (bs:List Value) (w:World),(p=.pointer none∨p=.pointer (some ⟨b,0,none⟩)) →
 w.heap[b]? = some (.cells #[p,v0] T (0,0))→w.ownsRow 0 ty 1 v0 bs.length bs→v0.ownBlock≠some b→bs.length+news.length≤140737488355328 →
 Calls P f #[.pointer (some ⟨b,0,none⟩),x] w fun e w'=>e=.returned res∧ztw T ty b p v0 bs news w w'
def Wp (c:Cx) (o:Oper) (s:St) (f:FuncId) (args:List D) (s':St):Prop:=∀K ρ a w,Inv c.E K ρ s a w→(∃vs,(execOp a.eval o).run c.P w=(callFunc f vs.toArray).run c.P w∧RepDL K ρ (shape s.S) vs args) →
 ∀(next:Act→World→Prop) (Qe:Exit→Act→World→Prop),(∀v w' K' ρ',Inv c.E K' ρ' s' (a.put o.dst v) w' → next (a.put o.dst v) w')→o.wp c.P a w next Qe
theorem zif {c:Cx} {s:St} {o:Oper} {f:FuncId} {t nm nm2 n m T ty:Nat} {dp dx rd:D} {x res:Value} {news:List Value} {xs ys:List (List I)} {H:Heap} {O:List Heap}
  (hspec:zya c.P f T ty res x news) (hent:∀args w,(callFunc f args).run c.P w=.ok (.enter f args) w) (hx:∀K ρ sh v,RepD K ρ sh v dx→v=x) (hr:∀K ρ sh,RepD K ρ sh res rd)
  (hdp:dp=.i (.v (.pointer none))∨dp=.own 0 nm 0 0) (ht:o.dst=some t) (hn:t<s.n) (hS:s.S=H::O) (hb:look H nm=some (.tb T [dp,.osl 0 nm2])) (ha:look H nm2=some (.arr ty 1 n xs true))
  (hne:nm≠nm2) (hnews:∀K,RepL K news ys.flatten) (hy:∀d∈ys,d.length=1) (hm:ys.length=m) (hlim:n+m≤140737488355328) :
  Wp c o s f [.own 0 nm 0 0,dx] {σ:=(t,rd)::zdS nm2 s.σ,S:=((nm,.tb T [.own 0 nm 0 0,.osl 0 nm2])::(nm2,.arr ty 1 (n+m) (xs++ys) true)::zbp nm2 ((nm,.tb T [.own 0 nm 0 0,.osl 0 nm2])::H))::O,n:=s.n}:=by
 intro K ρ a w hi ⟨vs,hrun,hrep⟩ next Qe hnext
 have hh:=hi.h;rw[hS] at hh hrep;have hob:zab (H::O) 0 nm=some (.tb T [dp,.osl 0 nm2]):=by simpa [zab] using hb
 have hoa:zab (H::O) 0 nm2=some (.arr ty 1 n xs true):=by simpa [zab] using ha
 have e0:(fun d n=>ρ (0+d) n)=ρ:=by funext d n;rw[Nat.zero_add]
 have s0:∀S:List Heap,shape (S.drop 0)=shape S:=fun S=>by rw[List.drop_zero]
 have hwb:=hh.own _ _ _ hob;rw[e0,s0] at hwb;obtain⟨cur,hc,hrc,hKb⟩:=hwb;have hwa:=hh.own _ _ _ hoa;rw[e0,s0] at hwa;obtain⟨olds,hro,hrow⟩:=zld hwa;have hol:olds.length=n:=by simpa using hrow.1
 have hshb:shape (H::O) 0 nm=some .box:=by simp[shape,hob,Ob.sh]
 have hsha:shape (H::O) 0 nm2=some (.arr 1 n):=by simp[shape,hoa,Ob.sh]
 obtain⟨p,v0,hcur,hp,hv0⟩:∃p v0,cur = #[p,v0]∧RepD K ρ (shape (H::O)) p dp∧RepD K ρ (shape (H::O)) v0 (.osl 0 nm2):=by
  generalize hL:cur.toList=L at hrc
  cases hrc with
  |cons h1 h2=>cases h2 with
   |cons h3 h4=>cases h4;exact⟨_,_,Array.ext' (by rw[hL]),h1,h3⟩
 subst hcur;have hv0:=zcO hv0 hsha;subst hv0;have hpp:p=.pointer none∨p=.pointer (some ⟨(ρ 0 nm).block,0,none⟩):=by
  rcases hdp with rfl|rfl
  ·exact .inl (zaT hp)
  ·exact .inr (zg9 hp hshb)
 have hnb:(Value.slice (ρ 0 nm2).base n (ρ 0 nm2).cap).ownBlock≠some (ρ 0 nm).block:=by
  intro e;rcases hwa.2.2.2.2 with ⟨_,h1⟩|⟨h1,_⟩
  ·rw[h1] at e;simp[Value.ownBlock] at e
  ·rw[h1] at e;simp only[Value.ownBlock,Option.some.injEq] at e;exact hne (hh.inj 0 nm _ 0 nm2 _ hob hoa trivial (by show _≠none;rw[h1];simp) e.symm).2
 obtain⟨rfl⟩:vs=[.pointer (some ⟨(ρ 0 nm).block,0,none⟩),x]:=by
  cases hrep with
  |cons h1 h2=>cases h2 with
   |cons h3 h4=>cases h4;rw[zg9 h1 hshb,hx _ _ _ _ h3]
 rw[hent] at hrun;simp only[Oper.wp,hrun,Oper.upon];have hml:news.length=m:=by
  have:=(hnews K).length;rw[this,zbC ys hy,hm];omega
 refine (hspec _ p _ olds w hpp hc (by rw[hol];exact hrow) hnb (by rw[hol,hml];exact hlim)).mono ?_;rintro e w' ⟨rfl,w1,w2,w3,v',h1,h2,hrow3,hgb,hat,rfl⟩;rw[hol,hml] at hrow3;have e1:(fun d n=>shape (H::O) (0+d) n)=shape (H::O):=by funext d n;rw[Nat.zero_add]
 have hcells:RepDL K (fun d n=>ρ (0+d) n) (fun d n=>shape (H::O) (0+d) n) [.pointer (some ⟨(ρ 0 nm).block,0,none⟩),.slice (ρ 0 nm2).base n (ρ 0 nm2).cap] [.own 0 nm 0 0,.osl 0 nm2]:=by
  rw[e0,e1];exact .cons (.box hshb) (.cons (.osl hsha) .nil)
 have hI1:HInv c.E K ρ (setAt (H::O) 0 nm (.tb T [.own 0 nm 0 0,.osl 0 nm2])) w1∧w1.heap[(ρ 0 nm).block]? = some (.cells #[.pointer (some ⟨(ρ 0 nm).block,0,none⟩),.slice (ρ 0 nm2).base n (ρ 0 nm2).cap] T (0,0)):=by
  rcases h1 with ⟨rfl,rfl⟩|⟨rfl,rfl⟩
  ·exact⟨hh.put hob rfl trivial trivial rfl (fun _ _=>rfl) ⟨rfl,rfl,rfl⟩ (fun o' x' hx'=>by rw[hKb] at hx';cases hx') ⟨_,hc,hcells,hKb⟩,hc⟩
  ·exact⟨hh.put hob rfl trivial trivial (by simp[World.setCell]) (fun b hb=>Go.Deep.blk_setCell_other w _ _ b hb) ⟨rfl,rfl,rfl⟩ (fun o' x' hx'=>by rw[hKb] at hx';cases hx') ⟨_,zhe hc,hcells,hKb⟩,zhe hc⟩
 obtain⟨hI1,hc1⟩:=hI1;have hI1:HInv c.E K ρ (((nm,.tb T [.own 0 nm 0 0,.osl 0 nm2])::H)::O) w1:=hI1;have hlt1:(ρ 0 nm).block<w1.heap.size:=by
  rcases Nat.lt_or_ge (ρ 0 nm).block w1.heap.size with h'|h'
  ·exact h'
  ·simp[Array.getElem?_eq_none h'] at hc1
 have hI2:HInv c.E K ρ (((nm,.tb T [.own 0 nm 0 0,.osl 0 nm2])::H)::O) w2∧w2.heap[(ρ 0 nm).block]? = some (.cells #[.pointer (some ⟨(ρ 0 nm).block,0,none⟩),.slice (ρ 0 nm2).base n (ρ 0 nm2).cap] T (0,0))∧w1.heap.size≤w2.heap.size:=by
  rcases h2 with rfl|⟨o',rfl⟩
  ·exact⟨hI1,hc1,Nat.le_refl _⟩
  ·exact⟨(HInv.grow (S:=((nm,.tb T [.own 0 nm 0 0,.osl 0 nm2])::H)::O) rfl hI1 (fun _ _ _ e=>e) (fun _ h=>by simp[look] at h) (zsD hI1 (.inl rfl) o')).1,by rw[heap_alloc_old w1 o' hlt1];exact hc1,by simp[World.size_alloc]⟩
 obtain⟨hI2,hc2,hsz2⟩:=hI2;have hc3:w3.heap[(ρ 0 nm).block]? = some (.cells #[.pointer (some ⟨(ρ 0 nm).block,0,none⟩),.slice (ρ 0 nm2).base n (ρ 0 nm2).cap] T (0,0)):=by
  rw[hgb.block _ (by omega) (fun e=>hnb e.symm)];exact hc2
 have hlk:look ((nm,Ob.tb T [.own 0 nm 0 0,.osl 0 nm2])::H) nm2=some (.arr ty 1 n xs true):=by
  rw[zac,if_neg hne];exact ha
 have hoa2:zab (((nm,Ob.tb T [.own 0 nm 0 0,.osl 0 nm2])::H)::O) 0 nm2=some (.arr ty 1 n xs true):=by simpa [zab] using hlk
 have hob2:zab (((nm,Ob.tb T [.own 0 nm 0 0,.osl 0 nm2])::H)::O) 0 nm=some (.tb T [.own 0 nm 0 0,.osl 0 nm2]):=by simp[zab,zac]
 have hwa2:=hI2.own _ _ _ hoa2;rw[e0,s0] at hwa2;obtain⟨l',rfl,hown',hap⟩:=zqn hwa2 hro (hnews K) hy hm hrow3 hgb hat (fun b o hb=>hI2.K_fresh hb);have hKo:zaA (ρ 0 nm2) (.arr ty 1 n xs true)→∀o,K (ρ 0 nm2).block o=none:=by
  intro hbk;obtain⟨_,_,_,_,h5⟩:=hwa;rcases h5 with ⟨_,h6⟩|⟨_,c,_,_,_,h9,_⟩
  ·exact absurd h6 hbk
  ·exact h9 rfl
 obtain⟨hI3,hbut⟩:=hI2.renew (nm:=nm2) (dst:=nm2) hlk (by rw[zb1];simp) hap Iff.rfl (ob':=.arr ty 1 (n+m) (xs++ys) true) Iff.rfl hKo hown';generalize hS3:(((nm2,Ob.arr ty 1 (n+m) (xs++ys) true)::zbp nm2 ((nm,Ob.tb T [.own 0 nm 0 0,.osl 0 nm2])::H))::O)=S3 at hI3 hbut;have hob3:zab S3 0 nm=some (Ob.kill nm2 (.tb T [.own 0 nm 0 0,.osl 0 nm2])):=by
  rw[←hS3];simp only[zab,List.getElem?_cons_zero,zac,if_neg (Ne.symm hne),zb1,if_neg hne,if_true,Option.map_some]
 obtain⟨hb1,hb2⟩:=hbut 0 nm .box (.inr hne) (by simp[shape,hob2,Ob.sh]);have hsh3:shape S3 0 nm2=some (.arr 1 (n+m)):=by
  rw[←hS3];simp[shape,zab,zac,Ob.sh]
 have f0:(fun d n=>upd ρ nm2 l' (0+d) n)=upd ρ nm2 l':=by funext d n;rw[Nat.zero_add]
 have f1:(fun d n=>shape S3 (0+d) n)=shape S3:=by funext d n;rw[Nat.zero_add]
 have hcells3:RepDL K (fun d n=>upd ρ nm2 l' (0+d) n) (fun d n=>shape S3 (0+d) n) [.pointer (some ⟨(ρ 0 nm).block,0,none⟩),.slice l'.base (n+m) l'.cap] [.own 0 nm 0 0,.osl 0 nm2]:=by
  rw[f0,f1];have g1:=RepD.box (K:=K) (ρ:=upd ρ nm2 l') (off:=0) hb1;rw[hb2] at g1;have g2:=RepD.osl (K:=K) (ρ:=upd ρ nm2 l') hsh3;rw[zaX] at g2;exact .cons g1 (.cons g2 .nil)
 have hI4:HInv c.E K (upd ρ nm2 l') (setAt S3 0 nm (.tb T [.own 0 nm 0 0,.osl 0 nm2])) (w3.setCell ⟨(ρ 0 nm).block,1,none⟩ (.slice l'.base (n+m) l'.cap)):=by
  refine hI3.put hob3 rfl trivial trivial (by simp[World.setCell]) (fun b hb=>Go.Deep.blk_setCell_other w3 _ _ b (by rw[hb2] at hb;exact hb)) ⟨rfl,rfl,rfl⟩ (fun o' x' hx'=>by rw[hb2,hKb] at hx';cases hx') ⟨_,by rw[hb2];exact zsA hc3,hcells3,fun o=>by rw[hb2];exact hKb o⟩
 have hS4:setAt S3 0 nm (.tb T [.own 0 nm 0 0,.osl 0 nm2])=((nm,.tb T [.own 0 nm 0 0,.osl 0 nm2])::(nm2,.arr ty 1 (n+m) (xs++ys) true)::zbp nm2 ((nm,.tb T [.own 0 nm 0 0,.osl 0 nm2])::H))::O:=by rw[←hS3];rfl
 have hsh4:shape (setAt S3 0 nm (.tb T [.own 0 nm 0 0,.osl 0 nm2]))=shape S3:=zbJ hob3 rfl;have hsh2:shape (((nm,Ob.tb T [.own 0 nm 0 0,.osl 0 nm2])::H)::O)=shape (H::O):=zbJ (S:=H::O) hob rfl;rw[hS4] at hI4 hsh4;rw[hsh2] at hbut;refine hnext _ _ K (upd ρ nm2 l') ?_
 ·rw[ht];refine⟨hI4,hi.defers,by simp[Act.put];exact hi.size,fun t' d' e'=>?_⟩;rw[zdn (by rw[hi.size];exact hn)];simp only[zac] at e'
  split at e'
  ·rename_i e2;simp only[Option.some.injEq] at e';subst e';rw[if_pos e2];exact hr _ _ _
  ·rename_i e2;rw[if_neg e2];rw[zcH] at e'
   cases hls:look s.σ t' with
   |none=>simp[hls] at e'
   |some d0=>
    simp only[hls,Option.map_some,Option.some.injEq] at e';subst e';have hr:=hi.slots _ _ hls;rw[hS] at hr;show RepD _ _ (shape _) _ _;rw[hsh4];exact hr.kill hbut
end
section
variable {c:Cx} {s:St} {k:List Item} {ops:Array Oper} {rest:List Nat} {o:Oper}
theorem zb8 (hT:TOk c.P c.T) (hfn:c.P.funcs[c.f]? = some c.fn) {i t:Nat} {f:FuncId} {args:List D} {s':St} (ho:ops[i]? = some o) (hg:o.guard=none) (hd:o.dst=some t) (hex:exec c.T s o=.call f args) (hw:Wp c o s f args s')
  (h:GM c (run c.T c.stop 1000 (.inRegion ops rest::k) s')):GM c (.pause ops i rest o s k):=by
 have hk:RG c ops rest s' k:=za5 hT hfn 1000 (.inRegion ops rest::k) _ h.h;refine⟨?_⟩;intro K ρ a w hi;simp only[wpOps,ho,zb5 hi (show zaR ops s o=some true by unfold zaR;rw[hg]),if_true];refine .inl (hw K ρ a w hi ?_ _ _ fun v w' K' ρ' hi'=>hk K' ρ' _ w' hi');have:=zi8 hT hi.h (.inl hd) fun x _=>hi.ev x;rw[hex] at this;exact this
end
section
def u8l (l:List UInt8):List (List I):=l.map fun b=>[.v (.int .u8 b.toNat)]
theorem zit:∀l:List UInt8,(u8l l).flatten=l.map fun b=>I.v (.int .u8 b.toNat)
 |[]=>rfl
 |b::r=>by
  have:=zit r;unfold u8l at this ⊢;rw[List.map_cons,List.flatten_cons,this];rfl
theorem zvV (l:List UInt8):∀d∈u8l l,d.length=1:=fun d hd=>by
 unfold u8l at hd;obtain⟨b,_,rfl⟩:=List.mem_map.1 hd;rfl
theorem zk0 (K:Kn):∀l:List UInt8,RepL K (l.map fun b=>Value.int .u8 b.toNat) (u8l l).flatten
 |[]=>.nil
 |b::r=>by
  have:=zk0 K r;rw[zit] at this ⊢;exact .cons (.v rfl) this
theorem zjQ {K:Kn}:∀{vs:List Value} {l:List Value},RepL K vs (l.map I.v)→vs=l
 |_,[],h=>by cases h;rfl
 |_,x::r,h=>by
  cases h with
  |cons h1 h2=>
   rw[zjQ h2]
   cases h1
   rfl
theorem zwA (a b:List UInt8):u8l a++u8l b=u8l (a++b):=by simp[u8l]
def zzc (P:Program) (f:FuncId) (T ty:TypeId):Prop:=∀(b:Nat) (p v:Value) (l:List UInt8) (w:World),w.heap[b]? = some (.cells #[p,v] T (0,0))→w.ownsRow 0 ty 1 v l.length (Lib.byteCells l)→l≠[] →
 Calls P f #[.pointer (some ⟨b,0,none⟩)] w fun e w'=>e=.returned (.string ⟨l.toArray⟩)∧∃g,v.ownBlock=some g∧w'=w.drew.freeze ⟨g,0,none⟩ l.length
theorem zko (w:World) (g n k:Nat) (h:k≠g):(w.freeze ⟨g,0,none⟩ n).heap[k]? = w.heap[k]?:=by
 unfold World.freeze
 split<;>simp[Array.getElem?_modify,Array.getElem?_setIfInBounds,Ne.symm h]
theorem zly (w:World) (g n:Nat):(w.freeze ⟨g,0,none⟩ n).tape=w.tape∧(w.freeze ⟨g,0,none⟩ n).os=w.os∧(w.freeze ⟨g,0,none⟩ n).output=w.output∧(w.freeze ⟨g,0,none⟩ n).heap.size=w.heap.size:=by
 unfold World.freeze
 split<;>simp
theorem zs5 {c:Cx} {s:St} {o:Oper} {f:FuncId} {t nm nm2 T ty:Nat} {dp:D} {l:List UInt8} {H:Heap} {O:List Heap}
  (hspec:zzc c.P f T ty) (hent:∀args w,(callFunc f args).run c.P w=.ok (.enter f args) w) (h0:l≠[])
  (ht:o.dst=some t) (hn:t<s.n) (hS:s.S=H::O) (hb:look H nm=some (.tb T [dp,.osl 0 nm2])) (ha:look H nm2=some (.arr ty 1 l.length (u8l l) true)) :
  Wp c o s f [.own 0 nm 0 0] {σ:=(t,.i (.v (.string ⟨l.toArray⟩)))::zdS nm2 s.σ,S:=((nm2,.arr ty 1 0 [] true)::zbp nm2 H)::O,n:=s.n}:=by
 intro K ρ a w hi ⟨vs,hrun,hrep⟩ next Qe hnext
 have hh:=hi.h;rw[hS] at hh hrep;have hob:zab (H::O) 0 nm=some (.tb T [dp,.osl 0 nm2]):=by simpa [zab] using hb
 have hoa:zab (H::O) 0 nm2=some (.arr ty 1 l.length (u8l l) true):=by simpa [zab] using ha
 have e0:(fun d n=>ρ (0+d) n)=ρ:=by funext d n;rw[Nat.zero_add]
 have s0:∀S:List Heap,shape (S.drop 0)=shape S:=fun S=>by rw[List.drop_zero]
 have hwb:=hh.own _ _ _ hob;rw[e0,s0] at hwb;obtain⟨cur,hc,hrc,hKb⟩:=hwb;have hwa:=hh.own _ _ _ hoa;rw[e0,s0] at hwa;obtain⟨olds,hro,hrow⟩:=zld hwa;have hold:olds=Lib.byteCells l:=by
  rw[zit] at hro;have:(l.map fun b=>I.v (.int .u8 b.toNat))=(l.map fun b=>Value.int .u8 b.toNat).map I.v:=by rw[List.map_map];rfl
  rw[this] at hro;exact zjQ hro
 subst hold;have hshb:shape (H::O) 0 nm=some .box:=by simp[shape,hob,Ob.sh]
 have hsha:shape (H::O) 0 nm2=some (.arr 1 l.length):=by simp[shape,hoa,Ob.sh]
 obtain⟨p,v0,hcur,hv0⟩:∃p v0,cur = #[p,v0]∧RepD K ρ (shape (H::O)) v0 (.osl 0 nm2):=by
  generalize hL:cur.toList=L at hrc
  cases hrc with
  |cons h1 h2=>cases h2 with
   |cons h3 h4=>cases h4;exact⟨_,_,Array.ext' (by rw[hL]),h3⟩
 subst hcur;have hv0:=zcO hv0 hsha;subst hv0;obtain⟨rfl⟩:vs=[.pointer (some ⟨(ρ 0 nm).block,0,none⟩)]:=by
  cases hrep with
  |cons h1 h2=>cases h2;rw[zg9 h1 hshb]
 rw[hent] at hrun;simp only[Oper.wp,hrun,Oper.upon];refine (hspec _ p _ l w hc hrow h0).mono ?_;rintro e w' ⟨rfl,g,hgb,rfl⟩;obtain⟨r1,r2,r3,r4⟩:=zly w.drew g l.length;have hbase:(ρ 0 nm2).base=some ⟨(ρ 0 nm2).block,0,none⟩:=by
  rcases hwa.2.2.2.2 with ⟨_,h1⟩|⟨h1,_⟩
  ·rw[h1] at hgb;simp[Value.ownBlock] at hgb
  ·exact h1
 have hgb:(ρ 0 nm2).block=g:=by rw[hbase] at hgb;simpa [Value.ownBlock] using hgb
 subst hgb;have hKo:zaA (ρ 0 nm2) (.arr ty 1 l.length (u8l l) true)→∀o,K (ρ 0 nm2).block o=none:=by
  intro hbk;obtain⟨_,_,_,_,h5⟩:=hwa;rcases h5 with ⟨_,h6⟩|⟨_,c,_,_,_,h9,_⟩
  ·exact absurd h6 hbk
  ·exact h9 rfl
 let l0:Loc:=⟨0,0,none⟩
 have hap:Apnd K w (w.drew.freeze ⟨(ρ 0 nm2).block,0,none⟩ l.length) (ρ 0 nm2) l0:=by
  refine⟨Nat.le_of_eq r4.symm,fun b _ hne=>?_,⟨r1,r2,r3⟩,fun e=>absurd rfl e⟩;exact zko w.drew _ _ _ (hne (by rw[hbase];simp))
 obtain⟨hI3,hbut⟩:=hh.renew (nm:=nm2) (dst:=nm2) ha (by rw[zb1];simp) hap Iff.rfl (ob':=.arr ty 1 0 [] true) Iff.rfl hKo (fun ρ' sh'=>⟨by simp,rfl,Nat.le_refl _,by simp[l0],.inl ⟨rfl,rfl⟩⟩);refine hnext _ _ K (upd ρ nm2 l0) ?_
 ·rw[ht];refine⟨hI3,hi.defers,by simp[Act.put];exact hi.size,fun t' d' e'=>?_⟩;rw[zdn (by rw[hi.size];exact hn)];simp only[zac] at e'
  split at e'
  ·rename_i e2;simp only[Option.some.injEq] at e';subst e';rw[if_pos e2];exact .i (.v rfl)
  ·rename_i e2;rw[if_neg e2];rw[zcH] at e'
   cases hls:look s.σ t' with
   |none=>simp[hls] at e'
   |some d0=>
    simp only[hls,Option.map_some,Option.some.injEq] at e';subst e';have hr:=hi.slots _ _ hls;rw[hS] at hr;exact hr.kill hbut
end
end Go.AI
namespace Go.AI
open Go.Proofs
section
variable {P:Program} {T:TT} {E:Env} {K:Kn} {ρ:Nat→Nat→Loc} {S:List Heap} {w:World} {dst:Nat}
theorem zyC (hw:HInv E K ρ S w) (hf:zab S 0 dst=none) {cs:List Value} {ds:List D} (hr:RepDL K ρ (shape S) cs ds) (ty:TypeId) :
  ∃l,Grow K ρ S w [(dst,.tb ty ds)] K (upd ρ dst l) (w.alloc (.cells cs.toArray ty))∧RepD K (upd ρ dst l) (shape (addS S [(dst,.tb ty ds)])) (.pointer (some ⟨w.heap.size,0,none⟩)) (.own 0 dst 0 0):=by
 have hst:=zjF (K:=K) (ρ:=ρ) hf (.tb ty ds) ⟨w.heap.size,0,none⟩;refine⟨⟨w.heap.size,0,none⟩,zfG hw hf (.inl rfl) (fun _=>rfl) ⟨cs.toArray,heap_alloc_new w _,by simpa using hr.stays hst,fun o=>hw.K_fresh (Nat.le_refl _)⟩,?_⟩;have hsh:shape (addS S [(dst,.tb ty ds)]) 0 dst=some .box:=by
  cases S with
  |nil=>simp[shape,addS,zab,zac,Ob.sh]
  |cons H O=>simp[shape,zbx,zac,Ob.sh]
 have:=RepD.box (K:=K) (ρ:=upd ρ dst ⟨w.heap.size,0,none⟩) (off:=0) hsh;rwa [zaX] at this
end
section
variable {c:Cx} {s:St} {k:List Item} {ops:Array Oper} {rest:List Nat} {o:Oper}
theorem g_tb (hT:TOk c.P c.T) (hfn:c.P.funcs[c.f]? = some c.fn) {i t nm:Nat} {ti:TI} {H:Heap} {O:List Heap} (ho:ops[i]? = some o) (hop:o.op=.alloc t) (hd:o.dst=some nm) (hg:o.guard=none) (hn:Nat.ble (nm+1) s.n=true) (hi:look c.T t=some ti)
  (hS:s.S=H::O) (hf:look H nm=none) (h:GM c (run c.T c.stop 1000 (.inRegion ops rest::k) {σ:=(nm,.own 0 nm 0 0)::s.σ,S:=((nm,.tb t (ti.zero.map fun v=>.i (.v v)))::H)::O,n:=s.n})) :
  GM c (.pause ops i rest o s k):=by
 refine⟨?_⟩;have hk:RG c ops rest {σ:=(nm,.own 0 nm 0 0)::s.σ,S:=((nm,.tb t (ti.zero.map fun v=>.i (.v v)))::H)::O,n:=s.n} k:=za5 hT hfn 1000 (.inRegion ops rest::k) _ h.h;refine zw4 ho (by unfold zaR;rw[hg]) ?_;intro K ρ a w hinv next Qe hnext
 have hok:=hT _ _ hi;have hh:=hinv.h;rw[hS] at hh;obtain⟨inf,h1,h2,h3,z,h4,h5,-⟩:=hok.info;have hf':zab (H::O) 0 nm=none:=by simpa [zab] using hf
 obtain⟨l,g,r⟩:=zyC (dst:=nm) hh hf' (ziL hok.one) t;have hz:z.cells=ti.zero.toArray:=by rw[←h5]
 have hrun:(execOp a.eval o).run c.P w=.ok (.value (.pointer (some ⟨w.heap.size,0,none⟩))) (w.alloc (.cells ti.zero.toArray t)):=by
  simp[execOp,hop,Instr.alloc,zeroValue,typeInfo,h1,h4,newVar,newRow,hz]
 simp only[Oper.wp,hrun,Oper.upon];obtain⟨hI,hst⟩:=HInv.grow (S:=H::O) rfl hh (fun _ _ _ e=>e) (fun n' h=>by
  cases hl:look [(nm,Ob.tb t (ti.zero.map fun v=>.i (.v v)))] n' with
  |none=>exact absurd hl h
  |some ob=>obtain⟨rfl,rfl⟩:=zaV hl;exact hf) g
 refine hnext _ _ _ _ _ hst.le (fun d n x _ e=>⟨hst.shp _ _ _ (by rw[hS] at e;exact e),hst.loc _ _ _ (by rw[hS] at e;exact e)⟩) ?_ hk;rw[hd];refine zdw hinv (Nat.le_of_ble_eq_true hn) hI ?_ r;rw[hS];exact hst
theorem zul (b nm e z:Nat) {T:Nat} {x:D} {H:Heap} {O:List Heap} (hS:s.S=H::O) (hb:look H b=some (.tb T [x,.i (.v (.slice none 0 0))])) (hf:look H nm=none):Wk c s {σ:=s.σ,S:=((b,.tb T [x,.osl 0 nm])::(nm,.arr e z 0 [] true)::H)::O,n:=s.n}:=by
 intro K ρ a w hi;have hh:=hi.h;rw[hS] at hh
 let l0:Loc:=⟨0,0,none⟩
 have hown:∀ρ' sh',OwnAt K ρ' sh' w l0 (.arr e z 0 [] true):=fun ρ' sh'=>⟨by simp,rfl,Nat.le_refl _,by simp[l0],.inl ⟨rfl,rfl⟩⟩;have hg:Grow K ρ (H::O) w [(nm,.arr e z 0 [] true)] K (upd ρ nm l0) w:=by
  refine⟨K.le_refl,fun _ _ _ h=>.inl h,Nat.le_refl _,fun _ _=>rfl,⟨rfl,rfl,rfl⟩,fun d n' h=>?_,hh.holds,fun n' ob e'=>?_,fun n1 o1 n2 o2 e1 e2 b1 b2 _=>?_⟩
  ·refine zaS _ _ _ (h.imp id fun h e'=>?_);subst e';simp[zac] at h
  ·obtain⟨rfl,rfl⟩:=zaV e';rw[zaX];exact⟨hown _ _,fun hb=>absurd rfl hb⟩
  ·obtain⟨rfl,rfl⟩:=zaV e1;obtain⟨rfl,rfl⟩:=zaV e2;rfl
 obtain⟨hI,hst⟩:=HInv.grow (S:=H::O) rfl hh (fun _ _ _ e=>e) (fun n' h=>by
  cases hl:look [(nm,Ob.arr e z 0 [] true)] n' with
  |none=>exact absurd hl h
  |some ob=>obtain⟨rfl,rfl⟩:=zaV hl;exact hf) hg
 have hbn:nm≠b:=fun e'=>by subst e';rw[hf] at hb;cases hb
 have hI:HInv c.E K (upd ρ nm l0) (((nm,.arr e z 0 [] true)::H)::O) w:=hI;have hob:zab (((nm,.arr e z 0 [] true)::H)::O) 0 b=some (.tb T [x,.i (.v (.slice none 0 0))]):=by
  simp only[zab,List.getElem?_cons_zero,zac,if_neg hbn];exact hb
 have hwb:=hI.own _ _ _ hob;have e0:(fun d n=>upd ρ nm l0 (0+d) n)=upd ρ nm l0:=by funext d n;rw[Nat.zero_add]
 have e1:(fun d n=>shape (((nm,Ob.arr e z 0 [] true)::H)::O) (0+d) n)=shape (((nm,Ob.arr e z 0 [] true)::H)::O):=by funext d n;rw[Nat.zero_add]
 obtain⟨cur,hc,hrc,hKb⟩:=hwb;rw[e0,List.drop_zero] at hrc;have hnew:RepDL K (fun d n=>upd ρ nm l0 (0+d) n) (fun d n=>shape (((nm,Ob.arr e z 0 [] true)::H)::O) (0+d) n) cur.toList [x,.osl 0 nm]:=by
  rw[e0,e1];generalize cur.toList=L at hrc
  cases hrc with
  |cons h1 h2=>cases h2 with
   |cons h3 h4=>
    cases h4
    rw[zaT h3];have:=RepD.osl (K:=K) (ρ:=upd ρ nm l0) (sh:=shape (((nm,Ob.arr e z 0 [] true)::H)::O)) (dep:=0) (nm:=nm) (es:=z) (len:=0) (by simp[shape,zab,zac,Ob.sh]);rw[zaX] at this;exact .cons h1 (.cons this .nil)
 have hI2:=hI.put (ob':=.tb T [x,.osl 0 nm]) hob rfl trivial trivial (w':=w) rfl (fun _ _=>rfl) ⟨rfl,rfl,rfl⟩ (fun o' x' hx'=>by rw[hKb] at hx';cases hx') ⟨cur,hc,hnew,hKb⟩;have hsh:shape (setAt (((nm,Ob.arr e z 0 [] true)::H)::O) 0 b (.tb T [x,.osl 0 nm]))=shape (((nm,Ob.arr e z 0 [] true)::H)::O):=zbJ hob rfl;refine⟨K,upd ρ nm l0,hI2,hi.defers,hi.size,fun t' d e'=>?_⟩;have:=hi.slots _ _ e';rw[hS] at this;show RepD K _ (shape (((b,.tb T [x,.osl 0 nm])::(nm,.arr e z 0 [] true)::H)::O)) _ _;have hsh:shape (((b,.tb T [x,.osl 0 nm])::(nm,.arr e z 0 [] true)::H)::O)=shape (((nm,Ob.arr e z 0 [] true)::H)::O):=hsh;rw[hsh];exact this.stays hst
end
end Go.AI
namespace Go.Proofs
open Go.Shelf Go.RowKit
theorem zyo:(Tryz.prog.info? 277).map (·.size)=some 2:=by kernel_rfl
theorem zzl:liesAt Tryz.prog Tryz.prog.depth 277 (2/Tryz.prog.cellsOf 277) 0 277 1=true:=by kernel_rfl
set_option maxRecDepth 100000 in
theorem zvN (b:Nat) (w:World) (h0:w.cell? ⟨b,0,none⟩=some (.pointer (some ⟨b,0,none⟩))) :
  Calls Tryz.prog 218 #[.pointer (some ⟨b,0,none⟩)] w fun e w'=>e=.returned (.tuple #[])∧w'=w:=by
 obtain⟨j,hj,_⟩:=Option.map_eq_some_iff.1 zyo;have u72:=run_underlying Tryz.underlying277;have u70:=run_underlying Tryz.underlying275;have u4:=run_underlying Tryz.underlying4;have u164:=run_underlying Tryz.underlying371
 go_enter Tryz.func218,Tryz.ntmps218
 go_wp2
 rw[Lib.run_neq_ptr_same w _ Tryz.underlying275 hj]
 go_wp2
 go_end0
 exact⟨rfl,rfl⟩
set_option maxRecDepth 100000 in
theorem zte (b:Nat) (w:World) (h0:w.cell? ⟨b,0,none⟩=some (.pointer none)) (hsh:w.shape? b=some (277,2)) (hfz:w.frozen? ⟨b,0,none⟩=false) :
  Calls Tryz.prog 218 #[.pointer (some ⟨b,0,none⟩)] w fun e w'=>e=.returned (.tuple #[])∧w'=w.setCell ⟨b,0,none⟩ (.pointer (some ⟨b,0,none⟩)):=by
 obtain⟨j,hj,hjs⟩:=Option.map_eq_some_iff.1 zyo;have u72:=run_underlying Tryz.underlying277;have u70:=run_underlying Tryz.underlying275;have u4:=run_underlying Tryz.underlying4;have u164:=run_underlying Tryz.underlying371
 go_enter Tryz.func218,Tryz.ntmps218
 go_wp2
 rw[Lib.run_to_unsafe w ⟨b,0,none⟩ Tryz.underlying275 Tryz.underlying371 hj (by rw[hjs];decide) hsh (Nat.zero_lt_succ 1)];simp only[Result.andThen];rw[Oper.upon_value]
 go_wp2
 rw[run_callFunc_extern Tryz.func251 (by kernel_rfl) (by kernel_rfl) (by kernel_rfl) (e:=Extern.AbiNoEscape.same) (by kernel_rfl)];rw[Lib.run_noEscape];simp only[Result.andThen];rw[Oper.upon_value]
 go_wp2
 rw[Lib.run_from_unsafe w ⟨b,0,none⟩ Tryz.underlying371 Tryz.underlying275 hj hsh zzl];simp only[Result.andThen];rw[Oper.upon_value]
 go_wp2
 go_end0
 exact⟨rfl,rfl⟩
theorem zf2 (b:Nat) (p v:Value) (bs:List Value) (w:World) (hp:p=.pointer none∨p=.pointer (some ⟨b,0,none⟩)) (hbk:w.heap[b]? = some (.cells #[p,v] 277 (0,0)))
  (hrow:w.ownsRow 0 5 1 v bs.length bs) (hne:v.ownBlock≠some b) :
  Calls Tryz.prog 218 #[.pointer (some ⟨b,0,none⟩)] w fun e w'=>e=.returned (.tuple #[])∧(w'.heap[b]? = some (.cells #[.pointer (some ⟨b,0,none⟩),v] 277 (0,0))∧w'.ownsRow 0 5 1 v bs.length bs) ∧
   ((w'=w∧p=.pointer (some ⟨b,0,none⟩))∨(w'=w.setCell ⟨b,0,none⟩ (.pointer (some ⟨b,0,none⟩))∧p=.pointer none)):=by
 have hc:w.cell? ⟨b,0,none⟩=some p:=by rw[Lib.cell_of_heap hbk];rfl
 rcases hp with rfl|rfl
 ·have hsh:w.shape? b=some (277,2):=by simp[World.shape?,hbk]
  refine (zte b w hc hsh (Lib.frozen_of_heap hbk 0)).mono ?_;rintro e w' ⟨rfl,rfl⟩;exact⟨rfl,⟨zhe hbk,zpM hrow fun k hk=>Go.Deep.blk_setCell_other w _ _ k fun e=>hne (by rw[hk,e])⟩,.inr ⟨rfl,rfl⟩⟩
 ·refine (zvN b w hc).mono ?_;rintro e w' ⟨rfl,rfl⟩;exact⟨rfl,⟨hbk,hrow⟩,.inl ⟨rfl,rfl⟩⟩
set_option maxRecDepth 100000 in
theorem ztl (b:Nat) (p v0:Value) (bs:List Value) (s:ByteArray) (w:World) (hp:p=.pointer none∨p=.pointer (some ⟨b,0,none⟩)) (hbk0:w.heap[b]? = some (.cells #[p,v0] 277 (0,0)))
  (hrow:w.ownsRow 0 5 1 v0 bs.length bs) (hne:v0.ownBlock≠some b) (hlen:bs.length+s.size≤140737488355328) :
  Calls Tryz.prog 155 #[.pointer (some ⟨b,0,none⟩),.string s] w fun e w'=>e=.returned (.tuple #[.int .i64 s.size,.nilIface])∧ztw 277 5 b p v0 bs (Lib.strCells s) w w':=by
 obtain⟨i0,hi,hz0,hz1,hz2⟩:=info_parts Tryz.Builder_Extra_169.infoByte;have u72:=run_underlying Tryz.underlying277;have u70:=run_underlying Tryz.underlying275;have u37:=run_underlying Tryz.underlying71;have u9:=run_underlying Tryz.underlying9;have u4:=run_underlying Tryz.underlying4;have u5:=run_underlying Tryz.underlying5;have u3:=run_underlying Tryz.underlying3;have e240:∀args w,(callFunc 218 args).run Tryz.prog w=.ok (.enter 218 args) w:=Tryz.call218
 go_enter Tryz.func155,Tryz.ntmps155
 go_wp2_with (go_at_fn 218;refine (zf2 b p v0 bs _ hp hbk0 hrow hne).mono ?_)
 rintro e w1 ⟨rfl,⟨hbk,hown⟩,hb1⟩;have c0:w1.cell? ⟨b,0,none⟩=some (.pointer (some ⟨b,0,none⟩)):=by rw[Lib.cell_of_heap hbk];rfl
 have c1:w1.cell? ⟨b,1,none⟩=some v0:=by rw[Lib.cell_of_heap hbk];rfl
 have hlt:b<w1.heap.size:=by
  rcases Nat.lt_or_ge b w1.heap.size with h'|h'
  ·exact h'
  ·simp[Array.getElem?_eq_none h'] at hbk
 go_wp2_with (at_builtin;refine zhy _ rfl _ _ 71 9 rfl 5 i0 Tryz.underlying71 Tryz.underlying9 hi hz0 hz1 hz2 _ _ _ rfl hown s rfl ?c3 ?c4 ?_)
 case c3=>unfold maxLen;omega
 case c4=>omega
 intro v' w2 hown' hgrow hat;have hb2:w2.heap[b]? = some (.cells #[.pointer (some ⟨b,0,none⟩),v0] 277 (0,0)):=by
  rw[hgrow.block b hlt (fun e=>hne e.symm)];exact hbk
 have d0:w2.cell? ⟨b,0,none⟩=some (.pointer (some ⟨b,0,none⟩)):=by rw[Lib.cell_of_heap hb2];rfl
 have d1:w2.cell? ⟨b,1,none⟩=some v0:=by rw[Lib.cell_of_heap hb2];rfl
 have f1:w2.frozen? ⟨b,1,none⟩=false:=Lib.frozen_of_heap hb2 1;have hfin:ztw 277 5 b p v0 bs (Lib.strCells s) w (w2.setCell ⟨b,1,none⟩ v'):=⟨w1,w1,w2,v',hb1,.inl rfl,by simpa [Lib.strCells_length] using hown',hgrow,hat,rfl⟩;obtain⟨ao,n',cap,rfl⟩:∃ao n' cap,v'=.slice ao n' cap:=by
  rcases hown'.2 with ⟨hv,_⟩|⟨g,cap,cur,hv,_⟩
  ·exact⟨_,_,_,hv⟩
  ·exact⟨_,_,_,hv⟩
 go_wp2
 go_ret2
 exact⟨rfl,hfin⟩
set_option maxRecDepth 100000 in
theorem zl0 (b:Nat) (p v0:Value) (bs:List Value) (c:Int) (w:World) (hp:p=.pointer none∨p=.pointer (some ⟨b,0,none⟩)) (hbk0:w.heap[b]? = some (.cells #[p,v0] 277 (0,0)))
  (hrow:w.ownsRow 0 5 1 v0 bs.length bs) (hne:v0.ownBlock≠some b) (hlen:bs.length+1≤140737488355328) :
  Calls Tryz.prog 156 #[.pointer (some ⟨b,0,none⟩),.int .u8 c] w fun e w'=>e=.returned .nilIface∧ztw 277 5 b p v0 bs [.int .u8 c] w w':=by
 obtain⟨i0,hi,hz0,hz1,hz2⟩:=info_parts Tryz.Builder_Extra_169.infoByte;have u72:=run_underlying Tryz.underlying277;have u70:=run_underlying Tryz.underlying275;have u37:=run_underlying Tryz.underlying71;have u4:=run_underlying Tryz.underlying4;have u5:=run_underlying Tryz.underlying5;have e240:∀args w,(callFunc 218 args).run Tryz.prog w=.ok (.enter 218 args) w:=Tryz.call218
 go_enter Tryz.func156,Tryz.ntmps156
 go_wp2_with (go_at_fn 218;refine (zf2 b p v0 bs _ hp hbk0 hrow hne).mono ?_)
 rintro e w1 ⟨rfl,⟨hbk,hown⟩,hb1⟩;have c0:w1.cell? ⟨b,0,none⟩=some (.pointer (some ⟨b,0,none⟩)):=by rw[Lib.cell_of_heap hbk];rfl
 have c1:w1.cell? ⟨b,1,none⟩=some v0:=by rw[Lib.cell_of_heap hbk];rfl
 have hlt:b<w1.heap.size:=by
  rcases Nat.lt_or_ge b w1.heap.size with h'|h'
  ·exact h'
  ·simp[Array.getElem?_eq_none h'] at hbk
 go_wp2_with (at_builtin;refine zhz _ rfl _ _ 71 rfl 5 i0 Tryz.underlying71 hi hz0 hz1 hz2 _ _ _ rfl (hown.alloc _) ⟨w1.heap.size,0,none⟩ 1 1 [.int .u8 c] rfl rfl ?c1 ?c2 ?c3 ?c4 ?_)
 case c1=>
  intro j u hj
  match j,hj with
  |0,hj=>simp at hj;subst hj;simp[Addr.add]
 case c2=>intro u hu;simp at hu;subst hu;rfl
 case c3=>unfold maxLen;omega
 case c4=>omega
 intro v' w2 hown' hgrow hat;have hb2:w2.heap[b]? = some (.cells #[.pointer (some ⟨b,0,none⟩),v0] 277 (0,0)):=by
  rw[hgrow.block b (by simp;omega) (fun e=>hne e.symm),Lib.alloc_old w1 _ b hlt];exact hbk
 have d0:w2.cell? ⟨b,0,none⟩=some (.pointer (some ⟨b,0,none⟩)):=by rw[Lib.cell_of_heap hb2];rfl
 have d1:w2.cell? ⟨b,1,none⟩=some v0:=by rw[Lib.cell_of_heap hb2];rfl
 have f1:w2.frozen? ⟨b,1,none⟩=false:=Lib.frozen_of_heap hb2 1;have hfin:ztw 277 5 b p v0 bs [.int .u8 c] w (w2.setCell ⟨b,1,none⟩ v'):=⟨w1,_,w2,v',hb1,.inr ⟨_,rfl⟩,by simpa using hown',hgrow,hat,rfl⟩;obtain⟨g,cap,rfl⟩:∃g cap,v'=.slice (some ⟨g,0,none⟩) (bs.length+1) cap:=by
  rcases hown'.2 with ⟨_,h0⟩|⟨g,cap,cur,hv,_⟩
  ·omega
  ·exact⟨g,cap,hv⟩
 go_wp2
 go_ret
 exact⟨rfl,hfin⟩
end Go.Proofs
namespace Go.AI
open Go.Proofs
theorem zwu (s:ByteArray):zya Tryz.prog 155 277 5 (.tuple #[.int .i64 s.size,.nilIface]) (.string s) (Lib.strCells s):=
 fun b p v0 bs w hp hbk hrow hne hlen=>ztl b p v0 bs s w hp hbk hrow hne (by rw[Lib.strCells_length] at hlen;exact hlen)
theorem zuj (c:Int):zya Tryz.prog 156 277 5 .nilIface (.int .u8 c) [.int .u8 c]:=
 fun b p v0 bs w hp hbk hrow hne hlen=>zl0 b p v0 bs c w hp hbk hrow hne (by simpa using hlen)
theorem zwI:zzc Tryz.prog 157 277 5:=fun b p v l w hbk hown h0=>zqj Tryz.lays169 Tryz.Builder_Extra_169 b p v l w hbk hown h0
end Go.AI
namespace Go.Proofs
open Go.Shelf Go.RowKit
end Go.Proofs
namespace Go.Proofs
open Go.Shelf Go.RowKit
end Go.Proofs
namespace Go.AI
open Go.Proofs
end Go.AI
namespace Go.AI
open Go.Proofs
set_option maxRecDepth 20000
def zk5 (l:List Int) (n:Nat):List Int:=((List.range n).map fun (i:Nat)=>(i:Int)).filter fun x=>decide (x∈l)
def stp3 (es:List Edg) (s ev:Int):Int:=match es with
 |[]=>-1
 |x::r=>if x.1=s∧x.2.1=ev then x.2.2 else stp3 r s ev
end Go.AI
namespace Go.AI
structure autOk (a:Aut):Prop where
 ed:a.edges.length≤1000000
 al:a.alpha.length≤1000000
 mkd:a.marked.length≤1000000
 chk:chkA a=0
end Go.AI
namespace Go.AI
open Go.Proofs
set_option maxRecDepth 20000
structure fOk (n:Int) (out:List Int):Prop where
 nd:out.Nodup
 b:∀x∈out,0≤x∧x<n
end Go.AI
namespace Go.AI
def rvB (p:Int→Bool) (s:Int):List Edg→List Int→List Int
 |[],l=>l
 |e::r,l=>rvB p s r (if e.1=s∧p e.2.1=true∧e.2.2 ∉ l then l++[e.2.2] else l)
def rlB (es:List Edg) (p:Int→Bool):Nat→Nat→List Int→List Int
 |0,_,l=>l
 |f+1,i,l=>match l[i]? with
  |none=>l
  |some s=>rlB es p f (i+1) (rvB p s es l)
def zyu (es:List Edg) (p:Int→Bool) (n:Nat) (l:List Int):List Int:=rlB es p (l.length+n) 0 l
def clo (es:List Edg) (p:Int→Bool) (n:Nat) (l:List Int):List Int:=zk5 (zyu es p n l) n
structure grOk (n:Nat) (fr l:List Int):Prop where
 ex:∃ad,l=fr++ad∧fOk n ad
inductive Rc (es:List Edg) (p:Int→Bool) (l:List Int):Int→Prop
 |base {x:Int}:x∈l→Rc es p l x
 |step {e:Edg}:Rc es p l e.1→e∈es→p e.2.1=true→Rc es p l e.2.2
def zdo (l:List Int):List Int:=l.mergeSort fun x y=>decide (x≤y)
theorem zgE (l:List Int):(zdo l).length=l.length:=by unfold zdo;exact List.length_mergeSort l
theorem zuv (l:List Int):(zdo l).Pairwise (· ≤ ·):=by
 unfold zdo;have:=List.pairwise_mergeSort (le:=fun x y:Int=>decide (x≤y)) (fun a b c h1 h2=>by simp only[decide_eq_true_eq] at *;omega) (fun a b=>by simp only[Bool.or_eq_true,decide_eq_true_eq];omega) l;exact this.imp fun {a b} h=>of_decide_eq_true h
end Go.AI
namespace Go.AI
open Go.Proofs
set_option maxRecDepth 20000
structure Moved (E0 E:Env) (nm:Nat):Prop where
 K0:E.K0=E0.K0
 w0:E.w0=E0.w0
 ρ:∀d n,(d≠0∨n≠nm)→E.ρ0 d n=E0.ρ0 d n
 sub:∀b,E.pr b→E0.pr b
 pr:∀b,E0.pr b→((E0.ρ0 0 nm).base≠none→b≠(E0.ρ0 0 nm).block)→E.pr b
 blk:(E.ρ0 0 nm).base≠none→E0.w0.heap.size≤(E.ρ0 0 nm).block∨((E0.ρ0 0 nm).base≠none∧(E.ρ0 0 nm).block=(E0.ρ0 0 nm).block)
section
variable {P:Program} {T:TT} {f:FuncId} {fn:Func} {code:Code}
end
section
variable {c:Cx} {s:St} {k:List Item} {ops:Array Oper} {rest:List Nat} {o:Oper} {E0:Env} {H:Heap} {O:List Heap}
end
section
variable {P:Program} {T:TT} {E:Env} {K:Kn} {ρ ρ':Nat→Nat→Loc} {S:List Heap} {w:World} {sh sh':Nat→Nat→Option Sh} {m:Nat}
end
section
variable {c:Cx} {s:St} {k:List Item} {ops:Array Oper} {rest:List Nat} {o:Oper} {E0:Env} {H0 H1 H:Heap} {O:List Heap}
end
abbrev bools (sn:List Bool):Ob:=.arr 4 1 sn.length (sn.map fun b=>[.v (.bool b)]) true
end Go.AI
namespace Go.AI
open Go.Proofs
theorem zlc {w:World} {b:Nat} {d:Array Int} {c:Array Value} {ty:TypeId} {fr:Nat×Nat} (h:w.heap[b]? = some (.cells c ty fr)) :
  (Sort.putRow (Value.int .i64) w b 0 d).heap[b]? = some (.cells (Sort.putCells (Value.int .i64) 0 d c) ty fr)∧∀b',b' ≠ b→(Sort.putRow (Value.int .i64) w b 0 d).heap[b']? = w.heap[b']?:=by
 unfold Sort.putRow Sort.mapBlock;refine⟨?_,fun b' hb=>?_⟩
 ·simp[Array.getElem?_modify,h,Sort.onCells]
 ·simp only[Array.getElem?_modify];rw[if_neg (fun e=>hb e.symm)]
theorem zyk (O:List Heap) (d nm:Nat) (l:List Int) (hpos:0<l.length) (hl:l.length<4611686018427387904) (ho:zab O d nm=some (zb7 l)):zao Tryz.prog 172 [.osl d nm] O (.tup []) [] (setAt O d nm (zb7 (zdo l))):=by
 intro E K ρ w vs hw hrep;obtain rfl:vs=[.slice (ρ d nm).base l.length (ρ d nm).cap]:=by
  cases hrep with
  |cons r rs=>
   cases rs
   rw[zcO (es:=1) (len:=l.length) r (by simp[shape,ho,Ob.sh])]
 obtain⟨ρ1,hρ1,hI⟩:=zdk hw;have ho1:zab (([]:Heap)::O) (d+1) nm=some (zb7 l):=zay ho;have hown1:=zet (s:={ σ:=[],S:=[]::O,n:=0}) hI ho1;have hsl:=zgE l;refine .inl ⟨Tryz.call172 _ _,?_⟩;obtain⟨h1,h2,h3,h4,h5⟩:=hown1;have hloc:ρ1 (d+1) nm=ρ d nm:=by rw[hρ1]
 rw[hloc] at h3 h4 h5;rcases h5 with ⟨h5,h6⟩|⟨h5,c,h6,h7,h8,h9,h10,h11⟩
 ·exfalso;omega
 ·have hcl:c.toList.take l.length=l.map (Value.int .i64):=by
   rw[Nat.mul_one] at h8;exact zgP h8
  have hsz:l.length≤c.size:=by rw[h7,Nat.mul_one];exact h3
  have hblk:(ρ d nm).block<w.heap.size:=(Array.getElem?_eq_some_iff.1 h6).1;rw[h5];refine (Tryz.slices_Sort_int (ρ d nm).block 0 (ρ d nm).cap l w (fun j hj=>⟨?_,?_⟩) hblk hl).mono ?_
  ·have hj:j<l.length:=by simpa using hj
   rw[Nat.zero_add,cell_of_heap h6];have:(c.toList.take l.length)[j]? = some (.int .i64 l[j]):=by
    rw[hcl,List.getElem?_map,List.getElem?_eq_getElem hj];rfl
   rw[List.getElem?_take,if_pos hj] at this;have e:l.toArray[j]! = l[j]:=by simp[hj]
   rw[e];simpa using this
  ·simp[World.frozen?,h6]
  ·rintro e w' ⟨rfl,n,os,rfl⟩;have hh:(Sort.ahead w n).heap[(ρ d nm).block]? = some (.cells c 3 (0,0)):=h6;obtain⟨a1,a2⟩:=zlc (d:=(zdo l).toArray) hh;have hbk:zaA (ρ1 (d+1) nm) (zb7 l):=by rw[hloc];show _≠none;rw[h5];simp
   have hfin:HInv (.of K ρ w) K ρ1 (setAt ([]::O) (d+1) nm (zb7 (zdo l))) (Sort.putRow (Value.int .i64) (Sort.ahead w n) (ρ d nm).block 0 (zdo l).toArray):=by
    refine hI.put ho1 (by simp[Ob.sh,hsl]) hbk (by rw[hloc];show _≠none;rw[h5];simp) (by simp[Sort.ahead]) (fun b hb=>a2 b (by rw[←hloc];exact hb)) ⟨rfl,rfl,rfl⟩ (fun o x hx=>?_) ?_
    ·rw[hloc] at hx ⊢;rw[h9 rfl] at hx;cases hx
    ·rw[hloc];refine⟨by simp[hsl],by simp,by simpa [hsl] using h3,h4,.inr ⟨h5,_,a1,by simp[Sort.putCells,h7],?_,fun _=>h9 rfl,fun o ho=>by rw[h9 rfl o],fun h=>by cases h⟩⟩;have e:(Sort.putCells (Value.int .i64) 0 (zdo l).toArray c).toList.take ((zdo l).length*1)=(zdo l).map (Value.int .i64):=by
      apply List.ext_getElem?
      intro j;rw[List.getElem?_take,Nat.mul_one]
      by_cases hj:j<(zdo l).length
      ·rw[if_pos hj];have hjc:j<c.size:=by omega
       simp[Sort.putCells,hj,hjc,Array.getElem?_mapIdx]
      ·rw[if_neg hj];simp at hj;simp[hj]
     rw[e];exact zha _
   obtain⟨hI2,hst⟩:=HInv.grow (S:=setAt ([]::O) (d+1) nm (zb7 (zdo l))) rfl hfin (fun _ _ _ e=>e) (fun _ h=>by simp[look] at h) (zkk hfin 0 os);exact⟨_,rfl,K,ρ1,hI2,.tup .nil⟩
end Go.AI
namespace Go.AI
open Go.Proofs
set_option maxRecDepth 20000
theorem zxv (O:List Heap):zao Tryz.prog 191 [.i (.v (.int .u64 0))] O (ii 0) [] O:=by
 refine zaa Tk Tryz.func191 rfl Tryz.call191 Tryz.ntmps191 (Nat.le_of_ble_eq_true rfl) fun E=>?_;refine zai Tk Tryz.func191 ?_;refine gcF Tk Tryz.func191 rfl ?_;refine gcF Tk Tryz.func191 rfl ?_;refine gcF Tk Tryz.func191 rfl ?_;refine zad Tk Tryz.func191 (by exact⟨by decide,by decide⟩) ?_;refine zag Tk (r:=ii 0) rfl rfl rfl trivial rfl rfl ?_;rfl
theorem zyJ (O:List Heap):zao Tryz.prog 141 [.i (.v (.int .u64 0))] O (ii 0) [] O:=by
 refine zaa Tk Tryz.func141 rfl Tryz.call141 Tryz.ntmps141 (Nat.le_of_ble_eq_true rfl) fun E=>?_;refine zai Tk Tryz.func141 ?_;refine gcF Tk Tryz.func141 rfl ?_;refine zaj Tk Tryz.func141 (zxv _) rfl rfl rfl rfl rfl ?_;refine zag Tk (r:=ii 0) rfl rfl rfl trivial rfl rfl ?_;rfl
theorem zxF (O:List Heap):zao Tryz.prog 253 [ints [],ii 0,ii 0] O (.tup []) [] O:=by
 refine zaa Tk Tryz.func253 rfl Tryz.call253 Tryz.ntmps253 (Nat.le_of_ble_eq_true rfl) fun E=>?_;refine zai Tk Tryz.func253 ?_;refine zah ?_;refine zai Tk Tryz.func253 ?_;refine gcF Tk Tryz.func253 rfl ?_;refine zag Tk (r:=.tup []) rfl rfl rfl trivial rfl rfl ?_;rfl
theorem zyw (O:List Heap):zao Tryz.prog 227 [ints [],ii 0,ii 0,ii 0] O (.tup []) [] O:=by
 refine zaa Tk Tryz.func227 rfl Tryz.call227 Tryz.ntmps227 (Nat.le_of_ble_eq_true rfl) fun E=>?_;refine zai Tk Tryz.func227 ?_;refine zah ?_;refine zai Tk Tryz.func227 ?_;refine gcT Tk Tryz.func227 rfl ?_;refine zaj Tk Tryz.func227 (zxF _) rfl rfl rfl rfl rfl ?_;refine zag Tk (r:=.tup []) rfl rfl rfl trivial rfl rfl ?_;rfl
theorem zwL (O:List Heap):zao Tryz.prog 172 [ints []] O (.tup []) [] O:=by
 refine zaa Tk Tryz.func172 rfl Tryz.call172 Tryz.ntmps172 (Nat.le_of_ble_eq_true rfl) fun E=>?_;refine zai Tk Tryz.func172 ?_;refine zaj Tk Tryz.func172 (zyJ _) rfl rfl rfl rfl rfl ?_;refine zaj Tk Tryz.func172 (zyw _) rfl rfl rfl rfl rfl ?_;refine zag Tk (r:=.tup []) rfl rfl rfl trivial rfl rfl ?_;rfl
def tgtE (es:List Edg) (est:List Int) (ev:Int):List Int:=(es.filter fun e=>e.2.1==ev&&decide (e.1∈est)).map fun e=>e.2.2
def nxt (es:List Edg) (p:Int→Bool) (n:Nat) (est:List Int) (ev:Int):List Int:=clo es p n (tgtE es est ev)
section
variable {P:Program} {T:TT} {f:FuncId} {fn:Func} {code:Code}
end
section
variable {c:Cx} {s:St} {k:List Item} {ops:Array Oper} {rest:List Nat} {o:Oper}
end
def subs:Nat→List (List Int)
 |0=>[[]]
 |n+1=>subs n++(subs n).map (· ++ [(n:Int)])
structure estsOk (n:Nat) (sts:List (List Int)):Prop where
 nd:sts.Nodup
 el:∀s∈sts,s∈subs n∧s≠[]∧s.length≤n∧∀x∈s,0≤x∧x<(n:Int)
theorem ztn (a:ByteArray):(a==a)=true:=(zql a a).2 rfl
abbrev zzp (a:Aut) (on:List Int):List Int:=a.alpha.filter fun x=>decide (x∈on)
structure smallA (a:Aut):Prop where
 ed:a.edges.length≤1000000
 al:a.alpha.length≤1000000
 mkd:a.marked.length≤1000000
end Go.AI
namespace Go.AI
open Go.Proofs
open Go.Shelf Go.RowKit Go.Lib Go.Sort
end Go.AI
namespace Go.AI
open Go.Proofs
set_option maxRecDepth 20000
def lowP (on un:List Int) (only:Bool) (ev:Int):Bool:=!decide (ev∈on)&&(!only||decide (ev∈un))
section
variable {c:Cx} {s:St} {k:List Item} {ops:Array Oper} {rest:List Nat} {o:Oper} {E0:Env} {H0 H1 H:Heap} {O:List Heap}
end
end Go.AI
namespace Go.AI
open Go.Proofs
section
variable {S:Type} [DecidableEq S]
structure bOk (V:List S) (l:List (S×List Int)):Prop where
 nd:(l.map (·.1)).Nodup
 el:∀z∈l,z.1∈V
 wl:∀(j:Nat) z,l[j]? = some z→z.2.length≤j
end
end Go.AI
namespace Go.AI
open Go.Proofs
set_option maxRecDepth 20000
theorem zum {c:Cx} {s:St} (nm:Nat) {ty es n:Nat} {xs ys:List (List I)} {wr:Bool} {H:Heap} {O:List Heap} (hS:s.S=H::O) (ho:look H nm=some (.arr ty es n xs wr)) (hl:ys.length=xs.length) (he:∀d∈ys,d.length=es) (hco:∀K vs,RepL K vs xs.flatten→RepL K vs ys.flatten) :
  Wk c s {σ:=s.σ,S:=((nm,.arr ty es n ys wr)::H)::O,n:=s.n}:=by
 intro K ρ a w hi;have hh:=hi.h;rw[hS] at hh;have hsh:shape (((nm,Ob.arr ty es n ys wr)::H)::O)=shape (H::O):=za7 ho rfl;refine⟨K,ρ,hh.reob ho rfl (fun h=>h) fun h=>?_,hi.defers,hi.size,fun t d e=>?_⟩
 ·obtain⟨h1,h2,h3,h4,h5⟩:=h;refine⟨he,by rw[hl];exact h2,h3,h4,?_⟩;rcases h5 with h5|⟨h5,c',h6,h7,h8,h9⟩
  ·exact .inl h5
  ·exact .inr ⟨h5,c',h6,h7,hco _ _ h8,h9⟩
 ·show RepD K ρ (shape (((nm,Ob.arr ty es n ys wr)::H)::O)) _ _;rw[hsh,←hS];exact hi.slots t d e
abbrev PS:=List Int×List Int
abbrev znB (a:Aut) (l:List Int):Bool:=l.any fun x=>decide (x∈a.marked)
end Go.AI
namespace Go.AI
section
variable {c:Cx} {ops:Array Oper} {O:List Heap} {n:Nat} {F:SH→List Pl→Prop}
def frPl (p:Pl) (t ty es m:Nat) (xs:List (List I)):Pl:=⟨(t,.i (.sl es m xs))::p.sets,[(t,.arr ty es m xs false)],p.rem⟩
theorem ziy {o:Oper} {v:SH} {p:Pl} {t ty es m:Nat} {xs:List (List I)} (hs:look p.sets t=some (.osl 0 t)) (ha:p.adds=[(t,.arr ty es m xs true)]) (h:zc5 c ops O n o v p):zc5 c ops O n o v (frPl p t ty es m xs):=by
 rcases h with ⟨_,t',_,_,rfl⟩|⟨hw,h⟩
 ·cases ha
 ·refine .inr ⟨hw,fun E hE K ρ a w hi next Qe hn=>h E hE K ρ a w hi next Qe fun val w' σ' K' ρ' hle hk hi' hlk=>?_⟩;have hh:=hi'.h;have ho:look (p.adds++rmv p.rem v.2) t=some (.arr ty es m xs true):=by rw[ha];simp[zac]
  obtain⟨K2,hle2,hI⟩:=hh.freeze ho;have hl:∀nm,look ((t,Ob.arr ty es m xs false)::rmv p.rem v.2) nm=look ((t,Ob.arr ty es m xs false)::(p.adds++rmv p.rem v.2)) nm:=by
   intro nm;rw[ha];simp only[List.singleton_append,zac]
   by_cases e:t=nm
   ·simp[e]
   ·simp[e]
  have hI2:HInv E K2 ρ' (((t,Ob.arr ty es m xs false)::rmv p.rem v.2)::O) w':=hI.same hl;have hsh:shape (((t,Ob.arr ty es m xs false)::rmv p.rem v.2)::O)=shape ((p.adds++rmv p.rem v.2)::O):=by
   rw[zd4 (O:=O) hl];exact za7 ho rfl
  have hS:(frPl p t ty es m xs).adds++rmv (frPl p t ty es m xs).rem v.2=(t,Ob.arr ty es m xs false)::rmv p.rem v.2:=rfl;refine hn val w' ((t,.i (.sl es m xs))::σ') K2 ρ' (Kn.le_trans hle hle2) ?_ ⟨?_,hi'.defers,hi'.size,fun t' d e=>?_⟩ fun t' d e=>?_
  ·rw[hS,hsh];exact hk
  ·rw[hS];exact hI2
  ·show RepD K2 ρ' (shape (((frPl p t ty es m xs).adds++rmv (frPl p t ty es m xs).rem v.2)::O)) _ d;rw[hS,hsh]
   replace e:look ((t,D.i (.sl es m xs))::σ') t'=some d:=e
   rw[zac] at e;rcases Nat.decEq t t' with h1|h1;rotate_left
   ·rw[if_pos h1] at e;subst h1;simp only[Option.some.injEq] at e;subst e;have hsl:look σ' t=some (.osl 0 t):=by
     rcases hlk t _ hs with h2|h2
     ·cases h2
     ·exact h2
    have h1:=hi'.slots t _ hsl;have hown:=hI.own 0 t (.arr ty es m xs false) (by simp[zab,zac]);have:=zcO (es:=es) (len:=m) h1 (by
     show shape ((p.adds++rmv p.rem v.2)::O) 0 t=_;simp[shape,zab,ha,zac,Ob.sh])
    rw[this];exact .i (zcG hown)
   ·rw[if_neg h1] at e;exact (hi'.slots t' d e).stays ⟨hle2,fun _ _ _ h=>h,fun _ _ _ _=>rfl⟩
  ·replace e:look ((t,D.i (.sl es m xs))::p.sets) t'=some d:=e
   rw[zac] at e;rcases Nat.decEq t t' with h1|h1
   ·rw[if_neg h1] at e;rcases hlk t' d e with h2|h2
    ·exact .inl h2
    ·right;show look ((t,D.i (.sl es m xs))::σ') t'=some d;rw[zac,if_neg h1];exact h2
   ·rw[if_pos h1] at e;right;show look ((t,D.i (.sl es m xs))::σ') t'=some d;rw[zac,if_pos h1];exact e
theorem zyr (hT:TOk c.P c.T) {i:Nat} {o:Oper} {rest:List Oper} {x:SH} {acc:List Pl} (p:Pl) {t ty es m:Nat} {xs:List (List I)} (hs:look p.sets t=some (.osl 0 t)) (ha:p.adds=[(t,.arr ty es m xs true)])
  (h1:MDx c ops O n (fun _ ps=>ps=acc++[p]) (runD c.T ops O n [o] x acc)) (h2:GE c ops O n F (runS c.T ops O n (i+1) rest ((frPl p t ty es m xs).ap x) (acc++[frPl p t ty es m xs]))):GE c ops O n F (.old i o rest x acc):=by
 refine⟨fun _=>?_⟩;obtain⟨qs,hc,hq⟩:=zch hT _ _ _ h1;have hq:qs=[p]:=by simpa using hq
 subst hq;exact zdV (ziy hs ha hc.1) (zbc hT _ _ _ _ h2.h)
end
end Go.AI
namespace Go.AI
open Go.Proofs
set_option maxRecDepth 20000
def nxtL (es:List Edg) (p:Int→Bool) (n:Nat) (l:List Int) (obs:List Int):List Int:=obs.foldl (nxt es p n) l
end Go.AI
namespace Go.AI
open Go.Proofs
inductive FrzA (nm:Nat) (d:I):List D→List D→Prop
 |nil:FrzA nm d [] []
 |i {x:I} {l m:List D}:FrzA nm d l m→FrzA nm d (.i x::l) (.i x::m)
 |osl {l m:List D}:FrzA nm d l m→FrzA nm d (.osl 0 nm::l) (.i d::m)
def Shut (d:D):Prop:=∀K K' ρ ρ' sh sh' v,RepD K ρ sh v d→RepD K' ρ' sh' v d
theorem zeq (x:Value):Shut (.i (.v x)):=fun _ _ _ _ _ _ v h=>by
 cases h with
 |i r=>cases r with
  |v e=>exact .i (.v e)
end Go.AI
namespace Go.AI
open Go.Proofs
set_option maxRecDepth 20000
end Go.AI
namespace Go.AI
open Go.Proofs
set_option maxRecDepth 100000
end Go.AI
namespace Go.AI
open Go.Proofs
set_option maxRecDepth 20000
structure gAut (a:Aut) (n:Nat):Prop where
 st:a.states=n
 sm:smallA a
 c:chkA a=0
def okX (y:PS):Bool:=decide (y.1.length>0)
section
variable {S:Type} [DecidableEq S]
end
end Go.AI
namespace Go.AI
section
variable {S:Type} [DecidableEq S]
end
section
variable {S:Type} [DecidableEq S]
end
section
variable {S T:Type} [DecidableEq S] [DecidableEq T]
end
end Go.AI
namespace Go.AI
open Go.Proofs
set_option maxRecDepth 20000
end Go.AI
namespace Go.AI
section
variable {S:Type} [DecidableEq S]
end
def hX (y:PS):Option PS:=if okX y=true then some y else none
section
variable {S:Type} [DecidableEq S]
end
def mrk (a:Aut) (n:Nat) (i:Int):Bool:=znB a (clo a.edges (lowP [] [] false) n [i])
def swp (s x:Int):Int:=if x=0 then s else if x=s then 0 else x
structure Sm (n:Nat) (s:Int) (E A:List Int):Prop where
 rel:∀x,0≤x→x<(n:Int)→(x∈E↔swp s x∈A)
 rE:∀x∈E,0≤x∧x<(n:Int)
 rA:∀x∈A,0≤x∧x<(n:Int)
section
variable {a:Aut} {n:Nat} {s:Int} (h:gAut a n) (hn:n≤5) (hs:0≤s∧s<(n:Int))
include h hs
include hn
omit h hn
end
end Go.AI
namespace Go.AI
open Go.Proofs
section
variable {E0 E:Env} {K:Kn} {ρ:Nat→Nat→Loc} {H:Heap} {O:List Heap} {w:World}
theorem zcm {nm d n:Nat} {ob:Ob} (e:zab (zbp nm H::O) d n=some ob):∃o0,zab (H::O) d n=some o0∧¬(d=0∧n=nm)∧(∀l,zaA l ob↔zaA l o0)∧(d=0→ob=o0.kill nm)∧(d≠0→ob=o0):=by
 cases d with
 |zero=>
  simp only[zab,List.getElem?_cons_zero,zb1] at e
  split at e
  ·cases e
  ·rename_i hn
   cases hl:look H n with
   |none=>simp[hl] at e
   |some o0=>
    simp only[hl,Option.map_some,Option.some.injEq] at e;subst e;exact⟨o0,by simpa [zab] using hl,fun h=>hn h.2,fun l=>zhw _ _ _,fun _=>rfl,fun h=>absurd rfl h⟩
 |succ d=>exact⟨ob,by simpa [zab] using e,fun h=>by omega,fun _=>Iff.rfl,fun h=>by omega,fun _=>rfl⟩
theorem HInv.dropNm (nm:Nat) (h:HInv E K ρ (H::O) w):HInv E K ρ (zbp nm H::O) w:=by
 have e0:(fun d n=>ρ (0+d) n)=ρ:=by funext d n;rw[Nat.zero_add]
 refine⟨h.holds,fun d n ob e=>?_,fun d n1 o1 d' n2 o2 e1 e2 b1 b2 hbe=>?_,h.size,fun b hb hno=>h.old b hb fun d n ob e=>hno d n ob (by simpa [zab] using e),fun n ob e hb=>?_,h.outer,h.Kle,h.Knew,h.rest⟩
 ·obtain⟨o0,a1,a2,a3,a4,a5⟩:=zcm e;have hs:=h.own d n o0 a1
  cases d with
  |zero=>
   rw[a4 rfl];rw[e0,List.drop_zero] at hs;rw[e0,List.drop_zero];exact hs.kill (zjl nm) (fun _=>rfl)
  |succ d=>
   rw[a5 (by omega)];exact hs
 ·obtain⟨p1,a1,_,a3,_⟩:=zcm e1;obtain⟨p2,c1,_,c3,_⟩:=zcm e2;exact h.inj _ _ _ _ _ _ a1 c1 ((a3 _).1 b1) ((c3 _).1 b2) hbe
 ·obtain⟨p1,a1,_,a3,_⟩:=zcm e;exact h.loc _ _ a1 ((a3 _).1 hb)
def reE (E:Env) (K:Kn) (w:World) (q:Nat→Prop) (hq:∀b,q b→b<w.heap.size) (hs:E.w0.heap.size≤w.heap.size):Env:=
 { K0:=K,ρ0:=E.ρ0,w0:=w,pr:=fun b=>E.pr b∨q b,lt:=fun b hb=>by rcases hb with h|h;exact Nat.lt_of_lt_of_le (E.lt b h) hs;exact hq b h}
theorem HInv.rebase {S:List Heap} (h:HInv E K ρ S w) {q:Nat→Prop} (hq:∀b,q b→b<w.heap.size) (hfree:∀nm ob b,q b→zab S 0 nm=some ob→zaA (ρ 0 nm) ob→(ρ 0 nm).block≠b):HInv (reE E K w q hq h.size) K ρ S w:=
 ⟨h.holds,h.own,h.inj,Nat.le_refl _,fun _ _ _=>rfl,fun nm ob e hb hp=>by
  rcases hp with hp|hp
  ·exact h.loc _ _ e hb hp
  ·exact hfree nm ob _ hp e hb rfl,h.outer,Kn.le_refl _,fun _ _ _ e=>.inl e,⟨rfl,rfl,rfl⟩⟩
theorem RowOf.move {ty es:Nat} {v:Value} {xs:List (List I)} (h:RowOf E0 E O ty es v xs) (hh:HInv E K ρ (H::O) w) (hb:Base E0 E O) {q:Nat→Prop} (hq:∀b,q b→b<w.heap.size):RowOf E0 (reE E K w q hq hh.size) O ty es v xs:=by
 cases h with
 |nil=>exact .nil
 |row hn hd hp hp0 ho hc hs hcap hm hr hk hk'=>
  rename_i b n cap c;have hw:w.heap[b]? = E.w0.heap[b]?:=hh.old b hp (hh.outerNe hb ho);have hKE:∀o,K b o=E.K0 b o:=by
   intro o
   cases hk2:K b o with
   |none=>
    cases hk3:E.K0 b o with
    |none=>rfl
    |some x=>rw[hh.Kle _ _ _ hk3] at hk2;cases hk2
   |some x=>
    rcases hh.Knew b o x hk2 with h1|h1
    ·rw[h1]
    ·exact absurd hp h1
  exact .row hn hd (.inl hp) hp0 ho (by show w.heap[b]? = _;rw[hw];exact hc) hs hcap hm (hr.mono hh.Kle) (fun o ho=>by show K b o=_;rw[hKE];exact hk o ho) fun o ho=>by show K b o=_;rw[hKE];exact hk' o ho
theorem zl1 (hh:HInv E K ρ (H::O) w) (hb:Base E0 E O) {q:Nat→Prop} (hq:∀b,q b→b<w.heap.size):Base E0 (reE E K w q hq hh.size) O:=by
 refine⟨Kn.le_trans hb.K hh.Kle,hb.ρ,fun b hp=>.inl (hb.pr b hp),fun b o x e=>?_,Nat.le_trans hb.size hh.size,fun b hp ho=>?_,?_⟩
 ·rcases hh.Knew b o x e with h1|h1
  ·exact hb.new b o x h1
  ·exact .inr fun hp=>h1 (hb.pr b hp)
 ·show w.heap[b]? = _;rw[hh.old b (hb.pr b hp) (hh.outerNe hb ho)];exact hb.old b hp ho
 ·show w.tape=_∧w.os=_∧w.output=_;exact⟨hh.rest.1.trans hb.rest.1,hh.rest.2.1.trans hb.rest.2.1,hh.rest.2.2.trans hb.rest.2.2⟩
theorem zvl {ty es n nm:Nat} {xs:List (List I)} {wr:Bool} {vs:List Value} {xss:List (List (List I))} (h:HInv E K ρ (H::O) w) (ho:look H nm=some (.arr ty es n xs wr)) (hR:RowsO E0 E O ty es vs xss) (hcap:(ρ 0 nm).cap≤maxLen) :
  ∃E' K',K.le K'∧HInv E' K' ρ (zbp nm H::O) w∧RowsO E0 E' O ty es (vs++[.slice (ρ 0 nm).base n (ρ 0 nm).cap]) (xss++[xs]):=by
 obtain⟨K',hle,hF⟩:=h.freeze ho;have hown:=hF.own 0 nm (.arr ty es n xs false) (by simp[zab,zac]);have e0:(fun d n=>ρ (0+d) n)=ρ:=by funext d n;rw[Nat.zero_add]
 rw[e0] at hown;obtain⟨h1,h2,h3,h4,h5⟩:=hown;have hD:=hF.dropNm nm;have ek:zbp nm ((nm,.arr ty es n xs false)::H)=zbp nm H:=by simp[zbp]
 rw[ek] at hD;have ho':zab (H::O) 0 nm=some (.arr ty es n xs wr):=by simpa [zab] using ho
 have hlt:∀b,((ρ 0 nm).base≠none∧b=(ρ 0 nm).block)→b<w.heap.size:=by
  rintro b ⟨hb,rfl⟩;exact (h.own 0 nm _ ho').lt hb
 have hfree:∀nm' ob b,((ρ 0 nm).base≠none∧b=(ρ 0 nm).block)→zab (zbp nm H::O) 0 nm'=some ob→zaA (ρ 0 nm') ob→(ρ 0 nm').block≠b:=by
  rintro nm' ob b ⟨hb,rfl⟩ e hbk hbe;obtain⟨o0,a1,a2,a3,_⟩:=zcm e;exact a2 (h.inj _ _ _ _ _ _ a1 ho' ((a3 _).1 hbk) hb hbe)
 have hI:=hD.rebase hlt hfree;have hB:=zl1 hD hR.base hlt;have hold:=fun v xs (hr:RowOf E0 E O ty es v xs)=>hr.move hD hR.base hlt;have hblk:∀(b:Nat),(ρ 0 nm).base≠none→(ρ 0 nm).block=b→¬E.pr b:=fun b hb e hp=>h.loc nm _ ho' hb (e ▸ hp);have hrow:RowOf E0 (reE E K' w _ hlt hD.size) O ty es (.slice (ρ 0 nm).base n (ρ 0 nm).cap) xs:=by
  rcases h5 with ⟨c0,c1⟩|⟨c1,cl,h6,h7,h8,h9,h10,h11⟩
  ·have hn0:n=0:=by omega
   subst hn0;have:xs=[]:=List.eq_nil_of_length_eq_zero h2;subst this;have ev:Value.slice (ρ 0 nm).base 0 (ρ 0 nm).cap=.slice none 0 0:=by rw[c0,c1]
   rw[ev];exact .nil
  ·have ev:Value.slice (ρ 0 nm).base n (ρ 0 nm).cap=.slice (some ⟨(ρ 0 nm).block,0,none⟩) n (ρ 0 nm).cap:=by rw[c1]
   rw[ev];have hb:(ρ 0 nm).base≠none:=by rw[c1];simp
   refine .row h2 h1 (.inr ⟨hb,rfl⟩) (fun hp=>hblk _ hb rfl (hR.base.pr _ hp)) (fun dep nm' ob e hbk hbe=>?_) h6 h7 h3 h4 h8 (fun o hlo=>h11 rfl o hlo) (fun o hlo=>h10 o hlo);have e2:ρ (dep+1)=E0.ρ0 dep:=by rw[h.outer,hR.base.ρ]
   have:=h.inj (dep+1) nm' ob 0 nm _ (by simpa [zab] using e) ho' (by rw[e2];exact hbk) hb (by rw[e2];exact hbe);omega
 refine⟨_,K',hle,hI,hB,by simp[hR.len],fun j v xs' e1 e2=>?_,fun i j v v' b hij e1 e2 hb1 hb2=>?_⟩
 ·rw[List.getElem?_append] at e1 e2
  by_cases hj:j<vs.length
  ·rw[if_pos hj] at e1;rw[if_pos (by rw[←hR.len];exact hj)] at e2;exact hold _ _ (hR.row j v xs' e1 e2)
  ·rw[if_neg hj] at e1;rw[if_neg (by rw[←hR.len];exact hj)] at e2;have hj2:=(List.getElem?_eq_some_iff.1 e1).1;have hj0:j-vs.length=0:=by simpa using hj2
   rw[←hR.len] at e2;rw[hj0] at e1 e2;simp only[List.getElem?_cons_zero,Option.some.injEq] at e1 e2;subst e1;subst e2;exact hrow
 ·have hpr:∀(j:Nat) (v:Value) (b:Nat),vs[j]? = some v→v.ownBlock=some b→E.pr b:=by
   intro j v b e hb;have hjl:j<xss.length:=by rw[←hR.len];exact (List.getElem?_eq_some_iff.1 e).1
   have hr:=hR.row j v xss[j] e (List.getElem?_eq_getElem hjl);generalize xss[j]=xj at hr
   cases hr with
   |nil=>simp[Value.ownBlock] at hb
   |row hn hd hp hp0 ho hc hs hcap hm hr hk hk'=>simp only[Value.ownBlock,Option.some.injEq] at hb;subst hb;exact hp
  have hnew:∀(v:Value) (b:Nat),([Value.slice (ρ 0 nm).base n (ρ 0 nm).cap])[0]? = some v→v.ownBlock=some b→¬E.pr b:=by
   intro v b e hb;simp only[List.getElem?_cons_zero,Option.some.injEq] at e;subst e;rcases h5 with ⟨c0,c1⟩|⟨c1,_⟩
   ·rw[c1] at hb;simp[Value.ownBlock] at hb
   ·rw[c1] at hb;have hb:some (ρ 0 nm).block=some b:=by simpa [Value.ownBlock] using hb
    exact hblk b (by rw[c1];simp) (Option.some.inj hb)
  rw[List.getElem?_append] at e1 e2
  by_cases hi:i<vs.length
  ·rw[if_pos hi] at e1
   by_cases hj:j<vs.length
   ·rw[if_pos hj] at e2;exact hR.apart i j v v' b hij e1 e2 hb1 hb2
   ·rw[if_neg hj] at e2;have hj0:j-vs.length=0:=by simpa using (List.getElem?_eq_some_iff.1 e2).1
    rw[hj0] at e2;exact hnew _ _ e2 hb2 (hpr _ _ _ e1 hb1)
  ·rw[if_neg hi] at e1;have hi0:i-vs.length=0:=by simpa using (List.getElem?_eq_some_iff.1 e1).1
   rw[hi0] at e1
   by_cases hj:j<vs.length
   ·rw[if_pos hj] at e2;exact hnew _ _ e1 hb1 (hpr _ _ _ e2 hb2)
   ·rw[if_neg hj] at e2;have hj0:j-vs.length=0:=by simpa using (List.getElem?_eq_some_iff.1 e2).1
    omega
end
section
variable {c:Cx} {s:St} {k:List Item} {ops:Array Oper} {rest:List Nat} {o:Oper} {E0:Env} {H:Heap} {O:List Heap}
theorem zvm {K:Kn} {ρ:Nat→Nat→Loc} {a:Act} {w:World} {E:Env} {ty es n nm t:Nat} {xs:List (List I)} {wr:Bool} {vs:List Value} {xss:List (List (List I))} (hi:Inv E K ρ s a w) (hS:s.S=H::O) (ho:look H nm=some (.arr ty es n xs wr)) (ht:look s.σ t=some (.osl 0 nm)) (hR:RowsO E0 E O ty es vs xss) :
  ∃E' K' v,RowsO E0 E' O ty es (vs++[v]) (xss++[xs])∧Inv E' K' ρ {σ:=(t,.i (.v v))::zdS nm s.σ,S:=zbp nm H::O,n:=s.n} a w:=by
 have hh:=hi.h;rw[hS] at hh;have h0:=hh.own 0 nm _ (show zab (H::O) 0 nm=some (.arr ty es n xs wr) by simpa [zab] using ho);obtain⟨E',K',hle,hI,hR'⟩:=zvl hh ho hR h0.2.2.2.1;refine⟨E',K',_,hR',hI,hi.defers,hi.size,fun t' d e=>?_⟩;have hsl:∀t' d0,look s.σ t'=some d0→RepD K' ρ (shape (zbp nm H::O)) (a.tmps.getD t' undef) (d0.kill nm):=by
  intro t' d0 e0;have h1:=hi.slots t' d0 e0;rw[hS] at h1;have h2:RepD K' ρ (shape (H::O)) (a.tmps.getD t' undef) d0:=h1.stays ⟨hle,fun _ _ _ e=>e,fun _ _ _ _=>rfl⟩;exact RepD.kill (zjl (ρ:=ρ) (H:=H) (O:=O) nm) h2
 simp only[zac] at e
 split at e
 ·rename_i e2;subst e2;simp only[Option.some.injEq] at e;subst e;have h1:=hi.slots t _ ht;rw[hS] at h1;have:=zcO (es:=es) (len:=n) h1 (by simp[shape,zab,ho,Ob.sh]);rw[this];exact .i (.v rfl)
 ·rw[zcH] at e
  cases hl:look s.σ t' with
  |none=>simp[hl] at e
  |some d0=>
   simp only[hl,Option.map_some,Option.some.injEq] at e;subst e;exact hsl _ _ hl
theorem zye (t:Nat) {ty es j:Nat} {v:Value} {xs:List (List I)} {vs:List Value} {xss:List (List (List I))} (hR:RowsO E0 c.E O ty es vs xss) (hv:vs[j]? = some v) (hx:xss[j]? = some xs) (ht:look s.σ t=some (.i (.v v))) :
  Wk c s {σ:=(t,.i (.sl es xs.length xs))::s.σ,S:=s.S,n:=s.n}:=by
 intro K ρ a w hi;refine⟨K,ρ,hi.h,hi.defers,hi.size,fun t' d e=>?_⟩;simp only[zac] at e
 split at e
 ·rename_i e2;subst e2;simp only[Option.some.injEq] at e;subst e;have h1:=hi.slots t _ ht;rw[zaT h1];exact .i ((hR.row j v xs hv hx).rep hi.h.Kle)
 ·exact hi.slots _ _ e
end
section
variable {P:Program} {T:TT} {f:FuncId} {fn:Func} {code:Code}
end
section
variable {c:Cx} {s:St} {k:List Item} {ops:Array Oper} {rest:List Nat} {o:Oper} {g:Nat} {tab:Obj}
end
section
variable {c:Cx} {ops:Array Oper} {O:List Heap} {n:Nat} {F:SH→List Pl→Prop}
def SegF (c:Cx) (ops:Array Oper) (O:List Heap) (n:Nat) (F:SH→List Pl→Prop) (N:Nat) (r:List Oper):SH→List Pl→Prop:=fun y ac=>ac.length=N∧GD c ops O n F r y ac
theorem zwc {r:List Oper} {N:Nat}:∀{l:List Oper} {x:SH} {acc:List Pl},acc.length+l.length=N→GD c ops O n (SegF c ops O n F N r) l x acc→GD c ops O n F (l++r) x acc
 |[],x,acc,hN,⟨qs,h1,h2⟩=>by
  cases qs with
  |nil=>simpa [zbQ] using h2.2
  |cons q qs=>exact absurd h1 (by simp[zd2])
 |o::l,x,acc,hN,⟨qs,h1,h2⟩=>by
  cases qs with
  |nil=>
   have:=h2.1;simp only[List.append_nil,List.length_cons] at this hN;omega
  |cons q qs=>
   obtain⟨h3,h4⟩:=h1;have hN':(acc++[q]).length+l.length=N:=by
    have e1:(o::l).length=l.length+1:=rfl;have e2:(acc++[q]).length=acc.length+1:=by rw[List.length_append];rfl
    omega
   exact zdV h3 (zwc hN' ⟨qs,h4,by rw[List.append_assoc];exact h2⟩)
end
section
variable {c:Cx}
end
end Go.AI
namespace Go.AI
open Go.Proofs
set_option maxRecDepth 20000
end Go.AI
