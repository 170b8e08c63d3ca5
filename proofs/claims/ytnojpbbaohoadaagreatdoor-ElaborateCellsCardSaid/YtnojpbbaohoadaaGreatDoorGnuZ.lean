/- The layer of abstract runs, part 26. -/
import Derived.Test.YtnojpbbaohoadaaGreatDoorGnuY
import Derived.KernelRfl
set_option linter.unusedSimpArgs false
set_option linter.unusedVariables false
set_option linter.all false
set_option maxHeartbeats 4000000
namespace Go.AI
open Go.Proofs
set_option maxRecDepth 20000
theorem zoL {c:Cx} (hP:c.P=Tryz.prog) {s:St} {o:Oper} {t nm nm2:Nat} {dp:D} {H:Heap} {O:List Heap} (b:UInt8) (T:List UInt8) (hdp:dp=.i (.v (.pointer none))∨dp=.own 0 nm 0 0) (hlim:T.length+1≤140737488355328) (ht:o.dst=some t) (hn:t<s.n) (hS:s.S=H::O)
  (hb:look H nm=some (.tb 277 [dp,.osl 0 nm2])) (ha:look H nm2=some (obyJ T)) (hne:nm≠nm2) :
  Wp c o s 156 [.own 0 nm 0 0,.i (.v (.int .u8 b.toNat))] {σ:=(t,.i (.v .nilIface))::zhq nm2 s.σ,S:=((nm,.tb 277 [.own 0 nm 0 0,.osl 0 nm2])::(nm2,obyJ (T++[b]))::zbA nm2 ((nm,.tb 277 [.own 0 nm 0 0,.osl 0 nm2])::H))::O,n:=s.n}:=by
 have h:=ziH (c:=c) (s:=s) (o:=o) (ys:=u8l [b]) (m:=1) (T:=277) (ty:=5) (rd:=.i (.v .nilIface)) (dx:=.i (.v (.int .u8 b.toNat))) (x:=.int .u8 b.toNat) (res:=.nilIface) (xs:=u8l T) (n:=T.length) (by rw[hP];exact zve b.toNat) (by rw[hP];exact Tryz.call156)
  (fun K ρ sh v h=>zaS h) (fun K ρ sh=>.i (.v rfl)) hdp ht hn hS hb ha hne (fun K=>zlA K [b]) (zwT _) (by simp[u8l]) hlim
 rwa [show T.length+1=T.length+[b].length from rfl,zoc] at h
def zkE:List UInt8→List Int→List UInt8
 |T,[]=>T
 |T,n::r=>zkE (T++(zcN n).data.toList++[32]) r
def ziv:List UInt8→List (List Int)→List UInt8
 |T,[]=>T
 |T,l::r=>ziv (zkE T l++[59]) r
def zkY (ls:List (List Int)):ByteArray:=⟨(ziv [] ls).toArray⟩
abbrev dp3J (p:Bool):D:=bif p then .own 0 3 0 0 else .i (.v (.pointer none))
theorem zt2 (p:Bool):dp3J p=.i (.v (.pointer none))∨dp3J p=.own 0 3 0 0:=by cases p;exact .inl rfl;exact .inr rfl
theorem zzw {g:Nat} (hg:ze2 g) {ty:TypeId} {fr:Nat×Nat} (O:List Heap) (ls:List (List Int)) (h0:ls≠[]) (hn:ls.length≤4096) (hl:∀l∈ls,l.length≤4096∧∀v∈l,i64B v) :
  zbb g (ptab ty fr) Tryz.prog 81 [.i (ztk ls)] O (.i (.v (.string (zkY ls)))) [] O:=by
 have hno:zkY ls=⟨(ziv [] (ls.drop 0)).toArray⟩:=rfl;have hpos:0<ls.length:=List.length_pos_iff.2 h0;generalize zkY ls=R at *;refine zaZ [200003,200022,200023,200025,200027] Tk Tryz.func81 rfl Tryz.call81 Tryz.ntmps81 (Nat.le_of_ble_eq_true rfl) fun E hE=>?_;refine zai Tk Tryz.func81 ?_;refine g_tb Tk Tryz.func81 rfl rfl rfl rfl rfl rfl rfl rfl ?_;refine zad ?_;refine zas (zvg 3 60 5 1 rfl rfl rfl) ?_;refine zag (fun x:Nat×List UInt8×Bool=>[(3,.own 0 3 0 0),(8,.i (ztk ls)),(9,ii ls.length),(10,ii x.1)]) (fun x=>[(3,.tb 277 [dp3J x.2.2,.osl 0 60]),(60,obyJ x.2.1)]) (fun _=>O) 28
  (fun x=>x.1≤ls.length∧x.2.1.length≤100000*x.1∧(x.1=0∨x.2.1≠[])∧R=⟨(ziv x.2.1 (ls.drop x.1)).toArray⟩) (fun x=>ls.length-x.1) (0,[],false)
  ⟨Nat.zero_le _,by simp,.inl rfl,hno⟩ ⟨rfl,rfl,rfl,rfl,trivial⟩ rfl ⟨rfl,rfl,trivial⟩ rfl rfl ?_
 clear hno;rintro ⟨i,T,p⟩ ⟨hi,hTl,hT0,hno⟩ ih;simp only at hi hTl hT0 hno;refine zai Tk Tryz.func81 ?_;refine zaf Tk Tryz.func81 rfl (fun g1=>?_) (fun g1=>?_)
 ·have h2:i<ls.length:=by simpa using g1
  clear g1;have gb:(ls.map fun x=>[zdJ x])[(i:Int).toNat]? = some [zdJ ls[i]]:=zal (f:=fun x=>[zdJ x]) h2;have db:ls.drop i=ls[i]::ls.drop (i+1):=List.drop_eq_getElem_cons h2;have hll:=hl _ (List.getElem_mem h2);rw[db] at hno;simp only[ziv] at hno;clear db;generalize ls[i]=l at *;have hi1:ii (IntKind.i64.wrap ((i:Int)+1))=ii ((i+1:Nat):Int):=congrArg ii (zav (n:=4096) (by omega) (by decide));refine zah Tk Tryz.func81 (by exact⟨by omega,by show (i:Int)<(ls.length:Int);omega⟩) ?_;refine zaq Tk Tryz.func81 (gb) ?_;have hF0:zkE T l=zkE T (l.drop 0):=rfl;generalize zkE T l=F at *;refine zad ?_;refine zag (fun x:Nat×List UInt8×Bool=>[(3,.own 0 3 0 0),(8,.i (ztk ls)),(9,ii ls.length),(10,ii i),(14,ints l),(15,ii l.length),(16,ii x.1)]) (fun x=>[(3,.tb 277 [dp3J x.2.2,.osl 0 60]),(60,obyJ x.2.1)]) (fun _=>O) 28
   (fun x=>x.1≤l.length∧x.2.1.length≤T.length+22*x.1∧F=zkE x.2.1 (l.drop x.1)) (fun x=>l.length-x.1) (0,T,p)
   ⟨Nat.zero_le _,by simp,hF0⟩ ⟨rfl,rfl,rfl,rfl,rfl,rfl,rfl,trivial⟩ rfl ⟨rfl,rfl,trivial⟩ (by cases p<;>rfl) rfl ?_
  clear hF0;rintro ⟨k,U,q⟩ ⟨hk,hUl,hF⟩ ih2;simp only at hk hUl hF;refine zai Tk Tryz.func81 ?_;refine zaf Tk Tryz.func81 rfl (fun g2=>?_) (fun g2=>?_)
  ·have h3:k<l.length:=by simpa using g2
   clear g2;have gl:(l.map fun x=>[vi x])[(k:Int).toNat]? = some [vi l[k]]:=zal (f:=fun x=>[vi x]) h3;have dl:l.drop k=l[k]::l.drop (k+1):=List.drop_eq_getElem_cons h3;have hv:=hll.2 _ (List.getElem_mem h3);rw[dl] at hF;simp only[zkE] at hF;clear dl;generalize l[k]=n at *;have hz:=zcH hv.1 hv.2;have hk1:ii (IntKind.i64.wrap ((k:Int)+1))=ii ((k+1:Nat):Int):=congrArg ii (zav (n:=4096) (by omega) (by decide));refine zah Tk Tryz.func81 (by exact⟨by omega,by show (k:Int)<(l.length:Int);omega⟩) ?_;refine zaq Tk Tryz.func81 (gl) ?_;refine zba Tk Tryz.func81 hE (zkF hg _ n hv.1 hv.2) rfl rfl rfl rfl rfl rfl ?_;generalize zcN n=W at *;refine zb1 Tk Tryz.func81 rfl rfl rfl rfl (zwA rfl W U (zt2 q) (by omega) rfl (show 22<28 by decide) rfl rfl rfl (by decide)) ?_
   refine zb1 Tk Tryz.func81 rfl rfl rfl rfl (zoL rfl 32 (U++W.data.toList) (.inr rfl) (by rw[List.length_append,zfK];omega) rfl (show 23<28 by decide) rfl rfl rfl (by decide)) ?_;refine zad ?_;refine ih2 (k+1,U++W.data.toList++[32],true) _ _ ⟨h3,by simp only[List.length_append,zfK,List.length_singleton];omega,hF⟩ (by simp only;omega) ⟨rfl,rfl,rfl,rfl,rfl,rfl,hk1,trivial⟩ rfl ⟨rfl,rfl,trivial⟩ rfl rfl
  ·have h3:l.length≤k:=by simpa using g2
   rw[List.drop_eq_nil_of_le h3] at hF;simp only[zkE] at hF;subst hF;refine zb1 Tk Tryz.func81 rfl rfl rfl rfl (zoL rfl 59 F (zt2 q) (by omega) rfl (show 25<28 by decide) rfl rfl rfl (by decide)) ?_;refine zad ?_;refine ih (i+1,F++[59],true) _ _ ⟨h2,by simp only[List.length_append,List.length_singleton];omega,.inr (by simp),hno⟩ (by simp only;omega) ⟨rfl,rfl,rfl,hi1,trivial⟩ rfl ⟨rfl,rfl,trivial⟩ rfl rfl
 ·have h2:ls.length≤i:=by simpa using g1
  rw[List.drop_eq_nil_of_le h2] at hno;simp only[ziv] at hno;subst hno;have hT0:T≠[]:=hT0.resolve_left (by omega);refine zb1 Tk Tryz.func81 rfl rfl rfl rfl (zwB rfl hT0 rfl (show 27<28 by decide) rfl rfl rfl) ?_;refine zaj Tk (r:=.i (.v (.string ⟨T.toArray⟩))) rfl rfl rfl trivial rfl rfl ?_;rfl
def zhw (x:Int):List Int→Nat→Int
 |[],_=>-1
 |y::r,i=>if x=y then i else zhw x r (i+1)
theorem zkO (x:Int):∀(l:List Int) (i:Nat),zhw x l i≥0↔x∈l
 |[],_=>by simp[zhw]
 |y::r,i=>by
  simp only[zhw]
  by_cases h:x=y
  ·simp only[if_pos h,h];simp
  ·simp only[if_neg h];rw[zkO x r (i+1)];simp[h]
theorem ztu (x:Int) (l:List Int) (i:Nat):decide (zhw x l i≥0)=decide (x∈l):=decide_eq_decide.2 (zkO x l i)
theorem ztt (O:List Heap) (l:List Int) (x:Int) (hl:l.length≤zap):zan Tryz.prog 152 [ints l,ii x] O (ii (zhw x l 0)) [] O:=by
 generalize hR:zhw x l 0=R;refine zaa Tk Tryz.func152 rfl Tryz.call152 Tryz.ntmps152 (Nat.le_of_ble_eq_true rfl) fun E=>?_;refine zai Tk Tryz.func152 ?_;refine zad ?_;refine zag (fun i:Nat=>[(0,ints l),(1,ii x),(7,ii l.length),(8,ii i)]) (fun _=>[]) (fun _=>O) 19
  (fun i=>i≤l.length∧zhw x (l.drop i) i=R) (fun i=>l.length-i) 0 ⟨Nat.zero_le _,hR⟩ ⟨rfl,rfl,rfl,rfl,trivial⟩ rfl trivial rfl rfl ?_
 rintro i ⟨hi,hno⟩ ih;clear hR;refine zai Tk Tryz.func152 ?_;refine zaf Tk Tryz.func152 rfl (fun g1=>?_) (fun g1=>?_)
 ·have h1:i<l.length:=by simpa using g1
  have gl:(l.map fun x=>[vi x])[(i:Int).toNat]? = some [vi l[i]]:=zal (f:=fun x=>[vi x]) h1;have dl:l.drop i=l[i]::l.drop (i+1):=List.drop_eq_getElem_cons h1;rw[dl] at hno;simp only[zhw] at hno;clear dl;generalize l[i]=y at *;refine zah Tk Tryz.func152 (by exact⟨by omega,by show (i:Int)<(l.length:Int);omega⟩) ?_;refine zaq Tk Tryz.func152 (gl) ?_;refine zaf Tk Tryz.func152 rfl (fun g2=>?_) (fun g2=>?_)
  ·have g2:x=y:=beqT g2;rw[if_pos g2] at hno;subst hno;refine zaj Tk (r:=ii (i:Int)) rfl rfl rfl trivial rfl rfl ?_;rfl
  ·have g2:x≠y:=beqF g2;rw[if_neg g2] at hno;refine zad ?_;exact ih (i+1) _ _ ⟨h1,hno⟩ (by omega) ⟨rfl,rfl,rfl,congrArg ii (zav h1 hl),trivial⟩ rfl trivial rfl rfl
 ·have h1:l.length≤i:=by simpa using g1
  rw[List.drop_eq_nil_of_le h1] at hno;simp only[zhw] at hno;subst hno;refine zaj Tk (r:=ii (-1)) rfl rfl rfl trivial rfl rfl ?_;rfl
theorem zlc (O:List Heap) (l:List Int) (x:Int) (hl:l.length≤zap):zan Tryz.prog 75 [ints l,ii x] O (bb (decide (x∈l))) [] O:=by
 rw[←ztu x l 0];have h:=fun O=>ztt O l x hl;refine zaa Tk Tryz.func75 rfl Tryz.call75 Tryz.ntmps75 (Nat.le_of_ble_eq_true rfl) fun E=>?_;refine zai Tk Tryz.func75 ?_;refine zak Tk Tryz.func75 (h _) rfl rfl rfl rfl rfl ?_;refine zaj Tk (r:=bb (decide (zhw x l 0≥0))) rfl rfl rfl trivial rfl rfl ?_;rfl
theorem zoP (O:List Heap) (l:List Int) (hl:l.length*8≤big):zan Tryz.prog 86 [ints l] O (ints l) [] O:=by
 refine zaa Tk Tryz.func86 rfl Tryz.call86 Tryz.ntmps86 (Nat.le_of_ble_eq_true rfl) fun E=>?_;refine zai Tk Tryz.func86 ?_;refine zoy Tk Tryz.func86 rfl rfl fun b hb=>?_;refine zaf Tk Tryz.func86 rfl (fun h1=>?_) (fun h1=>?_)
 ·have hl0:l=[]:=List.eq_nil_of_length_eq_zero (hb h1);subst hl0;refine zaD Tk (r:=.i (.v (.slice none 0 0))) rfl rfl rfl trivial rfl rfl ?_;exact zcy zbd
 ·refine zah Tk Tryz.func86 (by exact⟨by show (0+l.length)*8≤140737488355328;simp only[big] at hl;omega,by show 0+l.length≤9223372036854775807;simp only[big] at hl;omega⟩) ?_;refine za3 (zc9 (l:=[(2,.osl 0 7)]) (Hv:=[(7,.arr 3 1 (0+l.length) ([]++l.map fun x=>[vi x]) true)]) ⟨rfl,trivial⟩ rfl ⟨rfl,trivial⟩ rfl rfl) ?_;rw[Nat.zero_add,List.nil_append];refine za3 (zao 7 rfl rfl) ?_;refine zaj Tk (r:=ints l) rfl rfl rfl trivial rfl rfl ?_;rfl
def fkey (s:Sta):ByteArray:=zkY [[s.loc],s.vals]
structure keyOkJ (s:Sta):Prop where
 loc:i64B s.loc
 len:s.vals.length≤4096
 vals:∀v∈s.vals,i64B v
theorem zfS {g:Nat} (hg:ze2 g) {ty:TypeId} {fr:Nat×Nat} (O:List Heap) (s:Sta) (hs:keyOkJ s):zbb g (ptab ty fr) Tryz.prog 80 [staD s] O (.i (.v (.string (fkey s)))) [] O:=by
 have hk:=fun O=>zzw hg (ty:=ty) (fr:=fr) O [[s.loc],s.vals] (by simp) (by simp) (by
  intro l hl;simp only[List.mem_cons,List.mem_nil_iff,or_false] at hl;rcases hl with rfl|rfl
  ·exact⟨by simp,fun v hv=>by simp only[List.mem_singleton] at hv;subst hv;exact hs.loc⟩
  ·exact⟨hs.len,hs.vals⟩)
 unfold fkey;generalize zkY [[s.loc],s.vals]=K at *;obtain⟨l,v⟩:=s;refine zaZ [] Tk Tryz.func80 rfl Tryz.call80 Tryz.ntmps80 (Nat.le_of_ble_eq_true rfl) fun E hE=>?_;refine zai Tk Tryz.func80 ?_;refine zba Tk Tryz.func80 hE (hk _) rfl rfl rfl rfl rfl rfl ?_;refine zaj Tk (r:=.i (.v (.string K))) rfl rfl rfl trivial rfl rfl ?_;rfl
theorem zqS (O:List Heap) (m:Ext) (s:Sta) (ev:Int) (d nm:Nat) (ho:zab O d nm=some (.box (extC m))) (hok:extOk m):zan Tryz.prog 82 [staD s,ii ev,.own d nm 0 0] O (.tup [staD (stpR m s ev).1,bb (stpR m s ev).2.1,ii (stpR m s ev).2.2]) [] O:=by
 have h:=fun O=>zy6 O m s ev hok;generalize stpR m s ev=R at *;obtain⟨⟨a,b⟩,p,e⟩:=R;obtain⟨l,v⟩:=s;refine zaa Tk Tryz.func82 rfl Tryz.call82 Tryz.ntmps82 (Nat.le_of_ble_eq_true rfl) fun E=>?_;refine zai Tk Tryz.func82 ?_;refine zbm Tk Tryz.func82 (zaz ho) ?_;refine zak Tk Tryz.func82 (h _) rfl rfl rfl rfl rfl ?_;refine zaj Tk (r:=.tup [staD ⟨a,b⟩,bb p,ii e]) rfl rfl rfl trivial rfl rfl ?_;rfl
theorem zqT (O:List Heap) (m:Ext) (s:Sta) (d nm:Nat) (ho:zab O d nm=some (.box (extC m))) (hok:extOk m):zan Tryz.prog 84 [staD s,.own d nm 0 0] O (bb (decide (s.loc∈m.marked))) [] O:=by
 have h:=fun O=>zlc O m.marked s.loc hok.ma;obtain⟨l,v⟩:=s;refine zaa Tk Tryz.func84 rfl Tryz.call84 Tryz.ntmps84 (Nat.le_of_ble_eq_true rfl) fun E=>?_;refine zai Tk Tryz.func84 ?_;refine zbm Tk Tryz.func84 (zaz ho) ?_;refine zak Tk Tryz.func84 (h _) rfl rfl rfl rfl rfl ?_;refine zaj Tk (r:=bb (decide (l∈m.marked))) rfl rfl rfl trivial rfl rfl ?_;rfl
abbrev zkn (l:List Edg):Ob:=.arr 129 3 l.length (l.map edgI) true
theorem zqK (l:List Edg) (e:Edg):Ob.arr 129 3 (l.length+1) (l.map edgI++[edgI e]) true=zkn (l++[e]):=by simp
theorem zqG (l:List Sta) (s:Sta):Ob.arr 68 2 (l.length+1) (l.map staI++[staI s]) true=zsJ (l++[s]):=by simp
abbrev keq (a b:Sta):Bool:=fkey a==fkey b
def unfX (m:Ext) (alpha:List Int) (first:Sta):Except Int (Unf Sta):=unfR keq true (stpR m) (fun s=>decide (s.loc∈m.marked)) alpha first
def kidx:List Sta→Nat→List (Value×Int)
 |[],_=>[]
 |s::r,i=>(.string (fkey s),(i:Int))::kidx r (i+1)
theorem zkC (b:ByteArray):∀(l:List Sta) (i:Nat),zd1 (kidx l i) (.string b)=if l.findIdx (fun t=>b==fkey t)<l.length then some (((i+l.findIdx fun t=>b==fkey t:Nat):Int)) else none
 |[],i=>by simp[kidx,zd1]
 |s::r,i=>by
  simp only[kidx,zd1,keyB,List.findIdx_cons]
  cases h:b==fkey s with
  |true=>simp
  |false=>
   simp only[cond_false];rw[zkC b r (i+1)];have e:i+1+r.findIdx (fun t=>b==fkey t)=i+(r.findIdx (fun t=>b==fkey t)+1):=by omega
   simp only[e,List.length_cons,Nat.add_lt_add_iff_right]
theorem zoo {s:Sta}:∀(l:List Sta) (i:Nat),¬l.findIdx (keq s)<l.length→mset (kidx l i) (.string (fkey s)) ((i+l.length:Nat):Int)=kidx (l++[s]) i
 |[],i,_=>by simp[kidx,mset]
 |t::r,i,h=>by
  rw[List.findIdx_cons] at h
  cases hk:keq s t with
  |true=>rw[hk] at h;simp at h
  |false=>
   rw[hk] at h;simp only[cond_false,List.length_cons,Nat.add_lt_add_iff_right] at h;have hk':(fkey s==fkey t)=false:=hk;simp only[List.cons_append,kidx,mset,keyB,hk',cond_false];have e:i+(t::r).length=(i+1)+r.length:=by simp only[List.length_cons];omega
   rw[e,zoo r (i+1) h]
theorem zxB {m:Ext} {s:Sta} {ev:Int} (hr:extRight m) (h:okS m s) (hp:(stpR m s ev).2.1=true):okS m (stpR m s ev).1:=by
 unfold stpR at hp ⊢
 split at hp
 ·cases hp
 rename_i h1;rw[if_neg h1]
 split at hp
 ·cases hp
 rename_i h2;rw[if_neg h2];exact zxC hr h hp
theorem zsR {m:Ext} {s:Sta} (hr:extRight m) (h:okS m s):keyOkJ s:=by
 have:=zqJ hr h;exact⟨this.1,by omega,this.2.1⟩
theorem zlz {σ:Type} {eq:σ→σ→Bool} {lim:Bool} {step:σ→Int→σ×Bool×Int} {mkd:σ→Bool} {alpha:List Int} {U:Unf σ} {i:Nat} (h:U.sts.length≤i):∀k,ze7 eq lim step mkd alpha k i U=.ok U
 |0=>rfl
 |k+1=>by simp only[ze7,List.getElem?_eq_none h]
structure UGood (m:Ext) (U:Unf Sta):Prop where
 len:U.sts.length≤4096
 ok:∀s∈U.sts,okS m s
abbrev fnS (d nm:Nat):D:=.fn (.func 82) [] [.own d nm 0 0]
abbrev fnM (d nm:Nat):D:=.fn (.func 84) [] [.own d nm 0 0]
def unfD (alpha:List Int):Except Int (Unf Sta)→D
 |.error e=>.tup [autD ⟨[],0,[],[]⟩,zgm [],ii e]
 |.ok U=>.tup [autD ⟨alpha,U.sts.length,U.mkl,U.eds⟩,zgm U.sts,ii 0]
theorem zyR {e:Int}:CoD (.tup [.agg [.i (.v (.slice none 0 0)),ii 0,.i (.v (.slice none 0 0)),.i (.v (.slice none 0 0))],.i (.v (.slice none 0 0)),ii e]) (unfD [] (.error e)):=
 zbT (.cons (zbB (.cons (zcy zbd) (.cons (CoD.refl _) (.cons (zcy zbd) (.cons (zcy zbd) .nil))))) (.cons (zcy zbd) (CoDL.refl _)))
theorem zr6 {g:Nat} (hg:ze2 g) {ty:TypeId} {fr:Nat×Nat} (O:List Heap) (m:Ext) (alpha:List Int) (first:Sta) (d nm:Nat) (ho:zab O d nm=some (.box (extC m))) (hok:extOk m) (hr:extRight m) (ha:alpha.length≤4096) (hf:okS m first) :
  zbb g (ptab ty fr) Tryz.prog 85 [ints alpha,staD first,.fn (.func 80) [] [],fnS d nm,fnM d nm] O (unfD alpha (unfX m alpha first)) [] O:=by
 have hO:∀H,zab (H::O) (d+1) nm=some (.box (extC m)):=fun H=>zaz ho;have hno:unfX m alpha first=ze7 keq true (stpR m) (fun s=>decide (s.loc∈m.marked)) alpha (4097-0) 0 (unf0 first):=rfl
 generalize unfX m alpha first=R at *
 have hkf:=zsR hr hf;refine zaZ [9,23] Tk Tryz.func85 rfl Tryz.call85 Tryz.ntmps85 (Nat.le_of_ble_eq_true rfl) fun E hE=>?_;refine zai Tk Tryz.func85 ?_;refine zba Tk Tryz.func85 hE (zfS hg _ first hkf) rfl rfl rfl rfl rfl rfl ?_;refine zad ?_;refine zas (zwS 25 95 rfl rfl rfl) ?_;refine zas (zaE 10 47 3 1 (pre:=[ints alpha,ii 0]) (post:=[.i (.v (.slice none 0 0))]) rfl rfl rfl) ?_;refine zas (zaE 10 103 129 3 (pre:=[ints alpha,ii 0,.osl 0 47]) (post:=[]) rfl rfl rfl) ?_;refine zag (fun x:Nat×Unf Sta=>[(0,ints alpha),(2,.fn (.func 80) [] []),(3,fnS (d+1) nm),(4,fnM (d+1) nm),(10,.own 0 10 0 0),(11,.osl 0 95),(13,.osl 0 26),(14,ii x.1)])
  (fun x=>[(10,.box [ints alpha,ii 0,.osl 0 47,.osl 0 103]),(95,zsJ x.2.sts),(47,zb5 x.2.mkl),(103,zkn x.2.eds),(26,.mp .str (.i .i64 (kidx x.2.sts 0)))]) (fun _=>O) 111
  (fun x=>x.1≤x.2.sts.length∧UGood m x.2∧x.2.mkl.length≤x.1∧x.2.eds.length≤4096*x.1∧R=ze7 keq true (stpR m) (fun s=>decide (s.loc∈m.marked)) alpha (4097-x.1) x.1 x.2) (fun x=>4097-x.1) (0,unf0 first)
  ⟨Nat.zero_le _,⟨by simp[unf0],fun s hs=>by rw[unf0,List.mem_singleton] at hs;subst hs;exact hf⟩,Nat.le_refl _,Nat.le_refl _,hno⟩ ⟨rfl,rfl,rfl,rfl,rfl,rfl,rfl,rfl,trivial⟩ rfl ⟨rfl,rfl,rfl,rfl,rfl,trivial⟩ rfl rfl ?_
 clear hno;rintro ⟨i,U⟩ ⟨hi,hgd,hml,hel,hno⟩ ih;simp only at hi hgd hml hel hno;refine zai Tk Tryz.func85 ?_;refine zaf Tk Tryz.func85 rfl (fun g1=>?_) (fun g1=>?_)
 ·have h1:i<U.sts.length:=by simpa using g1
  clear g1;have hle:=hgd.len;have hsi:U.sts[i]? = some U.sts[i]:=List.getElem?_eq_getElem h1;have gs:(U.sts.map staI)[(i:Int).toNat]? = some (staI U.sts[i]):=zal h1;have hoks:=hgd.ok _ (List.getElem_mem h1);generalize U.sts[i]=s at *;have hno:R=match zbo keq true (stpR m) i s alpha (ze6 (fun s=>decide (s.loc∈m.marked)) i s U) with
    |.error e=>.error e
    |.ok U'=>ze7 keq true (stpR m) (fun s=>decide (s.loc∈m.marked)) alpha (4097-(i+1)) (i+1) U':=by
   rw[hno,show 4097-i=(4097-(i+1))+1 by omega];simp only[ze7,hsi]
   cases zbo keq true (stpR m) i s alpha (ze6 (fun s=>decide (s.loc∈m.marked)) i s U)<;>rfl
  have hmk:=fun H=>zqT (H::O) m s (d+1) nm (hO H) hok;obtain⟨m1,m2⟩:=zgQ (fun s:Sta=>decide (s.loc∈m.marked)) i s U;have hm3:(ze6 (fun s:Sta=>decide (s.loc∈m.marked)) i s U).mkl=if s.loc∈m.marked then U.mkl++[(i:Int)] else U.mkl:=by
   unfold ze6
   by_cases h:s.loc∈m.marked<;>simp[h]
  generalize ze6 (fun s:Sta=>decide (s.loc∈m.marked)) i s U=U1 at *;obtain⟨sts,mkl,eds⟩:=U;obtain⟨sts1,mkl1,eds1⟩:=U1;simp only at *;subst m1 m2;obtain⟨sl,sv⟩:=s;simp only at *;refine zah Tk Tryz.func85 (by exact⟨by omega,by show (i:Int)<(sts1.length:Int);omega⟩) ?_;refine zaq Tk Tryz.func85 (gs) ?_;refine zak Tk Tryz.func85 (hmk _) rfl rfl rfl rfl rfl ?_
  apply zb7 (P:=True) (s6:={ σ:=[(0,ints alpha),(2,.fn (.func 80) [] []),(3,fnS (d+1) nm),(4,fnM (d+1) nm),(10,.own 0 10 0 0),(11,.osl 0 95),(13,.osl 0 26),(14,ii i)],S:=[(10,.box [ints alpha,ii 0,.osl 0 47,.osl 0 103]),(95,zsJ sts1),(47,zb5 mkl1),(103,zkn eds1),(26,.mp .str (.i .i64 (kidx sts1 0)))]::O,n:=111})
  ·intro J;refine zaf Tk Tryz.func85 rfl (fun c1=>?_) (fun c1=>?_)
   ·have c1:sl∈m.marked:=of_decide_eq_true c1;rw[if_pos c1] at hm3;subst hm3;refine zah Tk Tryz.func85 (by exact⟨by show (mkl.length+1)*8≤140737488355328;omega,by show mkl.length+1≤9223372036854775807;omega⟩) ?_;refine zaB ?_;refine zaK (J trivial) ⟨rfl,rfl,rfl,rfl,rfl,rfl,rfl,rfl,trivial⟩ rfl ⟨rfl,rfl,congrArg some (zcs mkl (i:Int)),rfl,rfl,trivial⟩ rfl rfl
   ·have c1:sl ∉ m.marked:=of_decide_eq_false c1;rw[if_neg c1] at hm3;subst hm3;refine zaB ?_;refine zaK (J trivial) ⟨rfl,rfl,rfl,rfl,rfl,rfl,rfl,rfl,trivial⟩ rfl ⟨rfl,rfl,rfl,rfl,rfl,trivial⟩ rfl rfl
  intro _;have hml1:mkl1.length≤i+1:=by rw[hm3];split;(rw[List.length_append,List.length_singleton];omega);omega
  clear hm3 hml hmk gs;have hV0:zbo keq true (stpR m) i ⟨sl,sv⟩ alpha ⟨sts1,mkl1,eds1⟩=zbo keq true (stpR m) i ⟨sl,sv⟩ (alpha.drop 0) ⟨sts1,mkl1,eds1⟩:=rfl;generalize zbo keq true (stpR m) i ⟨sl,sv⟩ alpha ⟨sts1,mkl1,eds1⟩=V at *;refine zai Tk Tryz.func85 ?_;refine g_go Tk Tryz.func85 ?_;refine zad ?_;refine zag (fun x:Nat×Unf Sta=>[(0,ints alpha),(2,.fn (.func 80) [] []),(3,fnS (d+1) nm),(4,fnM (d+1) nm),(10,.own 0 10 0 0),(11,.osl 0 95),(13,.osl 0 26),(14,ii i),(49,ints alpha),(50,ii alpha.length),(51,ii x.1)])
   (fun x=>[(10,.box [ints alpha,ii 0,.osl 0 47,.osl 0 103]),(95,zsJ x.2.sts),(47,zb5 x.2.mkl),(103,zkn x.2.eds),(26,.mp .str (.i .i64 (kidx x.2.sts 0)))]) (fun _=>O) 111
   (fun x=>x.1≤alpha.length∧UGood m x.2∧i<x.2.sts.length∧x.2.mkl.length≤i+1∧x.2.eds.length≤4096*i+x.1∧x.2.sts[i]? = some ⟨sl,sv⟩∧V=zbo keq true (stpR m) i ⟨sl,sv⟩ (alpha.drop x.1) x.2) (fun x=>alpha.length-x.1) (0,⟨sts1,mkl1,eds1⟩)
   ⟨Nat.zero_le _,⟨hgd.len,hgd.ok⟩,h1,hml1,hel,hsi,hV0⟩ ⟨rfl,rfl,rfl,rfl,rfl,rfl,rfl,rfl,rfl,rfl,rfl,trivial⟩ rfl ⟨rfl,rfl,rfl,rfl,rfl,trivial⟩ rfl rfl ?_
  clear hV0 hsi hml1 hel hgd hle;rintro ⟨j,⟨sts,mk,eds⟩⟩ ⟨hj,hgd,hil,hml,hel,hsi,hV⟩ ih2;simp only at hj hgd hil hml hel hsi hV;have hle:sts.length≤4096:=hgd.len;refine zai Tk Tryz.func85 ?_;refine zaf Tk Tryz.func85 rfl (fun g2=>?_) (fun g2=>?_)
  ·have h3:j<alpha.length:=by simpa using g2
   clear g2;have ga:(alpha.map fun x=>[vi x])[(j:Int).toNat]? = some [vi alpha[j]]:=zal (f:=fun x=>[vi x]) h3;have da:alpha.drop j=alpha[j]::alpha.drop (j+1):=List.drop_eq_getElem_cons h3;rw[da] at hV;simp only[zbo] at hV;clear da;generalize alpha[j]=ev at *;have gs:(sts.map staI)[(i:Int).toNat]? = some (staI ⟨sl,sv⟩):=by simp[hsi]
   have hst:=fun H=>zqS (H::O) m ⟨sl,sv⟩ ev (d+1) nm (hO H) hok;have hokn:=@zxB m ⟨sl,sv⟩ ev hr hoks;have hj1:ii (IntKind.i64.wrap ((j:Int)+1))=ii ((j+1:Nat):Int):=congrArg ii (zav (n:=4096) (by omega) (by decide));unfold zdL at hV;generalize stpR m ⟨sl,sv⟩ ev=N at *;obtain⟨⟨nl,nv⟩,np,ne⟩:=N;simp only at hV hst hokn;refine zah Tk Tryz.func85 (by exact⟨by omega,by show (j:Int)<(alpha.length:Int);omega⟩) ?_;refine zaq Tk Tryz.func85 (ga) ?_;refine zah Tk Tryz.func85 (by exact⟨by omega,by show (i:Int)<(sts.length:Int);omega⟩) ?_;refine zaq Tk Tryz.func85 (gs) ?_;refine zak Tk Tryz.func85 (hst _) rfl rfl rfl rfl rfl ?_;refine zaf Tk Tryz.func85 rfl (fun c1=>?_) (fun c1=>?_)
   ·have c1:ne≠0:=bneT c1;rw[if_pos c1] at hV;subst hV;simp only at hno;subst hno;refine zaD Tk (r:=_) rfl rfl rfl trivial rfl rfl ?_;exact zyR
   have c1:ne=0:=bneF c1;rw[if_neg (by simpa using c1)] at hV;refine zaf Tk Tryz.func85 rfl (fun c2=>?_) (fun c2=>?_)
   ·have c2:np=false:=notT c2;rw[if_pos c2] at hV;refine zad ?_;exact ih2 (j+1,⟨sts,mk,eds⟩) _ _ ⟨h3,hgd,hil,hml,by simp only;omega,hsi,hV⟩ (by simp only;omega) ⟨rfl,rfl,rfl,rfl,rfl,rfl,rfl,rfl,rfl,rfl,hj1,trivial⟩ rfl ⟨rfl,rfl,rfl,rfl,rfl,trivial⟩ rfl rfl
   have c2:np=true:=notF c2;rw[if_neg (by rw[c2];simp)] at hV;have hon:=hokn c2;have hkn:=zsR hr hon;have hlk:=zkC (fkey ⟨nl,nv⟩) sts 0;have hks:=@zoo ⟨nl,nv⟩ sts 0;rw[Nat.zero_add] at hks;rw[Nat.zero_add] at hlk;have hix:sts.findIdx (keq ⟨nl,nv⟩)≤sts.length:=findIdx_le;have hlk:zd1 (kidx sts 0) (.string (fkey ⟨nl,nv⟩))=if sts.findIdx (keq ⟨nl,nv⟩)<sts.length then some ((sts.findIdx (keq ⟨nl,nv⟩):Nat):Int) else none:=hlk
   generalize sts.findIdx (keq ⟨nl,nv⟩)=t at *;refine zba Tk Tryz.func85 hE (zfS hg _ ⟨nl,nv⟩ hkn) rfl rfl rfl rfl rfl rfl ?_;generalize hst2:(if t<sts.length then sts else sts++[(⟨nl,nv⟩:Sta)])=sts2
   apply zb7 (P:=t<sts.length∨sts.length≠4096) (s6:={ σ:=[(0,ints alpha),(2,.fn (.func 80) [] []),(3,fnS (d+1) nm),(4,fnM (d+1) nm),(10,.own 0 10 0 0),(11,.osl 0 95),(13,.osl 0 26),(14,ii i),(16,ii ev),(20,ii t),(49,ints alpha),(50,ii alpha.length),(51,ii j)],S:=[(10,.box [ints alpha,ii 0,.osl 0 47,.osl 0 103]),(95,zsJ sts2),(47,zb5 mk),(103,zkn eds),(26,.mp .str (.i .i64 (kidx sts2 0)))]::O,n:=111})
   ·intro J;refine zaf Tk Tryz.func85 rfl (fun c3=>?_) (fun c3=>?_)
    ·have c3:mhas (kidx sts 0) (.string (fkey ⟨nl,nv⟩))=false:=notT c3;have hlt:¬t<sts.length:=fun h=>by
      unfold mhas at c3;rw[hlk,if_pos h] at c3
      cases c3
     have hte:t=sts.length:=by omega
     rw[if_neg hlt] at hst2 hV;have hks:=hks hlt;refine zaf Tk Tryz.func85 rfl (fun c4=>?_) (fun c4=>?_)
     ·have c4:((sts.length:Nat):Int)=4096:=beqT c4;have c4:sts.length=4096:=by omega
      rw[if_pos ⟨trivial,c4⟩] at hV;subst hV;simp only at hno;subst hno;refine zaD Tk (r:=_) rfl rfl rfl trivial rfl rfl ?_;exact zyR
     have c4:((sts.length:Nat):Int)≠4096:=beqF c4;have c4:sts.length≠4096:=by omega
     refine zba Tk Tryz.func85 hE (zfS hg _ ⟨nl,nv⟩ hkn) rfl rfl rfl rfl rfl rfl ?_;refine zah Tk Tryz.func85 (by exact⟨by show (sts.length+1)*32≤140737488355328;omega,by show sts.length+1≤9223372036854775807;omega⟩) ?_;subst hst2;refine zaB ?_;refine zaK (J (.inr c4)) ⟨rfl,rfl,rfl,rfl,rfl,rfl,rfl,rfl,rfl,by rw[hte];rfl,rfl,rfl,rfl,trivial⟩ rfl ⟨rfl,congrArg some (zqG sts (⟨nl,nv⟩:Sta)),rfl,rfl,congrArg (fun l=>some (Ob.mp .str (.i .i64 l))) hks,trivial⟩ rfl rfl
    ·have c3:mhas (kidx sts 0) (.string (fkey ⟨nl,nv⟩))=true:=notF c3;have hlt:t<sts.length:=Classical.byContradiction fun h=>by
      unfold mhas at c3;rw[hlk,if_neg h] at c3
      cases c3
     rw[if_pos hlt] at hst2 hlk;subst hst2;refine zaB ?_;refine zaK (J (.inl hlt)) ⟨rfl,rfl,rfl,rfl,rfl,rfl,rfl,rfl,rfl,by show ii (zqO (kidx sts 0) (.string (fkey ⟨nl,nv⟩)))=_;unfold zqO;rw[hlk];rfl,rfl,rfl,rfl,trivial⟩ rfl ⟨rfl,rfl,rfl,rfl,rfl,trivial⟩ rfl rfl
   ·intro hP;have hV:V=zbo keq true (stpR m) i ⟨sl,sv⟩ (alpha.drop (j+1)) ⟨sts2,mk,eds++[((i:Int),ev,(t:Int))]⟩:=by
     rw[hV]
     by_cases hlt:t<sts.length
     ·rw[if_pos hlt] at hst2 ⊢;subst hst2;rfl
     ·rw[if_neg hlt] at hst2 ⊢;rw[if_neg (by rintro ⟨_,h⟩;rcases hP with h'|h';exact hlt h';exact h' h)];subst hst2;rfl
    have hg2:UGood m ⟨sts2,mk,eds++[((i:Int),ev,(t:Int))]⟩:=by
     by_cases hlt:t<sts.length
     ·rw[if_pos hlt] at hst2;subst hst2;exact⟨hgd.len,hgd.ok⟩
     ·rw[if_neg hlt] at hst2;subst hst2;refine⟨?_,fun x hx=>?_⟩
      ·show (sts++[(⟨nl,nv⟩:Sta)]).length≤4096;rw[List.length_append,List.length_singleton];rcases hP with h'|h'
       ·exact absurd h' hlt
       ·omega
      ·rcases List.mem_append.1 hx with hx|hx
       ·exact hgd.ok x hx
       ·rw[List.mem_singleton] at hx;subst hx;exact hon
    have hi2:i<sts2.length∧sts2[i]? = some ⟨sl,sv⟩:=by
     by_cases hlt:t<sts.length
     ·rw[if_pos hlt] at hst2;subst hst2;exact⟨hil,hsi⟩
     ·rw[if_neg hlt] at hst2;subst hst2;refine⟨by rw[List.length_append];omega,?_⟩;rw[List.getElem?_append_left hil];exact hsi
    have hi4:i<4096:=by omega
    clear hst2 hst hlk hks hgd hil hsi;refine zai Tk Tryz.func85 ?_;refine g_go Tk Tryz.func85 ?_;refine zah Tk Tryz.func85 (by exact⟨by show (eds.length+1)*24≤140737488355328;omega,by show eds.length+1≤9223372036854775807;omega⟩) ?_;refine zad ?_;exact ih2 (j+1,⟨sts2,mk,eds++[((i:Int),ev,(t:Int))]⟩) _ _ ⟨h3,hg2,hi2.1,hml,by simp only[List.length_append,List.length_singleton];omega,hi2.2,hV⟩ (by simp only;omega) ⟨rfl,rfl,rfl,rfl,rfl,rfl,rfl,rfl,rfl,rfl,hj1,trivial⟩ rfl ⟨rfl,rfl,rfl,congrArg some (zqK eds ((i:Int),ev,(t:Int))),rfl,trivial⟩ rfl rfl
  ·have h3:alpha.length≤j:=by simpa using g2
   rw[List.drop_eq_nil_of_le h3] at hV;simp only[zbo] at hV;subst hV;simp only at hno;have hja:j≤4096:=by omega
   refine zad ?_;exact ih (i+1,⟨sts,mk,eds⟩) _ _ ⟨by simp only;omega,hgd,hml,by simp only;omega,hno⟩ (by simp only;omega) ⟨rfl,rfl,rfl,rfl,rfl,rfl,rfl,congrArg ii (zav (n:=4096) (by omega) (by decide)),trivial⟩ rfl ⟨rfl,rfl,rfl,rfl,rfl,trivial⟩ rfl rfl
 ·have h1:U.sts.length≤i:=by simpa using g1
  rw[zlz h1] at hno;subst hno;obtain⟨sts,mk,eds⟩:=U;refine za3 (zao 95 rfl rfl) ?_;refine za3 (zao 47 rfl rfl) ?_;refine za3 (zao 103 rfl rfl) ?_;refine za3 (zaY rfl) ?_;refine zaj Tk (r:=unfD alpha (.ok ⟨sts,mk,eds⟩)) rfl rfl rfl trivial rfl rfl ?_;rfl
def zbz (m:Ext):Except Int (Unf Sta):=if chk m≠0 then .error (chk m) else unfX m m.alpha (zdP m)
theorem zoW {g:Nat} (hg:ze2 g) {ty:TypeId} {fr:Nat×Nat} (O:List Heap) (m:Ext) (hok:extOk m):zbb g (ptab ty fr) Tryz.prog 32 [extD m] O (unfD m.alpha (zbz m)) [] O:=by
 have hb:=fun O=>zyY O m hok;unfold zul at hb;unfold zbz
 by_cases h1:chk m≠0
 ·simp only[if_pos h1] at hb ⊢;refine zaZ [] Tk Tryz.func32 rfl Tryz.call32 Tryz.ntmps32 (Nat.le_of_ble_eq_true rfl) fun E hE=>?_;refine zai Tk Tryz.func32 ?_;refine zak Tk Tryz.func32 (hb _) rfl rfl rfl rfl rfl ?_;refine zaf Tk Tryz.func32 rfl (fun h2=>?_) (fun h2=>?_);rotate_left
  ·exact absurd (bneF h2) h1
  refine zaD Tk (r:=_) rfl rfl rfl trivial rfl rfl ?_;exact zyR
 ·have h1:chk m=0:=Classical.byContradiction h1;have hr:=zhM h1;have hal:=zfD (by decide) hr.alpha;simp only[h1,ne_eq,not_true_eq_false,if_false] at hb ⊢;have hcl:=fun O=>zoP O m.alpha (by simp only[big];omega);have hun:=fun O ho=>zr6 hg (ty:=ty) (fr:=fr) O m m.alpha (zdP m) 0 1 ho hok hr (by omega) (zvo hr);generalize unfX m m.alpha (zdP m)=R at *;generalize zdP m=st at *;obtain⟨sl,sv⟩:=st
  cases R with
  |error e=>
   refine zaZ [] Tk Tryz.func32 rfl Tryz.call32 Tryz.ntmps32 (Nat.le_of_ble_eq_true rfl) fun E hE=>?_;refine zai Tk Tryz.func32 ?_;refine zak Tk Tryz.func32 (hb _) rfl rfl rfl rfl rfl ?_;refine gcF Tk Tryz.func32 rfl ?_;refine zat Tk Tryz.func32 zax rfl ?_;refine zaF Tk (fun _=>hcl _) rfl rfl rfl ?_;refine zdR Tk hE (hun _ rfl) rfl rfl rfl rfl ?_;refine zcv Tk rfl rfl rfl ?_;refine zaA Tk Tryz.func32 (by kernel_rfl) ?_;refine zaD Tk (r:=_) rfl rfl rfl trivial rfl rfl ?_;exact CoD.refl _
  |ok U=>
   obtain⟨us,um,ue⟩:=U;refine zaZ [] Tk Tryz.func32 rfl Tryz.call32 Tryz.ntmps32 (Nat.le_of_ble_eq_true rfl) fun E hE=>?_;refine zai Tk Tryz.func32 ?_;refine zak Tk Tryz.func32 (hb _) rfl rfl rfl rfl rfl ?_;refine gcF Tk Tryz.func32 rfl ?_;refine zat Tk Tryz.func32 zax rfl ?_;refine zaF Tk (fun _=>hcl _) rfl rfl rfl ?_;refine zdR Tk hE (hun _ rfl) rfl rfl rfl rfl ?_;refine zcv Tk rfl rfl rfl ?_;refine zaA Tk Tryz.func32 (by kernel_rfl) ?_;refine zaD Tk (r:=_) rfl rfl rfl trivial rfl rfl ?_;exact CoD.refl _
end Go.AI
namespace Go.AI
def nmIx (l:List ByteArray) (s:ByteArray):Int:=zau (fun x=>sB x s) l 0
def fndI (l:List ByteArray) (s:ByteArray):Int:=if nmIx l s<0 then 0 else nmIx l s
def zcO (x:Mv):List Mv→List Mv
 |[]=>[x]
 |y::r=>if x.frm<y.frm∨x.frm=y.frm∧x.ev<y.ev then x::y::r else y::zcO x r
def zdH (l:List Mv):List Mv:=l.foldl (fun acc x=>zcO x acc) []
def insZ (x:Int):List Int→List Int
 |[]=>[x]
 |y::r=>if x<y then x::y::r else y::insZ x r
def srtZ:List Int→List Int
 |[]=>[]
 |x::r=>insZ x (srtZ r)
theorem zht (x:Int):∀l,(insZ x l).Perm (x::l)
 |[]=>.refl _
 |y::r=>by
  unfold insZ
  by_cases h:x<y
  ·rw[if_pos h]
  ·rw[if_neg h];exact ((zht x r).cons y).trans (.swap x y r)
theorem zcK:∀l,(srtZ l).Perm l
 |[]=>.refl _
 |x::r=>(zht x (srtZ r)).trans ((zcK r).cons x)
theorem ztl {x:Int}:∀{l:List Int},l.Pairwise (· ≤ ·)→(insZ x l).Pairwise (· ≤ ·)
 |[],_=>List.pairwise_singleton _ _
 |y::r,h=>by
  obtain⟨h1,h2⟩:=List.pairwise_cons.1 h;unfold insZ
  by_cases c:x<y
  ·rw[if_pos c];refine List.pairwise_cons.2 ⟨fun z hz=>?_,h⟩;rcases List.mem_cons.1 hz with rfl|hz
   ·omega
   ·have:=h1 z hz;omega
  ·rw[if_neg c];refine List.pairwise_cons.2 ⟨fun z hz=>?_,ztl h2⟩;rcases List.mem_cons.1 ((zht x r).mem_iff.1 hz) with rfl|hz
   ·omega
   ·exact h1 z hz
theorem zlG:∀l,(srtZ l).Pairwise (· ≤ ·)
 |[]=>.nil
 |x::r=>ztl (zlG r)
theorem zxG (l:List Int):srtZ l=zds l:=by
 refine List.Perm.eq_of_pairwise (le:=(· ≤ ·)) (fun a b _ _ h1 h2=>by omega) (zlG l) (zvs l) ?_;exact (zcK l).trans (List.mergeSort_perm l _).symm
def mchE (m:Mdl) (x:Ins) (t:Tpl):Ext:=
 let evs:=x.evs.map fun s=>fndI (m.evs.map (·.name)) s
 { alpha:=srtZ evs,locs:=t.mach.locs,init:=t.mach.init,marked:=t.mach.marked,vars:=t.mach.vars,moves:=zdH (t.mach.moves.map fun y=>{ y with ev:=evs.getD y.ev.toNat 0})}
def zExt:Ext:=⟨[],0,0,[],[],[]⟩
def mchR (m:Mdl) (x:Ins):Ext:=match zbL m x with
 |none=>zExt
 |some t=>mchE m x t
structure Itm where
 name:ByteArray
 aut:Aut
abbrev itmI (x:Itm):List I:=[strI x.name,zdJ x.aut.alpha,vi x.aut.states,zdJ x.aut.marked,.sl 3 x.aut.edges.length (x.aut.edges.map edgI)]
abbrev Loc2:=Int×Int
structure XEx where
 name:ByteArray
 locals:List Loc2
abbrev zbq (x:Loc2):List I:=[vi x.1,vi x.2]
abbrev xexI (x:XEx):List I:=[strI x.name,.sl 2 x.locals.length (x.locals.map zbq)]
structure XCn where
 name:ByteArray
 terms:List Loc2
 bound:Int
abbrev xcnI (x:XCn):List I:=[strI x.name,.sl 2 x.terms.length (x.terms.map zbq),vi x.bound]
structure Cel where
 evs:List Evt
 comps:List Itm
 reqs:List Itm
 excs:List XEx
 cons:List XCn
abbrev celC (c:Cel):List D:=[.i (za1 c.evs),.i (.sl 5 c.comps.length (c.comps.map itmI)),.i (.sl 5 c.reqs.length (c.reqs.map itmI)),.i (.sl 2 c.excs.length (c.excs.map xexI)),.i (.sl 3 c.cons.length (c.cons.map xcnI))]
abbrev celD (c:Cel):D:=.agg (celC c)
def zCel:Cel:=⟨[],[],[],[],[]⟩
def zcD (m:Mdl):List Ins→Nat→Except (Nat×Int) (List Itm×List (List Sta))
 |[],_=>.ok ([],[])
 |x::r,i=>match zbz (mchR m x) with
  |.error e=>.error (i,e)
  |.ok U=>match zcD m r (i+1) with
   |.error e=>.error e
   |.ok (a,o)=>.ok (⟨x.name,⟨(mchR m x).alpha,U.sts.length,U.mkl,U.eds⟩⟩::a,U.sts::o)
def stAt (loc:Int):List Sta→Nat→List Int
 |[],_=>[]
 |s::r,i=>if s.loc=loc then (i:Int)::stAt loc r (i+1) else stAt loc r (i+1)
abbrev Chc:=Int×List Int
def chcR (m:Mdl) (origins:List (List Sta)) (x:NLc):Chc:=
 let c:=fndI (m.comps.map (·.name)) x.1
 let t:=match m.comps[c.toNat]? with
  |none=>none
  |some y=>zbL m y
 let loc:=match t with
  |none=>-1
  |some t=>nmIx t.locs x.2
 (c,stAt loc (origins.getD c.toNat []) 0)
def zdK (x:Chc):List Chc→List Chc
 |[]=>[x]
 |y::r=>if x.1<y.1 then x::y::r else y::zdK x r
def zbY (l:List Chc):List Chc:=l.foldl (fun acc x=>zdK x acc) []
def chsR:List Chc→List (List Loc2)→List (List Loc2)
 |[],all=>all
 |y::r,all=>chsR r (all.flatMap fun b=>y.2.map fun s=>b++[(y.1,s)])
def chsN:List Chc→Int→Int
 |[],n=>n
 |y::r,n=>chsN r (if n*(y.2.length:Int)<1048576 then n*(y.2.length:Int) else 1048576)
def numX (name:ByteArray):List (List Loc2)→Nat→List XEx
 |[],_=>[]
 |l::r,i=>⟨name++⟨#[95]⟩++zcN i,l⟩::numX name r (i+1)
def expX (m:Mdl) (origins:List (List Sta)) (x:NEx) (most:Int):List XEx×Int:=
 let l:=x.locals.map (chcR m origins)
 if l.any (fun y=>y.2.isEmpty)=true then ([],0) else if chsN l 1>most then ([],3) else
 match chsR (zbY l) [[]] with
 |[one]=>([⟨x.name,one⟩],0)
 |all=>(numX x.name all 0,0)
def dupX:List ByteArray→List XEx→Except Unit (List ByteArray)
 |seen,[]=>.ok seen
 |seen,y::r=>if hasB seen y.name=true then .error () else dupX (seen++[y.name]) r
def zdm (m:Mdl) (origins:List (List Sta)):List NEx→Nat→List ByteArray→List XEx→Except (Nat×Int) (List XEx)
 |[],_,_,out=>.ok out
 |x::r,i,seen,out=>
  if (expX m origins x (32-(out.length:Int))).2≠0 then .error (i,(expX m origins x (32-(out.length:Int))).2)
  else if (expX m origins x (32-(out.length:Int))).1.any (fun y=>decide (y.name.size>32))=true then .error (i,7)
  else match dupX seen (expX m origins x (32-(out.length:Int))).1 with
   |.error _=>.error (i,8)
   |.ok seen'=>zdm m origins r (i+1) seen' (out++(expX m origins x (32-(out.length:Int))).1)
def zc7 (x:Loc2):List Loc2→List Loc2
 |[]=>[x]
 |y::r=>if x.1<y.1 then x::y::r else y::zc7 x r
def zea (m:Mdl) (x:NCn):XCn:=⟨x.name,(x.terms.map fun t=>(fndI (m.comps.map (·.name)) t.1,t.2)).foldl (fun acc x=>zc7 x acc) [],x.bound⟩
def celR (m:Mdl):Cel×Plc×Int:=
 if (mdlE m).2≠0 then (zCel,mdlE m) else
 match zcD m m.comps 0 with
 |.error (i,e)=>(zCel,(3,(i:Int)),e)
 |.ok (a,origins)=>match zcD m m.reqs 0 with
  |.error (i,e)=>(zCel,(4,(i:Int)),e)
  |.ok (b,_)=>match zdm m origins m.excs 0 [] [] with
   |.error (i,e)=>(zCel,(5,(i:Int)),e)
   |.ok out=>(⟨m.evs,a,b,out,m.cons.map (zea m)⟩,(0,0),0)
end Go.AI
namespace Go.AI
open Go.Proofs
set_option maxRecDepth 100000
def yesX:Ex:=.mk 6 0 0 [.mk 0 0 0 [],.mk 0 0 0 []]
def zs3:Ext:=⟨[0,1],2,0,[0],[],[⟨0,0,1,yesX,[]⟩,⟨1,1,0,yesX,[]⟩]⟩
def zwR:Ext:=⟨[0],1,0,[0],[⟨⟨#[110]⟩,0,2,0⟩],[⟨0,0,0,.mk 8 0 0 [.mk 1 0 0 [],.mk 0 2 0 []],[⟨0,.mk 2 0 0 [.mk 1 0 0 [],.mk 0 1 0 []]⟩]⟩]⟩
def shopM:Mdl:=
 { name:=⟨#[115,104,111,112]⟩,evs:=[⟨⟨#[98]⟩,false,false,false,0⟩,⟨⟨#[97]⟩,true,false,false,0⟩],tpls:=[⟨⟨#[109,97,99,104,105,110,101]⟩,[⟨#[105,100,108,101]⟩,⟨#[98,117,115,121]⟩],[⟨#[98,101,103,105,110]⟩,⟨#[101,110,100]⟩],zs3⟩,⟨⟨#[115,116,111,114,101]⟩,[⟨#[105,116]⟩],[⟨#[112,117,116]⟩],zwR⟩],comps:=[⟨⟨#[109,49]⟩,⟨#[109,97,99,104,105,110,101]⟩,[⟨#[97]⟩,⟨#[98]⟩]⟩,⟨⟨#[98,117,102,102,101,114]⟩,⟨#[115,116,111,114,101]⟩,[⟨#[98]⟩]⟩],reqs:=[],excs:=[⟨⟨#[120]⟩,[(⟨#[98,117,102,102,101,114]⟩,⟨#[105,116]⟩),(⟨#[109,49]⟩,⟨#[98,117,115,121]⟩)]⟩],cons:=[]}
def zzW:Cel:=⟨shopM.evs,[⟨⟨#[109,49]⟩,⟨[0,1],2,[0],[(0,1,1),(1,0,0)]⟩⟩,⟨⟨#[98,117,102,102,101,114]⟩,⟨[0],3,[0,1,2],[(0,0,1),(1,0,2)]⟩⟩],[],[⟨⟨#[120,95,48]⟩,[(0,1),(1,0)]⟩,⟨⟨#[120,95,49]⟩,[(0,1),(1,1)]⟩,⟨⟨#[120,95,50]⟩,[(0,1),(1,2)]⟩],[]⟩
theorem zsw:celR shopM=(zzW,(0,0),0):=by kernel_rfl
def tplX:Tpl:=⟨⟨#[109,97,99,104,105,110,101]⟩,[⟨#[105,100,108,101]⟩,⟨#[98,117,115,121]⟩],[⟨#[98,101,103,105,110]⟩,⟨#[101,110,100]⟩],zs3⟩
def zbE (c:UInt8) (i:Nat):ByteArray:=⟨#[c]⟩++zcN (i:Int)
def labT:List Vr→List Int→ByteArray→ByteArray
 |v::r,n::s,acc=>labT r s (acc++(⟨#[32]⟩++v.name++⟨#[61]⟩++zcN n))
 |_,_,acc=>acc
def zdd (m:Mdl) (at_:Plc):Except Int Ins:=
 if at_.1=3 then (if at_.2<0 then .error 10 else match m.comps[at_.2.toNat]? with|none=>.error 10|some x=>.ok x)
 else if at_.1=4 then (if at_.2<0 then .error 10 else match m.reqs[at_.2.toNat]? with|none=>.error 10|some x=>.ok x)
 else .error 11
def labR (m:Mdl) (at_:Plc) (s:Sta):ByteArray×Int:=
 if (mdlE m).2≠0 then (⟨#[]⟩,(mdlE m).2) else match zdd m at_ with
 |.error e=>(⟨#[]⟩,e)
 |.ok x=>if ckS (mchR m x) s≠0 then (⟨#[]⟩,ckS (mchR m x) s) else
  match zbL m x with
  |none=>(⟨#[]⟩,0)
  |some t=>(labT (mchR m x).vars s.vals (t.locs.getD s.loc.toNat ⟨#[]⟩),0)
theorem zqr:labR shopM (3,1) ⟨0,[2]⟩=(⟨#[105,116,32,110,61,50]⟩,0):=by kernel_rfl
end Go.AI
namespace Go.AI
open Go.Proofs
structure Use22 where
 t:Int
 o:Int
 req:Bool
abbrev Whr:=Int×Int
structure Sk22 where
 tpls:List Sk
 ins:List Use22
 excs:List (Whr×Whr)
 bound:Int
abbrev u8J (b:Int):I:=.v (.int .u8 b)
abbrev skI (k:Sk):List I:=[u8J k.locs,u8J k.marks,.sl 2 k.rngs.length (k.rngs.map r8I),.sl 5 k.lines.length (k.lines.map linI)]
abbrev useI (u:Use22):List I:=[u8J u.t,u8J u.o,bI u.req]
abbrev whrI (p:Whr×Whr):List I:=[u8J p.1.1,u8J p.1.2,u8J p.2.1,u8J p.2.2]
abbrev zeI (k:Sk22):List D:=[.i (.sl 4 k.tpls.length (k.tpls.map skI)),.i (.sl 3 k.ins.length (k.ins.map useI)),.i (.sl 4 k.excs.length (k.excs.map whrI)),.i (.v (.int .i8 k.bound))]
abbrev zxO (k:Sk22):D:=.agg (zeI k)
def zhT (p:Whr):Prop:=(0≤p.1∧p.1≤255)∧(0≤p.2∧p.2≤255)
structure sk22Ok (k:Sk22):Prop where
 tl:k.tpls.length≤zap
 t:∀x∈k.tpls,skOk x
 il:k.ins.length≤zap
 i:∀u∈k.ins,(0≤u.t∧u.t≤255)∧(0≤u.o∧u.o≤255)
 el:k.excs.length≤zap
 e:∀p∈k.excs,zhT p.1∧zhT p.2
 b:-128≤k.bound∧k.bound≤127
def evs4:List Evt:=[⟨⟨#[101,48]⟩,true,true,false,0⟩,⟨⟨#[101,49]⟩,false,true,false,0⟩,⟨⟨#[101,50]⟩,true,false,false,0⟩,⟨⟨#[101,51]⟩,false,false,false,0⟩]
def nms4:List ByteArray:=[⟨#[101,48]⟩,⟨#[101,49]⟩,⟨#[101,50]⟩,⟨#[101,51]⟩]
def abc3:List ByteArray:=[⟨#[97]⟩,⟨#[98]⟩,⟨#[99]⟩]
def zSk:Sk:=⟨0,0,[],[]⟩
def zUse:Use22:=⟨0,0,false⟩
def ziO:Ins:=⟨⟨#[]⟩,⟨#[]⟩,[]⟩
def zTpl:Tpl:=⟨⟨#[]⟩,[],[],⟨[],0,0,[],[],[]⟩⟩
def zr9 (i:Nat) (k:Sk):Tpl:=⟨zbE 116 i,(List.range (zdg k)).map (zbE 115),abc3,zjj k⟩
def zfI (l:List Sk) (n:Nat):List Tpl:=(List.range n).map fun i=>zr9 i (l.getD i zSk)
def mkT (k:Sk22):List Tpl:=zfI k.tpls (min k.tpls.length 3)
def ordS (o:Int):Nat→List ByteArray×List ByteArray×Int
 |0=>([],nms4,o)
 |k+1=>((ordS o k).1++[(ordS o k).2.1.getD ((ordS o k).2.2%(4-(k:Int))).toNat ⟨#[]⟩],
   (ordS o k).2.1.take ((ordS o k).2.2%(4-(k:Int))).toNat++(ordS o k).2.1.drop (((ordS o k).2.2%(4-(k:Int))).toNat+1),(ordS o k).2.2/(4-(k:Int)))
theorem zi7 (o:Int) (ho:0≤o∧o≤255):∀k,k≤3→(ordS o k).1.length=k∧(ordS o k).2.1.length=4-k∧0≤(ordS o k).2.2∧(ordS o k).2.2≤255
 |0,_=>⟨rfl,rfl,ho⟩
 |k+1,h=>by
  obtain⟨h1,h2,h3,h4⟩:=zi7 o ho k (by omega);have h5:=Int.emod_nonneg (ordS o k).2.2 (show 4-(k:Int)≠0 by omega);have h6:=Int.emod_lt_of_pos (ordS o k).2.2 (show 0<4-(k:Int) by omega);have h7:=Int.ediv_nonneg h3 (show 0≤4-(k:Int) by omega);have h8:=Int.ediv_le_self (4-(k:Int)) h3;simp only[ordS,List.length_append,List.length_singleton,List.length_take,List.length_drop];generalize (ordS o k).2.2%(4-(k:Int))=q at *;refine⟨by omega,by omega,h7,by omega⟩
def zkJ (nt:Nat) (i:Nat) (u:Use22):Ins:=⟨zbE 105 i,zbE 116 (u.t%(nt:Int)).toNat,(ordS u.o 3).1⟩
def covB (l:List Ins) (evs:List ByteArray):Bool:=evs.all fun s=>l.any fun x=>decide (nmIx x.evs s≥0)
def zqX (nt:Nat) (st:List Ins×List Ins) (i:Nat) (u:Use22):List Ins×List Ins:=
 if u.req=false∧st.1.length<3 then (st.1++[zkJ nt i u],st.2) else if covB st.1 (zkJ nt i u).evs=true∧st.2.length<2 then (st.1,st.2++[zkJ nt i u]) else st
def insN (nt:Nat) (l:List Use22):Nat→List Ins×List Ins
 |0=>([],[])
 |i+1=>zqX nt (insN nt l i) i (l.getD i zUse)
theorem zgy (nt:Nat) (l:List Use22):∀i,(insN nt l i).1.length≤3∧(insN nt l i).2.length≤2
 |0=>⟨Nat.zero_le _,Nat.zero_le _⟩
 |i+1=>by
  obtain⟨h1,h2⟩:=zgy nt l i;simp only[insN,zqX]
  split
  ·rename_i h;simp only[List.length_append,List.length_singleton];exact⟨by omega,h2⟩
  ·split
   ·rename_i h;simp only[List.length_append,List.length_singleton];exact⟨h1,by omega⟩
   ·exact⟨h1,h2⟩
theorem zot {P:Ins→Prop} (nt:Nat) (l:List Use22) (h:∀i,P (zkJ nt i (l.getD i zUse))):∀i,∀x∈(insN nt l i).1++(insN nt l i).2,P x
 |0=>by simp[insN]
 |i+1=>by
  have ih:=zot nt l h i;have h1:=h i;intro x hx;simp only[insN,zqX] at hx;rcases List.mem_append.1 hx with hx|hx
  ·split at hx
   ·rcases List.mem_append.1 hx with hx|hx
    ·exact ih x (List.mem_append_left _ hx)
    ·rw[List.mem_singleton.1 hx];exact h1
   ·split at hx<;>exact ih x (List.mem_append_left _ hx)
  ·split at hx
   ·exact ih x (List.mem_append_right _ hx)
   ·split at hx
    ·rcases List.mem_append.1 hx with hx|hx
     ·exact ih x (List.mem_append_right _ hx)
     ·rw[List.mem_singleton.1 hx];exact h1
    ·exact ih x (List.mem_append_right _ hx)
def zfn (k:Sk22):Nat:=if (mkT k).length=0 then 0 else min k.ins.length 5
def mkI (k:Sk22):List Ins×List Ins:=insN (mkT k).length k.ins (zfn k)
def znY (T:List Tpl) (c:Ins):Tpl:=(T.find? fun t=>sB t.name c.tpl).getD zTpl
def excA (T:List Tpl) (C:List Ins) (acc:List NLc) (w:Whr):List NLc:=
 if (match acc with|[]=>false|a::_=>sB a.1 (C.getD (w.1%(C.length:Int)).toNat ziO).name)=true then acc
 else acc++[((C.getD (w.1%(C.length:Int)).toNat ziO).name,(znY T (C.getD (w.1%(C.length:Int)).toNat ziO)).locs.getD (w.2%((znY T (C.getD (w.1%(C.length:Int)).toNat ziO)).locs.length:Int)).toNat ⟨#[]⟩)]
def zww (T:List Tpl) (C:List Ins) (i:Nat) (p:Whr×Whr):NEx:=⟨zbE 120 i,excA T C (excA T C [] p.1) p.2⟩
def zWhr:Whr×Whr:=((0,0),(0,0))
def zeV (T:List Tpl) (C:List Ins) (l:List (Whr×Whr)) (n:Nat):List NEx:=(List.range n).map fun i=>zww T C i (l.getD i zWhr)
def zcU (C:List Ins):List NTm:=((List.range C.length).map fun i=>((C.getD i ziO).name,1+(i:Int))).reverse
def zzL (C:List Ins) (b:Int):NCn:=⟨⟨#[99]⟩,zcU C,b%5⟩
def zcM (k:Sk22):Mdl:=
 if (mkI k).1.length=0 then ⟨⟨#[109]⟩,evs4,mkT k,(mkI k).1,(mkI k).2,[],[]⟩
 else ⟨⟨#[109]⟩,evs4,mkT k,(mkI k).1,(mkI k).2,zeV (mkT k) (mkI k).1 k.excs (min k.excs.length 2),if k.bound>0 then [zzL (mkI k).1 k.bound] else []⟩
theorem zjg (k:Sk22):(mkT k).length=min k.tpls.length 3:=by simp[mkT,zfI]
theorem zye {k:Sk22} {j:Nat} (h:j<(mkT k).length):(mkT k)[j]? = some (zr9 j (k.tpls.getD j zSk)):=by
 unfold mkT zfI at *;rw[List.getElem?_map,List.getElem?_range (by simpa using h)];rfl
theorem zto (k:Sk22) (hk:sk22Ok k) (h:(mkT k).length≠0) (i:Nat) (hi:i<k.ins.length):∃t∈mkT k,(mkT k).find? (fun t=>sB t.name (zkJ (mkT k).length i (k.ins.getD i zUse)).tpl)=some t:=by
 have hu:=hk.i (k.ins.getD i zUse) (by rw[List.getD_eq_getElem?_getD,List.getElem?_eq_getElem hi];exact List.getElem_mem hi);have h1:=Int.emod_nonneg (k.ins.getD i zUse).t (show ((mkT k).length:Int)≠0 by omega);have h2:=Int.emod_lt_of_pos (k.ins.getD i zUse).t (show 0<((mkT k).length:Int) by omega);have hg:=zye (k:=k) (j:=((k.ins.getD i zUse).t%((mkT k).length:Int)).toNat) (by omega);have hm:=List.mem_of_getElem? hg
 cases hf:(mkT k).find? (fun t=>sB t.name (zkJ (mkT k).length i (k.ins.getD i zUse)).tpl) with
 |none=>
  have:=List.find?_eq_none.1 hf _ hm;exact absurd (zbP.2 rfl) this
 |some t=>exact⟨t,List.mem_of_find?_eq_some hf,rfl⟩
theorem zsZ {k:Sk22} {t:Tpl} (h:t∈mkT k):∃j,j<(mkT k).length∧j<k.tpls.length∧t=zr9 j (k.tpls.getD j zSk):=by
 unfold mkT zfI at h;obtain⟨j,h1,h2⟩:=List.mem_map.1 h;have h1:=List.mem_range.1 h1;exact⟨j,by rw[zjg];exact h1,by omega,h2.symm⟩
theorem zjv {α:Type} {l:List α} {i:Nat} {d:α} (h:i<l.length):l.getD i d∈l:=by
 rw[List.getD_eq_getElem?_getD,List.getElem?_eq_getElem h];exact List.getElem_mem h
theorem zfV {P:Ins→Prop} (nt:Nat) (l:List Use22):∀n,(∀i,i<n→P (zkJ nt i (l.getD i zUse)))→∀x∈(insN nt l n).1++(insN nt l n).2,P x
 |0,_=>by simp[insN]
 |i+1,h=>by
  have ih:=zfV nt l i fun j hj=>h j (by omega);have h1:=h i (by omega);intro x hx;simp only[insN,zqX] at hx;rcases List.mem_append.1 hx with hx|hx
  ·split at hx
   ·rcases List.mem_append.1 hx with hx|hx
    ·exact ih x (List.mem_append_left _ hx)
    ·rw[List.mem_singleton.1 hx];exact h1
   ·split at hx<;>exact ih x (List.mem_append_left _ hx)
  ·split at hx
   ·exact ih x (List.mem_append_right _ hx)
   ·split at hx
    ·rcases List.mem_append.1 hx with hx|hx
     ·exact ih x (List.mem_append_right _ hx)
     ·rw[List.mem_singleton.1 hx];exact h1
    ·exact ih x (List.mem_append_right _ hx)
theorem zhv (k:Sk22):zfn k≤k.ins.length∧zfn k≤5:=by unfold zfn;split<;>omega
theorem zyf (k:Sk22) (hk:sk22Ok k):∀x∈(mkI k).1++(mkI k).2,∃t∈mkT k,(mkT k).find? (fun t=>sB t.name x.tpl)=some t:=by
 by_cases h:(mkT k).length=0
 ·have:zfn k=0:=by unfold zfn;rw[if_pos h]
  intro x hx;unfold mkI at hx;rw[this] at hx;simp[insN] at hx
 ·exact zfV _ _ _ fun i hi=>zto k hk h i (by have:=zhv k;omega)
end Go.AI
namespace Go.Proofs.YtnojpbbaohoadaaGreatDoor
open Go.ChangeShapes Go.WideShapes Go.ChangeAt Go.RowKit Go.Deep Go.WideElems
set_option maxRecDepth 100000
section
variable {H:Type} {enc:TypeId×Value→H} {W:World}
theorem zvS:Opn enc Tryz.prog W 229 fun is=>∃x:AI.Lin,is=AI.linI x∧AI.linOk x:=by
 intro n cs x h;obtain⟨is,hr,a,b,c,rfl,⟨zs,hz,rfl,hw⟩,⟨g,rfl,hg,hgl⟩,⟨u,rfl,hu,hul⟩⟩:=zha Tryz.underlying229 (z0:=3) (z1:=1) (z2:=1) (by kernel_rfl) (by kernel_rfl) (by kernel_rfl) (by kernel_rfl) rfl rfl rfl
  (zkl Tryz.underlying227 Tryz.underlying5 (by kernel_rfl) (by kernel_rfl)) zob zob n cs x h
 match zs,hz with
 |[p,q,r],_=>
  exact⟨_,hr,⟨p,q,r,g,u⟩,rfl,wf_u8 (hw p (by simp)),wf_u8 (hw q (by simp)),wf_u8 (hw r (by simp)),hg,hgl,hu,hul⟩
theorem zsM:Opn enc Tryz.prog W 139 fun is=>∃l:List AI.Lin,is=[.sl 5 l.length (l.map AI.linI)]∧(∀x∈l,AI.linOk x)∧l.length≤AI.zap:=by
 intro n cs x h;obtain⟨is,hr,xs,rfl,hx,hl⟩:=zde Tryz.underlying139 (z:=5) (by kernel_rfl) (by decide) zvS n cs x h;obtain⟨l,rfl,hq⟩:=zeQ (f:=AI.linI) (Q:=AI.linOk) (xs:=xs) hx;refine⟨_,hr,l,by simp,hq,zen (by simpa using hl)⟩
theorem zqH:Opn enc Tryz.prog W 138 fun is=>∃l:List (Int×Int),is=[.sl 2 l.length (l.map AI.r8I)]∧(∀x∈l,AI.zgc x)∧l.length≤AI.zap:=by
 intro n cs x h;obtain⟨is,hr,xs,rfl,hx,hl⟩:=zde Tryz.underlying138 (z:=2) (by kernel_rfl) (by decide) (zkl Tryz.underlying288 Tryz.underlying25 (by kernel_rfl) (by kernel_rfl)) n cs x h;obtain⟨l,rfl,hq⟩:=zeQ (f:=AI.r8I) (Q:=AI.zgc) (xs:=xs) fun d hd=>by
  obtain⟨zs,hz,he,hw⟩:=hx d hd
  match zs,hz with
  |[p,q],_=>exact⟨(p,q),he,(wf_i8 (hw p (by simp))).1,(wf_i8 (hw p (by simp))).2,(wf_i8 (hw q (by simp))).1,(wf_i8 (hw q (by simp))).2⟩
 refine⟨_,hr,l,by simp,hq,zen (by simpa using hl)⟩
theorem zx8:Opn enc Tryz.prog W 141 fun is=>∃k:AI.Sk,is=AI.skI k∧AI.skOk k:=by
 intro n cs x h;obtain⟨is,hr,a,b,c,d,rfl,⟨p,rfl,hp⟩,⟨q,rfl,hq⟩,⟨r,rfl,h1,h2⟩,⟨l,rfl,h3,h4⟩⟩:=zg9 Tryz.underlying141 (z0:=1) (z1:=1) (z2:=1) (z3:=1) (by kernel_rfl) (by kernel_rfl) (by kernel_rfl) (by kernel_rfl) (by kernel_rfl) rfl rfl rfl rfl
  (zdZ Tryz.underlying5) (zdZ Tryz.underlying5) zqH zsM n cs x h
 exact⟨_,hr,⟨p,q,r,l⟩,rfl,wf_u8 hp,wf_u8 hq,h2,h1,h4,h3⟩
theorem zvR:Opn enc Tryz.prog W 22 fun is=>∃l:List AI.Sk,is=[.sl 4 l.length (l.map AI.skI)]∧(∀x∈l,AI.skOk x)∧l.length≤AI.zap:=by
 intro n cs x h;obtain⟨is,hr,xs,rfl,hx,hl⟩:=zde Tryz.underlying22 (z:=4) (by kernel_rfl) (by decide) zx8 n cs x h;obtain⟨l,rfl,hq⟩:=zeQ (f:=AI.skI) (Q:=AI.skOk) (xs:=xs) hx;refine⟨_,hr,l,by simp,hq,zen (by simpa using hl)⟩
theorem zsO:Opn enc Tryz.prog W 4 fun is=>∃b:Bool,is=[AI.bI b]:=by
 intro n cs x h;obtain⟨b,rfl,_⟩:=DataW.trod_bool Tryz.underlying4 h;exact⟨[AI.bI b],.cons (.v rfl) .nil,b,rfl⟩
theorem zvQ:Opn enc Tryz.prog W 143 fun is=>∃u:AI.Use22,is=AI.useI u∧(0≤u.t∧u.t≤255)∧(0≤u.o∧u.o≤255):=by
 intro n cs x h;obtain⟨is,hr,a,b,c,rfl,⟨p,rfl,hp⟩,⟨q,rfl,hq⟩,⟨r,rfl⟩⟩:=zha Tryz.underlying143 (z0:=1) (z1:=1) (z2:=1) (by kernel_rfl) (by kernel_rfl) (by kernel_rfl) (by kernel_rfl) rfl rfl rfl
  (zdZ Tryz.underlying5) (zdZ Tryz.underlying5) zsO n cs x h
 exact⟨_,hr,⟨p,q,r⟩,rfl,wf_u8 hp,wf_u8 hq⟩
theorem zsL:Opn enc Tryz.prog W 23 fun is=>∃l:List AI.Use22,is=[.sl 3 l.length (l.map AI.useI)]∧(∀u∈l,(0≤u.t∧u.t≤255)∧(0≤u.o∧u.o≤255))∧l.length≤AI.zap:=by
 intro n cs x h;obtain⟨is,hr,xs,rfl,hx,hl⟩:=zde Tryz.underlying23 (z:=3) (by kernel_rfl) (by decide) zvQ n cs x h;obtain⟨l,rfl,hq⟩:=zeQ (f:=AI.useI) (Q:=fun u=>(0≤u.t∧u.t≤255)∧(0≤u.o∧u.o≤255)) (xs:=xs) hx;refine⟨_,hr,l,by simp,hq,zen (by simpa using hl)⟩
theorem zoa:Opn enc Tryz.prog W 146 fun is=>∃p:AI.Whr,is=[AI.u8J p.1,AI.u8J p.2]∧AI.zhT p:=by
 intro n cs x h;obtain⟨is,hr,a,b,rfl,⟨p,rfl,hp⟩,⟨q,rfl,hq⟩⟩:=zlS Tryz.underlying146 (z0:=1) (z1:=1) (by kernel_rfl) (by kernel_rfl) (by kernel_rfl) rfl rfl
  (zdZ Tryz.underlying5) (zdZ Tryz.underlying5) n cs x h
 exact⟨_,hr,(p,q),rfl,wf_u8 hp,wf_u8 hq⟩
theorem zsK:Opn enc Tryz.prog W 147 fun is=>∃p:AI.Whr×AI.Whr,is=AI.whrI p∧AI.zhT p.1∧AI.zhT p.2:=by
 intro n cs x h;obtain⟨xs,f,rfl,rfl,hl,hlen,hx⟩:=DataW.trod_array Tryz.underlying147 h;have e4:Tryz.prog.cellsOf 147=4:=by kernel_rfl
 have e2:Tryz.prog.cellsOf 146=2:=by kernel_rfl
 rw[e4] at hl;have h0:=hx 0 (by omega);have h1:=hx 1 (by omega);rw[e2,List.getElem?_eq_getElem (by omega)] at h0 h1;obtain⟨i0,r0,p,rfl,hp⟩:=zoa _ _ _ h0;obtain⟨i1,r1,q,rfl,hq⟩:=zoa _ _ _ h1;refine⟨AI.whrI (p,q),?_,(p,q),rfl,hp,hq⟩;have e:cs=(cs.drop (0*2)).take 2++(cs.drop (1*2)).take 2:=by
  rw[Nat.zero_mul,Nat.one_mul,List.drop_zero];have:(cs.drop 2).take 2=cs.drop 2:=List.take_of_length_le (by simp;omega);rw[this,List.take_append_drop]
 rw[e];exact zcV r0 r1
theorem zsN:Opn enc Tryz.prog W 24 fun is=>∃l:List (AI.Whr×AI.Whr),is=[.sl 4 l.length (l.map AI.whrI)]∧(∀p∈l,AI.zhT p.1∧AI.zhT p.2)∧l.length≤AI.zap:=by
 intro n cs x h;obtain⟨is,hr,xs,rfl,hx,hl⟩:=zde Tryz.underlying24 (z:=4) (by kernel_rfl) (by decide) zsK n cs x h;obtain⟨l,rfl,hq⟩:=zeQ (f:=AI.whrI) (Q:=fun p=>AI.zhT p.1∧AI.zhT p.2) (xs:=xs) hx;refine⟨_,hr,l,by simp,hq,zen (by simpa using hl)⟩
theorem zsP {r:Reach} {b0:Nat} {v:Value} {d:DataW H} {p:List MemPlace} (hv:Value.okWide Tryz.prog W r b0 27 v) (h:DataW.Trod enc Tryz.prog W 0 (fun _=>true) true 27 v d p) :
  ∃k:AI.Sk22,AI.sk22Ok k∧∀ρ sh,AI.RepD (KW W) ρ sh v (AI.zxO k):=by
 obtain⟨cs,rfl,_⟩:=okWide_struct Tryz.underlying27 hv;obtain⟨n,hn⟩:=h;obtain⟨is,hr,a,b,c,e,rfl,⟨t,rfl,t1,t2⟩,⟨u,rfl,u1,u2⟩,⟨x,rfl,x1,x2⟩,⟨z,rfl,hz⟩⟩:=zg9 Tryz.underlying27 (z0:=1) (z1:=1) (z2:=1) (z3:=1) (by kernel_rfl) (by kernel_rfl) (by kernel_rfl) (by kernel_rfl) (by kernel_rfl) rfl rfl rfl rfl
  zvR zsL zsN (zdZ Tryz.underlying25) n _ _ hn
 refine⟨⟨t,u,x,z⟩,⟨t2,t1,u2,u1,x2,x1,wf_i8 hz⟩,fun ρ sh=>?_⟩;have:=AI.RepD.agg (AI.RepDL.ofL (ρ:=ρ) (sh:=sh) hr);simpa [Value.cells] using this
end
end Go.Proofs.YtnojpbbaohoadaaGreatDoor
namespace Go.AI
open Go.Proofs
set_option maxRecDepth 20000
abbrev sD (s:ByteArray):D:=.i (strI s)
abbrev ssD (l:List ByteArray):D:=.i (zj3 l)
abbrev bbI (b:Bool):D:=.i (bI b)
abbrev evtD (x:Evt):D:=.agg [sD x.name,bbI x.c,bbI x.o,bbI x.f,ii x.fault]
abbrev tplC (x:Tpl):List D:=[sD x.name,ssD x.locs,ssD x.evs,ints x.mach.alpha,ii x.mach.locs,ii x.mach.init,ints x.mach.marked,vrs x.mach.vars,.i (.sl 8 x.mach.moves.length (x.mach.moves.map mvI))]
abbrev tplD (x:Tpl):D:=.agg (tplC x)
abbrev insC (x:Ins):List D:=[sD x.name,sD x.tpl,ssD x.evs]
abbrev insD (x:Ins):D:=.agg (insC x)
abbrev nlcD (x:NLc):D:=.agg [sD x.1,sD x.2]
abbrev ntmD (x:NTm):D:=.agg [sD x.1,ii x.2]
abbrev zkq (l:List NLc):I:=.sl 2 l.length (l.map nlcI)
abbrev zya (l:List NTm):I:=.sl 2 l.length (l.map ntmI)
abbrev nexC (x:NEx):List D:=[sD x.name,.i (zkq x.locals)]
abbrev nexD (x:NEx):D:=.agg (nexC x)
abbrev ncnC (x:NCn):List D:=[sD x.name,.i (zya x.terms),ii x.bound]
abbrev ncnD (x:NCn):D:=.agg (ncnC x)
theorem zd5 {α:Type} {p:α→Bool}:∀(l:List α) (i:Nat),(l.find? p=none∧zau p l i = -1)∨∃(k:Nat) (e:α),l[k]? = some e∧l.find? p=some e∧zau p l i=((i+k:Nat):Int)
 |[],i=>.inl ⟨rfl,rfl⟩
 |x::r,i=>by
  cases h:p x with
  |true=>exact .inr ⟨0,x,rfl,by simp[h],by simp[zau,h]⟩
  |false=>
   rcases zd5 r (i+1) with ⟨h1,h2⟩|⟨k,e,h1,h2,h3⟩
   ·exact .inl ⟨by rw[List.find?_cons,h];exact h1,by simp only[zau,h];rw[if_neg (by simp)];exact h2⟩
   ·refine .inr ⟨k+1,e,by simpa using h1,by rw[List.find?_cons,h];exact h2,?_⟩;simp only[zau,h];rw[if_neg (by simp),h3];congr 1;omega
theorem zb4 {α β:Type} (p:β→Bool) (f:α→β):∀(l:List α) (i:Nat),zau p (l.map f) i=zau (fun x=>p (f x)) l i
 |[],_=>rfl
 |x::r,i=>by
  simp only[List.map_cons,zau,zb4 p f r]
theorem zwg (O:List Heap) (l:List Evt) (f d nm:Nat) (p:Evt→Bool) (hl:l.length≤zap) (hp:∀x∈l,zan Tryz.prog f [evtD x,.own (d+1) nm 0 0] ([]::O) (bb (p x)) [] ([]::O)) :
  zan Tryz.prog 104 [.i (.sl 5 l.length (l.map evtI)),.fn (.func f) [] [.own d nm 0 0]] O (ii (zau p l 0)) [] O:=by
 generalize hR:zau p l 0=R;refine zaa Tk Tryz.func104 rfl Tryz.call104 Tryz.ntmps104 (Nat.le_of_ble_eq_true rfl) fun E=>?_;refine zai Tk Tryz.func104 ?_;refine zad ?_;refine zag (fun i:Nat=>[(0,.i (.sl 5 l.length (l.map evtI))),(1,.fn (.func f) [] [.own (d+1) nm 0 0]),(6,.i (.sl 5 l.length (l.map evtI))),(7,ii l.length),(8,ii i)]) (fun _=>[]) (fun _=>O) 19
  (fun i=>i≤l.length∧zau p (l.drop i) i=R) (fun i=>l.length-i) 0 ⟨Nat.zero_le _,hR⟩ ⟨rfl,rfl,rfl,rfl,rfl,trivial⟩ rfl trivial rfl rfl ?_
 rintro i ⟨hi,hno⟩ ih;clear hR;refine zai Tk Tryz.func104 ?_;refine zaf Tk Tryz.func104 rfl (fun g1=>?_) (fun g1=>?_)
 ·have h1:i<l.length:=by simpa using g1
  have gs:(l.map evtI)[(i:Int).toNat]? = some (evtI l[i]):=zal h1;have hps:=hp l[i] (List.getElem_mem h1);have hd:l.drop i=l[i]::l.drop (i+1):=List.drop_eq_getElem_cons h1;rw[hd] at hno;simp only[zau] at hno;clear hd;generalize l[i]=s at *;refine zah Tk Tryz.func104 (by exact⟨by omega,by show (i:Int)<(l.length:Int);omega⟩) ?_;refine zaq Tk Tryz.func104 (gs) ?_;refine zak Tk Tryz.func104 (hps) rfl rfl rfl rfl rfl ?_;refine zaf Tk Tryz.func104 rfl (fun g2=>?_) (fun g2=>?_)
  ·rw[if_pos g2] at hno;subst hno;refine zaj Tk (r:=ii (i:Int)) rfl rfl rfl trivial rfl rfl ?_;rfl
  ·have g2:p s=false:=g2;rw[if_neg (by rw[g2];decide)] at hno;refine zad ?_;exact ih (i+1) _ _ ⟨h1,hno⟩ (by omega) ⟨rfl,rfl,rfl,rfl,congrArg ii (zav h1 hl),trivial⟩ rfl trivial rfl rfl
 ·have h1:l.length≤i:=by simpa using g1
  rw[List.drop_eq_nil_of_le h1] at hno;have hno:(-1:Int)=R:=hno;subst hno;refine zaj Tk (r:=ii (-1)) rfl rfl rfl trivial rfl rfl ?_;rfl
theorem zwf (O:List Heap) (l:List Tpl) (f d nm:Nat) (p:Tpl→Bool) (hl:l.length≤zap) (hp:∀x∈l,zan Tryz.prog f [tplD x,.own (d+1) nm 0 0] ([]::O) (bb (p x)) [] ([]::O)) :
  zan Tryz.prog 106 [.i (.sl 9 l.length (l.map tplI)),.fn (.func f) [] [.own d nm 0 0]] O (ii (zau p l 0)) [] O:=by
 generalize hR:zau p l 0=R;refine zaa Tk Tryz.func106 rfl Tryz.call106 Tryz.ntmps106 (Nat.le_of_ble_eq_true rfl) fun E=>?_;refine zai Tk Tryz.func106 ?_;refine zad ?_;refine zag (fun i:Nat=>[(0,.i (.sl 9 l.length (l.map tplI))),(1,.fn (.func f) [] [.own (d+1) nm 0 0]),(6,.i (.sl 9 l.length (l.map tplI))),(7,ii l.length),(8,ii i)]) (fun _=>[]) (fun _=>O) 19
  (fun i=>i≤l.length∧zau p (l.drop i) i=R) (fun i=>l.length-i) 0 ⟨Nat.zero_le _,hR⟩ ⟨rfl,rfl,rfl,rfl,rfl,trivial⟩ rfl trivial rfl rfl ?_
 rintro i ⟨hi,hno⟩ ih;clear hR;refine zai Tk Tryz.func106 ?_;refine zaf Tk Tryz.func106 rfl (fun g1=>?_) (fun g1=>?_)
 ·have h1:i<l.length:=by simpa using g1
  have gs:(l.map tplI)[(i:Int).toNat]? = some (tplI l[i]):=zal h1;have hps:=hp l[i] (List.getElem_mem h1);have hd:l.drop i=l[i]::l.drop (i+1):=List.drop_eq_getElem_cons h1;rw[hd] at hno;simp only[zau] at hno;clear hd;generalize l[i]=s at *;refine zah Tk Tryz.func106 (by exact⟨by omega,by show (i:Int)<(l.length:Int);omega⟩) ?_;refine zaq Tk Tryz.func106 (gs) ?_;refine zak Tk Tryz.func106 (hps) rfl rfl rfl rfl rfl ?_;refine zaf Tk Tryz.func106 rfl (fun g2=>?_) (fun g2=>?_)
  ·rw[if_pos g2] at hno;subst hno;refine zaj Tk (r:=ii (i:Int)) rfl rfl rfl trivial rfl rfl ?_;rfl
  ·have g2:p s=false:=g2;rw[if_neg (by rw[g2];decide)] at hno;refine zad ?_;exact ih (i+1) _ _ ⟨h1,hno⟩ (by omega) ⟨rfl,rfl,rfl,rfl,congrArg ii (zav h1 hl),trivial⟩ rfl trivial rfl rfl
 ·have h1:l.length≤i:=by simpa using g1
  rw[List.drop_eq_nil_of_le h1] at hno;have hno:(-1:Int)=R:=hno;subst hno;refine zaj Tk (r:=ii (-1)) rfl rfl rfl trivial rfl rfl ?_;rfl
theorem zov (O:List Heap) (l:List Ins) (f d nm:Nat) (p:Ins→Bool) (hl:l.length≤zap) (hp:∀x∈l,zan Tryz.prog f [insD x,.own (d+1) nm 0 0] ([]::O) (bb (p x)) [] ([]::O)) :
  zan Tryz.prog 108 [.i (.sl 3 l.length (l.map insI)),.fn (.func f) [] [.own d nm 0 0]] O (ii (zau p l 0)) [] O:=by
 generalize hR:zau p l 0=R;refine zaa Tk Tryz.func108 rfl Tryz.call108 Tryz.ntmps108 (Nat.le_of_ble_eq_true rfl) fun E=>?_;refine zai Tk Tryz.func108 ?_;refine zad ?_;refine zag (fun i:Nat=>[(0,.i (.sl 3 l.length (l.map insI))),(1,.fn (.func f) [] [.own (d+1) nm 0 0]),(6,.i (.sl 3 l.length (l.map insI))),(7,ii l.length),(8,ii i)]) (fun _=>[]) (fun _=>O) 19
  (fun i=>i≤l.length∧zau p (l.drop i) i=R) (fun i=>l.length-i) 0 ⟨Nat.zero_le _,hR⟩ ⟨rfl,rfl,rfl,rfl,rfl,trivial⟩ rfl trivial rfl rfl ?_
 rintro i ⟨hi,hno⟩ ih;clear hR;refine zai Tk Tryz.func108 ?_;refine zaf Tk Tryz.func108 rfl (fun g1=>?_) (fun g1=>?_)
 ·have h1:i<l.length:=by simpa using g1
  have gs:(l.map insI)[(i:Int).toNat]? = some (insI l[i]):=zal h1;have hps:=hp l[i] (List.getElem_mem h1);have hd:l.drop i=l[i]::l.drop (i+1):=List.drop_eq_getElem_cons h1;rw[hd] at hno;simp only[zau] at hno;clear hd;generalize l[i]=s at *;refine zah Tk Tryz.func108 (by exact⟨by omega,by show (i:Int)<(l.length:Int);omega⟩) ?_;refine zaq Tk Tryz.func108 (gs) ?_;refine zak Tk Tryz.func108 (hps) rfl rfl rfl rfl rfl ?_;refine zaf Tk Tryz.func108 rfl (fun g2=>?_) (fun g2=>?_)
  ·rw[if_pos g2] at hno;subst hno;refine zaj Tk (r:=ii (i:Int)) rfl rfl rfl trivial rfl rfl ?_;rfl
  ·have g2:p s=false:=g2;rw[if_neg (by rw[g2];decide)] at hno;refine zad ?_;exact ih (i+1) _ _ ⟨h1,hno⟩ (by omega) ⟨rfl,rfl,rfl,rfl,congrArg ii (zav h1 hl),trivial⟩ rfl trivial rfl rfl
 ·have h1:l.length≤i:=by simpa using g1
  rw[List.drop_eq_nil_of_le h1] at hno;have hno:(-1:Int)=R:=hno;subst hno;refine zaj Tk (r:=ii (-1)) rfl rfl rfl trivial rfl rfl ?_;rfl
theorem zwe (O:List Heap) (l:List NEx) (f d nm:Nat) (p:NEx→Bool) (hl:l.length≤zap) (hp:∀x∈l,zan Tryz.prog f [nexD x,.own (d+1) nm 0 0] ([]::O) (bb (p x)) [] ([]::O)) :
  zan Tryz.prog 111 [.i (.sl 2 l.length (l.map nexI)),.fn (.func f) [] [.own d nm 0 0]] O (ii (zau p l 0)) [] O:=by
 generalize hR:zau p l 0=R;refine zaa Tk Tryz.func111 rfl Tryz.call111 Tryz.ntmps111 (Nat.le_of_ble_eq_true rfl) fun E=>?_;refine zai Tk Tryz.func111 ?_;refine zad ?_;refine zag (fun i:Nat=>[(0,.i (.sl 2 l.length (l.map nexI))),(1,.fn (.func f) [] [.own (d+1) nm 0 0]),(6,.i (.sl 2 l.length (l.map nexI))),(7,ii l.length),(8,ii i)]) (fun _=>[]) (fun _=>O) 19
  (fun i=>i≤l.length∧zau p (l.drop i) i=R) (fun i=>l.length-i) 0 ⟨Nat.zero_le _,hR⟩ ⟨rfl,rfl,rfl,rfl,rfl,trivial⟩ rfl trivial rfl rfl ?_
 rintro i ⟨hi,hno⟩ ih;clear hR;refine zai Tk Tryz.func111 ?_;refine zaf Tk Tryz.func111 rfl (fun g1=>?_) (fun g1=>?_)
 ·have h1:i<l.length:=by simpa using g1
  have gs:(l.map nexI)[(i:Int).toNat]? = some (nexI l[i]):=zal h1;have hps:=hp l[i] (List.getElem_mem h1);have hd:l.drop i=l[i]::l.drop (i+1):=List.drop_eq_getElem_cons h1;rw[hd] at hno;simp only[zau] at hno;clear hd;generalize l[i]=s at *;refine zah Tk Tryz.func111 (by exact⟨by omega,by show (i:Int)<(l.length:Int);omega⟩) ?_;refine zaq Tk Tryz.func111 (gs) ?_;refine zak Tk Tryz.func111 (hps) rfl rfl rfl rfl rfl ?_;refine zaf Tk Tryz.func111 rfl (fun g2=>?_) (fun g2=>?_)
  ·rw[if_pos g2] at hno;subst hno;refine zaj Tk (r:=ii (i:Int)) rfl rfl rfl trivial rfl rfl ?_;rfl
  ·have g2:p s=false:=g2;rw[if_neg (by rw[g2];decide)] at hno;refine zad ?_;exact ih (i+1) _ _ ⟨h1,hno⟩ (by omega) ⟨rfl,rfl,rfl,rfl,congrArg ii (zav h1 hl),trivial⟩ rfl trivial rfl rfl
 ·have h1:l.length≤i:=by simpa using g1
  rw[List.drop_eq_nil_of_le h1] at hno;have hno:(-1:Int)=R:=hno;subst hno;refine zaj Tk (r:=ii (-1)) rfl rfl rfl trivial rfl rfl ?_;rfl
theorem zwd (O:List Heap) (l:List NCn) (f d nm:Nat) (p:NCn→Bool) (hl:l.length≤zap) (hp:∀x∈l,zan Tryz.prog f [ncnD x,.own (d+1) nm 0 0] ([]::O) (bb (p x)) [] ([]::O)) :
  zan Tryz.prog 113 [.i (.sl 3 l.length (l.map ncnI)),.fn (.func f) [] [.own d nm 0 0]] O (ii (zau p l 0)) [] O:=by
 generalize hR:zau p l 0=R;refine zaa Tk Tryz.func113 rfl Tryz.call113 Tryz.ntmps113 (Nat.le_of_ble_eq_true rfl) fun E=>?_;refine zai Tk Tryz.func113 ?_;refine zad ?_;refine zag (fun i:Nat=>[(0,.i (.sl 3 l.length (l.map ncnI))),(1,.fn (.func f) [] [.own (d+1) nm 0 0]),(6,.i (.sl 3 l.length (l.map ncnI))),(7,ii l.length),(8,ii i)]) (fun _=>[]) (fun _=>O) 19
  (fun i=>i≤l.length∧zau p (l.drop i) i=R) (fun i=>l.length-i) 0 ⟨Nat.zero_le _,hR⟩ ⟨rfl,rfl,rfl,rfl,rfl,trivial⟩ rfl trivial rfl rfl ?_
 rintro i ⟨hi,hno⟩ ih;clear hR;refine zai Tk Tryz.func113 ?_;refine zaf Tk Tryz.func113 rfl (fun g1=>?_) (fun g1=>?_)
 ·have h1:i<l.length:=by simpa using g1
  have gs:(l.map ncnI)[(i:Int).toNat]? = some (ncnI l[i]):=zal h1;have hps:=hp l[i] (List.getElem_mem h1);have hd:l.drop i=l[i]::l.drop (i+1):=List.drop_eq_getElem_cons h1;rw[hd] at hno;simp only[zau] at hno;clear hd;generalize l[i]=s at *;refine zah Tk Tryz.func113 (by exact⟨by omega,by show (i:Int)<(l.length:Int);omega⟩) ?_;refine zaq Tk Tryz.func113 (gs) ?_;refine zak Tk Tryz.func113 (hps) rfl rfl rfl rfl rfl ?_;refine zaf Tk Tryz.func113 rfl (fun g2=>?_) (fun g2=>?_)
  ·rw[if_pos g2] at hno;subst hno;refine zaj Tk (r:=ii (i:Int)) rfl rfl rfl trivial rfl rfl ?_;rfl
  ·have g2:p s=false:=g2;rw[if_neg (by rw[g2];decide)] at hno;refine zad ?_;exact ih (i+1) _ _ ⟨h1,hno⟩ (by omega) ⟨rfl,rfl,rfl,rfl,congrArg ii (zav h1 hl),trivial⟩ rfl trivial rfl rfl
 ·have h1:l.length≤i:=by simpa using g1
  rw[List.drop_eq_nil_of_le h1] at hno;have hno:(-1:Int)=R:=hno;subst hno;refine zaj Tk (r:=ii (-1)) rfl rfl rfl trivial rfl rfl ?_;rfl
theorem zwa (O:List Heap) (l:List NLc) (f d nm:Nat) (p:NLc→Bool) (hl:l.length≤zap) (hp:∀x∈l,zan Tryz.prog f [nlcD x,.own (d+1) nm 0 0] ([]::O) (bb (p x)) [] ([]::O)) :
  zan Tryz.prog 224 [.i (.sl 2 l.length (l.map nlcI)),.fn (.func f) [] [.own d nm 0 0]] O (ii (zau p l 0)) [] O:=by
 generalize hR:zau p l 0=R;refine zaa Tk Tryz.func224 rfl Tryz.call224 Tryz.ntmps224 (Nat.le_of_ble_eq_true rfl) fun E=>?_;refine zai Tk Tryz.func224 ?_;refine zad ?_;refine zag (fun i:Nat=>[(0,.i (.sl 2 l.length (l.map nlcI))),(1,.fn (.func f) [] [.own (d+1) nm 0 0]),(6,.i (.sl 2 l.length (l.map nlcI))),(7,ii l.length),(8,ii i)]) (fun _=>[]) (fun _=>O) 19
  (fun i=>i≤l.length∧zau p (l.drop i) i=R) (fun i=>l.length-i) 0 ⟨Nat.zero_le _,hR⟩ ⟨rfl,rfl,rfl,rfl,rfl,trivial⟩ rfl trivial rfl rfl ?_
 rintro i ⟨hi,hno⟩ ih;clear hR;refine zai Tk Tryz.func224 ?_;refine zaf Tk Tryz.func224 rfl (fun g1=>?_) (fun g1=>?_)
 ·have h1:i<l.length:=by simpa using g1
  have gs:(l.map nlcI)[(i:Int).toNat]? = some (nlcI l[i]):=zal h1;have hps:=hp l[i] (List.getElem_mem h1);have hd:l.drop i=l[i]::l.drop (i+1):=List.drop_eq_getElem_cons h1;rw[hd] at hno;simp only[zau] at hno;clear hd;generalize l[i]=s at *;refine zah Tk Tryz.func224 (by exact⟨by omega,by show (i:Int)<(l.length:Int);omega⟩) ?_;refine zaq Tk Tryz.func224 (gs) ?_;refine zak Tk Tryz.func224 (hps) rfl rfl rfl rfl rfl ?_;refine zaf Tk Tryz.func224 rfl (fun g2=>?_) (fun g2=>?_)
  ·rw[if_pos g2] at hno;subst hno;refine zaj Tk (r:=ii (i:Int)) rfl rfl rfl trivial rfl rfl ?_;rfl
  ·have g2:p s=false:=g2;rw[if_neg (by rw[g2];decide)] at hno;refine zad ?_;exact ih (i+1) _ _ ⟨h1,hno⟩ (by omega) ⟨rfl,rfl,rfl,rfl,congrArg ii (zav h1 hl),trivial⟩ rfl trivial rfl rfl
 ·have h1:l.length≤i:=by simpa using g1
  rw[List.drop_eq_nil_of_le h1] at hno;have hno:(-1:Int)=R:=hno;subst hno;refine zaj Tk (r:=ii (-1)) rfl rfl rfl trivial rfl rfl ?_;rfl
theorem zwc (O:List Heap) (l:List ByteArray) (f d nm:Nat) (p:ByteArray→Bool) (hl:l.length≤zap) (hp:∀x∈l,zan Tryz.prog f [sD x,.own (d+1) nm 0 0] ([]::O) (bb (p x)) [] ([]::O)) :
  zan Tryz.prog 163 [.i (.sl 1 l.length (l.map (fun s=>[strI s]))),.fn (.func f) [] [.own d nm 0 0]] O (ii (zau p l 0)) [] O:=by
 generalize hR:zau p l 0=R;refine zaa Tk Tryz.func163 rfl Tryz.call163 Tryz.ntmps163 (Nat.le_of_ble_eq_true rfl) fun E=>?_;refine zai Tk Tryz.func163 ?_;refine zad ?_;refine zag (fun i:Nat=>[(0,.i (.sl 1 l.length (l.map (fun s=>[strI s])))),(1,.fn (.func f) [] [.own (d+1) nm 0 0]),(6,.i (.sl 1 l.length (l.map (fun s=>[strI s])))),(7,ii l.length),(8,ii i)]) (fun _=>[]) (fun _=>O) 19
  (fun i=>i≤l.length∧zau p (l.drop i) i=R) (fun i=>l.length-i) 0 ⟨Nat.zero_le _,hR⟩ ⟨rfl,rfl,rfl,rfl,rfl,trivial⟩ rfl trivial rfl rfl ?_
 rintro i ⟨hi,hno⟩ ih;clear hR;refine zai Tk Tryz.func163 ?_;refine zaf Tk Tryz.func163 rfl (fun g1=>?_) (fun g1=>?_)
 ·have h1:i<l.length:=by simpa using g1
  have gs:(l.map (fun s=>[strI s]))[(i:Int).toNat]? = some ((fun s=>[strI s]) l[i]):=zal h1;have hps:=hp l[i] (List.getElem_mem h1);have hd:l.drop i=l[i]::l.drop (i+1):=List.drop_eq_getElem_cons h1;rw[hd] at hno;simp only[zau] at hno;clear hd;generalize l[i]=s at *;refine zah Tk Tryz.func163 (by exact⟨by omega,by show (i:Int)<(l.length:Int);omega⟩) ?_;refine zaq Tk Tryz.func163 (gs) ?_;refine zak Tk Tryz.func163 (hps) rfl rfl rfl rfl rfl ?_;refine zaf Tk Tryz.func163 rfl (fun g2=>?_) (fun g2=>?_)
  ·rw[if_pos g2] at hno;subst hno;refine zaj Tk (r:=ii (i:Int)) rfl rfl rfl trivial rfl rfl ?_;rfl
  ·have g2:p s=false:=g2;rw[if_neg (by rw[g2];decide)] at hno;refine zad ?_;exact ih (i+1) _ _ ⟨h1,hno⟩ (by omega) ⟨rfl,rfl,rfl,rfl,congrArg ii (zav h1 hl),trivial⟩ rfl trivial rfl rfl
 ·have h1:l.length≤i:=by simpa using g1
  rw[List.drop_eq_nil_of_le h1] at hno;have hno:(-1:Int)=R:=hno;subst hno;refine zaj Tk (r:=ii (-1)) rfl rfl rfl trivial rfl rfl ?_;rfl
theorem zv9 (O:List Heap) (l:List NTm) (f d nm:Nat) (p:NTm→Bool) (hl:l.length≤zap) (hp:∀x∈l,zan Tryz.prog f [ntmD x,.own (d+1) nm 0 0] ([]::O) (bb (p x)) [] ([]::O)) :
  zan Tryz.prog 225 [.i (.sl 2 l.length (l.map ntmI)),.fn (.func f) [] [.own d nm 0 0]] O (ii (zau p l 0)) [] O:=by
 generalize hR:zau p l 0=R;refine zaa Tk Tryz.func225 rfl Tryz.call225 Tryz.ntmps225 (Nat.le_of_ble_eq_true rfl) fun E=>?_;refine zai Tk Tryz.func225 ?_;refine zad ?_;refine zag (fun i:Nat=>[(0,.i (.sl 2 l.length (l.map ntmI))),(1,.fn (.func f) [] [.own (d+1) nm 0 0]),(6,.i (.sl 2 l.length (l.map ntmI))),(7,ii l.length),(8,ii i)]) (fun _=>[]) (fun _=>O) 19
  (fun i=>i≤l.length∧zau p (l.drop i) i=R) (fun i=>l.length-i) 0 ⟨Nat.zero_le _,hR⟩ ⟨rfl,rfl,rfl,rfl,rfl,trivial⟩ rfl trivial rfl rfl ?_
 rintro i ⟨hi,hno⟩ ih;clear hR;refine zai Tk Tryz.func225 ?_;refine zaf Tk Tryz.func225 rfl (fun g1=>?_) (fun g1=>?_)
 ·have h1:i<l.length:=by simpa using g1
  have gs:(l.map ntmI)[(i:Int).toNat]? = some (ntmI l[i]):=zal h1;have hps:=hp l[i] (List.getElem_mem h1);have hd:l.drop i=l[i]::l.drop (i+1):=List.drop_eq_getElem_cons h1;rw[hd] at hno;simp only[zau] at hno;clear hd;generalize l[i]=s at *;refine zah Tk Tryz.func225 (by exact⟨by omega,by show (i:Int)<(l.length:Int);omega⟩) ?_;refine zaq Tk Tryz.func225 (gs) ?_;refine zak Tk Tryz.func225 (hps) rfl rfl rfl rfl rfl ?_;refine zaf Tk Tryz.func225 rfl (fun g2=>?_) (fun g2=>?_)
  ·rw[if_pos g2] at hno;subst hno;refine zaj Tk (r:=ii (i:Int)) rfl rfl rfl trivial rfl rfl ?_;rfl
  ·have g2:p s=false:=g2;rw[if_neg (by rw[g2];decide)] at hno;refine zad ?_;exact ih (i+1) _ _ ⟨h1,hno⟩ (by omega) ⟨rfl,rfl,rfl,rfl,congrArg ii (zav h1 hl),trivial⟩ rfl trivial rfl rfl
 ·have h1:l.length≤i:=by simpa using g1
  rw[List.drop_eq_nil_of_le h1] at hno;have hno:(-1:Int)=R:=hno;subst hno;refine zaj Tk (r:=ii (-1)) rfl rfl rfl trivial rfl rfl ?_;rfl
theorem zmt (O:List Heap) (l:List NLc) (f d nm:Nat) (p:NLc→Bool) (hl:l.length≤zap) (hp:∀x∈l,zan Tryz.prog f [nlcD x,.own (d+2) nm 0 0] ([]::[]::O) (bb (p x)) [] ([]::[]::O)) :
  zan Tryz.prog 165 [.i (.sl 2 l.length (l.map nlcI)),.fn (.func f) [] [.own d nm 0 0]] O (bb (l.any p)) [] O:=by
 have h:=fun O hp=>zwa O l f (d+1) nm p hl hp;rw[←zbr p l 0];generalize zau p l 0=R at *;refine zaa Tk Tryz.func165 rfl Tryz.call165 Tryz.ntmps165 (Nat.le_of_ble_eq_true rfl) fun E=>?_;refine zai Tk Tryz.func165 ?_;refine zak Tk Tryz.func165 (h _ hp) rfl rfl rfl rfl rfl ?_;refine zaj Tk (r:=bb (decide (R≥0))) rfl rfl rfl trivial rfl rfl ?_;rfl
theorem zms (O:List Heap) (l:List NTm) (f d nm:Nat) (p:NTm→Bool) (hl:l.length≤zap) (hp:∀x∈l,zan Tryz.prog f [ntmD x,.own (d+2) nm 0 0] ([]::[]::O) (bb (p x)) [] ([]::[]::O)) :
  zan Tryz.prog 168 [.i (.sl 2 l.length (l.map ntmI)),.fn (.func f) [] [.own d nm 0 0]] O (bb (l.any p)) [] O:=by
 have h:=fun O hp=>zv9 O l f (d+1) nm p hl hp;rw[←zbr p l 0];generalize zau p l 0=R at *;refine zaa Tk Tryz.func168 rfl Tryz.call168 Tryz.ntmps168 (Nat.le_of_ble_eq_true rfl) fun E=>?_;refine zai Tk Tryz.func168 ?_;refine zak Tk Tryz.func168 (h _ hp) rfl rfl rfl rfl rfl ?_;refine zaj Tk (r:=bb (decide (R≥0))) rfl rfl rfl trivial rfl rfl ?_;rfl
theorem zmv (O:List Heap) (l:List ByteArray) (f d nm:Nat) (p:ByteArray→Bool) (hl:l.length≤zap) (hp:∀x∈l,zan Tryz.prog f [sD x,.own (d+2) nm 0 0] ([]::[]::O) (bb (p x)) [] ([]::[]::O)) :
  zan Tryz.prog 122 [.i (.sl 1 l.length (l.map (fun s=>[strI s]))),.fn (.func f) [] [.own d nm 0 0]] O (bb (l.any p)) [] O:=by
 have h:=fun O hp=>zwc O l f (d+1) nm p hl hp;rw[←zbr p l 0];generalize zau p l 0=R at *;refine zaa Tk Tryz.func122 rfl Tryz.call122 Tryz.ntmps122 (Nat.le_of_ble_eq_true rfl) fun E=>?_;refine zai Tk Tryz.func122 ?_;refine zak Tk Tryz.func122 (h _ hp) rfl rfl rfl rfl rfl ?_;refine zaj Tk (r:=bb (decide (R≥0))) rfl rfl rfl trivial rfl rfl ?_;rfl
theorem zxY (O:List Heap) (x:Evt) (s:ByteArray) (d nm:Nat) (ho:zab O d nm=some (.box [sD s])):zan Tryz.prog 105 [evtD x,.own d nm 0 0] O (bb (sB x.name s)) [] O:=by
 rw[←zaV];refine zaa Tk Tryz.func105 rfl Tryz.call105 Tryz.ntmps105 (Nat.le_of_ble_eq_true rfl) fun E=>?_;refine zai Tk Tryz.func105 ?_;refine zbm Tk Tryz.func105 (ho) ?_;refine zaj Tk (r:=bb (x.name.toList==s.toList)) rfl rfl rfl trivial rfl rfl ?_;rfl
theorem zxX (O:List Heap) (x:Tpl) (s:ByteArray) (d nm:Nat) (ho:zab O d nm=some (.box [sD s])):zan Tryz.prog 107 [tplD x,.own d nm 0 0] O (bb (sB x.name s)) [] O:=by
 rw[←zaV];refine zaa Tk Tryz.func107 rfl Tryz.call107 Tryz.ntmps107 (Nat.le_of_ble_eq_true rfl) fun E=>?_;refine zai Tk Tryz.func107 ?_;refine zbm Tk Tryz.func107 (ho) ?_;refine zaj Tk (r:=bb (x.name.toList==s.toList)) rfl rfl rfl trivial rfl rfl ?_;rfl
theorem zxW (O:List Heap) (x:Ins) (s:ByteArray) (d nm:Nat) (ho:zab O d nm=some (.box [sD s])):zan Tryz.prog 109 [insD x,.own d nm 0 0] O (bb (sB x.name s)) [] O:=by
 rw[←zaV];refine zaa Tk Tryz.func109 rfl Tryz.call109 Tryz.ntmps109 (Nat.le_of_ble_eq_true rfl) fun E=>?_;refine zai Tk Tryz.func109 ?_;refine zbm Tk Tryz.func109 (ho) ?_;refine zaj Tk (r:=bb (x.name.toList==s.toList)) rfl rfl rfl trivial rfl rfl ?_;rfl
theorem zxV (O:List Heap) (x:Ins) (s:ByteArray) (d nm:Nat) (ho:zab O d nm=some (.box [sD s])):zan Tryz.prog 110 [insD x,.own d nm 0 0] O (bb (sB x.name s)) [] O:=by
 rw[←zaV];refine zaa Tk Tryz.func110 rfl Tryz.call110 Tryz.ntmps110 (Nat.le_of_ble_eq_true rfl) fun E=>?_;refine zai Tk Tryz.func110 ?_;refine zbm Tk Tryz.func110 (ho) ?_;refine zaj Tk (r:=bb (x.name.toList==s.toList)) rfl rfl rfl trivial rfl rfl ?_;rfl
theorem zxU (O:List Heap) (x:NEx) (s:ByteArray) (d nm:Nat) (ho:zab O d nm=some (.box [sD s])):zan Tryz.prog 112 [nexD x,.own d nm 0 0] O (bb (sB x.name s)) [] O:=by
 rw[←zaV];refine zaa Tk Tryz.func112 rfl Tryz.call112 Tryz.ntmps112 (Nat.le_of_ble_eq_true rfl) fun E=>?_;refine zai Tk Tryz.func112 ?_;refine zbm Tk Tryz.func112 (ho) ?_;refine zaj Tk (r:=bb (x.name.toList==s.toList)) rfl rfl rfl trivial rfl rfl ?_;rfl
theorem zxT (O:List Heap) (x:NCn) (s:ByteArray) (d nm:Nat) (ho:zab O d nm=some (.box [sD s])):zan Tryz.prog 114 [ncnD x,.own d nm 0 0] O (bb (sB x.name s)) [] O:=by
 rw[←zaV];refine zaa Tk Tryz.func114 rfl Tryz.call114 Tryz.ntmps114 (Nat.le_of_ble_eq_true rfl) fun E=>?_;refine zai Tk Tryz.func114 ?_;refine zbm Tk Tryz.func114 (ho) ?_;refine zaj Tk (r:=bb (x.name.toList==s.toList)) rfl rfl rfl trivial rfl rfl ?_;rfl
theorem zxS (O:List Heap) (x:NLc) (s:ByteArray) (s2:ByteArray) (d nm:Nat) (ho:zab O d nm=some (.box [sD s,sD s2])):zan Tryz.prog 166 [nlcD x,.own d nm 0 0] O (bb (sB x.1 s)) [] O:=by
 rw[←zaV];refine zaa Tk Tryz.func166 rfl Tryz.call166 Tryz.ntmps166 (Nat.le_of_ble_eq_true rfl) fun E=>?_;refine zai Tk Tryz.func166 ?_;refine zbm Tk Tryz.func166 (ho) ?_;refine zaj Tk (r:=bb (x.1.toList==s.toList)) rfl rfl rfl trivial rfl rfl ?_;rfl
theorem zxR (O:List Heap) (x:NTm) (s:ByteArray) (s2:Int) (d nm:Nat) (ho:zab O d nm=some (.box [sD s,ii s2])):zan Tryz.prog 169 [ntmD x,.own d nm 0 0] O (bb (sB x.1 s)) [] O:=by
 rw[←zaV];refine zaa Tk Tryz.func169 rfl Tryz.call169 Tryz.ntmps169 (Nat.le_of_ble_eq_true rfl) fun E=>?_;refine zai Tk Tryz.func169 ?_;refine zbm Tk Tryz.func169 (ho) ?_;refine zaj Tk (r:=bb (x.1.toList==s.toList)) rfl rfl rfl trivial rfl rfl ?_;rfl
theorem zou (O:List Heap) (l:List ByteArray) (s:ByteArray) (hl:l.length≤zap):zan Tryz.prog 164 [ssD l,sD s] O (ii (nmIx l s)) [] O:=by
 have e:nmIx l s=zau (fun x=>s.toList==x.toList) l 0:=by
  unfold nmIx;congr 1;funext x;rw[zaV,zxZ]
 rw[e];generalize hR:zau (fun x=>s.toList==x.toList) l 0=R;refine zaa Tk Tryz.func164 rfl Tryz.call164 Tryz.ntmps164 (Nat.le_of_ble_eq_true rfl) fun E=>?_;refine zai Tk Tryz.func164 ?_;refine zad ?_;refine zag (fun i:Nat=>[(0,ssD l),(1,sD s),(6,ssD l),(7,ii l.length),(8,ii i)]) (fun _=>[]) (fun _=>O) 19
  (fun i=>i≤l.length∧zau (fun x=>s.toList==x.toList) (l.drop i) i=R) (fun i=>l.length-i) 0 ⟨Nat.zero_le _,hR⟩ ⟨rfl,rfl,rfl,rfl,rfl,trivial⟩ rfl trivial rfl rfl ?_
 rintro i ⟨hi,hno⟩ ih;clear hR;refine zai Tk Tryz.func164 ?_;refine zaf Tk Tryz.func164 rfl (fun g1=>?_) (fun g1=>?_)
 ·have h1:i<l.length:=by simpa using g1
  have gs:(l.map fun s=>[strI s])[(i:Int).toNat]? = some [strI l[i]]:=zal (f:=fun s=>[strI s]) h1;have hd:l.drop i=l[i]::l.drop (i+1):=List.drop_eq_getElem_cons h1;rw[hd] at hno;simp only[zau] at hno;clear hd;generalize l[i]=x at *;refine zah Tk Tryz.func164 (by exact⟨by omega,by show (i:Int)<(l.length:Int);omega⟩) ?_;refine zaq Tk Tryz.func164 (gs) ?_;refine zaf Tk Tryz.func164 rfl (fun g2=>?_) (fun g2=>?_)
  ·have g2:(s.toList==x.toList)=true:=g2;rw[if_pos g2] at hno;subst hno;refine zaj Tk (r:=ii (i:Int)) rfl rfl rfl trivial rfl rfl ?_;rfl
  ·have g2:(s.toList==x.toList)=false:=g2;rw[if_neg (by rw[g2];decide)] at hno;refine zad ?_;exact ih (i+1) _ _ ⟨h1,hno⟩ (by omega) ⟨rfl,rfl,rfl,rfl,congrArg ii (zav h1 hl),trivial⟩ rfl trivial rfl rfl
 ·have h1:l.length≤i:=by simpa using g1
  rw[List.drop_eq_nil_of_le h1] at hno;have hno:(-1:Int)=R:=hno;subst hno;refine zaj Tk (r:=ii (-1)) rfl rfl rfl trivial rfl rfl ?_;rfl
theorem zcm (O:List Heap) (l:List ByteArray) (s:ByteArray) (hl:l.length≤zap):zan Tryz.prog 124 [ssD l,sD s] O (bb (hasB l s)) [] O:=by
 have h:=fun O=>zou O l s hl;have e:hasB l s=decide (nmIx l s≥0):=(zbr (fun x=>sB x s) l 0).symm;rw[e];generalize nmIx l s=R at *;refine zaa Tk Tryz.func124 rfl Tryz.call124 Tryz.ntmps124 (Nat.le_of_ble_eq_true rfl) fun E=>?_;refine zai Tk Tryz.func124 ?_;refine zak Tk Tryz.func124 (h _) rfl rfl rfl rfl rfl ?_;refine zaj Tk (r:=bb (decide (R≥0))) rfl rfl rfl trivial rfl rfl ?_;rfl
end Go.AI
