/- The layer of abstract runs, part 24. -/
import Derived.Test.YtnojpbbaohoadaaGreatDoorElkW
import Derived.Laws.Strings
import Derived.KernelRfl
set_option linter.unusedSimpArgs false
set_option linter.unusedVariables false
set_option linter.all false
set_option maxHeartbeats 4000000
namespace Go.AI
open Go.Proofs
set_option maxRecDepth 20000
structure Lin where
 a0:Int
 a1:Int
 a2:Int
 g:List Int
 u:List Int
abbrev linI (x:Lin):List I:=[.v (.int .u8 x.a0),.v (.int .u8 x.a1),.v (.int .u8 x.a2),.sl 1 x.g.length (x.g.map u8I),.sl 1 x.u.length (x.u.map u8I)]
structure Sk where
 locs:Int
 marks:Int
 rngs:List (Int×Int)
 lines:List Lin
abbrev zg6 (l:List Lin):D:=.i (.sl 5 l.length (l.map linI))
abbrev u8Dd (b:Int):D:=.i (.v (.int .u8 b))
abbrev skC (k:Sk):List D:=[u8Dd k.locs,u8Dd k.marks,r8s k.rngs,zg6 k.lines]
abbrev skD (k:Sk):D:=.agg (skC k)
structure linOk (x:Lin):Prop where
 a0:0≤x.a0∧x.a0≤255
 a1:0≤x.a1∧x.a1≤255
 a2:0≤x.a2∧x.a2≤255
 g:zcC x.g
 gl:x.g.length≤zar
 u:zcC x.u
 ul:x.u.length≤zar
structure skOk (k:Sk):Prop where
 locs:0≤k.locs∧k.locs≤255
 marks:0≤k.marks∧k.marks≤255
 rl:k.rngs.length≤zar
 r:∀p∈k.rngs,zfU p
 ll:k.lines.length≤zar
 l:∀x∈k.lines,linOk x
def mrkG (marks:Int) (i:Nat):Bool:=bits .and .u8 (marks/2 ^ (i:Int).toNat) 1==1
def mrks (marks:Int) (n:Nat):List Int:=((List.range n).filter (mrkG marks)).map fun (i:Nat)=>(i:Int)
def gtMv (x y:Mv):Bool:=decide (x.frm>y.frm∨(x.frm=y.frm∧x.ev>y.ev))
def posR (l:List Mv) (y:Mv):Nat→Nat
 |0=>0
 |n+1=>match l[n]? with
  |some x=>bif gtMv x y then posR l y n else n+1
  |none=>0
def ziX (l:List Mv) (y:Mv):List Mv:=l.take (posR l y l.length)++y::l.drop (posR l y l.length)
def zfW (n:Int) (g:List Int):Ex:=if g.length>0 then zhg n false (g.take 12) else trueE
def zjw (n:Int) (u:List Int):List Upd:=if u.length>0∧n>0 then [⟨b0 u%n,zhg n true ((u.take 12).drop 1)⟩] else []
def mvOf (locs n:Int) (x:Lin):Mv:=⟨x.a0%locs,x.a1%3,x.a2%locs,zfW n x.g,zjw n x.u⟩
def zcV (k:Sk):Nat:=1+(k.locs%4).toNat
def mvsL (locs n:Int) (l:List Lin) (i:Nat):List Mv:=(l.take i).foldl (fun acc x=>ziX acc (mvOf locs n x)) []
def ziT (k:Sk):Ext:=⟨[0,1,2],zcV k,0,mrks k.marks (zcV k),zdE (k.rngs.take 2),mvsL (zcV k) (zdE (k.rngs.take 2)).length k.lines (min k.lines.length 8)⟩
theorem zrJ (l:List Mv) (y:Mv):∀n,posR l y n≤n
 |0=>Nat.le_refl _
 |n+1=>by
  simp only[posR]
  split
  ·rename_i x _
   cases gtMv x y with
   |true=>exact Nat.le_succ_of_le (zrJ l y n)
   |false=>exact Nat.le_refl _
  ·omega
theorem zsr (l:List Mv) (y:Mv):(ziX l y).length=l.length+1:=by
 have:=zrJ l y l.length;simp only[ziX,List.length_append,List.length_take,List.length_cons,List.length_drop];omega
theorem zgX {locs n:Int} {l:List Lin} {i:Nat} (h:i<l.length):mvsL locs n l (i+1)=ziX (mvsL locs n l i) (mvOf locs n l[i]):=by
 unfold mvsL;rw[List.take_add_one,List.getElem?_eq_getElem h,List.foldl_append];rfl
theorem ziP {locs n:Int} {l:List Lin}:∀{i:Nat},i≤l.length→(mvsL locs n l i).length=i
 |0,_=>by simp[mvsL]
 |i+1,h=>by rw[zgX h,zsr,ziP (by omega)]
theorem zgJ (l:List (Int×Int)):(zdE l).length=min l.length 3:=by simp[zdE]
theorem zr6 (marks:Int) (i:Nat):mrks marks (i+1)=mrks marks i++(bif mrkG marks i then [(i:Int)] else []):=by
 unfold mrks;rw[List.range_succ,List.filter_append,List.map_append];congr 1
 cases h:mrkG marks i<;>simp[h]
theorem znA (marks:Int) (n:Nat):(mrks marks n).length≤n:=by
 unfold mrks;rw[List.length_map];exact Nat.le_trans (List.length_filter_le _ _) (by simp)
theorem zxl (n m:Nat):(if (n:Int)<(m:Int) then (n:Int) else (m:Int)).toNat=min m n:=by split<;>omega
theorem zn7 (l:List Int) (n:Nat) {N:Int} (hN:N=(n:Int)):D.i (.sl 1 (if N<(l.length:Int) then N else (l.length:Int)).toNat ((l.map u8I).take (if N<(l.length:Int) then N else (l.length:Int)).toNat))=byts (l.take n):=by
 subst hN;rw[zxl,←List.map_take];have:l.take (min l.length n)=l.take n:=by rw[List.take_eq_take_iff];omega
 rw[this,show min l.length n=(l.take n).length by simp only[List.length_take];omega]
theorem ztj (l:List Int) (n:Nat) {N A:Int} (hN:N=(n:Int)) (hA:A=1):D.i (.sl 1 ((if N<(l.length:Int) then N else (l.length:Int)).toNat-A.toNat) (((l.map u8I).take (if N<(l.length:Int) then N else (l.length:Int)).toNat).drop A.toNat))=byts ((l.take n).drop 1):=by
 subst hN hA;have:=zn7 l n (N:=(n:Int)) rfl;simp only[D.i.injEq,I.sl.injEq,true_and] at this;rw[this.2,this.1,←List.map_drop];congr 2;simp
theorem zyE (O:List Heap) (k:Sk) (hk:skOk k):zao Tryz.prog 43 [skD k] O (extD (ziT k)) [] O:=by
 obtain⟨kl,km,kr,kx⟩:=k;obtain⟨hloc,hmk,hrl,hr,hll,hx⟩:=hk;simp only at hloc hmk hrl hr hll hx;show zao Tryz.prog 43 [.agg [u8Dd kl,u8Dd km,r8s kr,zg6 kx]] O (extD (ziT ⟨kl,km,kr,kx⟩)) [] O;have hrg:=fun O=>zuQ O (kr.take 2) (Nat.le_trans (List.length_take_le _ _) (by decide)) (fun p hp=>hr p (List.mem_of_mem_take hp));have hvl:(zdE (kr.take 2)).length≤2:=by
  rw[zgJ,List.length_take];omega
 have hlo:IntKind.i64.wrap (1+IntKind.i64.wrap (kl.tmod 4))=((1+(kl%4).toNat:Nat):Int):=by
  rw[Int.tmod_eq_emod_of_nonneg hloc.1,w64 (n:=kl%4) (by omega) (by omega),w64 (by omega) (by omega)];omega
 generalize hR:ziT ⟨kl,km,kr,kx⟩=R;unfold ziT at hR;simp only[zcV] at hR;have hL1:1≤1+(kl%4).toNat∧1+(kl%4).toNat≤4:=by omega
 generalize 1+(kl%4).toNat=L at *;have hmin:(if (2:Int)<kr.length then (2:Int) else kr.length).toNat=(kr.take 2).length:=by
  simp only[List.length_take]
  split<;>omega
 have htk:(kr.map r8I).take (if (2:Int)<kr.length then (2:Int) else kr.length).toNat=(kr.take 2).map r8I:=by
  rw[hmin,List.map_take,List.take_eq_take_iff];simp
 have hobj:D.i (.sl 2 (if (2:Int)<kr.length then (2:Int) else kr.length).toNat ((kr.map r8I).take (if (2:Int)<kr.length then (2:Int) else kr.length).toNat))=r8s (kr.take 2):=by
  rw[htk,hmin]
 rw[←hobj] at hrg;clear hobj hmin htk;generalize zdE (kr.take 2)=V at *;refine zaM [13,15,17,20] Tk Tryz.func43 rfl Tryz.call43 Tryz.ntmps43 (Nat.le_of_ble_eq_true rfl) fun E=>?_;refine zai Tk Tryz.func43 ?_;refine zav Tk Tryz.func43 zaz rfl ?_;refine zas Tk (by decide) ?_;refine zas Tk (by split<;>omega) ?_;refine zaJ Tk (fun _=>hrg _) rfl rfl rfl ?_;refine zdc Tk rfl rfl rfl ?_;refine zaB Tk Tryz.func43 (by kernel_rfl) ?_;refine zah ?_;refine zau (l:=[(1,.own 0 1 0 0),(2,.own 0 2 0 0),(3,.own 0 3 0 0),(4,ii 0)]) (Hv:=[(1,.box ([u8Dd kl,u8Dd km,r8s kr,zg6 kx])),(2,.box [.i (.v (.slice none 0 0)),ii 0,ii 0,.i (.v (.slice none 0 0)),.i (.v (.slice none 0 0)),.i (.v (.slice none 0 0))]),(3,.box [ints [0,1,2],ii L,ii 0,.i (.v (.slice none 0 0)),vrs V,.i (.v (.slice none 0 0))])]) (n:=182) ?_ ⟨rfl,rfl,rfl,rfl,trivial⟩ rfl ⟨rfl,rfl,by rw[←hlo];rfl,trivial⟩ rfl rfl
 refine zaq (zaL 3 41 3 1 (pre:=[ints [0,1,2],ii L,ii 0]) (post:=[vrs V,.i (.v (.slice none 0 0))]) rfl rfl rfl) ?_;refine zak (fun i:Nat=>[(1,.own 0 1 0 0),(2,.own 0 2 0 0),(3,.own 0 3 0 0),(4,ii i)]) (fun i=>[(1,.box ([u8Dd kl,u8Dd km,r8s kr,zg6 kx])),(2,.box [.i (.v (.slice none 0 0)),ii 0,ii 0,.i (.v (.slice none 0 0)),.i (.v (.slice none 0 0)),.i (.v (.slice none 0 0))]),(3,.box [ints [0,1,2],ii L,ii 0,.osl 0 41,vrs V,.i (.v (.slice none 0 0))]),(41,zb7 (mrks km i))]) (fun _=>O) 182
  (fun i=>i≤L) (fun i=>L-i) 0 (Nat.zero_le _) ⟨rfl,rfl,rfl,rfl,trivial⟩ rfl ⟨rfl,rfl,rfl,rfl,trivial⟩ rfl rfl ?_
 intro i hi ih;have hms:=zr6 km i;have hml:=znA km i;have hend:i=L→mrks km i=mrks km L:=fun e=>by rw[e]
 generalize mrks km i=M at *;refine zai Tk Tryz.func43 ?_;refine zae Tk Tryz.func43 rfl (fun h1=>?_) (fun h1=>?_)
 ·have h1:i<L:=by have:=of_decide_eq_true h1;omega
  generalize hq:mrkG km i=q at *;unfold mrkG at hq;refine zad Tk Tryz.func43 (by exact⟨by omega,by show (i:Int)≤8;omega⟩) ?_;refine zae Tk Tryz.func43 rfl (fun h2=>?_) (fun h2=>?_)
  ·have h2:q=true:=by rw[←hq];exact h2
   subst h2;refine zad Tk Tryz.func43 (by exact⟨by show (M.length+1)*8≤140737488355328;omega,by show M.length+1≤9223372036854775807;omega⟩) ?_;refine zah ?_;refine ih (i+1) _ _ (by omega) (by omega) ⟨rfl,rfl,rfl,congrArg ii (zaC (n:=4) (by omega) (by decide)),trivial⟩ rfl ⟨rfl,rfl,rfl,?_,trivial⟩ rfl rfl;rw[hms];exact congrArg some (zcM M i)
  ·have h2:q=false:=by rw[←hq];exact h2
   subst h2;refine zah ?_;refine ih (i+1) _ _ (by omega) (by omega) ⟨rfl,rfl,rfl,congrArg ii (zaC (n:=4) (by omega) (by decide)),trivial⟩ rfl ⟨rfl,rfl,rfl,?_,trivial⟩ rfl rfl;rw[hms];show some (zb7 M)=some (zb7 (M++[]));rw[List.append_nil]
 ·have h1:i=L:=by have:=of_decide_eq_false h1;omega
  have hend:=hend h1;clear ih hms;refine zah ?_;refine zaq (zam 41 rfl rfl) ?_;refine zaq (zaL 3 179 187 8 (pre:=[ints [0,1,2],ii L,ii 0,.osl 0 41,vrs V]) (post:=[]) rfl rfl rfl) ?_;refine zaq (zam 179 rfl rfl) ?_;refine zaq (zaQ rfl) ?_;rw[hend] at *;clear hend hml h1 hi;generalize mrks km L=M at *;refine zak (fun i:Nat=>[(1,.own 0 1 0 0),(2,.own 0 2 0 0),(3,.own 0 3 0 0),(5,ii V.length),(6,ii i)]) (fun i=>[(1,.box ([u8Dd kl,u8Dd km,r8s kr,zg6 kx])),(2,.box [.i (.v (.slice none 0 0)),ii 0,ii 0,.i (.v (.slice none 0 0)),.i (.v (.slice none 0 0)),.i (.v (.slice none 0 0))]),(3,.box [ints [0,1,2],ii L,ii 0,ints M,vrs V,mvs (mvsL L V.length kx i)])]) (fun _=>O) 182
   (fun i=>i≤min kx.length 8) (fun i=>min kx.length 8-i) 0 (Nat.zero_le _) ⟨rfl,rfl,rfl,rfl,rfl,trivial⟩ rfl ⟨rfl,rfl,rfl,trivial⟩ rfl rfl ?_
  intro i hi ih;have hi:i≤min kx.length 8:=hi;have hsucc:=fun h=>zgX (locs:=L) (n:=V.length) (l:=kx) (i:=i) h;have hlen:=ziP (locs:=L) (n:=V.length) (l:=kx) (i:=i) (by omega);have hend:i=min kx.length 8→R=⟨[0,1,2],L,0,M,V,mvsL L V.length kx i⟩:=fun e=>by rw[←hR,←e]
  clear hR;generalize mvsL L V.length kx i=W at *;refine zai Tk Tryz.func43 ?_;refine zaK Tk Tryz.func43 rfl (fun h1=>?_) (fun h1=>?_)
  ·have h1:i<kx.length:=by have:=of_decide_eq_true h1;omega
   refine zae Tk Tryz.func43 rfl (fun h2=>?_) (fun h2=>?_)
   ·have h2:i<8:=by have:=of_decide_eq_true h2;omega
    have hsucc:=hsucc h1;have hg:(kx.map linI)[(i:Int).toNat]? = some (linI kx[i]):=zan h1;have hxx:=hx _ (List.getElem_mem h1);generalize kx[i]=x at *;obtain⟨hx0,hx1,hx2,hgb,hgl,hub,hul⟩:=hxx;clear hend;refine zad Tk Tryz.func43 (by exact⟨by omega,by show (i:Int)<(kx.length:Int);omega⟩) ?_;refine zap Tk Tryz.func43 (hg) ?_;refine zav Tk Tryz.func43 zaz rfl ?_;have e3:∀n:Int,0≤n→n≤255→IntKind.i64.wrap n=n:=fun n h h'=>w64 (by omega) (by omega);refine zas Tk (by decide) ?_;refine zas Tk (by exact (by omega:(L:Int)≠0)) ?_;refine zas Tk (by decide) ?_;refine zas Tk (by decide) ?_;refine zas Tk (by decide) ?_;refine zas Tk (by exact (by omega:(L:Int)≠0)) ?_;refine zaJ Tk (fun _=>zyg _) rfl rfl rfl ?_;refine zdc Tk rfl rfl rfl ?_;refine zaB Tk Tryz.func43 (by kernel_rfl) ?_
    have hf:(IntKind.i64.wrap x.a0).tmod L=x.a0%L:=by rw[e3 _ hx0.1 hx0.2,Int.tmod_eq_emod_of_nonneg hx0.1]
    have he:IntKind.i64.wrap (x.a1.tmod 3)=x.a1%3:=by rw[Int.tmod_eq_emod_of_nonneg hx1.1,w64 (by omega) (by omega)]
    have ht:(IntKind.i64.wrap x.a2).tmod L=x.a2%L:=by rw[e3 _ hx2.1 hx2.2,Int.tmod_eq_emod_of_nonneg hx2.1]
    refine zat ?_;refine zau (l:=[(1,.own 0 1 0 0),(2,.own 0 2 0 0),(3,.own 0 3 0 0),(5,ii V.length),(6,ii i),(7,.own 0 7 0 0),(8,.own 0 8 0 0)]) (Hv:=[(1,.box [u8Dd kl,u8Dd km,r8s kr,zg6 kx]),(2,.box [.i (.v (.slice none 0 0)),ii 0,ii 0,.i (.v (.slice none 0 0)),.i (.v (.slice none 0 0)),.i (.v (.slice none 0 0))]),(3,.box [ints [0,1,2],ii L,ii 0,ints M,vrs V,mvs W]),(7,.box [u8Dd x.a0,u8Dd x.a1,u8Dd x.a2,byts x.g,byts x.u]),(8,.box [ii (x.a0%L),ii (x.a1%3),ii (x.a2%L),ii trueE.op,ii trueE.vl,ii trueE.ix,exs trueE.args,.i (.v (.slice none 0 0))])]) (n:=182) ?_ ⟨rfl,rfl,rfl,rfl,rfl,rfl,rfl,trivial⟩ rfl ⟨rfl,rfl,rfl,rfl,by rw[←hf,←he,←ht];rfl,trivial⟩ rfl rfl;clear hf he ht e3;obtain⟨G,hG⟩:∃G,G=zfW V.length x.g:=⟨_,rfl⟩;obtain⟨U,hU⟩:∃U,U=zjw V.length x.u:=⟨_,rfl⟩
    apply zbK (P:=True) (s6:={ σ:=[(1,.own 0 1 0 0),(2,.own 0 2 0 0),(3,.own 0 3 0 0),(5,ii V.length),(6,ii i),(7,.own 0 7 0 0),(8,.own 0 8 0 0)],S:=[(1,.box [u8Dd kl,u8Dd km,r8s kr,zg6 kx]),(2,.box [.i (.v (.slice none 0 0)),ii 0,ii 0,.i (.v (.slice none 0 0)),.i (.v (.slice none 0 0)),.i (.v (.slice none 0 0))]),(3,.box [ints [0,1,2],ii L,ii 0,ints M,vrs V,mvs W]),(7,.box [u8Dd x.a0,u8Dd x.a1,u8Dd x.a2,byts x.g,byts x.u]),(8,.box [ii (x.a0%L),ii (x.a1%3),ii (x.a2%L),ii G.op,ii G.vl,ii G.ix,exs G.args,.i (.v (.slice none 0 0))])]::O,n:=182})
    ·intro J;refine zai Tk Tryz.func43 ?_;refine g_go Tk Tryz.func43 ?_;refine zae Tk Tryz.func43 rfl (fun h3=>?_) (fun h3=>?_)
     ·have h3:0<x.g.length:=by have:=of_decide_eq_true h3;omega
      have hG2:G=zhg V.length false (x.g.take 12):=by rw[hG];unfold zfW;rw[if_pos h3]
      have hgr:=fun O=>zwb O (x.g.take 12) V.length false (by omega) (fun b h=>hgb b (List.mem_of_mem_take h)) (Nat.le_trans (List.length_take_le _ _) (by decide));rw[←hG2,←zn7 x.g 12 (N:=12) rfl] at hgr;refine zad Tk Tryz.func43 (by split<;>omega) ?_;refine zaj Tk Tryz.func43 (hgr _) rfl rfl rfl rfl rfl ?_;refine zat ?_;refine zau (J trivial) ⟨rfl,rfl,rfl,rfl,rfl,rfl,rfl,trivial⟩ rfl ⟨rfl,rfl,rfl,rfl,rfl,trivial⟩ rfl rfl
     ·have h3:¬0<x.g.length:=by have:=of_decide_eq_false h3;omega
      have hG2:G=trueE:=by rw[hG];unfold zfW;rw[if_neg h3]
      subst hG2;refine zat ?_;refine zau (J trivial) ⟨rfl,rfl,rfl,rfl,rfl,rfl,rfl,trivial⟩ rfl ⟨rfl,rfl,rfl,rfl,rfl,trivial⟩ rfl rfl
    ·intro _
     apply zbK (P:=True) (s6:={ σ:=[(1,.own 0 1 0 0),(2,.own 0 2 0 0),(3,.own 0 3 0 0),(5,ii V.length),(6,ii i),(8,.own 0 8 0 0)],S:=[(1,.box [u8Dd kl,u8Dd km,r8s kr,zg6 kx]),(2,.box [.i (.v (.slice none 0 0)),ii 0,ii 0,.i (.v (.slice none 0 0)),.i (.v (.slice none 0 0)),.i (.v (.slice none 0 0))]),(3,.box [ints [0,1,2],ii L,ii 0,ints M,vrs V,mvs W]),(8,.box [ii (x.a0%L),ii (x.a1%3),ii (x.a2%L),ii G.op,ii G.vl,ii G.ix,exs G.args,upds U])]::O,n:=182})
     ·intro J;have nope:¬(x.u.length>0∧(V.length:Int)>0)→U=[]:=fun h=>by rw[hU];unfold zjw;rw[if_neg h]
      refine zai Tk Tryz.func43 ?_;refine g_go Tk Tryz.func43 ?_;refine zaK Tk Tryz.func43 rfl (fun h3=>?_) (fun h3=>?_)
      ·have h3:0<x.u.length:=by have:=of_decide_eq_true h3;omega
       refine zae Tk Tryz.func43 rfl (fun h4=>?_) (fun h4=>?_)
       ·have h4:0<V.length:=by have:=of_decide_eq_true h4;omega
        have hU2:U=[⟨b0 x.u%V.length,zhg V.length true ((x.u.take 12).drop 1)⟩]:=by rw[hU];unfold zjw;rw[if_pos ⟨h3,by omega⟩]
        have hgr:=fun O=>zwb O ((x.u.take 12).drop 1) V.length true (by omega) (fun b h=>hub b (List.mem_of_mem_take (List.mem_of_mem_drop h))) (Nat.le_trans (by simp only[List.length_drop];omega) (Nat.le_trans (List.length_take_le 12 x.u) (by decide)));rw[←ztj x.u 12 (N:=12) (A:=1) rfl rfl] at hgr;generalize zhg V.length true ((x.u.take 12).drop 1)=X at *;subst hU2;have hgu:(x.u.map u8I)[(0:Int).toNat]? = some (u8I (b0 x.u)):=by
         cases hxu:x.u with
         |nil=>rw[hxu] at h3;simp at h3
         |cons b r=>rfl
        have hb0:=zfs hub;have hbw:(IntKind.i64.wrap (b0 x.u)).tmod V.length=b0 x.u%V.length:=by
         rw[w64 (by omega) (by omega),Int.tmod_eq_emod_of_nonneg hb0.1]
        refine zav Tk Tryz.func43 zaz rfl ?_;refine zas Tk (by exact⟨by decide,by show (0:Int)<(x.u.length:Int);omega⟩) ?_;refine zaE Tk (hgu) ?_;refine zas Tk (by exact (by omega:(V.length:Int)≠0)) ?_;refine zas Tk (by split<;>omega) ?_;refine zaJ Tk (fun _=>hgr _) rfl rfl rfl ?_;refine zdc Tk rfl rfl rfl ?_;refine zaB Tk Tryz.func43 (by kernel_rfl) ?_;refine zat ?_;exact zau (J trivial) ⟨rfl,rfl,rfl,rfl,rfl,rfl,trivial⟩ rfl ⟨rfl,rfl,rfl,by rw[←hbw];rfl,trivial⟩ rfl rfl
       ·have h4:¬0<V.length:=by have:=of_decide_eq_false h4;omega
        have:=nope (by omega);subst this;refine zat ?_;refine zaq (zaL 8 122 189 5 (pre:=[ii (x.a0%L),ii (x.a1%3),ii (x.a2%L),ii G.op,ii G.vl,ii G.ix,exs G.args]) (post:=[]) rfl rfl rfl) ?_;refine zaq (zam 122 rfl rfl) ?_;refine zaq (zaQ rfl) ?_;exact zau (J trivial) ⟨rfl,rfl,rfl,rfl,rfl,rfl,trivial⟩ rfl ⟨rfl,rfl,rfl,rfl,trivial⟩ rfl rfl
      ·have h3:¬0<x.u.length:=by have:=of_decide_eq_false h3;omega
       have:=nope (by omega);subst this;refine gcF Tk Tryz.func43 rfl ?_;refine zat ?_;refine zaq (zaL 8 122 189 5 (pre:=[ii (x.a0%L),ii (x.a1%3),ii (x.a2%L),ii G.op,ii G.vl,ii G.ix,exs G.args]) (post:=[]) rfl rfl rfl) ?_;refine zaq (zam 122 rfl rfl) ?_;refine zaq (zaQ rfl) ?_;exact zau (J trivial) ⟨rfl,rfl,rfl,rfl,rfl,rfl,trivial⟩ rfl ⟨rfl,rfl,rfl,rfl,trivial⟩ rfl rfl
     ·intro _;obtain⟨y,hy⟩:∃y,y=mvOf L V.length x:=⟨_,rfl⟩;refine zau (l:=[(1,.own 0 1 0 0),(2,.own 0 2 0 0),(3,.own 0 3 0 0),(5,ii V.length),(6,ii i),(8,.own 0 8 0 0)]) (Hv:=[(1,.box [u8Dd kl,u8Dd km,r8s kr,zg6 kx]),(2,.box [.i (.v (.slice none 0 0)),ii 0,ii 0,.i (.v (.slice none 0 0)),.i (.v (.slice none 0 0)),.i (.v (.slice none 0 0))]),(3,.box [ints [0,1,2],ii L,ii 0,ints M,vrs V,mvs W]),(8,.box [ii y.frm,ii y.ev,ii y.to,ii y.g.op,ii y.g.vl,ii y.g.ix,exs y.g.args,upds y.us])]) (n:=182) ?_ ⟨rfl,rfl,rfl,rfl,rfl,rfl,trivial⟩ rfl ⟨rfl,rfl,rfl,by rw[hy,hG,hU];rfl,trivial⟩ rfl rfl;rw[←hy] at hsucc;clear hG hU hx0 hx1 hx2 hgb hgl hub hul hg hy G U;have hW8:W.length≤8:=by omega
      refine zai Tk Tryz.func43 ?_;refine g_go Tk Tryz.func43 ?_;refine zah ?_;refine zak (fun a:Nat=>[(1,.own 0 1 0 0),(2,.own 0 2 0 0),(3,.own 0 3 0 0),(5,ii V.length),(6,ii i),(8,.own 0 8 0 0),(9,ii a)]) (fun a=>[(1,.box [u8Dd kl,u8Dd km,r8s kr,zg6 kx]),(2,.box [.i (.v (.slice none 0 0)),ii 0,ii 0,.i (.v (.slice none 0 0)),.i (.v (.slice none 0 0)),.i (.v (.slice none 0 0))]),(3,.box [ints [0,1,2],ii L,ii 0,ints M,vrs V,mvs W]),(8,.box [ii y.frm,ii y.ev,ii y.to,ii y.g.op,ii y.g.vl,ii y.g.ix,exs y.g.args,upds y.us])]) (fun _=>O) 182
       (fun a=>a≤W.length∧posR W y W.length=posR W y a) (fun a=>a) W.length ⟨Nat.le_refl _,rfl⟩ ⟨rfl,rfl,rfl,rfl,rfl,rfl,rfl,trivial⟩ rfl ⟨rfl,rfl,rfl,rfl,trivial⟩ rfl rfl ?_
      rintro a ⟨ha,hpos⟩ ih2
      apply zbK (P:=posR W y W.length=a) (s6:={ σ:=[(1,.own 0 1 0 0),(2,.own 0 2 0 0),(3,.own 0 3 0 0),(5,ii V.length),(6,ii i),(8,.own 0 8 0 0),(9,ii a)],S:=[(1,.box [u8Dd kl,u8Dd km,r8s kr,zg6 kx]),(2,.box [.i (.v (.slice none 0 0)),ii 0,ii 0,.i (.v (.slice none 0 0)),.i (.v (.slice none 0 0)),.i (.v (.slice none 0 0))]),(3,.box [ints [0,1,2],ii L,ii 0,ints M,vrs V,mvs W]),(8,.box [ii y.frm,ii y.ev,ii y.to,ii y.g.op,ii y.g.vl,ii y.g.ix,exs y.g.args,upds y.us])]::O,n:=182})
      ·intro J
       cases a with
       |zero=>
        refine zai Tk Tryz.func43 ?_;refine zav Tk Tryz.func43 zaz rfl ?_;refine skF Tk ?_;refine zaB Tk Tryz.func43 (by kernel_rfl) ?_;refine gcF Tk Tryz.func43 rfl ?_;refine zat ?_;exact zau (J hpos) ⟨rfl,rfl,rfl,rfl,rfl,rfl,rfl,trivial⟩ rfl ⟨rfl,rfl,rfl,rfl,trivial⟩ rfl rfl
       |succ a=>
        have hgW:(W.map mvI)[(IntKind.i64.wrap (((a+1:Nat):Int)-1)).toNat]? = some (mvI (W[a]'(by omega))):=by
         rw[w64 (by omega) (by omega),show (((a+1:Nat):Int)-1).toNat=a by omega];simp[show a<W.length by omega]
        have hwa:IntKind.i64.wrap (((a+1:Nat):Int)-1)=(a:Int):=by rw[w64 (by omega) (by omega)];omega
        have hwn:0≤IntKind.i64.wrap (((a+1:Nat):Int)-1)∧IntKind.i64.wrap (((a+1:Nat):Int)-1)<(W.length:Int):=by rw[hwa];omega
        have hpos2:posR W y (a+1)=bif gtMv (W[a]'(by omega)) y then posR W y a else a+1:=by
         simp only[posR];rw[List.getElem?_eq_getElem (by omega)]
        generalize W[a]'(by omega)=z at *;have yes:(z.frm>y.frm∨(z.frm=y.frm∧z.ev>y.ev))→posR W y W.length=posR W y a:=fun h=>by
         rw[hpos,hpos2];unfold gtMv;rw[decide_eq_true h];rfl
        have no:¬(z.frm>y.frm∨(z.frm=y.frm∧z.ev>y.ev))→posR W y W.length=a+1:=fun h=>by
         rw[hpos,hpos2];unfold gtMv;rw[decide_eq_false h];rfl
        clear hpos hpos2;refine zai Tk Tryz.func43 ?_;refine zav Tk Tryz.func43 zaz rfl ?_;refine zbS Tk (fun h3=>?_) (fun h3=>?_)
        ·refine zas Tk (by exact hwn) ?_;refine zaE Tk (hgW) ?_;refine zbS Tk (fun h4=>?_) (fun h4=>?_)
         ·have h4:z.frm>y.frm:=of_decide_eq_true h4;refine zaB Tk Tryz.func43 (by kernel_rfl) ?_;refine gcT Tk Tryz.func43 rfl ?_;refine zah ?_;exact ih2 a _ _ ⟨by omega,yes (.inl h4)⟩ (by omega) ⟨rfl,rfl,rfl,rfl,rfl,rfl,congrArg ii hwa,trivial⟩ rfl ⟨rfl,rfl,rfl,rfl,trivial⟩ rfl rfl
         ·have h4:¬z.frm>y.frm:=of_decide_eq_false h4;refine zas Tk (by exact hwn) ?_;refine zaE Tk (hgW) ?_;refine zbS Tk (fun h5=>?_) (fun h5=>?_)
          ·have h5:=beqT h5;refine zas Tk (by exact hwn) ?_;refine zaE Tk (hgW) ?_;refine zaB Tk Tryz.func43 (by kernel_rfl) ?_;refine zae Tk Tryz.func43 rfl (fun h6=>?_) (fun h6=>?_)
           ·have h6:z.ev>y.ev:=of_decide_eq_true h6;refine zah ?_;exact ih2 a _ _ ⟨by omega,yes (.inr ⟨h5,h6⟩)⟩ (by omega) ⟨rfl,rfl,rfl,rfl,rfl,rfl,congrArg ii hwa,trivial⟩ rfl ⟨rfl,rfl,rfl,rfl,trivial⟩ rfl rfl
           ·have h6:¬z.ev>y.ev:=of_decide_eq_false h6;refine zat ?_;exact zau (J (no (by rintro (h|h);exact h4 h;exact h6 h.2))) ⟨rfl,rfl,rfl,rfl,rfl,rfl,rfl,trivial⟩ rfl ⟨rfl,rfl,rfl,rfl,trivial⟩ rfl rfl
          ·have h5:=beqF h5;refine zaB Tk Tryz.func43 (by kernel_rfl) ?_;refine gcF Tk Tryz.func43 rfl ?_;refine zat ?_;exact zau (J (no (by rintro (h|h);exact h4 h;exact h5 h.1))) ⟨rfl,rfl,rfl,rfl,rfl,rfl,rfl,trivial⟩ rfl ⟨rfl,rfl,rfl,rfl,trivial⟩ rfl rfl
        ·have:=of_decide_eq_false h3;omega
      ·intro hP;clear ih2 hpos;refine zai Tk Tryz.func43 ?_;refine g_go Tk Tryz.func43 ?_;refine zav Tk Tryz.func43 zaz rfl ?_;refine zas Tk (by exact⟨by omega,rfl,by show (a:Int)≤(W.length:Int);omega⟩) ?_;refine zas Tk (by exact⟨by omega,by show (a:Int)≤(W.length:Int);omega⟩) ?_;refine zuC Tk ?_;refine zex Tk (by exact⟨by show (1+(W.length-(a:Int).toNat))*96≤140737488355328;omega,by show 1+(W.length-(a:Int).toNat)≤9223372036854775807;omega⟩) ?_;refine zlO Tk (p:=⟨[(178,.osl 0 178),(173,.dead)],[(178,.arr 187 8 (1+(W.length-(a:Int).toNat)) ([mvI y]++(W.map mvI).drop (a:Int).toNat) true)],some 173⟩) rfl rfl rfl ?_;refine zex Tk (by exact⟨by show ((a:Int).toNat+(1+(W.length-(a:Int).toNat)))*96≤140737488355328;omega,by show (a:Int).toNat+(1+(W.length-(a:Int).toNat))≤9223372036854775807;omega,by show 0<1+(W.length-(a:Int).toNat);omega⟩) ?_
       refine zlO Tk (p:=⟨[],[(3,.box [ints [0,1,2],ii L,ii 0,ints M,vrs V,.osl 0 179])],none⟩) rfl rfl rfl ?_;refine zkE Tk Tryz.func43 (by kernel_rfl) (GM.h ?_);refine zah ?_;refine zaq (zam 179 rfl rfl) ?_;refine zaq (zaQ rfl) ?_;have hins:mvsL L V.length kx (i+1)=W.take a++y::W.drop a:=by rw[hsucc];unfold ziX;rw[hP]
       refine ih (i+1) _ _ (show i+1≤min kx.length 8 by omega) (by omega) ⟨rfl,rfl,rfl,rfl,congrArg ii (zaC (n:=8) h2 (by decide)),trivial⟩ rfl ⟨rfl,rfl,?_,trivial⟩ rfl rfl;show some (Ob.box [ints [0,1,2],ii L,ii 0,ints M,vrs V,.i (.sl 8 ((a:Int).toNat+(1+(W.length-(a:Int).toNat))) ((W.map mvI).take (a:Int).toNat++([mvI y]++(W.map mvI).drop (a:Int).toNat)))])=some (Ob.box [ints [0,1,2],ii L,ii 0,ints M,vrs V,mvs (mvsL L V.length kx (i+1))]);rw[hins];have hta:(a:Int).toNat=a:=by omega
       have hll:(W.take a++y::W.drop a).length=a+(1+(W.length-a)):=by
        simp only[List.length_append,List.length_take,List.length_cons,List.length_drop];omega
       have hmm:(W.take a++y::W.drop a).map mvI=(W.map mvI).take a++([mvI y]++(W.map mvI).drop a):=by
        rw[List.map_append,List.map_cons,List.map_take,List.map_drop];rfl
       rw[hta];show _=some (Ob.box [ints [0,1,2],ii L,ii 0,ints M,vrs V,.i (.sl 8 (W.take a++y::W.drop a).length ((W.take a++y::W.drop a).map mvI))]);rw[hll,hmm]
   ·have h2:¬i<8:=by have:=of_decide_eq_false h2;omega
    have:=hend (by omega);subst this;refine zag Tk (r:=_) rfl rfl rfl trivial rfl rfl ?_;rfl
  ·have h1:¬i<kx.length:=by have:=of_decide_eq_false h1;omega
   have:=hend (by omega);subst this;refine gcF Tk Tryz.func43 rfl ?_;refine zag Tk (r:=_) rfl rfl rfl trivial rfl rfl ?_;rfl
end Go.AI
namespace Go.Proofs.YtnojpbbaohoadaaGreatDoor
open Go.ChangeShapes Go.WideShapes Go.ChangeAt Go.RowKit Go.Deep Go.WideElems
set_option maxRecDepth 100000
section
variable {H:Type} {enc:TypeId×Value→H} {W:World}
theorem zeL {α β:Type} {f:α→β} {Q:α→Prop}:∀{xs:List β},(∀d∈xs,∃a,d=f a∧Q a)→∃l:List α,xs=l.map f∧∀a∈l,Q a
 |[],_=>⟨[],rfl,by simp⟩
 |d::xs,h=>by
  obtain⟨a,ha,hq⟩:=h d (by simp);obtain⟨l,hl,hql⟩:=zeL (xs:=xs) fun e he=>h e (by simp[he]);refine⟨a::l,by rw[ha,hl];rfl,fun b hb=>?_⟩;rcases List.mem_cons.1 hb with rfl|hb
  ·exact hq
  ·exact hql b hb
theorem wf_u8 {z:Int} (h:(Lit.int .u8 z).wf=true):0≤z∧z≤255:=by
 simp only[Lit.wf,Bool.and_eq_true,decide_eq_true_eq] at h;have e1:IntKind.u8.min=0:=rfl;have e2:IntKind.u8.max=255:=rfl;rw[e1,e2] at h;exact h
theorem wf_i8 {z:Int} (h:(Lit.int .i8 z).wf=true):-128≤z∧z≤127:=by
 simp only[Lit.wf,Bool.and_eq_true,decide_eq_true_eq] at h;have e1:IntKind.i8.min = -128:=rfl;have e2:IntKind.i8.max=127:=rfl;rw[e1,e2] at h;exact h
theorem zea {n:Nat} (h:n≤maxLen):n≤AI.zar:=by
 simp only[maxLen] at h;simp only[AI.zar];omega
theorem znw:Opn enc Tryz.prog W 71 fun is=>∃l:List Int,is=[.sl 1 l.length (l.map AI.u8I)]∧AI.zcC l∧l.length≤AI.zar:=by
 intro n cs x h;obtain⟨is,hr,xs,rfl,hx,hl⟩:=zdg Tryz.underlying71 (z:=1) (by kernel_rfl) (by decide) (zcw Tryz.underlying5) n cs x h;obtain⟨l,rfl,hq⟩:=zeL (f:=AI.u8I) (Q:=fun z=>0≤z∧z≤255) (xs:=xs) fun d hd=>by
  obtain⟨z,hz,hw⟩:=hx d hd;exact⟨z,hz,wf_u8 hw⟩
 refine⟨_,hr,l,by simp,hq,zea (by simpa using hl)⟩
abbrev skI (k:AI.Sk):List AI.I:=[.v (.int .u8 k.locs),.v (.int .u8 k.marks),.sl 2 k.rngs.length (k.rngs.map AI.r8I),.sl 5 k.lines.length (k.lines.map AI.linI)]
end
end Go.Proofs.YtnojpbbaohoadaaGreatDoor
namespace Go.Proofs.YtnojpbbaohoadaaGreatDoor
open Go.ChangeShapes Go.WideShapes Go.ChangeAt Go.RowKit Go.Deep Go.WideElems
set_option maxRecDepth 100000
section
variable {H:Type} {enc:TypeId×Value→H} {W:World}
end
end Go.Proofs.YtnojpbbaohoadaaGreatDoor
namespace Go.Proofs.YtnojpbbaohoadaaGreatDoor
open Go.ChangeShapes Go.WideShapes Go.ChangeAt Go.RowKit Go.Deep Go.WideElems
set_option maxRecDepth 100000
section
variable {H:Type} {enc:TypeId×Value→H} {P:Program} {W:World}
end
section
variable {H:Type} {enc:TypeId×Value→H} {W:World}
end
end Go.Proofs.YtnojpbbaohoadaaGreatDoor
namespace Go.AI
abbrev bI (b:Bool):I:=.v (.bool b)
abbrev zhB (l:List ByteArray):I:=.sl 1 l.length (l.map fun s=>[strI s])
structure Evt where
 name:ByteArray
 c:Bool
 o:Bool
 f:Bool
 fault:Int
abbrev evtI (x:Evt):List I:=[strI x.name,bI x.c,bI x.o,bI x.f,vi x.fault]
abbrev zbb (l:List Evt):I:=.sl 5 l.length (l.map evtI)
structure Tpl where
 name:ByteArray
 locs:List ByteArray
 evs:List ByteArray
 mach:Ext
abbrev tplI (x:Tpl):List I:=[strI x.name,zhB x.locs,zhB x.evs,zdj x.mach.alpha,vi x.mach.locs,vi x.mach.init,zdj x.mach.marked,vrsI x.mach.vars,.sl 8 x.mach.moves.length (x.mach.moves.map mvI)]
abbrev zbD (l:List Tpl):I:=.sl 9 l.length (l.map tplI)
structure Ins where
 name:ByteArray
 tpl:ByteArray
 evs:List ByteArray
abbrev insI (x:Ins):List I:=[strI x.name,strI x.tpl,zhB x.evs]
abbrev zaP (l:List Ins):I:=.sl 3 l.length (l.map insI)
abbrev NLc:=ByteArray×ByteArray
abbrev nlcI (x:NLc):List I:=[strI x.1,strI x.2]
structure NEx where
 name:ByteArray
 locals:List NLc
abbrev nexI (x:NEx):List I:=[strI x.name,.sl 2 x.locals.length (x.locals.map nlcI)]
abbrev zcN (l:List NEx):I:=.sl 2 l.length (l.map nexI)
abbrev NTm:=ByteArray×Int
abbrev ntmI (x:NTm):List I:=[strI x.1,vi x.2]
structure NCn where
 name:ByteArray
 terms:List NTm
 bound:Int
abbrev ncnI (x:NCn):List I:=[strI x.name,.sl 2 x.terms.length (x.terms.map ntmI),vi x.bound]
abbrev zdt (l:List NCn):I:=.sl 3 l.length (l.map ncnI)
structure Mdl where
 name:ByteArray
 evs:List Evt
 tpls:List Tpl
 comps:List Ins
 reqs:List Ins
 excs:List NEx
 cons:List NCn
abbrev mdlC (m:Mdl):List D:=[.i (strI m.name),.i (zbb m.evs),.i (zbD m.tpls),.i (zaP m.comps),.i (zaP m.reqs),.i (zcN m.excs),.i (zdt m.cons)]
abbrev mdlD (m:Mdl):D:=.agg (mdlC m)
def sB (a b:ByteArray):Bool:=a.data.toList==b.data.toList
theorem zfS {a b:ByteArray}:sB a b=true↔a=b:=by
 unfold sB;rw[beq_iff_eq];constructor
 ·intro h;exact ByteArray.ext (Array.ext' h)
 ·rintro rfl;rfl
theorem zw2 (a b:ByteArray):sB a b=sB b a:=by
 rw[Bool.eq_iff_iff,zfS,zfS];exact⟨Eq.symm,Eq.symm⟩
theorem zbg (a b:ByteArray):(a.toList==b.toList)=sB a b:=by
 rw[ByteArray.toList_eq,ByteArray.toList_eq];rfl
def hasB (l:List ByteArray) (s:ByteArray):Bool:=l.any fun x=>sB x s
def nmE (before:List ByteArray) (s:ByteArray):Int:=if zaW s=false then 7 else if hasB before s=true then 8 else 0
def nmsE:List ByteArray→List ByteArray→Int
 |_,[]=>0
 |b,s::r=>if nmE b s≠0 then nmE b s else nmsE (b++[s]) r
def evE (before:List ByteArray) (x:Evt):Int:=
 if nmE before x.name≠0 then nmE before x.name else if x.fault<0∨x.fault>4 then 2 else if x.fault≠0∧(x.c=true∨x.o=true) then 13 else 0
def evsE:List ByteArray→List Evt→Int
 |_,[]=>0
 |b,x::r=>if evE b x≠0 then evE b x else evsE (b++[x.name]) r
def zjo (l:List Evt):Int:=if l.length>32 then 3 else evsE [] l
def tplE (x:Tpl):Int:=
 if (x.locs.length:Int)≠x.mach.locs then 4 else if nmsE [] x.locs≠0 then nmsE [] x.locs else if nmsE [] x.evs≠0 then nmsE [] x.evs
 else if x.mach.alpha.length≠x.evs.length then 6 else if x.mach.alpha≠(List.range x.evs.length).map (fun k=>((k:Nat):Int)) then 6 else chk x.mach
def zev (m:Mdl):List ByteArray→List ByteArray→Int
 |_,[]=>0
 |b,s::r=>if hasB (m.evs.map (·.name)) s=false then 9 else if hasB b s=true then 8 else zev m (b++[s]) r
def insE (m:Mdl) (x:Ins):Int:=
 match m.tpls.find? (fun t=>sB t.name x.tpl) with
 |none=>9
 |some t=>if x.evs.length≠t.evs.length then 4 else zev m [] x.evs
abbrev Plc:=Int×Int
def za6 {α:Type} (nm:α→ByteArray) (err:α→Int):List ByteArray→List α→Nat→Option (Nat×Int)
 |_,[],_=>none
 |b,x::r,i=>if nmE b (nm x)≠0 then some (i,nmE b (nm x)) else if err x≠0 then some (i,err x) else za6 nm err (b++[nm x]) r (i+1)
def reqE (m:Mdl) (x:Ins):Int:=if insE m x≠0 then insE m x else if x.evs.any (fun s=>!hasB (m.comps.flatMap (·.evs)) s)=true then 9 else 0
def zb4 (m:Mdl) (x:Ins):Option Tpl:=m.tpls.find? fun t=>sB t.name x.tpl
def lcsE (m:Mdl):List ByteArray→List NLc→Int
 |_,[]=>0
 |b,x::r=>match m.comps.find? (fun c=>sB c.name x.1) with
  |none=>9
  |some c=>if hasB b x.1=true then 8 else match zb4 m c with
   |none=>9
   |some t=>if hasB t.locs x.2=false then 9 else lcsE m (b++[x.1]) r
def excE (m:Mdl) (x:NEx):Int:=if x.locals.length=0 then 12 else lcsE m [] x.locals
def bigB (n:Int):Bool:=decide (n>65536)||decide (n < -65536)
def tmsE (m:Mdl):List ByteArray→List NTm→Int
 |_,[]=>0
 |b,x::r=>if hasB (m.comps.map (·.name)) x.1=false then 9 else if hasB b x.1=true then 8 else if x.2=0∨bigB x.2=true then 2 else tmsE m (b++[x.1]) r
def conE (m:Mdl) (x:NCn):Int:=if x.terms.length=0 then 12 else if tmsE m [] x.terms≠0 then tmsE m [] x.terms else if bigB x.bound=true then 2 else 0
def plc {α:Type} (k:Int) (o:Option (Nat×Int)) (z:α) (f:Plc×Int→α):α:=match o with
 |some (i,e)=>f ((k,(i:Int)),e)
 |none=>z
def evsP:List Evt→List Evt→Nat→Option (Nat×Int)
 |_,[],_=>none
 |b,x::r,i=>if zjo (b++[x])≠0 then some (i,zjo (b++[x])) else evsP (b++[x]) r (i+1)
def mdlE (m:Mdl):Plc×Int:=
 if zaW m.name=false then ((0,0),7) else
 plc 1 (evsP [] m.evs 0) (
  if m.tpls.length>16 then ((2,16),3) else
  plc 2 (za6 Tpl.name tplE [] m.tpls 0) (
   if m.comps.length=0 then ((3,0),12) else if m.comps.length>8 then ((3,8),3) else if m.comps.length+m.reqs.length>12 then ((4,12-(m.comps.length:Int)),3) else
   plc 3 (za6 Ins.name (insE m) [] m.comps 0) (
    plc 4 (za6 Ins.name (reqE m) (m.comps.map (·.name)) m.reqs 0) (
     if m.excs.length>32 then ((5,32),3) else
     plc 5 (za6 NEx.name (excE m) [] m.excs 0) (
      if m.cons.length>32 then ((6,32),3) else
      plc 6 (za6 NCn.name (conE m) [] m.cons 0) ((0,0),0) id) id) id) id) id) id
end Go.AI
namespace Go.AI
open Go.Proofs
set_option maxRecDepth 20000
theorem zdA:∀(k u:Nat),u<10 ^ (k+1)→(Lib.decDigits u).length≤k+1
 |0,u,h=>by
  unfold Lib.decDigits;rw[dif_pos (by omega)];simp
 |k+1,u,h=>by
  unfold Lib.decDigits
  split
  ·simp
  ·rw[List.length_append];have:=zdA k (u/10) (by rw[Nat.pow_succ] at h;omega);simp only[List.length_cons,List.length_nil];omega
theorem zcI {n:Int} (h0:-9223372036854775808≤n) (h1:n≤9223372036854775807):(zcW n).size≤21:=by
 show (Lib.itoa n).toArray.size≤21;simp only[List.size_toArray];unfold Lib.itoa
 split
 ·have:=zdA 19 n.natAbs (by omega);simp only[List.length_cons];omega
 ·have:=zdA 19 n.toNat (by omega);omega
abbrev i64B (n:Int):Prop:=-9223372036854775808≤n∧n≤9223372036854775807
end Go.AI
namespace Go.AI
def renH (a b:Nat):Heap→Heap
 |[]=>[]
 |(k,o)::r=>(renN a b k,o)::renH a b r
theorem zdd (a b:Nat):renN a b a=b:=by simp[renN]
theorem zdO {a b n:Nat} (h:n≠a):renN a b n=n:=by
 unfold renN
 cases hb:Nat.beq n a with
 |false=>rfl
 |true=>exact absurd (Nat.eq_of_beq_eq_true hb) h
theorem zj6 {a b n:Nat} {o:Ob}:∀{H:Heap},look H b=none→look (renH a b H) n=some o→∃n0,n=renN a b n0∧look H n0=some o
 |[],_,h=>by simp[renH,look] at h
 |(k,x)::r,hb,h=>by
  rw[zac] at hb
  split at hb
  ·cases hb
  ·rename_i hkb;simp only[renH] at h;rw[zac] at h
   split at h
   ·rename_i e;simp only[Option.some.injEq] at h;subst h;exact⟨k,e.symm,by rw[zac,if_pos rfl]⟩
   ·rename_i e;obtain⟨n0,h1,h2⟩:=zj6 hb h;refine⟨n0,h1,?_⟩;rw[zac,if_neg]
    ·exact h2
    ·intro e2;subst e2;exact e h1.symm
theorem zh0 {a b n0:Nat} {o:Ob}:∀{H:Heap},look H b=none→look H n0=some o→look (renH a b H) (renN a b n0)=some o
 |[],_,h=>by simp[look] at h
 |(k,x)::r,hb,h=>by
  rw[zac] at hb
  split at hb
  ·cases hb
  ·rename_i hkb;rw[zac] at h;simp only[renH];rw[zac]
   split at h
   ·rename_i e;subst e;rw[if_pos rfl];exact h
   ·rename_i e;rw[if_neg]
    ·exact zh0 hb h
    ·intro e2
     by_cases h1:k=a
     ·subst h1;rw[zdd,zdO (Ne.symm e)] at e2;subst e2;rw[hb] at h;cases h
     ·rw[zdO h1] at e2
      by_cases h2:n0=a
      ·subst h2;rw[zdd] at e2;exact hkb e2
      ·rw[zdO h2] at e2;exact e e2
section
variable {c:Cx} {s:St} {H:Heap} {O:List Heap}
theorem zq4 (a b:Nat) (hS:s.S=H::O) (hb:look H b=none) (hfl:allH (fun _ o=>o.flat) H=true):Wk c s {σ:=renσ a b s.σ,S:=renH a b H::O,n:=s.n}:=by
 intro K ρ act w hi;have hh:=hi.h;rw[hS] at hh
 let ρ':Nat→Nat→Loc:=upd ρ b (ρ 0 a)
 have hρ:∀n0 o,look H n0=some o→ρ' 0 (renN a b n0)=ρ 0 n0:=by
  intro n0 o h
  by_cases h1:n0=a
  ·subst h1;rw[zdd];exact zaX _ _ _
  ·rw[zdO h1];exact zaS _ _ _ (.inr fun e=>by subst e;rw[hb] at h;cases h)
 have r1:∀d n,ρ' (d+1) n=ρ (d+1) n:=fun d n=>zaS _ _ _ (.inl (by omega));have hren:Ren a b ρ ρ' (shape (H::O)) (shape (renH a b H::O)):=by
  refine⟨fun n x e=>?_,fun d n x e=>⟨by simpa [shape,zab] using e,r1 d n⟩⟩;simp only[shape,zab,List.getElem?_cons_zero] at e ⊢
  cases hl:look H n with
  |none=>simp[hl] at e
  |some o=>
   rw[zh0 hb hl];exact⟨by simpa [hl] using e,hρ _ _ hl⟩
 have hmv:Moves (fun _=>false) K K ρ ρ' (shape (H::O)) (shape (renH a b H::O)):=⟨K.le_refl,fun _ _ h=>(by cases h),hren.s⟩;have hcase:∀d n o,zab (renH a b H::O) d n=some o→∃n0,zab (H::O) d n0=some o∧ρ' d n=ρ d n0∧(d=0→n=renN a b n0)∧(d≠0→n=n0):=by
  intro d n o e
  cases d with
  |zero=>
   obtain⟨n0,rfl,h2⟩:=zj6 hb (by simpa [zab] using e);exact⟨n0,by simpa [zab] using h2,hρ _ _ h2,fun _=>rfl,fun h=>absurd rfl h⟩
  |succ d=>exact⟨n,by simpa [zab] using e,r1 _ _,fun h=>absurd h (Nat.succ_ne_zero d),fun _=>rfl⟩
 have e0:∀f:Nat→Nat→Loc,(fun d n=>f (0+d) n)=f:=by intro f;funext d n;rw[Nat.zero_add]
 refine⟨K,ρ',⟨hh.holds,?_,?_,hh.size,?_,?_,?_,hh.Kle,hh.Knew,hh.rest⟩,hi.defers,hi.size,fun t d e=>?_⟩
 ·intro d n o e;obtain⟨n0,h1,h2,h3,h4⟩:=hcase d n o e;have h0:=hh.own _ _ _ h1;rw[h2]
  cases d with
  |zero=>
   rw[e0] at h0 ⊢;have hf:o.flat=true:=zdm hfl (by simpa [zab] using h1);refine h0.move hmv ?_ (fun _=>rfl) (fun _ _=>rfl)
   cases o with
   |box cs=>exact hf
   |tb _ cs=>exact hf
   |arr=>rfl
   |mp=>rfl
  |succ d=>
   have e1:(fun d' n=>ρ' (d+1+d') n)=fun d' n=>ρ (d+1+d') n:=by
    funext d' n;rw[show d+1+d'=(d+d')+1 by omega,r1]
   rw[e1];simpa using h0
 ·intro d n o d2 n2 o2 e e2 b1 b2 hbe;obtain⟨m1,a1,a2,a3,a4⟩:=hcase d n o e;obtain⟨m2,c1,c2,c3,c4⟩:=hcase d2 n2 o2 e2;rw[a2] at b1 hbe;rw[c2] at b2 hbe;obtain⟨rfl,rfl⟩:=hh.inj _ _ _ _ _ _ a1 c1 b1 b2 hbe;refine⟨rfl,?_⟩
  by_cases h:d=0
  ·rw[a3 h,c3 h]
  ·rw[a4 h,c4 h]
 ·intro b' hb' hno;refine hh.old b' hb' fun d n o e hbk=>?_;have:=hno d n o (by simpa [zab] using e) (by rw[r1];exact hbk);rwa [r1] at this
 ·intro n o e hbk;obtain⟨n0,h1,h2,_⟩:=hcase 0 n o e;rw[h2] at hbk ⊢;exact hh.loc _ _ h1 hbk
 ·intro d;funext n;rw[r1,hh.outer]
 ·simp only[ze8] at e
  cases hl:look s.σ t with
  |none=>simp[hl] at e
  |some d0=>
   simp only[hl,Option.map_some,Option.some.injEq] at e;subst e;have:=hi.slots _ _ hl;rw[hS] at this;exact this.ren hren
end
end Go.AI
namespace Go.AI
open Go.Proofs
set_option maxRecDepth 20000
theorem within_iff:∀{l:List Vr} {xs:List Int},within l xs=true↔xs.length=l.length∧∀i (h:i<l.length) (h':i<xs.length),l[i].low≤xs[i]∧xs[i]≤l[i].high
 |[],[]=>by simp[within]
 |[],_::_=>by simp[within]
 |_::_,[]=>by simp[within]
 |v::r,x::ys=>by
  simp only[within,Bool.and_eq_true,decide_eq_true_eq,within_iff (l:=r) (xs:=ys),List.length_cons,Nat.add_right_cancel_iff];constructor
  ·rintro ⟨⟨h1,h2⟩,h3,h4⟩;refine⟨h3,fun i h h'=>?_⟩
   cases i with
   |zero=>exact⟨h1,h2⟩
   |succ i=>exact h4 i (by simpa using h) (by simpa using h')
  ·rintro ⟨h3,h4⟩;exact⟨h4 0 (by simp) (by simp),h3,fun i h h'=>h4 (i+1) (by simpa using h) (by simpa using h')⟩
theorem zpg {l:List Vr} {xs:List Int} {k:Nat} {n:Int} (h:within l xs=true) (hk:k<l.length) (hn:l[k].low≤n∧n≤l[k].high):within l (xs.set k n)=true:=by
 rw[within_iff] at h ⊢;refine⟨by simpa using h.1,fun i hi hi'=>?_⟩;rw[List.getElem_set]
 split
 ·rename_i e;subst e;exact hn
 ·exact h.2 i hi (by simpa using hi')
theorem zfo {all:List Vr}:∀{l:List Vr} {i:Nat},zbh all l i=0→∀v∈l,(-65536≤v.low∧v.high≤65536)∧v.low≤v.init∧v.init≤v.high
 |[],_,_,v,hv=>by simp at hv
 |x::r,i,h,v,hv=>by
  simp only[zbh] at h
  split at h
  ·rename_i e he;subst h;unfold checkVr at he
   split at he;· cases he
   split at he;· cases he
   split at he;· cases he
   split at he;· cases he
   split at he<;>cases he
  ·rename_i he;rcases List.mem_cons.1 hv with rfl|hv
   ·unfold checkVr at he
    split at he;· cases he
    split at he;· cases he
    split at he;· cases he
    rename_i h3
    split at he;· cases he
    split at he;· cases he
    rename_i h4 h5;simp only[checkVr.large,Bool.or_eq_true,decide_eq_true_eq,not_or] at h3;omega
   ·exact zfo h v hv
theorem zkX {l:List Vr} (h:zbz l=0):∀v∈l,(-65536≤v.low∧v.high≤65536)∧v.low≤v.init∧v.init≤v.high:=by
 unfold zbz at h
 split at h
 ·cases h
 ·exact zfo h
def okS (m:Ext) (s:Sta):Prop:=(0≤s.loc∧s.loc<m.locs)∧within m.vars s.vals=true
theorem zpR {m:Ext} {s:Sta} (hr:extRight m) (h:okS m s):i64B s.loc∧(∀v∈s.vals,i64B v)∧s.vals.length≤16∧s.vals.length=m.vars.length∧∀v∈s.vals,-65536≤v∧v≤65536:=by
 obtain⟨h1,h2⟩:=h;rw[within_iff] at h2;have hl:=hr.locs;have hv:=znf hr.vars;have hb:∀v∈s.vals,-65536≤v∧v≤65536:=by
  intro v hm;obtain⟨i,hi,rfl⟩:=List.getElem_of_mem hm;have a:=h2.2 i (by omega) hi;have b:=zkX hr.vars _ (List.getElem_mem (by omega:i<m.vars.length));omega
 exact⟨⟨by omega,by omega⟩,fun v hm=>by have:=hb v hm;exact⟨by omega,by omega⟩,by omega,h2.1,hb⟩
theorem zuu {m:Ext} (hr:extRight m):okS m (zdJ m):=by
 refine⟨hr.init,within_iff.2 ⟨by simp[zdJ],fun i h h'=>?_⟩⟩;simp only[zdJ,List.getElem_map];exact (zkX hr.vars _ (List.getElem_mem h)).2
theorem zq9 {m:Ext} {vals:List Int}:∀{l:List Upd} {acc out:List Int},updR m vals l acc=some out→within m.vars acc=true→within m.vars out=true
 |[],acc,out,h,hw=>by simp only[updR,Option.some.injEq] at h;subst h;exact hw
 |u::r,acc,out,h,hw=>by
  simp only[updR] at h
  cases hu:m.vars[u.v.toNat]? with
  |none=>rw[hu] at h;cases h
  |some v=>
   rw[hu] at h;simp only at h
   split at h
   ·cases h
   ·rename_i hc;have hk:u.v.toNat<m.vars.length:=(List.getElem?_eq_some_iff.1 hu).1;have hkv:m.vars[u.v.toNat]=v:=(List.getElem?_eq_some_iff.1 hu).2;refine zq9 h (zpg hw hk ?_);rw[hkv];omega
theorem zwG {m:Ext} {s:Sta} {ev:Int} (hr:extRight m) (h:okS m s) (hp:(zhC m s ev).2.1=true):okS m (zhC m s ev).1:=by
 unfold zhC at hp ⊢
 cases hc:(chs s ev m.moves 0 none false).1 with
 |none=>rw[hc] at hp;cases hp
 |some k=>
  rw[hc] at hp;simp only at hp ⊢
  split at hp
  ·cases hp
  ·rename_i he;rw[if_neg he]
   cases hk:m.moves[k]? with
   |none=>rw[hk] at hp;cases hp
   |some x=>
    rw[hk] at hp;simp only at hp ⊢
    cases hu:updR m s.vals x.us s.vals with
    |none=>rw[hu] at hp;cases hp
    |some acc=>
     exact⟨(hr.mv x (List.mem_of_getElem? hk)).to,zq9 hu h.2⟩
structure Srch where
 sts:List Sta
 frm:List (Int×Int)
 flt:Int×Int
 kind:Int
abbrev zrQ (l:List Sta):Ob:=.arr 68 2 l.length (l.map staI) true
structure Good (m:Ext) (S:Srch):Prop where
 len:S.sts.length≤4096
 ok:∀s∈S.sts,okS m s
 fl:S.frm.length=S.sts.length
abbrev zjG (l:List Sta):D:=.i (.sl 2 l.length (l.map staI))
end Go.AI
namespace Go.AI
open Go.Proofs
def over (c:Array Value):Nat→List Value→Array Value
 |_,[]=>c
 |o,v::r=>over (c.setIfInBounds o v) (o+1) r
theorem zgP {K:Kn}:∀{vs:List Value} {l:List Int},RepL K vs (l.map fun x=>[vi x]).flatten→vs=l.map (Value.int .i64)
 |_,[],.nil=>rfl
 |_,x::r,h=>by
  simp only[List.map_cons,List.flatten_cons,List.cons_append,List.nil_append] at h
  cases h with
  |cons a b=>
   cases a with
   |v e=>rw[zgP b];rfl
theorem zha {K:Kn}:∀(l:List Int),RepL K (l.map (Value.int .i64)) (l.map fun x=>[vi x]).flatten
 |[]=>.nil
 |x::r=>by
  simp only[List.map_cons,List.flatten_cons,List.cons_append,List.nil_append];exact .cons (.v rfl) (zha r)
end Go.AI
namespace Go.AI
open Go.Proofs
set_option maxRecDepth 20000
def back (frm:List (Int×Int)):Nat→Int×Int→List Int
 |0,_=>[]
 |f+1,p=>if p.1<0 then [] else p.2::back frm f (frm.getD p.1.toNat (-1,-1))
structure Linked (S:Srch):Prop where
 len:S.frm.length=S.sts.length
 frm:∀k (h:k<S.frm.length),S.frm[k].1<k
 flt:S.flt.1<S.sts.length
 most:S.sts.length≤4096
end Go.AI
namespace Go.AI
set_option maxRecDepth 20000
section
variable {h:Int} (h1:1≤h) (h2:h≤8191)
include h1 h2
variable {k:Int} (k1:0≤k) (k2:k≤h)
omit h1 in
include k1 k2 in
include k1 k2 in
omit h1 in
include k1 k2 in
omit h1 in
include k1 k2 in
omit h1 in
include k1 k2 in
include k1 k2 in
include k1 k2 in
end
def cnt (n:Nat):List Sta:=(List.range n).map fun (i:Nat)=>(⟨0,[(i:Int)]⟩:Sta)
section
variable {H:Nat} (h1:1≤H) (h2:H≤8191)
include h1 h2
end
end Go.AI
namespace Go.AI
open Go.Proofs
set_option maxRecDepth 20000
end Go.AI
namespace Go.AI
structure Unf (σ:Type) where
 sts:List σ
 mkl:List Int
 eds:List (Int×Int×Int)
def kOf:List (Int×Int×Int)→Nat→Option Nat
 |[],k=>some k
 |e::r,k=>if (0≤e.1∧e.1<k)∧0≤e.2.2∧e.2.2≤k then kOf r (if e.2.2=k then k+1 else k) else none
section
variable {σ:Type} (eq:σ→σ→Bool) (lim:Bool) (step:σ→Int→σ×Bool×Int) (mkd:σ→Bool)
def zfN (i:Nat) (s:σ) (ev:Int) (U:Unf σ):Except Int (Unf σ):=
 if (step s ev).2.2≠0 then .error (step s ev).2.2 else
 if (step s ev).2.1=false then .ok U else
 if U.sts.findIdx (eq (step s ev).1)<U.sts.length then .ok {U with eds:=U.eds++[((i:Int),ev,((U.sts.findIdx (eq (step s ev).1):Nat):Int))]} else
 if lim=true∧U.sts.length=4096 then .error 3 else
 .ok {sts:=U.sts++[(step s ev).1],mkl:=U.mkl,eds:=U.eds++[((i:Int),ev,((U.sts.findIdx (eq (step s ev).1):Nat):Int))]}
def zbG (i:Nat) (s:σ):List Int→Unf σ→Except Int (Unf σ)
 |[],U=>.ok U
 |ev::r,U=>match zfN eq lim step i s ev U with
  |.error e=>.error e
  |.ok U'=>zbG i s r U'
def zgy (i:Nat) (s:σ) (U:Unf σ):Unf σ:=if mkd s then {U with mkl:=U.mkl++[(i:Int)]} else U
def zf4 (alpha:List Int):Nat→Nat→Unf σ→Except Int (Unf σ)
 |0,_,U=>.ok U
 |f+1,i,U=>match U.sts[i]? with
  |none=>.ok U
  |some s=>match zbG eq lim step i s alpha (zgy mkd i s U) with
   |.error e=>.error e
   |.ok U'=>zf4 alpha f (i+1) U'
def unf0 (first:σ):Unf σ:=⟨[first],[],[]⟩
def unfR (alpha:List Int) (first:σ):Except Int (Unf σ):=zf4 eq lim step mkd alpha 4097 0 (unf0 first)
theorem zjx (i:Nat) (s:σ) (U:Unf σ):(zgy mkd i s U).sts=U.sts∧(zgy mkd i s U).eds=U.eds:=by
 unfold zgy;split<;>exact⟨rfl,rfl⟩
end
theorem findIdx_le {α:Type} {p:α→Bool}:∀{l:List α},l.findIdx p≤l.length
 |[]=>Nat.le_refl _
 |x::l=>by
  have:=findIdx_le (p:=p) (l:=l);rw[List.findIdx_cons]
  cases p x with
  |true=>exact Nat.zero_le _
  |false=>simp only[cond_false,List.length_cons];omega
section
variable {σ:Type} [DecidableEq σ]
def eqB (a b:σ):Bool:=decide (a=b)
variable (step:σ→Int→σ×Bool×Int) (mkd:σ→Bool)
def eOf (sts:List σ) (i:Nat) (s:σ) (ev:Int):Option (Int×Int×Int):=if (step s ev).2.1=true then some ((i:Int),ev,((sts.findIdx (eqB (step s ev).1):Nat):Int)) else none
structure Fin1 (eq:σ→σ→Bool) (lim:Bool) (P:σ→Prop):Prop where
 step:∀s ev,P s→(step s ev).2.1=true→P (step s ev).1
 eq:∀s t,P s→P t→eq s t=eqB s t
 few:lim=true→∀l:List σ,(∀s∈l,P s)→l.Nodup→l.length<4096
structure UOk (P:σ→Prop) (U:Unf σ):Prop where
 ok:∀s∈U.sts,P s
 nd:U.sts.Nodup
 fr:kOf U.eds 1=some U.sts.length
variable {step} {eq:σ→σ→Bool} {lim:Bool} {P:σ→Prop}
structure UAt (mkd:σ→Bool) (alpha:List Int) (P:σ→Prop) (step:σ→Int→σ×Bool×Int) (i:Nat) (U:Unf σ):Prop extends UOk P U where
 le:i≤U.sts.length
 pos:0<U.sts.length
 eds:U.eds=(List.range i).flatMap fun k=>match U.sts[k]? with
  |none=>[]
  |some s=>alpha.filterMap (eOf step U.sts k s)
 mkl:U.mkl=((List.range i).filter fun k=>match U.sts[k]? with
  |none=>false
  |some s=>mkd s).map fun k=>((k:Nat):Int)
 fine:∀k s,k<i→U.sts[k]? = some s→∀ev∈alpha,(step s ev).2.2=0∧((step s ev).2.1=true→(step s ev).1∈U.sts)
end
abbrev Edg:=Int×Int×Int
structure Aut where
 alpha:List Int
 states:Int
 marked:List Int
 edges:List Edg
abbrev edgI (e:Edg):List I:=[vi e.1,vi e.2.1,vi e.2.2]
abbrev edgs (l:List Edg):D:=.i (.sl 3 l.length (l.map edgI))
abbrev autD (a:Aut):D:=.agg [ints a.alpha,ii a.states,ints a.marked,edgs a.edges]
def zwk (alpha:List Int) (n:Int):Option Edg→List Edg→Int
 |_,[]=>0
 |prev,x::r=>if x.1<0∨x.1≥n∨x.2.2<0∨x.2.2≥n then 2 else if x.2.1 ∉ alpha then 9 else
  if prev.any (fun y=>decide (x.1<y.1∨x.1=y.1∧x.2.1≤y.2.1))=true then 5 else zwk alpha n (some x) r
def chkA (a:Aut):Int:=if zaO 32 a.alpha none≠0 then zaO 32 a.alpha none else if a.states<0 then 2 else if a.states>4096 then 3 else
 if zaO a.states a.marked none≠0 then zaO a.states a.marked none else zwk a.alpha a.states none a.edges
end Go.AI
namespace Go.AI
open Go.Proofs
set_option maxRecDepth 20000
end Go.AI
namespace Go.AI
def noPl:Pl:=⟨[],[],none⟩
section
variable {c:Cx} {s:St} {k:List Item} {ops:Array Oper} {rest:List Nat} {o:Oper}
theorem zel {c:Cx} {ops:Array Oper} {O:List Heap} {n:Nat}:∀{m:Nat} {l:List Oper} {qs:List Pl} {x:SH},zd2 c ops O n (l.take m) qs x→zd2 c ops O n l qs x
 |0,l,[],x,_=>by cases l<;>trivial
 |0,l,_::_,x,h=>by
  rw[List.take_zero] at h;exact h.elim
 |m+1,[],qs,x,h=>by simpa using h
 |m+1,o::r,[],x,_=>trivial
 |m+1,o::r,p::qs,x,h=>by
  rw[List.take_succ_cons] at h;exact⟨h.1,zel h.2⟩
end
theorem zjR {c:Cx} (hm:c.P.follows .mixedOrders=true) {id:Nat} {ops:Array Oper} {x0:St} {p:Nat} {k:List Item} {pre:List (List Nat)} (hpr:pre=zcL ops.toList []) (hpre:zjW ops pre=true) (htl:zrg ops pre p=true) (hlen':p≤ops.size)
  (J:(Nat→Bool)→Act→World→Prop) (hJ:∀L L' a w,(∀k,k<ops.size→L k=L' k)→J L a w→J L' a w) (hbeg:∀K ρ a w,Inv c.E K ρ x0 a w→J (fun _=>false) a w)
  (hstep:∀(L:Nat→Bool),zcT ops L→∀i o,ops[i]? = some o→i<p→L i=false→(∀j∈zbv o,L j=true)→(∀j,j<ops.size→p≤j→L j=false)→∀a w,J L a w →
   ∀(Q:Exit→Act→World→Prop) (next:Act→World→Prop),(∀a' w',J (fun k=>L k||Nat.beq k i) a' w' → next a' w')→wpOp c.P ops Q i next a w)
  (hend:∀a w,J (fun k=>Nat.ble (k+1) p) a w→wpOps c.P ops (fun e a' w'=>e=.normal∧Ends c k a' w') (List.range' p (ops.size-p)) a w):Rch c (.code (.region id ops true)::k) x0:=by
 subst hpr;intro K ρ a w b cs hi hb hk
 let Q:Exit→Act→World→Prop:=fun e a' w'=>e=.normal∧Ends c k a' w'
 have hgetD:∀(listed:Array Bool) (i:Nat),listed.size=ops.size→i<ops.size→∀k,(listed.setIfInBounds i true).getD k false=(listed.getD k false||Nat.beq k i):=by
  intro listed i hsz hlt k
  by_cases hki:k=i
  ·subst hki;simp[hsz,hlt]
  ·have:Nat.beq k i=false:=by
    cases hb:Nat.beq k i with
    |false=>rfl
    |true=>exact absurd (Nat.eq_of_beq_eq_true hb) hki
   rw[this,Bool.or_false,getD_set_ne false (Ne.symm hki)]
 have hcntlt:∀(listed:Array Bool) (i:Nat),listed.size=ops.size→i<ops.size→listed.getD i false=false→(List.range ops.size).countP (fun k=>!(listed.setIfInBounds i true).getD k false)<(List.range ops.size).countP (fun k=>!listed.getD k false):=by
  intro listed i hsz hlt hLi;have e1:(fun k=>!(listed.setIfInBounds i true).getD k false)=fun k=>!listed.getD k false&&!Nat.beq k i:=by
   funext k;rw[hgetD listed i hsz hlt];simp
  rw[e1];obtain⟨l1,l2,hl⟩:=List.append_of_mem (List.mem_range.2 hlt);rw[hl];simp only[List.countP_append,List.countP_cons];have m1:l1.countP (fun k=>!listed.getD k false&&!Nat.beq k i)≤l1.countP (fun k=>!listed.getD k false):=List.countP_mono_left fun x _ hx=>by simp only[Bool.and_eq_true] at hx;exact hx.1
  have m2:l2.countP (fun k=>!listed.getD k false&&!Nat.beq k i)≤l2.countP (fun k=>!listed.getD k false):=List.countP_mono_left fun x _ hx=>by simp only[Bool.and_eq_true] at hx;exact hx.1
  have e2:(!listed.getD i false)=true:=by rw[hLi];rfl
  have e3:Nat.beq i i=true:=Nat.beq_refl i;rw[if_pos e2,if_neg (by rw[e3];simp)];omega
 have hready:∀(listed:Array Bool),listed.size=ops.size→∀i,i<ops.size→listed.getD i false=false→(∀o,ops[i]? = some o→∀j∈zbv o,listed.getD j false=true)→i∈Region.ready .any ops listed:=by
  intro listed hsz i hlt hLi hbe;rw[mem_ready];obtain⟨o,ho⟩:∃o,ops[i]? = some o:=⟨ops[i],by rw[Array.getElem?_eq_getElem]⟩;refine⟨?_,o,ho,fun e he hb1=>hbe o ho e.on (zdu.2 ⟨e,he,hb1,rfl⟩)⟩;simp only[Array.getD_eq_getD_getElem?] at hLi ⊢;rw[Array.getElem?_eq_getElem (by omega)] at hLi ⊢;simpa using hLi
 have hfromReady:∀(listed:Array Bool),listed.size=ops.size→∀i∈Region.ready .any ops listed,∃o,ops[i]? = some o∧i<ops.size∧listed.getD i false=false∧∀j∈zbv o,listed.getD j false=true:=by
  intro listed hsz i hi;obtain⟨h1,o,ho,hbe⟩:=mem_ready.1 hi;have hlt:i<ops.size:=(Array.getElem?_eq_some_iff.1 ho).1;refine⟨o,ho,hlt,?_,fun j hj=>?_⟩
  ·simp only[Array.getD_eq_getD_getElem?] at h1 ⊢;rw[Array.getElem?_eq_getElem (by omega)] at h1 ⊢;simpa using h1
  ·obtain⟨e,he,hb1,rfl⟩:=zdu.1 hj;exact hbe e he hb1
 have hclose:∀(listed:Array Bool) (i:Nat) (o:Oper),listed.size=ops.size→ops[i]? = some o→i<ops.size→(∀j∈zbv o,listed.getD j false=true)→zcT ops (fun k=>listed.getD k false)→zcT ops (fun k=>(listed.setIfInBounds i true).getD k false):=by
  intro listed i o hsz ho hlt hbef hc k ok hok2 hk2 j hj;have hk2:(listed.setIfInBounds i true).getD k false=true:=hk2;show (listed.setIfInBounds i true).getD j false=true;rw[hgetD listed i hsz hlt] at hk2 ⊢;simp only[Bool.or_eq_true] at hk2;rcases hk2 with hk2|hk2
  ·have hcj:listed.getD j false=true:=hc k ok hok2 hk2 j hj;rw[hcj];rfl
  ·have:=Nat.eq_of_beq_eq_true hk2;subst this;rw[ho] at hok2;simp only[Option.some.injEq] at hok2;subst hok2;rw[hbef j hj];rfl
 have htail:∀(listed:Array Bool) (i:Nat) (o:Oper),ops[i]? = some o→p≤i→zcT ops (fun k=>listed.getD k false)→(∀j∈zbv o,listed.getD j false=true)→∀j,j<i→listed.getD j false=true:=by
  intro listed i o ho hge hc hbef j hj;have hlt:i<ops.size:=(Array.getElem?_eq_some_iff.1 ho).1;have h1:=zbW htl i hlt;simp only[Bool.or_eq_true] at h1;rcases h1 with h1|h1
  ·have:=Nat.le_of_ble_eq_true h1;omega
  ·exact (zdr hpre hc (i+1) i o (by omega) ho hbef j (zcr.1 (zbW h1 j hj))).1
 -- the tail
 have tail:∀(fuel m:Nat) (listed:Array Bool) (a:Act) (w:World),listed.size=ops.size→p≤m→m≤ops.size→ops.size-m≤fuel→(∀j,j<ops.size→listed.getD j false=Nat.ble (j+1) m)→zcT ops (fun k=>listed.getD k false) →
   wpOps c.P ops Q (List.range' m (ops.size-m)) a w→wpAny c.P .any ops Q fuel listed a w:=by
  intro fuel
  induction fuel with
  |zero=>
   intro m listed a w hsz hm1 hm2 hf hl hc hw;have:ops.size-m=0:=by omega
   rw[this] at hw;refine⟨?_,hw⟩
   cases hr:Region.ready .any ops listed with
   |nil=>rfl
   |cons i r=>
    obtain⟨o,ho,hlt,hLi,_⟩:=hfromReady listed hsz i (by rw[hr];simp);rw[hl i hlt,Nat.ble_eq_true_of_le (by omega)] at hLi
    cases hLi
  |succ fuel ih=>
   intro m listed a w hsz hm1 hm2 hf hl hc hw;refine⟨fun hr=>?_,fun i hi=>?_⟩
   ·by_cases hms:m=ops.size
    ·have:ops.size-m=0:=by omega
     rw[this] at hw;exact hw
    ·exfalso;have hmlt:m<ops.size:=by omega
     have:m∈Region.ready .any ops listed:=by
      refine hready listed hsz m hmlt ?_ fun o ho j hj=>?_
      ·rw[hl m hmlt]
       cases hb:Nat.ble (m+1) m with
       |false=>rfl
       |true=>have:=Nat.le_of_ble_eq_true hb;omega
      ·have hjm:=(zjV hpre m o ho).1 j hj;rw[hl j (by omega)];exact Nat.ble_eq_true_of_le hjm
     rw[hr] at this;cases this
   ·obtain⟨o,ho,hlt,hLi,hbef⟩:=hfromReady listed hsz i hi;have him:m≤i:=by
     rw[hl i hlt] at hLi
     apply Nat.le_of_not_lt
     intro h;rw[Nat.ble_eq_true_of_le h] at hLi;cases hLi
    have:i=m:=by
     apply Classical.byContradiction
     intro hne;have:=htail listed i o ho (by omega) hc hbef m (by omega);rw[hl m (by omega)] at this;have:=Nat.le_of_ble_eq_true this;omega
    subst this;rw[show ops.size-i=(ops.size-(i+1))+1 by omega,List.range'_succ,wpOps_cons] at hw;refine wpOp_mono (fun a w h=>?_) hw;refine ih (i+1) _ a w (by simpa using hsz) (by omega) (by omega) (by omega) (fun j hj=>?_) (hclose listed i o hsz ho hlt hbef hc) h;rw[hgetD listed i hsz hlt,hl j hj]
    by_cases hji:j=i
    ·subst hji;rw[Nat.beq_refl,Bool.or_true];exact (Nat.ble_eq_true_of_le (Nat.le_refl _)).symm
    ·have hbn:Nat.beq j i=false:=by
      cases hb:Nat.beq j i with
      |false=>rfl
      |true=>exact absurd (Nat.eq_of_beq_eq_true hb) hji
     rw[hbn,Bool.or_false]
     by_cases hji2:j+1≤i
     ·rw[Nat.ble_eq_true_of_le hji2,Nat.ble_eq_true_of_le (by omega)]
     ·have e1:Nat.ble (j+1) i=false:=by
       cases hb:Nat.ble (j+1) i with
       |false=>rfl
       |true=>exact absurd (Nat.le_of_ble_eq_true hb) hji2
      have e2:Nat.ble (j+1) (i+1)=false:=by
       cases hb:Nat.ble (j+1) (i+1) with
       |false=>rfl
       |true=>have:=Nat.le_of_ble_eq_true hb;omega
      rw[e1,e2]
 have hclosedlt:∀(listed:Array Bool),zcT ops (fun k=>listed.getD k false)→(∃j,j<p∧listed.getD j false=false)→∀i,i<ops.size→p≤i→listed.getD i false=false:=by
  intro listed hc ⟨j,hj,hjf⟩ i hi hge
  cases hLi:listed.getD i false with
  |false=>rfl
  |true=>
   obtain⟨o,ho⟩:∃o,ops[i]? = some o:=⟨ops[i],by rw[Array.getElem?_eq_getElem]⟩;have:=htail listed i o ho hge hc (fun k hk=>hc i o ho hLi k hk) j (by omega);rw[hjf] at this;cases this
 have key:∀(fuel:Nat) (listed:Array Bool) (a:Act) (w:World),listed.size=ops.size→(List.range ops.size).countP (fun k=>!listed.getD k false)≤fuel→zcT ops (fun k=>listed.getD k false) →
   (∀i,i<ops.size→p≤i→listed.getD i false=false)→J (fun k=>listed.getD k false) a w→wpAny c.P .any ops Q fuel listed a w:=by
  intro fuel
  induction fuel with
  |zero=>
   intro listed a w hsz hcnt hc hno hinv;have hl:∀i,i<ops.size→listed.getD i false=true:=by
    have h0:=List.countP_eq_zero.1 (Nat.le_zero.1 hcnt);intro i hi;have:=h0 i (List.mem_range.2 hi);simpa using this
   have hps:p=ops.size:=by
    apply Classical.byContradiction
    intro hne;have h1:=hno p (by omega) (Nat.le_refl _);rw[hl _ (by omega)] at h1;cases h1
   refine tail 0 ops.size listed a w hsz (by omega) (Nat.le_refl _) (by omega) (fun j hj=>?_) hc ?_
   ·rw[hl j hj,Nat.ble_eq_true_of_le (by omega)]
   ·rw[Nat.sub_self];have:=hend a w (hJ _ _ a w (fun k hk=>by rw[hl k hk,Nat.ble_eq_true_of_le (by omega)]) hinv);rw[hps,Nat.sub_self] at this;exact this
  |succ fuel ih=>
   intro listed a w hsz hcnt hc hno hinv
   by_cases hall:∀j,j<p→listed.getD j false=true
   ·
    have hl:∀j,j<ops.size→listed.getD j false=Nat.ble (j+1) p:=by
     intro j hj
     by_cases hjl:j<p
     ·rw[hall j hjl,Nat.ble_eq_true_of_le hjl]
     ·rw[hno j hj (by omega)]
      cases hb:Nat.ble (j+1) p with
      |false=>rfl
      |true=>have:=Nat.le_of_ble_eq_true hb;omega
    refine tail (fuel+1) p listed a w hsz (Nat.le_refl _) hlen' ?_ hl hc ?_
    ·refine Nat.le_trans ?_ hcnt;have e:(List.range ops.size)=List.range p++(List.range' p (ops.size-p)):=by
      have h:=List.range'_append_1 (s:=0) (m:=p) (n:=ops.size-p);rw[Nat.zero_add,Nat.add_sub_cancel' hlen'] at h;rw[List.range_eq_range',List.range_eq_range',h]
     rw[e,List.countP_append];have:(List.range' p (ops.size-p)).countP (fun k=>!listed.getD k false)=(List.range' p (ops.size-p)).length:=by
      rw[List.countP_eq_length];intro k hk;rw[List.mem_range'_1] at hk;rw[hno k (by omega) hk.1];rfl
     rw[this,List.length_range'];omega
    ·exact hend a w (hJ _ _ a w (fun k hk=>hl k hk) hinv)
   ·have hex:∃j,j<p∧listed.getD j false=false:=by
     apply Classical.byContradiction
     intro hne
     apply hall
     intro j hj
     cases hb:listed.getD j false with
     |true=>rfl
     |false=>exact absurd ⟨j,hj,hb⟩ hne
    refine⟨fun hr=>?_,fun i hi=>?_⟩
    ·
     exfalso;obtain⟨j,hj,hjf⟩:=hex;have:∀m i,i<m→i<ops.size→listed.getD i false=true:=by
      intro m
      induction m with
      |zero=>intro i h;omega
      |succ m ih=>
       intro i hi1 hi2
       cases hcc:listed.getD i false with
       |true=>rfl
       |false=>
        exfalso;have:i∈Region.ready .any ops listed:=hready listed hsz i hi2 hcc fun o ho k hk=>by
         have:=(zjV hpre i o ho).1 k hk;exact ih k (by omega) (by omega)
        rw[hr] at this;cases this
     rw[this (j+1) j (by omega) (by omega)] at hjf
     cases hjf
    ·obtain⟨o,ho,hlt,hLi,hbef⟩:=hfromReady listed hsz i hi;have hil:i<p:=by
      apply Nat.lt_of_not_le
      intro hge;obtain⟨j,hj,hjf⟩:=hex;rw[htail listed i o ho hge hc hbef j (by omega)] at hjf
      cases hjf
     refine hstep (fun k=>listed.getD k false) hc i o ho hil hLi hbef hno a w hinv Q _ fun a' w' hinv'=>?_;refine ih _ _ _ (by simpa using hsz) ?_ (hclose listed i o hsz ho hlt hbef hc) (fun k hk1 hk2=>?_) ?_
     ·have:=hcntlt listed i hsz hlt hLi;omega
     ·rw[hgetD listed i hsz hlt,hno k hk1 hk2,Bool.false_or]
      cases hb:Nat.beq k i with
      |false=>rfl
      |true=>have:=Nat.eq_of_beq_eq_true hb;omega
     ·exact hJ _ _ a' w' (fun k _=>(hgetD listed i hsz hlt k).symm) hinv'
 have hrep:∀k,(Array.replicate ops.size false).getD k false=false:=by
  intro k;simp only[Array.getD_eq_getD_getElem?,Array.getElem?_replicate]
  split<;>rfl
 obtain⟨e,a',w',⟨rfl,hq⟩,harr⟩:=wp_region_any (id:=id) hm (key ops.size _ a {w with drawn:=w.drawn+1} (by simp) (by
  refine Nat.le_trans (List.countP_le_length ..) ?_;simp) (fun i o _ h=>by
   have h:(Array.replicate ops.size false).getD i false=true:=h;rw[hrep] at h
   cases h) (fun i _ _=>hrep i) (hJ _ _ _ _ (fun k _=>(hrep k).symm) (hbeg K ρ _ _ (znH hi _)))) b k cs
 obtain⟨v,w'',fr,hp,hst,h3⟩:=hq b cs hb hk;exact⟨v,w'',fr,hp,Steps.trans harr hst,h3⟩
structure Base (E0 E:Env) (O:List Heap):Prop where
 K:E0.K0.le E.K0
 ρ:∀d,E.ρ0 d=E0.ρ0 d
 pr:∀b,E0.pr b→E.pr b
 new:∀b o x,E.K0 b o=some x→E0.K0 b o=some x∨¬E0.pr b
 size:E0.w0.heap.size≤E.w0.heap.size
 old:∀b,E0.pr b→(∀dep nm ob,zab O dep nm=some ob→zaA (E0.ρ0 dep nm) ob→(E0.ρ0 dep nm).block≠b)→E.w0.heap[b]? = E0.w0.heap[b]?
 rest:E.w0.tape=E0.w0.tape∧E.w0.os=E0.w0.os∧E.w0.output=E0.w0.output
theorem Base.refl (E:Env) (O:List Heap):Base E E O:=⟨Kn.le_refl _,fun _=>rfl,fun _ h=>h,fun _ _ _ h=>.inl h,Nat.le_refl _,fun _ _ _=>rfl,⟨rfl,rfl,rfl⟩⟩
section
variable {E0 E:Env} {K:Kn} {ρ:Nat→Nat→Loc} {H:Heap} {O:List Heap} {w:World}
theorem HInv.outerNe (h:HInv E K ρ (H::O) w) {b:Nat} (hb:Base E0 E O) (ho:∀dep nm ob,zab O dep nm=some ob→zaA (E0.ρ0 dep nm) ob→(E0.ρ0 dep nm).block≠b) :
  ∀dep nm ob,zab (H::O) (dep+1) nm=some ob→zaA (ρ (dep+1) nm) ob→(ρ (dep+1) nm).block≠b:=by
 intro dep nm ob e hbk;have e':zab O dep nm=some ob:=by simpa [zab] using e
 have e2:ρ (dep+1)=E0.ρ0 dep:=by rw[h.outer,hb.ρ]
 rw[e2] at hbk ⊢;exact ho dep nm ob e' hbk
theorem HInv.unbase (hb:Base E0 E O) (h:HInv E K ρ (H::O) w):HInv E0 K ρ (H::O) w:=by
 refine⟨h.holds,h.own,h.inj,Nat.le_trans hb.size h.size,fun b hp hne=>?_,fun nm ob e hbk hp=>h.loc nm ob e hbk (hb.pr _ hp),fun d=>by rw[h.outer,hb.ρ],Kn.le_trans hb.K h.Kle,fun b o x e=>?_,?_⟩
 ·rw[h.old b (hb.pr b hp) hne];refine hb.old b hp fun dep nm ob e hbk=>?_;have e':zab (H::O) (dep+1) nm=some ob:=by simpa [zab] using e
  have e2:ρ (dep+1)=E0.ρ0 dep:=by rw[h.outer,hb.ρ]
  have:=hne dep nm ob e' (by rw[e2];exact hbk);rwa [e2] at this
 ·rcases h.Knew b o x e with h1|h1
  ·exact hb.new b o x h1
  ·exact .inr fun hp=>h1 (hb.pr b hp)
 ·exact⟨h.rest.1.trans hb.rest.1,h.rest.2.1.trans hb.rest.2.1,h.rest.2.2.trans hb.rest.2.2⟩
end
inductive RowOf (E0 E:Env) (O:List Heap) (ty es:Nat):Value→List (List I)→Prop
 |nil:RowOf E0 E O ty es (.slice none 0 0) []
 |row {b n cap:Nat} {c:Array Value} {xs:List (List I)} (hn:xs.length=n) (hd:∀d∈xs,d.length=es) (hp:E.pr b) (hp0:¬E0.pr b)
   (ho:∀dep nm ob,zab O dep nm=some ob→zaA (E0.ρ0 dep nm) ob→(E0.ρ0 dep nm).block≠b)
   (hc:E.w0.heap[b]? = some (.cells c ty (0,0))) (hs:c.size=cap*es) (hcap:n≤cap) (hm:cap≤maxLen) (hr:RepL E.K0 (c.toList.take (n*es)) xs.flatten)
   (hk:∀o,o<n*es→E.K0 b o=c[o]?) (hk':∀o,n*es≤o→E.K0 b o=none):RowOf E0 E O ty es (.slice (some ⟨b,0,none⟩) n cap) xs
theorem RowOf.rep {E0 E:Env} {O:List Heap} {ty es:Nat} {v:Value} {xs:List (List I)} (h:RowOf E0 E O ty es v xs) {K:Kn} (hK:E.K0.le K):Rep K v (.sl es xs.length xs):=by
 cases h with
 |nil=>exact .nil
 |row hn hd hp hp0 ho hc hs hcap hm hr hk hk'=>
  subst hn;refine .sl (RepL.mono hK hr) hd (fun j c' hc'=>?_) hcap rfl;rw[List.getElem?_take] at hc'
  split at hc'
  ·rename_i hj;rw[Nat.zero_add];refine hK _ _ _ ?_;rw[hk j hj];simpa using hc'
  ·cases hc'
structure RowsO (E0 E:Env) (O:List Heap) (ty es:Nat) (vs:List Value) (xss:List (List (List I))):Prop where
 base:Base E0 E O
 len:vs.length=xss.length
 row:∀(j:Nat) v xs,vs[j]? = some v→xss[j]? = some xs→RowOf E0 E O ty es v xs
 apart:∀(i j:Nat) v v' b,i≠j→vs[i]? = some v→vs[j]? = some v' → v.ownBlock=some b→v'.ownBlock≠some b
section
variable {P:Program} {K:Kn} {w:World}
theorem zx8 {t ty n m:Nat} {i:TI} (hu:P.underlying t=some (.slice ty)) (hok:TIok P ty i) {v:Value} {olds:List Value}
  (hv:(v=.slice none 0 0∧n=0∧olds=[])∨∃b cap c,v=.slice (some ⟨b,0,none⟩) n cap∧w.heap[b]? = some (.cells c ty (0,0))∧c.size=cap*i.size∧n≤cap∧cap≤maxLen∧olds=c.toList.take (n*i.size))
  {p:Option Addr} {cp:Nat} {ad:Addr} {news:List Value} (hp:p=some ad) (hly:news.length=m*i.size) (h1:∀u∈news,u.oneCell'=true) (hadd:∀j c,news[j]? = some c→w.cell? (ad.add j)=some c) (hm:0<m)
  (hb:(n+m)*i.bytes≤140737488355328) (h63:n+m≤9223372036854775807) (rty:TypeId) :
  ∃b cap' c' w',(Builtin.append_ #[t,t] rty #[v,.slice p m cp]).run P w=.ok (.slice (some ⟨b,0,none⟩) (n+m) cap') w'∧w'.heap[b]? = some (.cells c' ty (0,0))∧c'.size=cap' * i.size∧n+m≤cap'∧cap' ≤ maxLen ∧
   c'.toList.take ((n+m)*i.size)=olds++news∧(v.ownBlock=some b∨b=w.heap.size)∧(∀b',b' < w.heap.size→b' ≠ b→w'.heap[b']? = w.heap[b']?)∧w.heap.size≤w'.heap.size∧(w'.tape=w.tape∧w'.os=w.os∧w'.output=w.output)∧olds.length=n*i.size:=by
 subst hp;obtain⟨inf,hi1,hi2,hi3,z,hi4,hi5,-⟩:=hok.info;have hzs:z.cells.size=i.size:=by rw[←Array.length_toList,hi5,hok.len]
 have hgm:∀old,grownCap w (n+m) old ty≤maxLen:=fun old=>grownCap_le_maxLen w (n+m) old ty (by simp only[maxLen];omega);have hgg:∀old,n+m≤grownCap w (n+m) old ty:=fun old=>grownCap_ge w (n+m) old ty;have fresh:∀old,olds.length=n*i.size→∃c',(w.drew.alloc (.cells (olds.toArray++news.toArray++Builtin.zeroCells z.cells (grownCap w (n+m) old ty-(n+m))) ty)).heap[w.heap.size]? = some (.cells c' ty (0,0))∧c'.size=grownCap w (n+m) old ty*i.size ∧
   c'.toList.take ((n+m)*i.size)=olds++news∧(∀b',b' < w.heap.size→b' ≠ w.heap.size→(w.drew.alloc (.cells (olds.toArray++news.toArray++Builtin.zeroCells z.cells (grownCap w (n+m) old ty-(n+m))) ty)).heap[b']? = w.heap[b']?) ∧
   w.heap.size≤(w.drew.alloc (.cells (olds.toArray++news.toArray++Builtin.zeroCells z.cells (grownCap w (n+m) old ty-(n+m))) ty)).heap.size:=by
  intro old hlo;refine⟨_,heap_alloc_new w.drew _,?_,?_,fun b' hb' _=>by first|exact heap_alloc_old w.drew _ b' hb'|exact heap_alloc_old w.drew _ hb',by simp[World.size_alloc]⟩
  ·simp only[Array.size_append,List.size_toArray,size_zeroCells,hzs,hlo,hly,←Nat.add_mul];have:=hgg old;congr 1;omega
  ·simp only[Array.toList_append];have:(n+m)*i.size=(olds++news).length:=by rw[List.length_append,hlo,hly,Nat.add_mul]
   rw[this,List.take_left]
 rcases hv with ⟨rfl,rfl,rfl⟩|⟨b,cap,c,rfl,hc,hcs,hcap,hcm,rfl⟩
 ·have hr:=run_append_nil (P:=P) w t rty ty inf z hu hi1 hi4 ad m cp news (by rw[hi2];exact hly) hadd hm (by omega) (by rw[hi3];simp only[Nat.zero_add] at hb;omega);obtain⟨c',f1,f2,f3,f4,f5⟩:=fresh 0 (by simp);have hg:=hgg 0;have hgm0:=hgm 0;simp only[Nat.zero_add,List.nil_append,Array.empty_append] at f1 f2 f3 f4 f5 hg hgm0 ⊢;exact⟨_,_,c',_,hr,f1,f2,hg,hgm0,f3,.inr rfl,f4,f5,⟨rfl,rfl,rfl⟩,by simp⟩
 ·have hlo:(c.toList.take (n*i.size)).length=n*i.size:=by
   rw[List.length_take,Array.length_toList,hcs];exact Nat.min_eq_left (Nat.mul_le_mul_right _ hcap)
  by_cases hroom:n+m≤cap
  ·have hfit:n*i.size+news.length≤c.size:=by rw[hly,hcs,←Nat.add_mul];exact Nat.mul_le_mul_right _ hroom
   have hr:=run_append_room (P:=P) w t rty ty inf hu hi1 b n cap c hc ad m cp news (by rw[hi2];exact hly) hadd h1 hroom (by rw[hi2];exact hfit);rw[hi2] at hr;refine⟨b,cap,_,_,hr,setRow_heap _ _ _ _ _ _ hc,?_,hroom,hcm,?_,.inl (by simp[Value.ownBlock]),fun b' _ hne=>setRow_other _ _ _ _ hne,by simp,⟨rfl,rfl,rfl⟩,hlo⟩
   ·simp only[List.size_toArray,List.length_append,List.length_drop,Array.length_toList,hlo];omega
   ·simp only;have e:(n+m)*i.size=(c.toList.take (n*i.size)++news).length:=by rw[List.length_append,hlo,hly,Nat.add_mul]
    rw[e,List.take_left]
  ·have holds:∀j u,(c.toList.take (n*i.size))[j]? = some u→w.cell? ((⟨b,0,none⟩:Addr).add j)=some u:=by
    intro j u hj;rw[List.getElem?_take] at hj
    split at hj
    ·have hadd:(⟨b,0,none⟩:Addr).add j=⟨b,j,none⟩:=by unfold Addr.add;split<;>simp_all
     rw[hadd,cell_of_heap hc];simpa using hj
    ·cases hj
   have hr:=run_append_grow (P:=P) w t rty ty inf z hu hi1 hi4 ⟨b,0,none⟩ n cap (c.toList.take (n*i.size)) (by rw[hi2];exact hlo) holds ad m cp news (by rw[hi2];exact hly) hadd (by omega) (by omega) (by rw[hi3];exact growslice_fits (by omega) hb);obtain⟨c',f1,f2,f3,f4,f5⟩:=fresh cap hlo;exact⟨_,_,c',_,hr,f1,f2,hgg cap,hgm cap,f3,.inr rfl,f4,f5,⟨rfl,rfl,rfl⟩,hlo⟩
end
section
variable {P:Program} {E0 E:Env} {K:Kn} {ρ:Nat→Nat→Loc} {s:St} {a:Act} {w:World} {H:Heap} {O:List Heap} {ty es:Nat} {vs:List Value} {xss:List (List (List I))}
open Classical in
noncomputable def zgQ (K:Kn) (b m:Nat) (c:Array Value):Kn:=fun b' o=>if b'=b∧o<m then c[o]? else K b' o
theorem zpD (hi:Inv E K ρ s a w) (hS:s.S=H::O) (hR:RowsO E0 E O ty es vs xss) {j:Nat} {v:Value} {xs:List (List I)} (hv:vs[j]? = some v) (hx:xss[j]? = some xs) {t:Nat} {i:TI} (hu:P.underlying t=some (.slice ty)) (hok:TIok P ty i)
  (he:i.size=es) {vy:Value} {m:Nat} {ys:List (List I)} (hy:Rep K vy (.sl es m ys)) (hm:0<m) (hb:(xs.length+m)*i.bytes≤140737488355328) (h63:xs.length+m≤9223372036854775807) (rty:TypeId) :
  ∃v' w' E' K',(Builtin.append_ #[t,t] rty #[v,vy]).run P w=.ok v' w'∧K.le K'∧v'.oneCell'=true∧Inv E' K' ρ s a w'∧RowsO E0 E' O ty es (vs.set j v') (xss.set j (xs++ys)):=by
 subst he;have hh:=hi.h;rw[hS] at hh;have hrow:=hR.row j v xs hv hx;have hjl:j<vs.length:=(List.getElem?_eq_some_iff.1 hv).1;have hKlt:∀b o x,K b o=some x→b<w.heap.size:=fun b o x e=>by
  rcases Nat.lt_or_ge b w.heap.size with h'|h'
  ·exact h'
  ·rw[hh.K_fresh h'] at e;cases e
 have hsz0:E0.w0.heap.size≤w.heap.size:=Nat.le_trans hR.base.size hh.size;have hEold:∀b,E.pr b→(∀dep nm ob,zab O dep nm=some ob→zaA (E0.ρ0 dep nm) ob→(E0.ρ0 dep nm).block≠b)→w.heap[b]? = E.w0.heap[b]?:=fun b hp ho=>hh.old b hp (hh.outerNe hR.base ho);have hKE:∀b o,E.pr b→K b o=E.K0 b o:=by
  intro b o hp
  cases hk:K b o with
  |none=>
   cases hk2:E.K0 b o with
   |none=>rfl
   |some x=>rw[hh.Kle _ _ _ hk2] at hk;cases hk
  |some x=>
   rcases hh.Knew b o x hk with h1|h1
   ·rw[h1]
   ·exact absurd hp h1
 -- the second operand
 obtain⟨ad,cap2,news,rfl,hry,hey,hadd,hym⟩:∃ad cap2 news,vy=.slice (some ad) m cap2∧RepL K news ys.flatten∧(∀d∈ys,d.length=i.size)∧(∀j c,news[j]? = some c→w.cell? (ad.add j)=some c)∧ys.length=m:=by
  cases hy with
  |nil=>omega
  |sl r e k c l=>exact⟨_,_,_,rfl,r,e,fun j c hc=>by rw[Addr.add_lit];exact hh.holds _ _ _ (k j c hc),l⟩
 have hly:news.length=m*i.size:=by rw[hry.length,zbC ys hey,hym]
 -- the row
 obtain⟨olds,hvv,hro,hex,hob⟩:∃olds,((v=.slice none 0 0∧xs.length=0∧olds=[])∨∃b cap c,v=.slice (some ⟨b,0,none⟩) xs.length cap∧w.heap[b]? = some (.cells c ty (0,0))∧c.size=cap*i.size∧xs.length≤cap∧cap≤maxLen∧olds=c.toList.take (xs.length*i.size)) ∧
   RepL K olds xs.flatten∧(∀d∈xs,d.length=i.size)∧(∀b,v.ownBlock=some b→E.pr b∧¬E0.pr b∧(∀dep nm ob,zab O dep nm=some ob→zaA (E0.ρ0 dep nm) ob→(E0.ρ0 dep nm).block≠b)∧∀o x,K b o=some x→o<xs.length*i.size∧olds[o]? = some x):=by
  cases hrow with
  |nil=>exact⟨[],.inl ⟨rfl,rfl,rfl⟩,.nil,by simp,fun b e=>by simp[Value.ownBlock] at e⟩
  |@row b n cap c _ hn hd hp hp0 ho hc hs hcap hm hr hk hk'=>
   subst hn;refine⟨c.toList.take (xs.length*i.size),.inr ⟨b,cap,c,rfl,by rw[hEold b hp ho];exact hc,hs,hcap,hm,rfl⟩,hr.mono hh.Kle,hd,fun b' e=>?_⟩;simp only[Value.ownBlock,Option.some.injEq] at e;subst e;refine⟨hp,hp0,ho,fun o x e=>?_⟩;rw[hKE b o hp] at e
   by_cases hlt:o<xs.length*i.size
   ·refine⟨hlt,?_⟩;rw[hk o hlt] at e;rw[List.getElem?_take,if_pos hlt];simpa using e
   ·rw[hk' o (by omega)] at e;cases e
 obtain⟨b,cap',c',w',hrun,hc',hcs',hcap',hcm',htk,hbb,hold,hsz,hrest,hlo⟩:=zx8 (P:=P) (w:=w) (n:=xs.length) (m:=m) hu hok hvv (p:=some ad) (cp:=cap2) rfl hly hry.one hadd hm hb h63 rty;have hnb0:¬E0.pr b:=by
  rcases hbb with h1|h1
  ·exact (hob b h1).2.1
  ·intro hp;have:=E0.lt b hp;omega
 have hKb:∀o x,K b o=some x→o<xs.length*i.size∧olds[o]? = some x:=by
  rcases hbb with h1|h1
  ·exact (hob b h1).2.2.2
  ·intro o x e;have:=hKlt b o x e;omega
 have hbO:∀dep nm ob,zab s.S dep nm=some ob→zaA (ρ dep nm) ob→(ρ dep nm).block≠b:=by
  intro dep nm ob e hbk;rw[hS] at e;rcases hbb with h1|h1
  ·obtain⟨hp,_,ho,_⟩:=hob b h1
   cases dep with
   |zero=>intro e2;exact hh.loc nm ob e hbk (by rw[e2];exact hp)
   |succ dep=>exact hh.outerNe hR.base ho dep nm ob e hbk
  ·have:=(hh.own dep nm ob e).lt (by simpa using hbk);have e3:(ρ dep nm).block<w.heap.size:=this;omega
 have hbOut:∀dep nm ob,zab O dep nm=some ob→zaA (E0.ρ0 dep nm) ob→(E0.ρ0 dep nm).block≠b:=by
  intro dep nm ob e hbk;have e2:ρ (dep+1)=E0.ρ0 dep:=by rw[hh.outer,hR.base.ρ]
  have:=hbO (dep+1) nm ob (by rw[hS];simpa [zab] using e) (by rw[e2];exact hbk);rwa [e2] at this
 have hlen:(olds++news).length=(xs.length+m)*i.size:=by rw[List.length_append,hlo,hly,Nat.add_mul]
 have hci:∀o,o<(xs.length+m)*i.size→c'[o]? = (olds++news)[o]?:=by
  intro o ho;rw[←htk,List.getElem?_take,if_pos ho];simp
 let K':Kn:=zgQ K b ((xs.length+m)*i.size) c'
 have hle:K.le K':=by
  intro b' o x e;show zgQ _ _ _ _ _ _=_;unfold zgQ
  split
  ·rename_i h1;obtain⟨rfl,h2⟩:=h1;obtain⟨h3,h4⟩:=hKb o x e;rw[hci o h2,List.getElem?_append_left (by omega)];exact h4
  ·exact e
 have hK'ne:∀b',b' ≠ b→∀o,K' b' o=K b' o:=fun b' hne o=>by
  show zgQ _ _ _ _ _ _=_;unfold zgQ;rw[if_neg (fun h=>hne h.1)]
 have hwne:∀b',b' < w.heap.size→b' ≠ b→w'.heap[b']? = w.heap[b']?:=hold;have hholds:∀b' o x,K' b' o=some x→w'.cell? ⟨b',o,none⟩=some x:=by
  intro b' o x e
  by_cases hbe:b'=b
  ·subst hbe;have e:zgQ K b' ((xs.length+m)*i.size) c' b' o=some x:=e;unfold zgQ at e
   split at e
   ·rw[cell_of_heap hc'];exact e
   ·rename_i h1;obtain⟨h3,_⟩:=hKb o x e;exact absurd ⟨rfl,by rw[Nat.add_mul];omega⟩ h1
  ·rw[hK'ne b' hbe] at e;have:=hKlt _ _ _ e;rw[World.cell?,hwne b' this hbe];exact hh.holds _ _ _ e
 have hblt:b<w'.heap.size:=(Array.getElem?_eq_some_iff.1 hc').1;have hprlt:∀b',(E.pr b' ∨ b'=b)→b' < w'.heap.size:=by
  intro b' h1;rcases h1 with h1|rfl
  ·have:=E.lt b' h1;have:=hh.size;omega
  ·exact hblt
 let E':Env:={ K0:=K',ρ0:=E.ρ0,w0:=w',pr:=fun b'=>E.pr b' ∨ b'=b,lt:=hprlt}
 have hI':HInv E' K' ρ s.S w':=by
  rw[←hS] at hh;refine⟨hholds,fun dep nm ob e=>?_,hh.inj,Nat.le_refl _,fun _ _ _=>rfl,fun nm ob e hbk hp=>?_,hh.outer,Kn.le_refl _,fun _ _ _ e=>.inl e,⟨rfl,rfl,rfl⟩⟩
  ·refine (hh.own dep nm ob e).stays ⟨hle,fun _ _ _ e=>e,fun _ _ _ _=>rfl⟩ (fun hbk=>?_) (fun hbk o=>hK'ne _ (hbO dep nm ob e (by simpa using hbk)) o);exact hwne _ ((hh.own dep nm ob e).lt hbk) (hbO dep nm ob e (by simpa using hbk))
  ·rcases hp with hp|hp
   ·exact hh.loc nm ob e hbk hp
   ·exact hbO 0 nm ob e hbk hp
 refine⟨_,w',E',K',hrun,hle,rfl,⟨hI',hi.defers,hi.size,fun t d e=>(hi.slots t d e).stays ⟨hle,fun _ _ _ e=>e,fun _ _ _ _=>rfl⟩⟩,?_⟩;refine⟨⟨Kn.le_trans hR.base.K (Kn.le_trans hh.Kle hle),hR.base.ρ,fun b' hp=>.inl (hR.base.pr b' hp),fun b' o x e=>?_,Nat.le_trans hsz0 hsz,fun b' hp ho=>?_,?_⟩,by simp[hR.len],fun k v2 xs2 h1 h2=>?_,fun k1 k2 v1 v2 b1 hne h1 h2 e1 e2=>?_⟩
 ·by_cases hbe:b'=b
  ·subst hbe;exact .inr hnb0
  ·have e:K' b' o=some x:=e;rw[hK'ne b' hbe] at e;rcases hh.Knew _ _ _ e with h1|h1
   ·exact hR.base.new _ _ _ h1
   ·exact .inr fun hp=>h1 (hR.base.pr _ hp)
 ·have hne:b' ≠ b:=fun e=>hnb0 (e ▸ hp);have hlt:b' < w.heap.size:=Nat.lt_of_lt_of_le (E0.lt b' hp) hsz0;show w'.heap[b']? = _;rw[hwne b' hlt hne,hEold b' (hR.base.pr b' hp) ho,hR.base.old b' hp ho]
 ·show w'.tape=_∧w'.os=_∧w'.output=_;exact⟨hrest.1.trans (hh.rest.1.trans hR.base.rest.1),hrest.2.1.trans (hh.rest.2.1.trans hR.base.rest.2.1),hrest.2.2.trans (hh.rest.2.2.trans hR.base.rest.2.2)⟩
 ·by_cases hkj:j=k
  ·subst hkj;rw[List.getElem?_set_self (by omega)] at h1;rw[List.getElem?_set_self (by rw[←hR.len];omega)] at h2;simp only[Option.some.injEq] at h1 h2;subst h1;subst h2;refine .row (by simp[hym]) (fun d hd=>?_) (.inr rfl) hnb0 hbOut hc' hcs' hcap' hcm' ?_ (fun o ho=>?_) fun o ho=>?_
   ·rcases List.mem_append.1 hd with h|h
    ·exact hex d h
    ·exact hey d h
   ·rw[htk,List.flatten_append];exact (hro.append hry).mono hle
   ·show zgQ _ _ _ _ _ _=_;unfold zgQ;rw[if_pos ⟨rfl,ho⟩]
   ·show zgQ _ _ _ _ _ _=_;unfold zgQ;rw[if_neg (fun h=>by omega)]
    cases hk:K b o with
    |none=>rfl
    |some x=>have:=(hKb o x hk).1;rw[Nat.add_mul] at ho;omega
  ·rw[List.getElem?_set_ne hkj] at h1 h2;have hrk:=hR.row k v2 xs2 h1 h2;have hap:=fun b1=>hR.apart k j v2 v b1 (fun e=>hkj e.symm) h1 hv
   cases hrk with
   |nil=>exact .nil
   |@row bk n cap c _ hn hd hp hp0 ho hc hs hcap hm hr hk hk'=>
    have hwk:=hEold bk hp ho;have hlt:bk<w.heap.size:=by
     rw[←hwk] at hc;exact (Array.getElem?_eq_some_iff.1 hc).1
    have hne:bk≠b:=by
     rcases hbb with h3|h3
     ·intro e;exact hap bk (by simp[Value.ownBlock]) (by rw[h3,e])
     ·omega
    refine .row hn hd (.inl hp) hp0 ho ?_ hs hcap hm (hr.mono (Kn.le_trans hh.Kle hle)) (fun o h=>?_) fun o h=>?_
    ·show w'.heap[bk]? = _;rw[hwne bk hlt hne,hwk];exact hc
    ·show K' bk o=_;rw[hK'ne bk hne,hKE bk o hp];exact hk o h
    ·show K' bk o=_;rw[hK'ne bk hne,hKE bk o hp];exact hk' o h
 ·have hnew:∀k v2,k≠j→vs[k]? = some v2→v2.ownBlock≠some b:=by
   intro k v2 hk h e;rcases hbb with h3|h3
   ·exact hR.apart j k v v2 b (fun e=>hk e.symm) hv h h3 e
   ·have hkl:k<xss.length:=by rw[←hR.len];exact (List.getElem?_eq_some_iff.1 h).1
    have hrk:=hR.row k v2 xss[k] h (List.getElem?_eq_getElem hkl);generalize xss[k]=xk at hrk
    cases hrk with
    |nil=>simp[Value.ownBlock] at e
    |@row bk n cap c _ hn hd hp hp0 ho hc hs hcap hm hr hk hk'=>
     simp only[Value.ownBlock,Option.some.injEq] at e;have hwk:=hEold bk hp ho;rw[←hwk] at hc;have:=(Array.getElem?_eq_some_iff.1 hc).1;omega
  by_cases hk1:j=k1
  ·subst hk1;rw[List.getElem?_set_self (by omega)] at h1;rw[List.getElem?_set_ne hne] at h2;simp only[Option.some.injEq] at h1;subst h1;have e1':some b=some b1:=by simpa [Value.ownBlock] using e1
   rw[←e1'] at e2;exact hnew k2 v2 (fun e=>hne e.symm) h2 e2
  ·rw[List.getElem?_set_ne hk1] at h1
   by_cases hk2:j=k2
   ·subst hk2;rw[List.getElem?_set_self (by omega)] at h2;simp only[Option.some.injEq] at h2;subst h2;have e2':some b=some b1:=by simpa [Value.ownBlock] using e2
    rw[←e2'] at e1;exact hnew k1 v1 (fun e=>hk1 e.symm) h1 e1
   ·rw[List.getElem?_set_ne hk2] at h2;exact hR.apart k1 k2 v1 v2 b1 hne h1 h2 e1 e2
end
section
variable {E0 E:Env} {K:Kn} {ρ:Nat→Nat→Loc} {H:Heap} {O:List Heap} {w:World}
theorem HInv.reob {nm:Nat} {ob ob':Ob} (h:HInv E K ρ (H::O) w) (ho:look H nm=some ob) (hs:ob'.sh=ob.sh) (hbk:zaA (ρ 0 nm) ob' → zaA (ρ 0 nm) ob)
  (hown:OwnAt K ρ (shape (H::O)) w (ρ 0 nm) ob→OwnAt K ρ (shape (H::O)) w (ρ 0 nm) ob'):HInv E K ρ (((nm,ob')::H)::O) w:=by
 have ho':zab (H::O) 0 nm=some ob:=by simpa [zab] using ho
 have e0:(fun d n=>ρ (0+d) n)=ρ:=by funext d n;rw[Nat.zero_add]
 have h0:=h.own 0 nm _ ho';rw[e0,List.drop_zero] at h0;have hsh:shape (((nm,ob')::H)::O)=shape (H::O):=za7 ho hs;have hdrop:∀d,shape ((((nm,ob')::H)::O).drop d)=shape ((H::O).drop d):=by
  intro d
  cases d with
  |zero=>exact hsh
  |succ d=>rfl
 refine⟨h.holds,fun d n' x e=>?_,fun d n1 o1 d' n2 o2 e1 e2 b1 b2 hbe=>?_,h.size,fun b hb hno=>h.old b hb fun d n' x e=>hno d n' x (by simpa [zab] using e),fun n' x e hb=>?_,h.outer,h.Kle,h.Knew,h.rest⟩
 ·rw[hdrop];rcases zcl (ob:=ob) e with ⟨rfl,rfl,rfl⟩|⟨_,e'⟩
  ·rw[e0,List.drop_zero];exact hown h0
  ·exact h.own _ _ _ e'
 ·have old:∀{d n' x},zab (((nm,ob')::H)::O) d n'=some x→zaA (ρ d n') x→∃y,zab (H::O) d n'=some y∧zaA (ρ d n') y:=by
   intro d n' x e hb;rcases zcl (ob:=ob) e with ⟨rfl,rfl,rfl⟩|⟨_,e'⟩
   ·exact⟨_,ho',hbk hb⟩
   ·exact⟨_,e',hb⟩
  obtain⟨y1,a1,c1⟩:=old e1 b1;obtain⟨y2,a2,c2⟩:=old e2 b2;exact h.inj _ _ _ _ _ _ a1 a2 c1 c2 hbe
 ·rcases zcl (ob:=ob) e with ⟨_,rfl,rfl⟩|⟨_,e'⟩
  ·exact h.loc _ _ ho' (hbk hb)
  ·exact h.loc _ _ e' hb
end
section
variable {c:Cx} {s:St} {k:List Item} {ops:Array Oper} {rest:List Nat} {o:Oper} {E0:Env} {H:Heap} {O:List Heap}
theorem zde {todo:List Item} (hb:Base E0 c.E O) (hS:s.S=H::O) (h:Rch {c with E:=E0} todo s):Rch c todo s:=by
 intro K ρ a w b cs hi h1 h2;have hh:=hi.h;rw[hS] at hh;have hh':=hh.unbase hb;rw[←hS] at hh';exact h K ρ a w b cs ⟨hh',hi.defers,hi.size,hi.slots⟩ h1 h2
theorem zrG {α:Type} {todo:List Item} (L:α→List (Nat×D)) (G:α→Heap) (O:α→List Heap) (n:Nat) (I:Env→α→Prop) (m:α→Nat) (x0:α) {H:Heap} (hI:I c.E x0) (hs:Sub s (L x0)) (hS:s.S=H::O x0) (hH:SubH H (G x0)) (hok:zgS (L x0) (G x0)=true) (hn:s.n=n)
  (step:∀E x,I E x→(∀E' y s' H,I E' y→m y<m x→Sub s' (L y)→s'.S=H::O y→SubH H (G y)→zgS (L y) (G y)=true→s'.n=n→Rch {c with E:=E' } todo s')→Rch {c with E:=E} todo {σ:=L x,S:=G x::O x,n:=n}):Rch c todo s:=by
 have key:∀N E x s H,m x≤N→I E x→Sub s (L x)→s.S=H::O x→SubH H (G x)→zgS (L x) (G x)=true→s.n=n→Rch {c with E:=E} todo s:=by
  intro N
  induction N with
  |zero=>
   intro E x s H hm hI hs hS hH hok hn;exact zdq hs hS hH hok hn (step E x hI fun E' y s' _ _ hlt=>by omega)
  |succ N ih=>
   intro E x s H hm hI hs hS hH hok hn;exact zdq hs hS hH hok hn (step E x hI fun E' y s' H' hy hlt=>ih E' y s' H' (by omega) hy)
 exact key _ c.E x0 s H (Nat.le_refl _) hI hs hS hH hok hn
end
section
variable {E:Env} {K:Kn} {ρ:Nat→Nat→Loc} {H:Heap} {O:List Heap} {w:World}
theorem zjl (nm:Nat):But nm ρ ρ (shape (H::O)) (shape (zbp nm H::O)):=by
 intro dep n x h e;refine⟨?_,rfl⟩
 cases dep with
 |zero=>
  have hn:n≠nm:=by rcases h with h|h;exact absurd rfl h;exact h
  simp only[shape,zab,List.getElem?_cons_zero,zb1] at e ⊢;rw[if_neg hn]
  cases hl:look H n with
  |none=>simp[hl] at e
  |some o0=>simp only[hl,Option.map_some,Option.some.injEq] at e ⊢;rw[Ob.kill_sh];exact e
 |succ d=>simpa [shape,zab] using e
end
end Go.AI
