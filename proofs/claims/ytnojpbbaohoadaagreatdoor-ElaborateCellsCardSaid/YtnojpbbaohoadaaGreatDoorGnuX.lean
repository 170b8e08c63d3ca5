/- The layer of abstract runs, part 24. -/
import Derived.Test.YtnojpbbaohoadaaGreatDoorGnuW
import Derived.Laws.Strings
import Derived.KernelRfl
import Derived.Shelf.Strings.Builder1
import Derived.Deep.Heap
set_option linter.unusedSimpArgs false
set_option linter.unusedVariables false
set_option linter.all false
set_option maxHeartbeats 4000000
namespace Go.AI
open Go.Proofs
set_option maxRecDepth 20000
structure Lin where
 a0:Int
 a1:Int
 a2:Int
 g:List Int
 u:List Int
abbrev linI (x:Lin):List I:=[.v (.int .u8 x.a0),.v (.int .u8 x.a1),.v (.int .u8 x.a2),.sl 1 x.g.length (x.g.map u8I),.sl 1 x.u.length (x.u.map u8I)]
structure Sk where
 locs:Int
 marks:Int
 rngs:List (Int×Int)
 lines:List Lin
abbrev zho (l:List Lin):D:=.i (.sl 5 l.length (l.map linI))
abbrev u8Dd (b:Int):D:=.i (.v (.int .u8 b))
abbrev skC (k:Sk):List D:=[u8Dd k.locs,u8Dd k.marks,r8s k.rngs,zho k.lines]
abbrev skD (k:Sk):D:=.agg (skC k)
structure linOk (x:Lin):Prop where
 a0:0≤x.a0∧x.a0≤255
 a1:0≤x.a1∧x.a1≤255
 a2:0≤x.a2∧x.a2≤255
 g:zcA x.g
 gl:x.g.length≤zap
 u:zcA x.u
 ul:x.u.length≤zap
structure skOk (k:Sk):Prop where
 locs:0≤k.locs∧k.locs≤255
 marks:0≤k.marks∧k.marks≤255
 rl:k.rngs.length≤zap
 r:∀p∈k.rngs,zgc p
 ll:k.lines.length≤zap
 l:∀x∈k.lines,linOk x
def mrkG (marks:Int) (i:Nat):Bool:=bits .and .u8 (marks/2 ^ (i:Int).toNat) 1==1
def mrks (marks:Int) (n:Nat):List Int:=((List.range n).filter (mrkG marks)).map fun (i:Nat)=>(i:Int)
def gtMv (x y:Mv):Bool:=decide (x.frm>y.frm∨(x.frm=y.frm∧x.ev>y.ev))
def posR (l:List Mv) (y:Mv):Nat→Nat
 |0=>0
 |n+1=>match l[n]? with
  |some x=>bif gtMv x y then posR l y n else n+1
  |none=>0
def zjr (l:List Mv) (y:Mv):List Mv:=l.take (posR l y l.length)++y::l.drop (posR l y l.length)
def zge (n:Int) (g:List Int):Ex:=if g.length>0 then zhy n false (g.take 12) else trueE
def zjX (n:Int) (u:List Int):List Upd:=if u.length>0∧n>0 then [⟨b0 u%n,zhy n true ((u.take 12).drop 1)⟩] else []
def mvOf (locs n:Int) (x:Lin):Mv:=⟨x.a0%locs,x.a1%3,x.a2%locs,zge n x.g,zjX n x.u⟩
def zdg (k:Sk):Nat:=1+(k.locs%4).toNat
def mvsL (locs n:Int) (l:List Lin) (i:Nat):List Mv:=(l.take i).foldl (fun acc x=>zjr acc (mvOf locs n x)) []
def zjj (k:Sk):Ext:=⟨[0,1,2],zdg k,0,mrks k.marks (zdg k),zdI (k.rngs.take 2),mvsL (zdg k) (zdI (k.rngs.take 2)).length k.lines (min k.lines.length 8)⟩
theorem zsD (l:List Mv) (y:Mv):∀n,posR l y n≤n
 |0=>Nat.le_refl _
 |n+1=>by
  simp only[posR]
  split
  ·rename_i x _
   cases gtMv x y with
   |true=>exact Nat.le_succ_of_le (zsD l y n)
   |false=>exact Nat.le_refl _
  ·omega
theorem ztn (l:List Mv) (y:Mv):(zjr l y).length=l.length+1:=by
 have:=zsD l y l.length;simp only[zjr,List.length_append,List.length_take,List.length_cons,List.length_drop];omega
theorem zhf {locs n:Int} {l:List Lin} {i:Nat} (h:i<l.length):mvsL locs n l (i+1)=zjr (mvsL locs n l i) (mvOf locs n l[i]):=by
 unfold mvsL;rw[List.take_add_one,List.getElem?_eq_getElem h,List.foldl_append];rfl
theorem zjf {locs n:Int} {l:List Lin}:∀{i:Nat},i≤l.length→(mvsL locs n l i).length=i
 |0,_=>by simp[mvsL]
 |i+1,h=>by rw[zhf h,ztn,zjf (by omega)]
theorem zgZ (l:List (Int×Int)):(zdI l).length=min l.length 3:=by simp[zdI]
theorem zsY (marks:Int) (i:Nat):mrks marks (i+1)=mrks marks i++(bif mrkG marks i then [(i:Int)] else []):=by
 unfold mrks;rw[List.range_succ,List.filter_append,List.map_append];congr 1
 cases h:mrkG marks i<;>simp[h]
theorem zoi (marks:Int) (n:Nat):(mrks marks n).length≤n:=by
 unfold mrks;rw[List.length_map];exact Nat.le_trans (List.length_filter_le _ _) (by simp)
theorem zyg (n m:Nat):(if (n:Int)<(m:Int) then (n:Int) else (m:Int)).toNat=min m n:=by split<;>omega
theorem zoV (l:List Int) (n:Nat) {N:Int} (hN:N=(n:Int)):D.i (.sl 1 (if N<(l.length:Int) then N else (l.length:Int)).toNat ((l.map u8I).take (if N<(l.length:Int) then N else (l.length:Int)).toNat))=byts (l.take n):=by
 subst hN;rw[zyg,←List.map_take];have:l.take (min l.length n)=l.take n:=by rw[List.take_eq_take_iff];omega
 rw[this,show min l.length n=(l.take n).length by simp only[List.length_take];omega]
theorem zui (l:List Int) (n:Nat) {N A:Int} (hN:N=(n:Int)) (hA:A=1):D.i (.sl 1 ((if N<(l.length:Int) then N else (l.length:Int)).toNat-A.toNat) (((l.map u8I).take (if N<(l.length:Int) then N else (l.length:Int)).toNat).drop A.toNat))=byts ((l.take n).drop 1):=by
 subst hN hA;have:=zoV l n (N:=(n:Int)) rfl;simp only[D.i.injEq,I.sl.injEq,true_and] at this;rw[this.2,this.1,←List.map_drop];congr 2;simp
theorem zzp (O:List Heap) (k:Sk) (hk:skOk k):zan Tryz.prog 43 [skD k] O (extD (zjj k)) [] O:=by
 obtain⟨kl,km,kr,kx⟩:=k;obtain⟨hloc,hmk,hrl,hr,hll,hx⟩:=hk;simp only at hloc hmk hrl hr hll hx;show zan Tryz.prog 43 [.agg [u8Dd kl,u8Dd km,r8s kr,zho kx]] O (extD (zjj ⟨kl,km,kr,kx⟩)) [] O;have hrg:=fun O=>zvM O (kr.take 2) (Nat.le_trans (List.length_take_le _ _) (by decide)) (fun p hp=>hr p (List.mem_of_mem_take hp));have hvl:(zdI (kr.take 2)).length≤2:=by
  rw[zgZ,List.length_take];omega
 have hlo:IntKind.i64.wrap (1+IntKind.i64.wrap (kl.tmod 4))=((1+(kl%4).toNat:Nat):Int):=by
  rw[Int.tmod_eq_emod_of_nonneg hloc.1,w64 (n:=kl%4) (by omega) (by omega),w64 (by omega) (by omega)];omega
 generalize hR:zjj ⟨kl,km,kr,kx⟩=R;unfold zjj at hR;simp only[zdg] at hR;have hL1:1≤1+(kl%4).toNat∧1+(kl%4).toNat≤4:=by omega
 generalize 1+(kl%4).toNat=L at *;have hmin:(if (2:Int)<kr.length then (2:Int) else kr.length).toNat=(kr.take 2).length:=by
  simp only[List.length_take]
  split<;>omega
 have htk:(kr.map r8I).take (if (2:Int)<kr.length then (2:Int) else kr.length).toNat=(kr.take 2).map r8I:=by
  rw[hmin,List.map_take,List.take_eq_take_iff];simp
 have hobj:D.i (.sl 2 (if (2:Int)<kr.length then (2:Int) else kr.length).toNat ((kr.map r8I).take (if (2:Int)<kr.length then (2:Int) else kr.length).toNat))=r8s (kr.take 2):=by
  rw[htk,hmin]
 rw[←hobj] at hrg;clear hobj hmin htk;generalize zdI (kr.take 2)=V at *;refine zaN [13,15,17,20] Tk Tryz.func43 rfl Tryz.call43 Tryz.ntmps43 (Nat.le_of_ble_eq_true rfl) fun E=>?_;refine zai Tk Tryz.func43 ?_;refine zat Tk Tryz.func43 zax rfl ?_;refine zar Tk (by decide) ?_;refine zar Tk (by split<;>omega) ?_;refine zaF Tk (fun _=>hrg _) rfl rfl rfl ?_;refine zcv Tk rfl rfl rfl ?_;refine zaA Tk Tryz.func43 (by kernel_rfl) ?_;refine zad ?_;refine zaK (l:=[(1,.own 0 1 0 0),(2,.own 0 2 0 0),(3,.own 0 3 0 0),(4,ii 0)]) (Hv:=[(1,.box ([u8Dd kl,u8Dd km,r8s kr,zho kx])),(2,.box [.i (.v (.slice none 0 0)),ii 0,ii 0,.i (.v (.slice none 0 0)),.i (.v (.slice none 0 0)),.i (.v (.slice none 0 0))]),(3,.box [ints [0,1,2],ii L,ii 0,.i (.v (.slice none 0 0)),vrs V,.i (.v (.slice none 0 0))])]) (n:=182) ?_ ⟨rfl,rfl,rfl,rfl,trivial⟩ rfl ⟨rfl,rfl,by rw[←hlo];rfl,trivial⟩ rfl rfl
 refine zas (zaE 3 41 3 1 (pre:=[ints [0,1,2],ii L,ii 0]) (post:=[vrs V,.i (.v (.slice none 0 0))]) rfl rfl rfl) ?_;refine zag (fun i:Nat=>[(1,.own 0 1 0 0),(2,.own 0 2 0 0),(3,.own 0 3 0 0),(4,ii i)]) (fun i=>[(1,.box ([u8Dd kl,u8Dd km,r8s kr,zho kx])),(2,.box [.i (.v (.slice none 0 0)),ii 0,ii 0,.i (.v (.slice none 0 0)),.i (.v (.slice none 0 0)),.i (.v (.slice none 0 0))]),(3,.box [ints [0,1,2],ii L,ii 0,.osl 0 41,vrs V,.i (.v (.slice none 0 0))]),(41,zb5 (mrks km i))]) (fun _=>O) 182
  (fun i=>i≤L) (fun i=>L-i) 0 (Nat.zero_le _) ⟨rfl,rfl,rfl,rfl,trivial⟩ rfl ⟨rfl,rfl,rfl,rfl,trivial⟩ rfl rfl ?_
 intro i hi ih;have hms:=zsY km i;have hml:=zoi km i;have hend:i=L→mrks km i=mrks km L:=fun e=>by rw[e]
 generalize mrks km i=M at *;refine zai Tk Tryz.func43 ?_;refine zaf Tk Tryz.func43 rfl (fun h1=>?_) (fun h1=>?_)
 ·have h1:i<L:=by have:=of_decide_eq_true h1;omega
  generalize hq:mrkG km i=q at *;unfold mrkG at hq;refine zah Tk Tryz.func43 (by exact⟨by omega,by show (i:Int)≤8;omega⟩) ?_;refine zaf Tk Tryz.func43 rfl (fun h2=>?_) (fun h2=>?_)
  ·have h2:q=true:=by rw[←hq];exact h2
   subst h2;refine zah Tk Tryz.func43 (by exact⟨by show (M.length+1)*8≤140737488355328;omega,by show M.length+1≤9223372036854775807;omega⟩) ?_;refine zad ?_;refine ih (i+1) _ _ (by omega) (by omega) ⟨rfl,rfl,rfl,congrArg ii (zav (n:=4) (by omega) (by decide)),trivial⟩ rfl ⟨rfl,rfl,rfl,?_,trivial⟩ rfl rfl;rw[hms];exact congrArg some (zcs M i)
  ·have h2:q=false:=by rw[←hq];exact h2
   subst h2;refine zad ?_;refine ih (i+1) _ _ (by omega) (by omega) ⟨rfl,rfl,rfl,congrArg ii (zav (n:=4) (by omega) (by decide)),trivial⟩ rfl ⟨rfl,rfl,rfl,?_,trivial⟩ rfl rfl;rw[hms];show some (zb5 M)=some (zb5 (M++[]));rw[List.append_nil]
 ·have h1:i=L:=by have:=of_decide_eq_false h1;omega
  have hend:=hend h1;clear ih hms;refine zad ?_;refine zas (zao 41 rfl rfl) ?_;refine zas (zaE 3 179 187 8 (pre:=[ints [0,1,2],ii L,ii 0,.osl 0 41,vrs V]) (post:=[]) rfl rfl rfl) ?_;refine zas (zao 179 rfl rfl) ?_;refine zas (zaY rfl) ?_;rw[hend] at *;clear hend hml h1 hi;generalize mrks km L=M at *;refine zag (fun i:Nat=>[(1,.own 0 1 0 0),(2,.own 0 2 0 0),(3,.own 0 3 0 0),(5,ii V.length),(6,ii i)]) (fun i=>[(1,.box ([u8Dd kl,u8Dd km,r8s kr,zho kx])),(2,.box [.i (.v (.slice none 0 0)),ii 0,ii 0,.i (.v (.slice none 0 0)),.i (.v (.slice none 0 0)),.i (.v (.slice none 0 0))]),(3,.box [ints [0,1,2],ii L,ii 0,ints M,vrs V,mvs (mvsL L V.length kx i)])]) (fun _=>O) 182
   (fun i=>i≤min kx.length 8) (fun i=>min kx.length 8-i) 0 (Nat.zero_le _) ⟨rfl,rfl,rfl,rfl,rfl,trivial⟩ rfl ⟨rfl,rfl,rfl,trivial⟩ rfl rfl ?_
  intro i hi ih;have hi:i≤min kx.length 8:=hi;have hsucc:=fun h=>zhf (locs:=L) (n:=V.length) (l:=kx) (i:=i) h;have hlen:=zjf (locs:=L) (n:=V.length) (l:=kx) (i:=i) (by omega);have hend:i=min kx.length 8→R=⟨[0,1,2],L,0,M,V,mvsL L V.length kx i⟩:=fun e=>by rw[←hR,←e]
  clear hR;generalize mvsL L V.length kx i=W at *;refine zai Tk Tryz.func43 ?_;refine zaG Tk Tryz.func43 rfl (fun h1=>?_) (fun h1=>?_)
  ·have h1:i<kx.length:=by have:=of_decide_eq_true h1;omega
   refine zaf Tk Tryz.func43 rfl (fun h2=>?_) (fun h2=>?_)
   ·have h2:i<8:=by have:=of_decide_eq_true h2;omega
    have hsucc:=hsucc h1;have hg:(kx.map linI)[(i:Int).toNat]? = some (linI kx[i]):=zal h1;have hxx:=hx _ (List.getElem_mem h1);generalize kx[i]=x at *;obtain⟨hx0,hx1,hx2,hgb,hgl,hub,hul⟩:=hxx;clear hend;refine zah Tk Tryz.func43 (by exact⟨by omega,by show (i:Int)<(kx.length:Int);omega⟩) ?_;refine zaq Tk Tryz.func43 (hg) ?_;refine zat Tk Tryz.func43 zax rfl ?_;have e3:∀n:Int,0≤n→n≤255→IntKind.i64.wrap n=n:=fun n h h'=>w64 (by omega) (by omega);refine zar Tk (by decide) ?_;refine zar Tk (by exact (by omega:(L:Int)≠0)) ?_;refine zar Tk (by decide) ?_;refine zar Tk (by decide) ?_;refine zar Tk (by decide) ?_;refine zar Tk (by exact (by omega:(L:Int)≠0)) ?_;refine zaF Tk (fun _=>zy4 _) rfl rfl rfl ?_;refine zcv Tk rfl rfl rfl ?_;refine zaA Tk Tryz.func43 (by kernel_rfl) ?_
    have hf:(IntKind.i64.wrap x.a0).tmod L=x.a0%L:=by rw[e3 _ hx0.1 hx0.2,Int.tmod_eq_emod_of_nonneg hx0.1]
    have he:IntKind.i64.wrap (x.a1.tmod 3)=x.a1%3:=by rw[Int.tmod_eq_emod_of_nonneg hx1.1,w64 (by omega) (by omega)]
    have ht:(IntKind.i64.wrap x.a2).tmod L=x.a2%L:=by rw[e3 _ hx2.1 hx2.2,Int.tmod_eq_emod_of_nonneg hx2.1]
    refine zaB ?_;refine zaK (l:=[(1,.own 0 1 0 0),(2,.own 0 2 0 0),(3,.own 0 3 0 0),(5,ii V.length),(6,ii i),(7,.own 0 7 0 0),(8,.own 0 8 0 0)]) (Hv:=[(1,.box [u8Dd kl,u8Dd km,r8s kr,zho kx]),(2,.box [.i (.v (.slice none 0 0)),ii 0,ii 0,.i (.v (.slice none 0 0)),.i (.v (.slice none 0 0)),.i (.v (.slice none 0 0))]),(3,.box [ints [0,1,2],ii L,ii 0,ints M,vrs V,mvs W]),(7,.box [u8Dd x.a0,u8Dd x.a1,u8Dd x.a2,byts x.g,byts x.u]),(8,.box [ii (x.a0%L),ii (x.a1%3),ii (x.a2%L),ii trueE.op,ii trueE.vl,ii trueE.ix,exs trueE.args,.i (.v (.slice none 0 0))])]) (n:=182) ?_ ⟨rfl,rfl,rfl,rfl,rfl,rfl,rfl,trivial⟩ rfl ⟨rfl,rfl,rfl,rfl,by rw[←hf,←he,←ht];rfl,trivial⟩ rfl rfl;clear hf he ht e3;obtain⟨G,hG⟩:∃G,G=zge V.length x.g:=⟨_,rfl⟩;obtain⟨U,hU⟩:∃U,U=zjX V.length x.u:=⟨_,rfl⟩
    apply zb7 (P:=True) (s6:={ σ:=[(1,.own 0 1 0 0),(2,.own 0 2 0 0),(3,.own 0 3 0 0),(5,ii V.length),(6,ii i),(7,.own 0 7 0 0),(8,.own 0 8 0 0)],S:=[(1,.box [u8Dd kl,u8Dd km,r8s kr,zho kx]),(2,.box [.i (.v (.slice none 0 0)),ii 0,ii 0,.i (.v (.slice none 0 0)),.i (.v (.slice none 0 0)),.i (.v (.slice none 0 0))]),(3,.box [ints [0,1,2],ii L,ii 0,ints M,vrs V,mvs W]),(7,.box [u8Dd x.a0,u8Dd x.a1,u8Dd x.a2,byts x.g,byts x.u]),(8,.box [ii (x.a0%L),ii (x.a1%3),ii (x.a2%L),ii G.op,ii G.vl,ii G.ix,exs G.args,.i (.v (.slice none 0 0))])]::O,n:=182})
    ·intro J;refine zai Tk Tryz.func43 ?_;refine g_go Tk Tryz.func43 ?_;refine zaf Tk Tryz.func43 rfl (fun h3=>?_) (fun h3=>?_)
     ·have h3:0<x.g.length:=by have:=of_decide_eq_true h3;omega
      have hG2:G=zhy V.length false (x.g.take 12):=by rw[hG];unfold zge;rw[if_pos h3]
      have hgr:=fun O=>zw9 O (x.g.take 12) V.length false (by omega) (fun b h=>hgb b (List.mem_of_mem_take h)) (Nat.le_trans (List.length_take_le _ _) (by decide));rw[←hG2,←zoV x.g 12 (N:=12) rfl] at hgr;refine zah Tk Tryz.func43 (by split<;>omega) ?_;refine zak Tk Tryz.func43 (hgr _) rfl rfl rfl rfl rfl ?_;refine zaB ?_;refine zaK (J trivial) ⟨rfl,rfl,rfl,rfl,rfl,rfl,rfl,trivial⟩ rfl ⟨rfl,rfl,rfl,rfl,rfl,trivial⟩ rfl rfl
     ·have h3:¬0<x.g.length:=by have:=of_decide_eq_false h3;omega
      have hG2:G=trueE:=by rw[hG];unfold zge;rw[if_neg h3]
      subst hG2;refine zaB ?_;refine zaK (J trivial) ⟨rfl,rfl,rfl,rfl,rfl,rfl,rfl,trivial⟩ rfl ⟨rfl,rfl,rfl,rfl,rfl,trivial⟩ rfl rfl
    ·intro _
     apply zb7 (P:=True) (s6:={ σ:=[(1,.own 0 1 0 0),(2,.own 0 2 0 0),(3,.own 0 3 0 0),(5,ii V.length),(6,ii i),(8,.own 0 8 0 0)],S:=[(1,.box [u8Dd kl,u8Dd km,r8s kr,zho kx]),(2,.box [.i (.v (.slice none 0 0)),ii 0,ii 0,.i (.v (.slice none 0 0)),.i (.v (.slice none 0 0)),.i (.v (.slice none 0 0))]),(3,.box [ints [0,1,2],ii L,ii 0,ints M,vrs V,mvs W]),(8,.box [ii (x.a0%L),ii (x.a1%3),ii (x.a2%L),ii G.op,ii G.vl,ii G.ix,exs G.args,upds U])]::O,n:=182})
     ·intro J;have nope:¬(x.u.length>0∧(V.length:Int)>0)→U=[]:=fun h=>by rw[hU];unfold zjX;rw[if_neg h]
      refine zai Tk Tryz.func43 ?_;refine g_go Tk Tryz.func43 ?_;refine zaG Tk Tryz.func43 rfl (fun h3=>?_) (fun h3=>?_)
      ·have h3:0<x.u.length:=by have:=of_decide_eq_true h3;omega
       refine zaf Tk Tryz.func43 rfl (fun h4=>?_) (fun h4=>?_)
       ·have h4:0<V.length:=by have:=of_decide_eq_true h4;omega
        have hU2:U=[⟨b0 x.u%V.length,zhy V.length true ((x.u.take 12).drop 1)⟩]:=by rw[hU];unfold zjX;rw[if_pos ⟨h3,by omega⟩]
        have hgr:=fun O=>zw9 O ((x.u.take 12).drop 1) V.length true (by omega) (fun b h=>hub b (List.mem_of_mem_take (List.mem_of_mem_drop h))) (Nat.le_trans (by simp only[List.length_drop];omega) (Nat.le_trans (List.length_take_le 12 x.u) (by decide)));rw[←zui x.u 12 (N:=12) (A:=1) rfl rfl] at hgr;generalize zhy V.length true ((x.u.take 12).drop 1)=X at *;subst hU2;have hgu:(x.u.map u8I)[(0:Int).toNat]? = some (u8I (b0 x.u)):=by
         cases hxu:x.u with
         |nil=>rw[hxu] at h3;simp at h3
         |cons b r=>rfl
        have hb0:=zfF hub;have hbw:(IntKind.i64.wrap (b0 x.u)).tmod V.length=b0 x.u%V.length:=by
         rw[w64 (by omega) (by omega),Int.tmod_eq_emod_of_nonneg hb0.1]
        refine zat Tk Tryz.func43 zax rfl ?_;refine zar Tk (by exact⟨by decide,by show (0:Int)<(x.u.length:Int);omega⟩) ?_;refine zay Tk (hgu) ?_;refine zar Tk (by exact (by omega:(V.length:Int)≠0)) ?_;refine zar Tk (by split<;>omega) ?_;refine zaF Tk (fun _=>hgr _) rfl rfl rfl ?_;refine zcv Tk rfl rfl rfl ?_;refine zaA Tk Tryz.func43 (by kernel_rfl) ?_;refine zaB ?_;exact zaK (J trivial) ⟨rfl,rfl,rfl,rfl,rfl,rfl,trivial⟩ rfl ⟨rfl,rfl,rfl,by rw[←hbw];rfl,trivial⟩ rfl rfl
       ·have h4:¬0<V.length:=by have:=of_decide_eq_false h4;omega
        have:=nope (by omega);subst this;refine zaB ?_;refine zas (zaE 8 122 189 5 (pre:=[ii (x.a0%L),ii (x.a1%3),ii (x.a2%L),ii G.op,ii G.vl,ii G.ix,exs G.args]) (post:=[]) rfl rfl rfl) ?_;refine zas (zao 122 rfl rfl) ?_;refine zas (zaY rfl) ?_;exact zaK (J trivial) ⟨rfl,rfl,rfl,rfl,rfl,rfl,trivial⟩ rfl ⟨rfl,rfl,rfl,rfl,trivial⟩ rfl rfl
      ·have h3:¬0<x.u.length:=by have:=of_decide_eq_false h3;omega
       have:=nope (by omega);subst this;refine gcF Tk Tryz.func43 rfl ?_;refine zaB ?_;refine zas (zaE 8 122 189 5 (pre:=[ii (x.a0%L),ii (x.a1%3),ii (x.a2%L),ii G.op,ii G.vl,ii G.ix,exs G.args]) (post:=[]) rfl rfl rfl) ?_;refine zas (zao 122 rfl rfl) ?_;refine zas (zaY rfl) ?_;exact zaK (J trivial) ⟨rfl,rfl,rfl,rfl,rfl,rfl,trivial⟩ rfl ⟨rfl,rfl,rfl,rfl,trivial⟩ rfl rfl
     ·intro _;obtain⟨y,hy⟩:∃y,y=mvOf L V.length x:=⟨_,rfl⟩;refine zaK (l:=[(1,.own 0 1 0 0),(2,.own 0 2 0 0),(3,.own 0 3 0 0),(5,ii V.length),(6,ii i),(8,.own 0 8 0 0)]) (Hv:=[(1,.box [u8Dd kl,u8Dd km,r8s kr,zho kx]),(2,.box [.i (.v (.slice none 0 0)),ii 0,ii 0,.i (.v (.slice none 0 0)),.i (.v (.slice none 0 0)),.i (.v (.slice none 0 0))]),(3,.box [ints [0,1,2],ii L,ii 0,ints M,vrs V,mvs W]),(8,.box [ii y.frm,ii y.ev,ii y.to,ii y.g.op,ii y.g.vl,ii y.g.ix,exs y.g.args,upds y.us])]) (n:=182) ?_ ⟨rfl,rfl,rfl,rfl,rfl,rfl,trivial⟩ rfl ⟨rfl,rfl,rfl,by rw[hy,hG,hU];rfl,trivial⟩ rfl rfl;rw[←hy] at hsucc;clear hG hU hx0 hx1 hx2 hgb hgl hub hul hg hy G U;have hW8:W.length≤8:=by omega
      refine zai Tk Tryz.func43 ?_;refine g_go Tk Tryz.func43 ?_;refine zad ?_;refine zag (fun a:Nat=>[(1,.own 0 1 0 0),(2,.own 0 2 0 0),(3,.own 0 3 0 0),(5,ii V.length),(6,ii i),(8,.own 0 8 0 0),(9,ii a)]) (fun a=>[(1,.box [u8Dd kl,u8Dd km,r8s kr,zho kx]),(2,.box [.i (.v (.slice none 0 0)),ii 0,ii 0,.i (.v (.slice none 0 0)),.i (.v (.slice none 0 0)),.i (.v (.slice none 0 0))]),(3,.box [ints [0,1,2],ii L,ii 0,ints M,vrs V,mvs W]),(8,.box [ii y.frm,ii y.ev,ii y.to,ii y.g.op,ii y.g.vl,ii y.g.ix,exs y.g.args,upds y.us])]) (fun _=>O) 182
       (fun a=>a≤W.length∧posR W y W.length=posR W y a) (fun a=>a) W.length ⟨Nat.le_refl _,rfl⟩ ⟨rfl,rfl,rfl,rfl,rfl,rfl,rfl,trivial⟩ rfl ⟨rfl,rfl,rfl,rfl,trivial⟩ rfl rfl ?_
      rintro a ⟨ha,hpos⟩ ih2
      apply zb7 (P:=posR W y W.length=a) (s6:={ σ:=[(1,.own 0 1 0 0),(2,.own 0 2 0 0),(3,.own 0 3 0 0),(5,ii V.length),(6,ii i),(8,.own 0 8 0 0),(9,ii a)],S:=[(1,.box [u8Dd kl,u8Dd km,r8s kr,zho kx]),(2,.box [.i (.v (.slice none 0 0)),ii 0,ii 0,.i (.v (.slice none 0 0)),.i (.v (.slice none 0 0)),.i (.v (.slice none 0 0))]),(3,.box [ints [0,1,2],ii L,ii 0,ints M,vrs V,mvs W]),(8,.box [ii y.frm,ii y.ev,ii y.to,ii y.g.op,ii y.g.vl,ii y.g.ix,exs y.g.args,upds y.us])]::O,n:=182})
      ·intro J
       cases a with
       |zero=>
        refine zai Tk Tryz.func43 ?_;refine zat Tk Tryz.func43 zax rfl ?_;refine skF Tk ?_;refine zaA Tk Tryz.func43 (by kernel_rfl) ?_;refine gcF Tk Tryz.func43 rfl ?_;refine zaB ?_;exact zaK (J hpos) ⟨rfl,rfl,rfl,rfl,rfl,rfl,rfl,trivial⟩ rfl ⟨rfl,rfl,rfl,rfl,trivial⟩ rfl rfl
       |succ a=>
        have hgW:(W.map mvI)[(IntKind.i64.wrap (((a+1:Nat):Int)-1)).toNat]? = some (mvI (W[a]'(by omega))):=by
         rw[w64 (by omega) (by omega),show (((a+1:Nat):Int)-1).toNat=a by omega];simp[show a<W.length by omega]
        have hwa:IntKind.i64.wrap (((a+1:Nat):Int)-1)=(a:Int):=by rw[w64 (by omega) (by omega)];omega
        have hwn:0≤IntKind.i64.wrap (((a+1:Nat):Int)-1)∧IntKind.i64.wrap (((a+1:Nat):Int)-1)<(W.length:Int):=by rw[hwa];omega
        have hpos2:posR W y (a+1)=bif gtMv (W[a]'(by omega)) y then posR W y a else a+1:=by
         simp only[posR];rw[List.getElem?_eq_getElem (by omega)]
        generalize W[a]'(by omega)=z at *;have yes:(z.frm>y.frm∨(z.frm=y.frm∧z.ev>y.ev))→posR W y W.length=posR W y a:=fun h=>by
         rw[hpos,hpos2];unfold gtMv;rw[decide_eq_true h];rfl
        have no:¬(z.frm>y.frm∨(z.frm=y.frm∧z.ev>y.ev))→posR W y W.length=a+1:=fun h=>by
         rw[hpos,hpos2];unfold gtMv;rw[decide_eq_false h];rfl
        clear hpos hpos2;refine zai Tk Tryz.func43 ?_;refine zat Tk Tryz.func43 zax rfl ?_;refine zbU Tk (fun h3=>?_) (fun h3=>?_)
        ·refine zar Tk (by exact hwn) ?_;refine zay Tk (hgW) ?_;refine zbU Tk (fun h4=>?_) (fun h4=>?_)
         ·have h4:z.frm>y.frm:=of_decide_eq_true h4;refine zaA Tk Tryz.func43 (by kernel_rfl) ?_;refine gcT Tk Tryz.func43 rfl ?_;refine zad ?_;exact ih2 a _ _ ⟨by omega,yes (.inl h4)⟩ (by omega) ⟨rfl,rfl,rfl,rfl,rfl,rfl,congrArg ii hwa,trivial⟩ rfl ⟨rfl,rfl,rfl,rfl,trivial⟩ rfl rfl
         ·have h4:¬z.frm>y.frm:=of_decide_eq_false h4;refine zar Tk (by exact hwn) ?_;refine zay Tk (hgW) ?_;refine zbU Tk (fun h5=>?_) (fun h5=>?_)
          ·have h5:=beqT h5;refine zar Tk (by exact hwn) ?_;refine zay Tk (hgW) ?_;refine zaA Tk Tryz.func43 (by kernel_rfl) ?_;refine zaf Tk Tryz.func43 rfl (fun h6=>?_) (fun h6=>?_)
           ·have h6:z.ev>y.ev:=of_decide_eq_true h6;refine zad ?_;exact ih2 a _ _ ⟨by omega,yes (.inr ⟨h5,h6⟩)⟩ (by omega) ⟨rfl,rfl,rfl,rfl,rfl,rfl,congrArg ii hwa,trivial⟩ rfl ⟨rfl,rfl,rfl,rfl,trivial⟩ rfl rfl
           ·have h6:¬z.ev>y.ev:=of_decide_eq_false h6;refine zaB ?_;exact zaK (J (no (by rintro (h|h);exact h4 h;exact h6 h.2))) ⟨rfl,rfl,rfl,rfl,rfl,rfl,rfl,trivial⟩ rfl ⟨rfl,rfl,rfl,rfl,trivial⟩ rfl rfl
          ·have h5:=beqF h5;refine zaA Tk Tryz.func43 (by kernel_rfl) ?_;refine gcF Tk Tryz.func43 rfl ?_;refine zaB ?_;exact zaK (J (no (by rintro (h|h);exact h4 h;exact h5 h.1))) ⟨rfl,rfl,rfl,rfl,rfl,rfl,rfl,trivial⟩ rfl ⟨rfl,rfl,rfl,rfl,trivial⟩ rfl rfl
        ·have:=of_decide_eq_false h3;omega
      ·intro hP;clear ih2 hpos;refine zai Tk Tryz.func43 ?_;refine g_go Tk Tryz.func43 ?_;refine zat Tk Tryz.func43 zax rfl ?_;refine zar Tk (by exact⟨by omega,rfl,by show (a:Int)≤(W.length:Int);omega⟩) ?_;refine zar Tk (by exact⟨by omega,by show (a:Int)≤(W.length:Int);omega⟩) ?_;refine zvy Tk ?_;refine zeD Tk (by exact⟨by show (1+(W.length-(a:Int).toNat))*96≤140737488355328;omega,by show 1+(W.length-(a:Int).toNat)≤9223372036854775807;omega⟩) ?_;refine zmq Tk (p:=⟨[(178,.osl 0 178),(173,.dead)],[(178,.arr 187 8 (1+(W.length-(a:Int).toNat)) ([mvI y]++(W.map mvI).drop (a:Int).toNat) true)],some 173⟩) rfl rfl rfl ?_;refine zeD Tk (by exact⟨by show ((a:Int).toNat+(1+(W.length-(a:Int).toNat)))*96≤140737488355328;omega,by show (a:Int).toNat+(1+(W.length-(a:Int).toNat))≤9223372036854775807;omega,by show 0<1+(W.length-(a:Int).toNat);omega⟩) ?_
       refine zmq Tk (p:=⟨[],[(3,.box [ints [0,1,2],ii L,ii 0,ints M,vrs V,.osl 0 179])],none⟩) rfl rfl rfl ?_;refine zla Tk Tryz.func43 (by kernel_rfl) (GM.h ?_);refine zad ?_;refine zas (zao 179 rfl rfl) ?_;refine zas (zaY rfl) ?_;have hins:mvsL L V.length kx (i+1)=W.take a++y::W.drop a:=by rw[hsucc];unfold zjr;rw[hP]
       refine ih (i+1) _ _ (show i+1≤min kx.length 8 by omega) (by omega) ⟨rfl,rfl,rfl,rfl,congrArg ii (zav (n:=8) h2 (by decide)),trivial⟩ rfl ⟨rfl,rfl,?_,trivial⟩ rfl rfl;show some (Ob.box [ints [0,1,2],ii L,ii 0,ints M,vrs V,.i (.sl 8 ((a:Int).toNat+(1+(W.length-(a:Int).toNat))) ((W.map mvI).take (a:Int).toNat++([mvI y]++(W.map mvI).drop (a:Int).toNat)))])=some (Ob.box [ints [0,1,2],ii L,ii 0,ints M,vrs V,mvs (mvsL L V.length kx (i+1))]);rw[hins];have hta:(a:Int).toNat=a:=by omega
       have hll:(W.take a++y::W.drop a).length=a+(1+(W.length-a)):=by
        simp only[List.length_append,List.length_take,List.length_cons,List.length_drop];omega
       have hmm:(W.take a++y::W.drop a).map mvI=(W.map mvI).take a++([mvI y]++(W.map mvI).drop a):=by
        rw[List.map_append,List.map_cons,List.map_take,List.map_drop];rfl
       rw[hta];show _=some (Ob.box [ints [0,1,2],ii L,ii 0,ints M,vrs V,.i (.sl 8 (W.take a++y::W.drop a).length ((W.take a++y::W.drop a).map mvI))]);rw[hll,hmm]
   ·have h2:¬i<8:=by have:=of_decide_eq_false h2;omega
    have:=hend (by omega);subst this;refine zaj Tk (r:=_) rfl rfl rfl trivial rfl rfl ?_;rfl
  ·have h1:¬i<kx.length:=by have:=of_decide_eq_false h1;omega
   have:=hend (by omega);subst this;refine gcF Tk Tryz.func43 rfl ?_;refine zaj Tk (r:=_) rfl rfl rfl trivial rfl rfl ?_;rfl
end Go.AI
namespace Go.Proofs.YtnojpbbaohoadaaGreatDoor
open Go.ChangeShapes Go.WideShapes Go.ChangeAt Go.RowKit Go.Deep Go.WideElems
set_option maxRecDepth 100000
section
variable {H:Type} {enc:TypeId×Value→H} {W:World}
theorem zeQ {α β:Type} {f:α→β} {Q:α→Prop}:∀{xs:List β},(∀d∈xs,∃a,d=f a∧Q a)→∃l:List α,xs=l.map f∧∀a∈l,Q a
 |[],_=>⟨[],rfl,by simp⟩
 |d::xs,h=>by
  obtain⟨a,ha,hq⟩:=h d (by simp);obtain⟨l,hl,hql⟩:=zeQ (xs:=xs) fun e he=>h e (by simp[he]);refine⟨a::l,by rw[ha,hl];rfl,fun b hb=>?_⟩;rcases List.mem_cons.1 hb with rfl|hb
  ·exact hq
  ·exact hql b hb
theorem wf_u8 {z:Int} (h:(Lit.int .u8 z).wf=true):0≤z∧z≤255:=by
 simp only[Lit.wf,Bool.and_eq_true,decide_eq_true_eq] at h;have e1:IntKind.u8.min=0:=rfl;have e2:IntKind.u8.max=255:=rfl;rw[e1,e2] at h;exact h
theorem wf_i8 {z:Int} (h:(Lit.int .i8 z).wf=true):-128≤z∧z≤127:=by
 simp only[Lit.wf,Bool.and_eq_true,decide_eq_true_eq] at h;have e1:IntKind.i8.min = -128:=rfl;have e2:IntKind.i8.max=127:=rfl;rw[e1,e2] at h;exact h
theorem zen {n:Nat} (h:n≤maxLen):n≤AI.zap:=by
 simp only[maxLen] at h;simp only[AI.zap];omega
theorem zob:Opn enc Tryz.prog W 71 fun is=>∃l:List Int,is=[.sl 1 l.length (l.map AI.u8I)]∧AI.zcA l∧l.length≤AI.zap:=by
 intro n cs x h;obtain⟨is,hr,xs,rfl,hx,hl⟩:=zde Tryz.underlying71 (z:=1) (by kernel_rfl) (by decide) (zdZ Tryz.underlying5) n cs x h;obtain⟨l,rfl,hq⟩:=zeQ (f:=AI.u8I) (Q:=fun z=>0≤z∧z≤255) (xs:=xs) fun d hd=>by
  obtain⟨z,hz,hw⟩:=hx d hd;exact⟨z,hz,wf_u8 hw⟩
 refine⟨_,hr,l,by simp,hq,zen (by simpa using hl)⟩
abbrev skI (k:AI.Sk):List AI.I:=[.v (.int .u8 k.locs),.v (.int .u8 k.marks),.sl 2 k.rngs.length (k.rngs.map AI.r8I),.sl 5 k.lines.length (k.lines.map AI.linI)]
end
end Go.Proofs.YtnojpbbaohoadaaGreatDoor
namespace Go.Proofs.YtnojpbbaohoadaaGreatDoor
open Go.ChangeShapes Go.WideShapes Go.ChangeAt Go.RowKit Go.Deep Go.WideElems
set_option maxRecDepth 100000
section
variable {H:Type} {enc:TypeId×Value→H} {W:World}
end
end Go.Proofs.YtnojpbbaohoadaaGreatDoor
namespace Go.Proofs.YtnojpbbaohoadaaGreatDoor
open Go.ChangeShapes Go.WideShapes Go.ChangeAt Go.RowKit Go.Deep Go.WideElems
set_option maxRecDepth 100000
section
variable {H:Type} {enc:TypeId×Value→H} {P:Program} {W:World}
end
section
variable {H:Type} {enc:TypeId×Value→H} {W:World}
end
end Go.Proofs.YtnojpbbaohoadaaGreatDoor
namespace Go.AI
abbrev bI (b:Bool):I:=.v (.bool b)
abbrev zj3 (l:List ByteArray):I:=.sl 1 l.length (l.map fun s=>[strI s])
structure Evt where
 name:ByteArray
 c:Bool
 o:Bool
 f:Bool
 fault:Int
abbrev evtI (x:Evt):List I:=[strI x.name,bI x.c,bI x.o,bI x.f,vi x.fault]
abbrev za1 (l:List Evt):I:=.sl 5 l.length (l.map evtI)
structure Tpl where
 name:ByteArray
 locs:List ByteArray
 evs:List ByteArray
 mach:Ext
abbrev tplI (x:Tpl):List I:=[strI x.name,zj3 x.locs,zj3 x.evs,zdJ x.mach.alpha,vi x.mach.locs,vi x.mach.init,zdJ x.mach.marked,vrsI x.mach.vars,.sl 8 x.mach.moves.length (x.mach.moves.map mvI)]
abbrev zcI (l:List Tpl):I:=.sl 9 l.length (l.map tplI)
structure Ins where
 name:ByteArray
 tpl:ByteArray
 evs:List ByteArray
abbrev insI (x:Ins):List I:=[strI x.name,strI x.tpl,zj3 x.evs]
abbrev zbF (l:List Ins):I:=.sl 3 l.length (l.map insI)
abbrev NLc:=ByteArray×ByteArray
abbrev nlcI (x:NLc):List I:=[strI x.1,strI x.2]
structure NEx where
 name:ByteArray
 locals:List NLc
abbrev nexI (x:NEx):List I:=[strI x.name,.sl 2 x.locals.length (x.locals.map nlcI)]
abbrev zjd (l:List NEx):I:=.sl 2 l.length (l.map nexI)
abbrev NTm:=ByteArray×Int
abbrev ntmI (x:NTm):List I:=[strI x.1,vi x.2]
structure NCn where
 name:ByteArray
 terms:List NTm
 bound:Int
abbrev ncnI (x:NCn):List I:=[strI x.name,.sl 2 x.terms.length (x.terms.map ntmI),vi x.bound]
abbrev zkr (l:List NCn):I:=.sl 3 l.length (l.map ncnI)
structure Mdl where
 name:ByteArray
 evs:List Evt
 tpls:List Tpl
 comps:List Ins
 reqs:List Ins
 excs:List NEx
 cons:List NCn
abbrev mdlC (m:Mdl):List D:=[.i (strI m.name),.i (za1 m.evs),.i (zcI m.tpls),.i (zbF m.comps),.i (zbF m.reqs),.i (zjd m.excs),.i (zkr m.cons)]
abbrev mdlD (m:Mdl):D:=.agg (mdlC m)
def sB (a b:ByteArray):Bool:=a.data.toList==b.data.toList
theorem zbP {a b:ByteArray}:sB a b=true↔a=b:=by
 unfold sB;rw[beq_iff_eq];constructor
 ·intro h;exact ByteArray.ext (Array.ext' h)
 ·rintro rfl;rfl
theorem zxZ (a b:ByteArray):sB a b=sB b a:=by
 rw[Bool.eq_iff_iff,zbP,zbP];exact⟨Eq.symm,Eq.symm⟩
theorem zaV (a b:ByteArray):(a.toList==b.toList)=sB a b:=by
 rw[ByteArray.toList_eq,ByteArray.toList_eq];rfl
def hasB (l:List ByteArray) (s:ByteArray):Bool:=l.any fun x=>sB x s
def nmE (before:List ByteArray) (s:ByteArray):Int:=if zaT s=false then 7 else if hasB before s=true then 8 else 0
def nmsE:List ByteArray→List ByteArray→Int
 |_,[]=>0
 |b,s::r=>if nmE b s≠0 then nmE b s else nmsE (b++[s]) r
def evE (before:List ByteArray) (x:Evt):Int:=
 if nmE before x.name≠0 then nmE before x.name else if x.fault<0∨x.fault>4 then 2 else if x.fault≠0∧(x.c=true∨x.o=true) then 13 else 0
def evsE:List ByteArray→List Evt→Int
 |_,[]=>0
 |b,x::r=>if evE b x≠0 then evE b x else evsE (b++[x.name]) r
def zjP (l:List Evt):Int:=if l.length>32 then 3 else evsE [] l
def tplE (x:Tpl):Int:=
 if (x.locs.length:Int)≠x.mach.locs then 4 else if nmsE [] x.locs≠0 then nmsE [] x.locs else if nmsE [] x.evs≠0 then nmsE [] x.evs
 else if x.mach.alpha.length≠x.evs.length then 6 else if x.mach.alpha≠(List.range x.evs.length).map (fun k=>((k:Nat):Int)) then 6 else chk x.mach
def zdi (m:Mdl):List ByteArray→List ByteArray→Int
 |_,[]=>0
 |b,s::r=>if hasB (m.evs.map (·.name)) s=false then 9 else if hasB b s=true then 8 else zdi m (b++[s]) r
def insE (m:Mdl) (x:Ins):Int:=
 match m.tpls.find? (fun t=>sB t.name x.tpl) with
 |none=>9
 |some t=>if x.evs.length≠t.evs.length then 4 else zdi m [] x.evs
abbrev Plc:=Int×Int
def za6 {α:Type} (nm:α→ByteArray) (err:α→Int):List ByteArray→List α→Nat→Option (Nat×Int)
 |_,[],_=>none
 |b,x::r,i=>if nmE b (nm x)≠0 then some (i,nmE b (nm x)) else if err x≠0 then some (i,err x) else za6 nm err (b++[nm x]) r (i+1)
def reqE (m:Mdl) (x:Ins):Int:=if insE m x≠0 then insE m x else if x.evs.any (fun s=>!hasB (m.comps.flatMap (·.evs)) s)=true then 9 else 0
def zbL (m:Mdl) (x:Ins):Option Tpl:=m.tpls.find? fun t=>sB t.name x.tpl
def lcsE (m:Mdl):List ByteArray→List NLc→Int
 |_,[]=>0
 |b,x::r=>match m.comps.find? (fun c=>sB c.name x.1) with
  |none=>9
  |some c=>if hasB b x.1=true then 8 else match zbL m c with
   |none=>9
   |some t=>if hasB t.locs x.2=false then 9 else lcsE m (b++[x.1]) r
def excE (m:Mdl) (x:NEx):Int:=if x.locals.length=0 then 12 else lcsE m [] x.locals
def bigB (n:Int):Bool:=decide (n>65536)||decide (n < -65536)
def tmsE (m:Mdl):List ByteArray→List NTm→Int
 |_,[]=>0
 |b,x::r=>if hasB (m.comps.map (·.name)) x.1=false then 9 else if hasB b x.1=true then 8 else if x.2=0∨bigB x.2=true then 2 else tmsE m (b++[x.1]) r
def conE (m:Mdl) (x:NCn):Int:=if x.terms.length=0 then 12 else if tmsE m [] x.terms≠0 then tmsE m [] x.terms else if bigB x.bound=true then 2 else 0
def plc {α:Type} (k:Int) (o:Option (Nat×Int)) (z:α) (f:Plc×Int→α):α:=match o with
 |some (i,e)=>f ((k,(i:Int)),e)
 |none=>z
def evsP:List Evt→List Evt→Nat→Option (Nat×Int)
 |_,[],_=>none
 |b,x::r,i=>if zjP (b++[x])≠0 then some (i,zjP (b++[x])) else evsP (b++[x]) r (i+1)
def mdlE (m:Mdl):Plc×Int:=
 if zaT m.name=false then ((0,0),7) else
 plc 1 (evsP [] m.evs 0) (
  if m.tpls.length>16 then ((2,16),3) else
  plc 2 (za6 Tpl.name tplE [] m.tpls 0) (
   if m.comps.length=0 then ((3,0),12) else if m.comps.length>8 then ((3,8),3) else if m.comps.length+m.reqs.length>12 then ((4,12-(m.comps.length:Int)),3) else
   plc 3 (za6 Ins.name (insE m) [] m.comps 0) (
    plc 4 (za6 Ins.name (reqE m) (m.comps.map (·.name)) m.reqs 0) (
     if m.excs.length>32 then ((5,32),3) else
     plc 5 (za6 NEx.name (excE m) [] m.excs 0) (
      if m.cons.length>32 then ((6,32),3) else
      plc 6 (za6 NCn.name (conE m) [] m.cons 0) ((0,0),0) id) id) id) id) id) id
end Go.AI
namespace Go.AI
open Go.Proofs
set_option maxRecDepth 20000
theorem zdD:∀(k u:Nat),u<10 ^ (k+1)→(Lib.decDigits u).length≤k+1
 |0,u,h=>by
  unfold Lib.decDigits;rw[dif_pos (by omega)];simp
 |k+1,u,h=>by
  unfold Lib.decDigits
  split
  ·simp
  ·rw[List.length_append];have:=zdD k (u/10) (by rw[Nat.pow_succ] at h;omega);simp only[List.length_cons,List.length_nil];omega
theorem zcH {n:Int} (h0:-9223372036854775808≤n) (h1:n≤9223372036854775807):(zcN n).size≤21:=by
 show (Lib.itoa n).toArray.size≤21;simp only[List.size_toArray];unfold Lib.itoa
 split
 ·have:=zdD 19 n.natAbs (by omega);simp only[List.length_cons];omega
 ·have:=zdD 19 n.toNat (by omega);omega
abbrev i64B (n:Int):Prop:=-9223372036854775808≤n∧n≤9223372036854775807
end Go.AI
namespace Go.AI
def renH (a b:Nat):Heap→Heap
 |[]=>[]
 |(k,o)::r=>(renN a b k,o)::renH a b r
theorem zdc (a b:Nat):renN a b a=b:=by simp[renN]
theorem zdU {a b n:Nat} (h:n≠a):renN a b n=n:=by
 unfold renN
 cases hb:Nat.beq n a with
 |false=>rfl
 |true=>exact absurd (Nat.eq_of_beq_eq_true hb) h
theorem zky {a b n:Nat} {o:Ob}:∀{H:Heap},look H b=none→look (renH a b H) n=some o→∃n0,n=renN a b n0∧look H n0=some o
 |[],_,h=>by simp[renH,look] at h
 |(k,x)::r,hb,h=>by
  rw[zac] at hb
  split at hb
  ·cases hb
  ·rename_i hkb;simp only[renH] at h;rw[zac] at h
   split at h
   ·rename_i e;simp only[Option.some.injEq] at h;subst h;exact⟨k,e.symm,by rw[zac,if_pos rfl]⟩
   ·rename_i e;obtain⟨n0,h1,h2⟩:=zky hb h;refine⟨n0,h1,?_⟩;rw[zac,if_neg]
    ·exact h2
    ·intro e2;subst e2;exact e h1.symm
theorem zio {a b n0:Nat} {o:Ob}:∀{H:Heap},look H b=none→look H n0=some o→look (renH a b H) (renN a b n0)=some o
 |[],_,h=>by simp[look] at h
 |(k,x)::r,hb,h=>by
  rw[zac] at hb
  split at hb
  ·cases hb
  ·rename_i hkb;rw[zac] at h;simp only[renH];rw[zac]
   split at h
   ·rename_i e;subst e;rw[if_pos rfl];exact h
   ·rename_i e;rw[if_neg]
    ·exact zio hb h
    ·intro e2
     by_cases h1:k=a
     ·subst h1;rw[zdc,zdU (Ne.symm e)] at e2;subst e2;rw[hb] at h;cases h
     ·rw[zdU h1] at e2
      by_cases h2:n0=a
      ·subst h2;rw[zdc] at e2;exact hkb e2
      ·rw[zdU h2] at e2;exact e e2
section
variable {c:Cx} {s:St} {H:Heap} {O:List Heap}
theorem zwS (a b:Nat) (hS:s.S=H::O) (hb:look H b=none) (hfl:allH (fun _ o=>o.flat) H=true):Wk c s {σ:=renσ a b s.σ,S:=renH a b H::O,n:=s.n}:=by
 intro K ρ act w hi;have hh:=hi.h;rw[hS] at hh
 let ρ':Nat→Nat→Loc:=upd ρ b (ρ 0 a)
 have hρ:∀n0 o,look H n0=some o→ρ' 0 (renN a b n0)=ρ 0 n0:=by
  intro n0 o h
  by_cases h1:n0=a
  ·subst h1;rw[zdc];exact zaP _ _ _
  ·rw[zdU h1];exact zaL _ _ _ (.inr fun e=>by subst e;rw[hb] at h;cases h)
 have r1:∀d n,ρ' (d+1) n=ρ (d+1) n:=fun d n=>zaL _ _ _ (.inl (by omega));have hren:Ren a b ρ ρ' (shape (H::O)) (shape (renH a b H::O)):=by
  refine⟨fun n x e=>?_,fun d n x e=>⟨by simpa [shape,zab] using e,r1 d n⟩⟩;simp only[shape,zab,List.getElem?_cons_zero] at e ⊢
  cases hl:look H n with
  |none=>simp[hl] at e
  |some o=>
   rw[zio hb hl];exact⟨by simpa [hl] using e,hρ _ _ hl⟩
 have hmv:Moves (fun _=>false) K K ρ ρ' (shape (H::O)) (shape (renH a b H::O)):=⟨K.le_refl,fun _ _ h=>(by cases h),hren.s⟩;have hcase:∀d n o,zab (renH a b H::O) d n=some o→∃n0,zab (H::O) d n0=some o∧ρ' d n=ρ d n0∧(d=0→n=renN a b n0)∧(d≠0→n=n0):=by
  intro d n o e
  cases d with
  |zero=>
   obtain⟨n0,rfl,h2⟩:=zky hb (by simpa [zab] using e);exact⟨n0,by simpa [zab] using h2,hρ _ _ h2,fun _=>rfl,fun h=>absurd rfl h⟩
  |succ d=>exact⟨n,by simpa [zab] using e,r1 _ _,fun h=>absurd h (Nat.succ_ne_zero d),fun _=>rfl⟩
 have e0:∀f:Nat→Nat→Loc,(fun d n=>f (0+d) n)=f:=by intro f;funext d n;rw[Nat.zero_add]
 refine⟨K,ρ',⟨hh.holds,?_,?_,hh.size,?_,?_,?_,hh.Kle,hh.Knew,hh.rest⟩,hi.defers,hi.size,fun t d e=>?_⟩
 ·intro d n o e;obtain⟨n0,h1,h2,h3,h4⟩:=hcase d n o e;have h0:=hh.own _ _ _ h1;rw[h2]
  cases d with
  |zero=>
   rw[e0] at h0 ⊢;have hf:o.flat=true:=zdp hfl (by simpa [zab] using h1);refine h0.move hmv ?_ (fun _=>rfl) (fun _ _=>rfl)
   cases o with
   |box cs=>exact hf
   |tb _ cs=>exact hf
   |arr=>rfl
   |mp=>rfl
  |succ d=>
   have e1:(fun d' n=>ρ' (d+1+d') n)=fun d' n=>ρ (d+1+d') n:=by
    funext d' n;rw[show d+1+d'=(d+d')+1 by omega,r1]
   rw[e1];simpa using h0
 ·intro d n o d2 n2 o2 e e2 b1 b2 hbe;obtain⟨m1,a1,a2,a3,a4⟩:=hcase d n o e;obtain⟨m2,c1,c2,c3,c4⟩:=hcase d2 n2 o2 e2;rw[a2] at b1 hbe;rw[c2] at b2 hbe;obtain⟨rfl,rfl⟩:=hh.inj _ _ _ _ _ _ a1 c1 b1 b2 hbe;refine⟨rfl,?_⟩
  by_cases h:d=0
  ·rw[a3 h,c3 h]
  ·rw[a4 h,c4 h]
 ·intro b' hb' hno;refine hh.old b' hb' fun d n o e hbk=>?_;have:=hno d n o (by simpa [zab] using e) (by rw[r1];exact hbk);rwa [r1] at this
 ·intro n o e hbk;obtain⟨n0,h1,h2,_⟩:=hcase 0 n o e;rw[h2] at hbk ⊢;exact hh.loc _ _ h1 hbk
 ·intro d;funext n;rw[r1,hh.outer]
 ·simp only[zfi] at e
  cases hl:look s.σ t with
  |none=>simp[hl] at e
  |some d0=>
   simp only[hl,Option.map_some,Option.some.injEq] at e;subst e;have:=hi.slots _ _ hl;rw[hS] at this;exact this.ren hren
end
end Go.AI
namespace Go.AI
open Go.Proofs
set_option maxRecDepth 20000
theorem within_iff:∀{l:List Vr} {xs:List Int},within l xs=true↔xs.length=l.length∧∀i (h:i<l.length) (h':i<xs.length),l[i].low≤xs[i]∧xs[i]≤l[i].high
 |[],[]=>by simp[within]
 |[],_::_=>by simp[within]
 |_::_,[]=>by simp[within]
 |v::r,x::ys=>by
  simp only[within,Bool.and_eq_true,decide_eq_true_eq,within_iff (l:=r) (xs:=ys),List.length_cons,Nat.add_right_cancel_iff];constructor
  ·rintro ⟨⟨h1,h2⟩,h3,h4⟩;refine⟨h3,fun i h h'=>?_⟩
   cases i with
   |zero=>exact⟨h1,h2⟩
   |succ i=>exact h4 i (by simpa using h) (by simpa using h')
  ·rintro ⟨h3,h4⟩;exact⟨h4 0 (by simp) (by simp),h3,fun i h h'=>h4 (i+1) (by simpa using h) (by simpa using h')⟩
theorem zp6 {l:List Vr} {xs:List Int} {k:Nat} {n:Int} (h:within l xs=true) (hk:k<l.length) (hn:l[k].low≤n∧n≤l[k].high):within l (xs.set k n)=true:=by
 rw[within_iff] at h ⊢;refine⟨by simpa using h.1,fun i hi hi'=>?_⟩;rw[List.getElem_set]
 split
 ·rename_i e;subst e;exact hn
 ·exact h.2 i hi (by simpa using hi')
theorem zfC {all:List Vr}:∀{l:List Vr} {i:Nat},zbg all l i=0→∀v∈l,(-65536≤v.low∧v.high≤65536)∧v.low≤v.init∧v.init≤v.high
 |[],_,_,v,hv=>by simp at hv
 |x::r,i,h,v,hv=>by
  simp only[zbg] at h
  split at h
  ·rename_i e he;subst h;unfold checkVr at he
   split at he;· cases he
   split at he;· cases he
   split at he;· cases he
   split at he;· cases he
   split at he<;>cases he
  ·rename_i he;rcases List.mem_cons.1 hv with rfl|hv
   ·unfold checkVr at he
    split at he;· cases he
    split at he;· cases he
    split at he;· cases he
    rename_i h3
    split at he;· cases he
    split at he;· cases he
    rename_i h4 h5;simp only[checkVr.large,Bool.or_eq_true,decide_eq_true_eq,not_or] at h3;omega
   ·exact zfC h v hv
theorem zlw {l:List Vr} (h:zby l=0):∀v∈l,(-65536≤v.low∧v.high≤65536)∧v.low≤v.init∧v.init≤v.high:=by
 unfold zby at h
 split at h
 ·cases h
 ·exact zfC h
def okS (m:Ext) (s:Sta):Prop:=(0≤s.loc∧s.loc<m.locs)∧within m.vars s.vals=true
theorem zqJ {m:Ext} {s:Sta} (hr:extRight m) (h:okS m s):i64B s.loc∧(∀v∈s.vals,i64B v)∧s.vals.length≤16∧s.vals.length=m.vars.length∧∀v∈s.vals,-65536≤v∧v≤65536:=by
 obtain⟨h1,h2⟩:=h;rw[within_iff] at h2;have hl:=hr.locs;have hv:=znW hr.vars;have hb:∀v∈s.vals,-65536≤v∧v≤65536:=by
  intro v hm;obtain⟨i,hi,rfl⟩:=List.getElem_of_mem hm;have a:=h2.2 i (by omega) hi;have b:=zlw hr.vars _ (List.getElem_mem (by omega:i<m.vars.length));omega
 exact⟨⟨by omega,by omega⟩,fun v hm=>by have:=hb v hm;exact⟨by omega,by omega⟩,by omega,h2.1,hb⟩
theorem zvo {m:Ext} (hr:extRight m):okS m (zdP m):=by
 refine⟨hr.init,within_iff.2 ⟨by simp[zdP],fun i h h'=>?_⟩⟩;simp only[zdP,List.getElem_map];exact (zlw hr.vars _ (List.getElem_mem h)).2
theorem zr5 {m:Ext} {vals:List Int}:∀{l:List Upd} {acc out:List Int},updR m vals l acc=some out→within m.vars acc=true→within m.vars out=true
 |[],acc,out,h,hw=>by simp only[updR,Option.some.injEq] at h;subst h;exact hw
 |u::r,acc,out,h,hw=>by
  simp only[updR] at h
  cases hu:m.vars[u.v.toNat]? with
  |none=>rw[hu] at h;cases h
  |some v=>
   rw[hu] at h;simp only at h
   split at h
   ·cases h
   ·rename_i hc;have hk:u.v.toNat<m.vars.length:=(List.getElem?_eq_some_iff.1 hu).1;have hkv:m.vars[u.v.toNat]=v:=(List.getElem?_eq_some_iff.1 hu).2;refine zr5 h (zp6 hw hk ?_);rw[hkv];omega
theorem zxC {m:Ext} {s:Sta} {ev:Int} (hr:extRight m) (h:okS m s) (hp:(zhU m s ev).2.1=true):okS m (zhU m s ev).1:=by
 unfold zhU at hp ⊢
 cases hc:(chs s ev m.moves 0 none false).1 with
 |none=>rw[hc] at hp;cases hp
 |some k=>
  rw[hc] at hp;simp only at hp ⊢
  split at hp
  ·cases hp
  ·rename_i he;rw[if_neg he]
   cases hk:m.moves[k]? with
   |none=>rw[hk] at hp;cases hp
   |some x=>
    rw[hk] at hp;simp only at hp ⊢
    cases hu:updR m s.vals x.us s.vals with
    |none=>rw[hu] at hp;cases hp
    |some acc=>
     exact⟨(hr.mv x (List.mem_of_getElem? hk)).to,zr5 hu h.2⟩
structure Srch where
 sts:List Sta
 frm:List (Int×Int)
 flt:Int×Int
 kind:Int
abbrev zsJ (l:List Sta):Ob:=.arr 68 2 l.length (l.map staI) true
structure Good (m:Ext) (S:Srch):Prop where
 len:S.sts.length≤4096
 ok:∀s∈S.sts,okS m s
 fl:S.frm.length=S.sts.length
abbrev zgm (l:List Sta):D:=.i (.sl 2 l.length (l.map staI))
end Go.AI
namespace Go.AI
open Go.Proofs
def over (c:Array Value):Nat→List Value→Array Value
 |_,[]=>c
 |o,v::r=>over (c.setIfInBounds o v) (o+1) r
theorem zg5 {K:Kn}:∀{vs:List Value} {l:List Int},RepL K vs (l.map fun x=>[vi x]).flatten→vs=l.map (Value.int .i64)
 |_,[],.nil=>rfl
 |_,x::r,h=>by
  simp only[List.map_cons,List.flatten_cons,List.cons_append,List.nil_append] at h
  cases h with
  |cons a b=>
   cases a with
   |v e=>rw[zg5 b];rfl
theorem zhr {K:Kn}:∀(l:List Int),RepL K (l.map (Value.int .i64)) (l.map fun x=>[vi x]).flatten
 |[]=>.nil
 |x::r=>by
  simp only[List.map_cons,List.flatten_cons,List.cons_append,List.nil_append];exact .cons (.v rfl) (zhr r)
end Go.AI
namespace Go.AI
open Go.Proofs
set_option maxRecDepth 20000
def back (frm:List (Int×Int)):Nat→Int×Int→List Int
 |0,_=>[]
 |f+1,p=>if p.1<0 then [] else p.2::back frm f (frm.getD p.1.toNat (-1,-1))
structure Linked (S:Srch):Prop where
 len:S.frm.length=S.sts.length
 frm:∀k (h:k<S.frm.length),S.frm[k].1<k
 flt:S.flt.1<S.sts.length
 most:S.sts.length≤4096
end Go.AI
namespace Go.AI
set_option maxRecDepth 20000
section
variable {h:Int} (h1:1≤h) (h2:h≤8191)
include h1 h2
variable {k:Int} (k1:0≤k) (k2:k≤h)
omit h1 in
include k1 k2 in
include k1 k2 in
omit h1 in
include k1 k2 in
omit h1 in
include k1 k2 in
omit h1 in
include k1 k2 in
include k1 k2 in
include k1 k2 in
end
def cnt (n:Nat):List Sta:=(List.range n).map fun (i:Nat)=>(⟨0,[(i:Int)]⟩:Sta)
section
variable {H:Nat} (h1:1≤H) (h2:H≤8191)
include h1 h2
end
end Go.AI
namespace Go.AI
open Go.Proofs
set_option maxRecDepth 20000
end Go.AI
namespace Go.AI
structure Unf (σ:Type) where
 sts:List σ
 mkl:List Int
 eds:List (Int×Int×Int)
def kOf:List (Int×Int×Int)→Nat→Option Nat
 |[],k=>some k
 |e::r,k=>if (0≤e.1∧e.1<k)∧0≤e.2.2∧e.2.2≤k then kOf r (if e.2.2=k then k+1 else k) else none
section
variable {σ:Type} (eq:σ→σ→Bool) (lim:Bool) (step:σ→Int→σ×Bool×Int) (mkd:σ→Bool)
def zdL (i:Nat) (s:σ) (ev:Int) (U:Unf σ):Except Int (Unf σ):=
 if (step s ev).2.2≠0 then .error (step s ev).2.2 else
 if (step s ev).2.1=false then .ok U else
 if U.sts.findIdx (eq (step s ev).1)<U.sts.length then .ok {U with eds:=U.eds++[((i:Int),ev,((U.sts.findIdx (eq (step s ev).1):Nat):Int))]} else
 if lim=true∧U.sts.length=4096 then .error 3 else
 .ok {sts:=U.sts++[(step s ev).1],mkl:=U.mkl,eds:=U.eds++[((i:Int),ev,((U.sts.findIdx (eq (step s ev).1):Nat):Int))]}
def zbo (i:Nat) (s:σ):List Int→Unf σ→Except Int (Unf σ)
 |[],U=>.ok U
 |ev::r,U=>match zdL eq lim step i s ev U with
  |.error e=>.error e
  |.ok U'=>zbo i s r U'
def ze6 (i:Nat) (s:σ) (U:Unf σ):Unf σ:=if mkd s then {U with mkl:=U.mkl++[(i:Int)]} else U
def ze7 (alpha:List Int):Nat→Nat→Unf σ→Except Int (Unf σ)
 |0,_,U=>.ok U
 |f+1,i,U=>match U.sts[i]? with
  |none=>.ok U
  |some s=>match zbo eq lim step i s alpha (ze6 mkd i s U) with
   |.error e=>.error e
   |.ok U'=>ze7 alpha f (i+1) U'
def unf0 (first:σ):Unf σ:=⟨[first],[],[]⟩
def unfR (alpha:List Int) (first:σ):Except Int (Unf σ):=ze7 eq lim step mkd alpha 4097 0 (unf0 first)
theorem zgQ (i:Nat) (s:σ) (U:Unf σ):(ze6 mkd i s U).sts=U.sts∧(ze6 mkd i s U).eds=U.eds:=by
 unfold ze6;split<;>exact⟨rfl,rfl⟩
end
theorem findIdx_le {α:Type} {p:α→Bool}:∀{l:List α},l.findIdx p≤l.length
 |[]=>Nat.le_refl _
 |x::l=>by
  have:=findIdx_le (p:=p) (l:=l);rw[List.findIdx_cons]
  cases p x with
  |true=>exact Nat.zero_le _
  |false=>simp only[cond_false,List.length_cons];omega
section
variable {σ:Type} [DecidableEq σ]
def eqB (a b:σ):Bool:=decide (a=b)
variable (step:σ→Int→σ×Bool×Int) (mkd:σ→Bool)
def eOf (sts:List σ) (i:Nat) (s:σ) (ev:Int):Option (Int×Int×Int):=if (step s ev).2.1=true then some ((i:Int),ev,((sts.findIdx (eqB (step s ev).1):Nat):Int)) else none
structure Fin1 (eq:σ→σ→Bool) (lim:Bool) (P:σ→Prop):Prop where
 step:∀s ev,P s→(step s ev).2.1=true→P (step s ev).1
 eq:∀s t,P s→P t→eq s t=eqB s t
 few:lim=true→∀l:List σ,(∀s∈l,P s)→l.Nodup→l.length<4096
structure UOk (P:σ→Prop) (U:Unf σ):Prop where
 ok:∀s∈U.sts,P s
 nd:U.sts.Nodup
 fr:kOf U.eds 1=some U.sts.length
variable {step} {eq:σ→σ→Bool} {lim:Bool} {P:σ→Prop}
structure UAt (mkd:σ→Bool) (alpha:List Int) (P:σ→Prop) (step:σ→Int→σ×Bool×Int) (i:Nat) (U:Unf σ):Prop extends UOk P U where
 le:i≤U.sts.length
 pos:0<U.sts.length
 eds:U.eds=(List.range i).flatMap fun k=>match U.sts[k]? with
  |none=>[]
  |some s=>alpha.filterMap (eOf step U.sts k s)
 mkl:U.mkl=((List.range i).filter fun k=>match U.sts[k]? with
  |none=>false
  |some s=>mkd s).map fun k=>((k:Nat):Int)
 fine:∀k s,k<i→U.sts[k]? = some s→∀ev∈alpha,(step s ev).2.2=0∧((step s ev).2.1=true→(step s ev).1∈U.sts)
end
abbrev Edg:=Int×Int×Int
structure Aut where
 alpha:List Int
 states:Int
 marked:List Int
 edges:List Edg
abbrev edgI (e:Edg):List I:=[vi e.1,vi e.2.1,vi e.2.2]
abbrev edgs (l:List Edg):D:=.i (.sl 3 l.length (l.map edgI))
abbrev autD (a:Aut):D:=.agg [ints a.alpha,ii a.states,ints a.marked,edgs a.edges]
def zxi (alpha:List Int) (n:Int):Option Edg→List Edg→Int
 |_,[]=>0
 |prev,x::r=>if x.1<0∨x.1≥n∨x.2.2<0∨x.2.2≥n then 2 else if x.2.1 ∉ alpha then 9 else
  if prev.any (fun y=>decide (x.1<y.1∨x.1=y.1∧x.2.1≤y.2.1))=true then 5 else zxi alpha n (some x) r
def chkA (a:Aut):Int:=if zaM 32 a.alpha none≠0 then zaM 32 a.alpha none else if a.states<0 then 2 else if a.states>4096 then 3 else
 if zaM a.states a.marked none≠0 then zaM a.states a.marked none else zxi a.alpha a.states none a.edges
theorem zif:∀{a b:List Int},a.Pairwise (· < ·)→b.Pairwise (· < ·)→(∀x,x∈a↔x∈b)→a=b
 |[],[],_,_,_=>rfl
 |[],y::b,_,_,h=>absurd ((h y).2 (by simp)) (by simp)
 |x::a,[],_,_,h=>absurd ((h x).1 (by simp)) (by simp)
 |x::a,y::b,ha,hb,h=>by
  rw[List.pairwise_cons] at ha hb;have hxy:x=y:=by
   have h1:=(h x).1 (by simp);have h2:=(h y).2 (by simp);rcases List.mem_cons.1 h1 with e|e1
   ·exact e
   rcases List.mem_cons.1 h2 with e|e2
   ·exact e.symm
   have:=hb.1 x e1;have:=ha.1 y e2;omega
  subst hxy;rw[zif ha.2 hb.2 fun z=>?_];have hz:=h z;simp only[List.mem_cons] at hz;constructor
  ·intro m;rcases hz.1 (.inr m) with e|e
   ·have:=ha.1 z m;omega
   ·exact e
  ·intro m;rcases hz.2 (.inr m) with e|e
   ·have:=hb.1 z m;omega
   ·exact e
end Go.AI
namespace Go.AI
open Go.Proofs
set_option maxRecDepth 20000
end Go.AI
namespace Go.AI
def noPl:Pl:=⟨[],[],none⟩
section
variable {c:Cx} {s:St} {k:List Item} {ops:Array Oper} {rest:List Nat} {o:Oper}
theorem ziM {c:Cx} {ops:Array Oper} {O:List Heap} {n:Nat}:∀{m:Nat} {l:List Oper} {qs:List Pl} {x:SH},zgl c ops O n (l.take m) qs x→zgl c ops O n l qs x
 |0,l,[],x,_=>by cases l<;>trivial
 |0,l,_::_,x,h=>by
  rw[List.take_zero] at h;exact h.elim
 |m+1,[],qs,x,h=>by simpa using h
 |m+1,o::r,[],x,_=>trivial
 |m+1,o::r,p::qs,x,h=>by
  rw[List.take_succ_cons] at h;exact⟨h.1,ziM h.2⟩
end
theorem zsA {c:Cx} (hm:c.P.follows .mixedOrders=true) {id:Nat} {ops:Array Oper} {x0:St} {p:Nat} {k:List Item} {pre:List (List Nat)} (hpr:pre=zdV ops.toList []) (hpre:zlP ops pre=true) (htl:zvl ops pre p=true) (hlen':p≤ops.size)
  (J:(Nat→Bool)→Act→World→Prop) (hJ:∀L L' a w,(∀k,k<ops.size→L k=L' k)→J L a w→J L' a w) (hbeg:∀K ρ a w,Inv c.E K ρ x0 a w→J (fun _=>false) a w)
  (hstep:∀(L:Nat→Bool),zcR ops L→∀i o,ops[i]? = some o→i<p→L i=false→(∀j∈zbw o,L j=true)→(∀j,j<ops.size→p≤j→L j=false)→∀a w,J L a w →
   ∀(Q:Exit→Act→World→Prop) (next:Act→World→Prop),(∀a' w',J (fun k=>L k||Nat.beq k i) a' w' → next a' w')→wpOp c.P ops Q i next a w)
  (hend:∀a w,J (fun k=>Nat.ble (k+1) p) a w→wpOps c.P ops (fun e a' w'=>e=.normal∧Ends c k a' w') (List.range' p (ops.size-p)) a w):Rch c (.code (.region id ops true)::k) x0:=by
 subst hpr;intro K ρ a w b cs hi hb hk
 let Q:Exit→Act→World→Prop:=fun e a' w'=>e=.normal∧Ends c k a' w'
 have hgetD:∀(listed:Array Bool) (i:Nat),listed.size=ops.size→i<ops.size→∀k,(listed.setIfInBounds i true).getD k false=(listed.getD k false||Nat.beq k i):=by
  intro listed i hsz hlt k
  by_cases hki:k=i
  ·subst hki;simp[hsz,hlt]
  ·have:Nat.beq k i=false:=by
    cases hb:Nat.beq k i with
    |false=>rfl
    |true=>exact absurd (Nat.eq_of_beq_eq_true hb) hki
   rw[this,Bool.or_false,getD_set_ne false (Ne.symm hki)]
 have hcntlt:∀(listed:Array Bool) (i:Nat),listed.size=ops.size→i<ops.size→listed.getD i false=false→(List.range ops.size).countP (fun k=>!(listed.setIfInBounds i true).getD k false)<(List.range ops.size).countP (fun k=>!listed.getD k false):=by
  intro listed i hsz hlt hLi;have e1:(fun k=>!(listed.setIfInBounds i true).getD k false)=fun k=>!listed.getD k false&&!Nat.beq k i:=by
   funext k;rw[hgetD listed i hsz hlt];simp
  rw[e1];obtain⟨l1,l2,hl⟩:=List.append_of_mem (List.mem_range.2 hlt);rw[hl];simp only[List.countP_append,List.countP_cons];have m1:l1.countP (fun k=>!listed.getD k false&&!Nat.beq k i)≤l1.countP (fun k=>!listed.getD k false):=List.countP_mono_left fun x _ hx=>by simp only[Bool.and_eq_true] at hx;exact hx.1
  have m2:l2.countP (fun k=>!listed.getD k false&&!Nat.beq k i)≤l2.countP (fun k=>!listed.getD k false):=List.countP_mono_left fun x _ hx=>by simp only[Bool.and_eq_true] at hx;exact hx.1
  have e2:(!listed.getD i false)=true:=by rw[hLi];rfl
  have e3:Nat.beq i i=true:=Nat.beq_refl i;rw[if_pos e2,if_neg (by rw[e3];simp)];omega
 have hready:∀(listed:Array Bool),listed.size=ops.size→∀i,i<ops.size→listed.getD i false=false→(∀o,ops[i]? = some o→∀j∈zbw o,listed.getD j false=true)→i∈Region.ready .any ops listed:=by
  intro listed hsz i hlt hLi hbe;rw[mem_ready];obtain⟨o,ho⟩:∃o,ops[i]? = some o:=⟨ops[i],by rw[Array.getElem?_eq_getElem]⟩;refine⟨?_,o,ho,fun e he hb1=>hbe o ho e.on (zdw.2 ⟨e,he,hb1,rfl⟩)⟩;simp only[Array.getD_eq_getD_getElem?] at hLi ⊢;rw[Array.getElem?_eq_getElem (by omega)] at hLi ⊢;simpa using hLi
 have hfromReady:∀(listed:Array Bool),listed.size=ops.size→∀i∈Region.ready .any ops listed,∃o,ops[i]? = some o∧i<ops.size∧listed.getD i false=false∧∀j∈zbw o,listed.getD j false=true:=by
  intro listed hsz i hi;obtain⟨h1,o,ho,hbe⟩:=mem_ready.1 hi;have hlt:i<ops.size:=(Array.getElem?_eq_some_iff.1 ho).1;refine⟨o,ho,hlt,?_,fun j hj=>?_⟩
  ·simp only[Array.getD_eq_getD_getElem?] at h1 ⊢;rw[Array.getElem?_eq_getElem (by omega)] at h1 ⊢;simpa using h1
  ·obtain⟨e,he,hb1,rfl⟩:=zdw.1 hj;exact hbe e he hb1
 have hclose:∀(listed:Array Bool) (i:Nat) (o:Oper),listed.size=ops.size→ops[i]? = some o→i<ops.size→(∀j∈zbw o,listed.getD j false=true)→zcR ops (fun k=>listed.getD k false)→zcR ops (fun k=>(listed.setIfInBounds i true).getD k false):=by
  intro listed i o hsz ho hlt hbef hc k ok hok2 hk2 j hj;have hk2:(listed.setIfInBounds i true).getD k false=true:=hk2;show (listed.setIfInBounds i true).getD j false=true;rw[hgetD listed i hsz hlt] at hk2 ⊢;simp only[Bool.or_eq_true] at hk2;rcases hk2 with hk2|hk2
  ·have hcj:listed.getD j false=true:=hc k ok hok2 hk2 j hj;rw[hcj];rfl
  ·have:=Nat.eq_of_beq_eq_true hk2;subst this;rw[ho] at hok2;simp only[Option.some.injEq] at hok2;subst hok2;rw[hbef j hj];rfl
 have htail:∀(listed:Array Bool) (i:Nat) (o:Oper),ops[i]? = some o→p≤i→zcR ops (fun k=>listed.getD k false)→(∀j∈zbw o,listed.getD j false=true)→∀j,j<i→listed.getD j false=true:=by
  intro listed i o ho hge hc hbef j hj;have hlt:i<ops.size:=(Array.getElem?_eq_some_iff.1 ho).1;have h1:=zbX htl i hlt;simp only[Bool.or_eq_true] at h1;rcases h1 with h1|h1
  ·have:=Nat.le_of_ble_eq_true h1;omega
  ·exact (zdv hpre hc (i+1) i o (by omega) ho hbef j (zco.1 (zbX h1 j hj))).1
 -- the tail
 have tail:∀(fuel m:Nat) (listed:Array Bool) (a:Act) (w:World),listed.size=ops.size→p≤m→m≤ops.size→ops.size-m≤fuel→(∀j,j<ops.size→listed.getD j false=Nat.ble (j+1) m)→zcR ops (fun k=>listed.getD k false) →
   wpOps c.P ops Q (List.range' m (ops.size-m)) a w→wpAny c.P .any ops Q fuel listed a w:=by
  intro fuel
  induction fuel with
  |zero=>
   intro m listed a w hsz hm1 hm2 hf hl hc hw;have:ops.size-m=0:=by omega
   rw[this] at hw;refine⟨?_,hw⟩
   cases hr:Region.ready .any ops listed with
   |nil=>rfl
   |cons i r=>
    obtain⟨o,ho,hlt,hLi,_⟩:=hfromReady listed hsz i (by rw[hr];simp);rw[hl i hlt,Nat.ble_eq_true_of_le (by omega)] at hLi
    cases hLi
  |succ fuel ih=>
   intro m listed a w hsz hm1 hm2 hf hl hc hw;refine⟨fun hr=>?_,fun i hi=>?_⟩
   ·by_cases hms:m=ops.size
    ·have:ops.size-m=0:=by omega
     rw[this] at hw;exact hw
    ·exfalso;have hmlt:m<ops.size:=by omega
     have:m∈Region.ready .any ops listed:=by
      refine hready listed hsz m hmlt ?_ fun o ho j hj=>?_
      ·rw[hl m hmlt]
       cases hb:Nat.ble (m+1) m with
       |false=>rfl
       |true=>have:=Nat.le_of_ble_eq_true hb;omega
      ·have hjm:=(zkk hpre m o ho).1 j hj;rw[hl j (by omega)];exact Nat.ble_eq_true_of_le hjm
     rw[hr] at this;cases this
   ·obtain⟨o,ho,hlt,hLi,hbef⟩:=hfromReady listed hsz i hi;have him:m≤i:=by
     rw[hl i hlt] at hLi
     apply Nat.le_of_not_lt
     intro h;rw[Nat.ble_eq_true_of_le h] at hLi;cases hLi
    have:i=m:=by
     apply Classical.byContradiction
     intro hne;have:=htail listed i o ho (by omega) hc hbef m (by omega);rw[hl m (by omega)] at this;have:=Nat.le_of_ble_eq_true this;omega
    subst this;rw[show ops.size-i=(ops.size-(i+1))+1 by omega,List.range'_succ,wpOps_cons] at hw;refine wpOp_mono (fun a w h=>?_) hw;refine ih (i+1) _ a w (by simpa using hsz) (by omega) (by omega) (by omega) (fun j hj=>?_) (hclose listed i o hsz ho hlt hbef hc) h;rw[hgetD listed i hsz hlt,hl j hj]
    by_cases hji:j=i
    ·subst hji;rw[Nat.beq_refl,Bool.or_true];exact (Nat.ble_eq_true_of_le (Nat.le_refl _)).symm
    ·have hbn:Nat.beq j i=false:=by
      cases hb:Nat.beq j i with
      |false=>rfl
      |true=>exact absurd (Nat.eq_of_beq_eq_true hb) hji
     rw[hbn,Bool.or_false]
     by_cases hji2:j+1≤i
     ·rw[Nat.ble_eq_true_of_le hji2,Nat.ble_eq_true_of_le (by omega)]
     ·have e1:Nat.ble (j+1) i=false:=by
       cases hb:Nat.ble (j+1) i with
       |false=>rfl
       |true=>exact absurd (Nat.le_of_ble_eq_true hb) hji2
      have e2:Nat.ble (j+1) (i+1)=false:=by
       cases hb:Nat.ble (j+1) (i+1) with
       |false=>rfl
       |true=>have:=Nat.le_of_ble_eq_true hb;omega
      rw[e1,e2]
 have hclosedlt:∀(listed:Array Bool),zcR ops (fun k=>listed.getD k false)→(∃j,j<p∧listed.getD j false=false)→∀i,i<ops.size→p≤i→listed.getD i false=false:=by
  intro listed hc ⟨j,hj,hjf⟩ i hi hge
  cases hLi:listed.getD i false with
  |false=>rfl
  |true=>
   obtain⟨o,ho⟩:∃o,ops[i]? = some o:=⟨ops[i],by rw[Array.getElem?_eq_getElem]⟩;have:=htail listed i o ho hge hc (fun k hk=>hc i o ho hLi k hk) j (by omega);rw[hjf] at this;cases this
 have key:∀(fuel:Nat) (listed:Array Bool) (a:Act) (w:World),listed.size=ops.size→(List.range ops.size).countP (fun k=>!listed.getD k false)≤fuel→zcR ops (fun k=>listed.getD k false) →
   (∀i,i<ops.size→p≤i→listed.getD i false=false)→J (fun k=>listed.getD k false) a w→wpAny c.P .any ops Q fuel listed a w:=by
  intro fuel
  induction fuel with
  |zero=>
   intro listed a w hsz hcnt hc hno hinv;have hl:∀i,i<ops.size→listed.getD i false=true:=by
    have h0:=List.countP_eq_zero.1 (Nat.le_zero.1 hcnt);intro i hi;have:=h0 i (List.mem_range.2 hi);simpa using this
   have hps:p=ops.size:=by
    apply Classical.byContradiction
    intro hne;have h1:=hno p (by omega) (Nat.le_refl _);rw[hl _ (by omega)] at h1;cases h1
   refine tail 0 ops.size listed a w hsz (by omega) (Nat.le_refl _) (by omega) (fun j hj=>?_) hc ?_
   ·rw[hl j hj,Nat.ble_eq_true_of_le (by omega)]
   ·rw[Nat.sub_self];have:=hend a w (hJ _ _ a w (fun k hk=>by rw[hl k hk,Nat.ble_eq_true_of_le (by omega)]) hinv);rw[hps,Nat.sub_self] at this;exact this
  |succ fuel ih=>
   intro listed a w hsz hcnt hc hno hinv
   by_cases hall:∀j,j<p→listed.getD j false=true
   ·
    have hl:∀j,j<ops.size→listed.getD j false=Nat.ble (j+1) p:=by
     intro j hj
     by_cases hjl:j<p
     ·rw[hall j hjl,Nat.ble_eq_true_of_le hjl]
     ·rw[hno j hj (by omega)]
      cases hb:Nat.ble (j+1) p with
      |false=>rfl
      |true=>have:=Nat.le_of_ble_eq_true hb;omega
    refine tail (fuel+1) p listed a w hsz (Nat.le_refl _) hlen' ?_ hl hc ?_
    ·refine Nat.le_trans ?_ hcnt;have e:(List.range ops.size)=List.range p++(List.range' p (ops.size-p)):=by
      have h:=List.range'_append_1 (s:=0) (m:=p) (n:=ops.size-p);rw[Nat.zero_add,Nat.add_sub_cancel' hlen'] at h;rw[List.range_eq_range',List.range_eq_range',h]
     rw[e,List.countP_append];have:(List.range' p (ops.size-p)).countP (fun k=>!listed.getD k false)=(List.range' p (ops.size-p)).length:=by
      rw[List.countP_eq_length];intro k hk;rw[List.mem_range'_1] at hk;rw[hno k (by omega) hk.1];rfl
     rw[this,List.length_range'];omega
    ·exact hend a w (hJ _ _ a w (fun k hk=>hl k hk) hinv)
   ·have hex:∃j,j<p∧listed.getD j false=false:=by
     apply Classical.byContradiction
     intro hne
     apply hall
     intro j hj
     cases hb:listed.getD j false with
     |true=>rfl
     |false=>exact absurd ⟨j,hj,hb⟩ hne
    refine⟨fun hr=>?_,fun i hi=>?_⟩
    ·
     exfalso;obtain⟨j,hj,hjf⟩:=hex;have:∀m i,i<m→i<ops.size→listed.getD i false=true:=by
      intro m
      induction m with
      |zero=>intro i h;omega
      |succ m ih=>
       intro i hi1 hi2
       cases hcc:listed.getD i false with
       |true=>rfl
       |false=>
        exfalso;have:i∈Region.ready .any ops listed:=hready listed hsz i hi2 hcc fun o ho k hk=>by
         have:=(zkk hpre i o ho).1 k hk;exact ih k (by omega) (by omega)
        rw[hr] at this;cases this
     rw[this (j+1) j (by omega) (by omega)] at hjf
     cases hjf
    ·obtain⟨o,ho,hlt,hLi,hbef⟩:=hfromReady listed hsz i hi;have hil:i<p:=by
      apply Nat.lt_of_not_le
      intro hge;obtain⟨j,hj,hjf⟩:=hex;rw[htail listed i o ho hge hc hbef j (by omega)] at hjf
      cases hjf
     refine hstep (fun k=>listed.getD k false) hc i o ho hil hLi hbef hno a w hinv Q _ fun a' w' hinv'=>?_;refine ih _ _ _ (by simpa using hsz) ?_ (hclose listed i o hsz ho hlt hbef hc) (fun k hk1 hk2=>?_) ?_
     ·have:=hcntlt listed i hsz hlt hLi;omega
     ·rw[hgetD listed i hsz hlt,hno k hk1 hk2,Bool.false_or]
      cases hb:Nat.beq k i with
      |false=>rfl
      |true=>have:=Nat.eq_of_beq_eq_true hb;omega
     ·exact hJ _ _ a' w' (fun k _=>(hgetD listed i hsz hlt k).symm) hinv'
 have hrep:∀k,(Array.replicate ops.size false).getD k false=false:=by
  intro k;simp only[Array.getD_eq_getD_getElem?,Array.getElem?_replicate]
  split<;>rfl
 obtain⟨e,a',w',⟨rfl,hq⟩,harr⟩:=wp_region_any (id:=id) hm (key ops.size _ a {w with drawn:=w.drawn+1} (by simp) (by
  refine Nat.le_trans (List.countP_le_length ..) ?_;simp) (fun i o _ h=>by
   have h:(Array.replicate ops.size false).getD i false=true:=h;rw[hrep] at h
   cases h) (fun i _ _=>hrep i) (hJ _ _ _ _ (fun k _=>(hrep k).symm) (hbeg K ρ _ _ (zop hi _)))) b k cs
 obtain⟨v,w'',fr,hp,hst,h3⟩:=hq b cs hb hk;exact⟨v,w'',fr,hp,Steps.trans harr hst,h3⟩
structure Base (E0 E:Env) (O:List Heap):Prop where
 K:E0.K0.le E.K0
 ρ:∀d,E.ρ0 d=E0.ρ0 d
 pr:∀b,E0.pr b→E.pr b
 new:∀b o x,E.K0 b o=some x→E0.K0 b o=some x∨¬E0.pr b
 size:E0.w0.heap.size≤E.w0.heap.size
 old:∀b,E0.pr b→(∀dep nm ob,zab O dep nm=some ob→zaC (E0.ρ0 dep nm) ob→(E0.ρ0 dep nm).block≠b)→E.w0.heap[b]? = E0.w0.heap[b]?
 rest:E.w0.tape=E0.w0.tape∧E.w0.os=E0.w0.os∧E.w0.output=E0.w0.output
section
variable {E0 E:Env} {K:Kn} {ρ:Nat→Nat→Loc} {H:Heap} {O:List Heap} {w:World}
end
inductive RowOf (E0 E:Env) (O:List Heap) (ty es:Nat):Value→List (List I)→Prop
 |nil:RowOf E0 E O ty es (.slice none 0 0) []
 |row {b n cap:Nat} {c:Array Value} {xs:List (List I)} (hn:xs.length=n) (hd:∀d∈xs,d.length=es) (hp:E.pr b) (hp0:¬E0.pr b)
   (ho:∀dep nm ob,zab O dep nm=some ob→zaC (E0.ρ0 dep nm) ob→(E0.ρ0 dep nm).block≠b)
   (hc:E.w0.heap[b]? = some (.cells c ty (0,0))) (hs:c.size=cap*es) (hcap:n≤cap) (hm:cap≤maxLen) (hr:RepL E.K0 (c.toList.take (n*es)) xs.flatten)
   (hk:∀o,o<n*es→E.K0 b o=c[o]?) (hk':∀o,n*es≤o→E.K0 b o=none):RowOf E0 E O ty es (.slice (some ⟨b,0,none⟩) n cap) xs
structure RowsO (E0 E:Env) (O:List Heap) (ty es:Nat) (vs:List Value) (xss:List (List (List I))):Prop where
 base:Base E0 E O
 len:vs.length=xss.length
 row:∀(j:Nat) v xs,vs[j]? = some v→xss[j]? = some xs→RowOf E0 E O ty es v xs
 apart:∀(i j:Nat) v v' b,i≠j→vs[i]? = some v→vs[j]? = some v' → v.ownBlock=some b→v'.ownBlock≠some b
section
variable {P:Program} {K:Kn} {w:World}
end
section
variable {P:Program} {E0 E:Env} {K:Kn} {ρ:Nat→Nat→Loc} {s:St} {a:Act} {w:World} {H:Heap} {O:List Heap} {ty es:Nat} {vs:List Value} {xss:List (List (List I))}
open Classical in
noncomputable def plusK (K:Kn) (b m:Nat) (c:Array Value):Kn:=fun b' o=>if b'=b∧o<m then c[o]? else K b' o
end
section
variable {E0 E:Env} {K:Kn} {ρ:Nat→Nat→Loc} {H:Heap} {O:List Heap} {w:World}
theorem HInv.reob {nm:Nat} {ob ob':Ob} (h:HInv E K ρ (H::O) w) (ho:look H nm=some ob) (hs:ob'.sh=ob.sh) (hbk:zaC (ρ 0 nm) ob' → zaC (ρ 0 nm) ob)
  (hown:OwnAt K ρ (shape (H::O)) w (ρ 0 nm) ob→OwnAt K ρ (shape (H::O)) w (ρ 0 nm) ob'):HInv E K ρ (((nm,ob')::H)::O) w:=by
 have ho':zab (H::O) 0 nm=some ob:=by simpa [zab] using ho
 have e0:(fun d n=>ρ (0+d) n)=ρ:=by funext d n;rw[Nat.zero_add]
 have h0:=h.own 0 nm _ ho';rw[e0,List.drop_zero] at h0;have hsh:shape (((nm,ob')::H)::O)=shape (H::O):=zbe ho hs;have hdrop:∀d,shape ((((nm,ob')::H)::O).drop d)=shape ((H::O).drop d):=by
  intro d
  cases d with
  |zero=>exact hsh
  |succ d=>rfl
 refine⟨h.holds,fun d n' x e=>?_,fun d n1 o1 d' n2 o2 e1 e2 b1 b2 hbe=>?_,h.size,fun b hb hno=>h.old b hb fun d n' x e=>hno d n' x (by simpa [zab] using e),fun n' x e hb=>?_,h.outer,h.Kle,h.Knew,h.rest⟩
 ·rw[hdrop];rcases zcj (ob:=ob) e with ⟨rfl,rfl,rfl⟩|⟨_,e'⟩
  ·rw[e0,List.drop_zero];exact hown h0
  ·exact h.own _ _ _ e'
 ·have old:∀{d n' x},zab (((nm,ob')::H)::O) d n'=some x→zaC (ρ d n') x→∃y,zab (H::O) d n'=some y∧zaC (ρ d n') y:=by
   intro d n' x e hb;rcases zcj (ob:=ob) e with ⟨rfl,rfl,rfl⟩|⟨_,e'⟩
   ·exact⟨_,ho',hbk hb⟩
   ·exact⟨_,e',hb⟩
  obtain⟨y1,a1,c1⟩:=old e1 b1;obtain⟨y2,a2,c2⟩:=old e2 b2;exact h.inj _ _ _ _ _ _ a1 a2 c1 c2 hbe
 ·rcases zcj (ob:=ob) e with ⟨_,rfl,rfl⟩|⟨_,e'⟩
  ·exact h.loc _ _ ho' (hbk hb)
  ·exact h.loc _ _ e' hb
end
section
variable {c:Cx} {s:St} {k:List Item} {ops:Array Oper} {rest:List Nat} {o:Oper} {E0:Env} {H:Heap} {O:List Heap}
theorem zsB {α:Type} {todo:List Item} (L:α→List (Nat×D)) (G:α→Heap) (O:α→List Heap) (n:Nat) (I:Env→α→Prop) (m:α→Nat) (x0:α) {H:Heap} (hI:I c.E x0) (hs:Sub s (L x0)) (hS:s.S=H::O x0) (hH:SubH H (G x0)) (hok:zhb (L x0) (G x0)=true) (hn:s.n=n)
  (step:∀E x,I E x→(∀E' y s' H,I E' y→m y<m x→Sub s' (L y)→s'.S=H::O y→SubH H (G y)→zhb (L y) (G y)=true→s'.n=n→Rch {c with E:=E' } todo s')→Rch {c with E:=E} todo {σ:=L x,S:=G x::O x,n:=n}):Rch c todo s:=by
 have key:∀N E x s H,m x≤N→I E x→Sub s (L x)→s.S=H::O x→SubH H (G x)→zhb (L x) (G x)=true→s.n=n→Rch {c with E:=E} todo s:=by
  intro N
  induction N with
  |zero=>
   intro E x s H hm hI hs hS hH hok hn;exact zdu hs hS hH hok hn (step E x hI fun E' y s' _ _ hlt=>by omega)
  |succ N ih=>
   intro E x s H hm hI hs hS hH hok hn;exact zdu hs hS hH hok hn (step E x hI fun E' y s' H' hy hlt=>ih E' y s' H' (by omega) hy)
 exact key _ c.E x0 s H (Nat.le_refl _) hI hs hS hH hok hn
end
section
variable {E:Env} {K:Kn} {ρ:Nat→Nat→Loc} {H:Heap} {O:List Heap} {w:World}
end
theorem Inv.sameX {E:Env} {K:Kn} {ρ:Nat→Nat→Loc} {O:List Heap} {n:Nat} {x y:SH} {a:Act} {w:World} (hi:Inv E K ρ (St.of O n x) a w) (h1:∀t,look y.1 t=look x.1 t) (h2:∀nm,look y.2 nm=look x.2 nm):Inv E K ρ (St.of O n y) a w:=by
 have hh:HInv E K ρ (x.2::O) w:=hi.h;refine⟨hh.same fun nm=>h2 nm,hi.defers,hi.size,fun t d e=>?_⟩;have hsh:shape (St.of O n y).S=shape (x.2::O):=zeh fun nm=>h2 nm;rw[hsh];have e':look y.1 t=some d:=e;rw[h1] at e';exact hi.slots t d e'
end Go.AI
namespace Go.AI
open Go.Proofs
set_option maxRecDepth 20000
end Go.AI
namespace Go.Proofs
open Go.Shelf Go.RowKit
variable {P:Program} {ρ:Ren}
theorem zhx {w:World} {b:Nat} {p q v:Value} {T:TypeId} (h:w.heap[b]? = some (.cells #[p,v] T (0,0))):(w.setCell ⟨b,0,none⟩ q).heap[b]? = some (.cells #[q,v] T (0,0)):=by
 show (Array.modify _ _ _)[b]? = _;rw[Array.getElem?_modify,if_pos rfl,h];rfl
theorem ztv {w:World} {b:Nat} {p q v:Value} {T:TypeId} (h:w.heap[b]? = some (.cells #[p,v] T (0,0))):(w.setCell ⟨b,1,none⟩ q).heap[b]? = some (.cells #[p,q] T (0,0)):=by
 show (Array.modify _ _ _)[b]? = _;rw[Array.getElem?_modify,if_pos rfl,h];rfl
theorem zqF {w w':World} {e:TypeId} {v:Value} {n:Nat} {xs:List Value} (h:w.ownsRow 0 e 1 v n xs) (hb:∀k,v.ownBlock=some k→w'.heap[k]? = w.heap[k]?):w'.ownsRow 0 e 1 v n xs:=by
 refine⟨h.1,?_⟩;rcases h.2 with h1|⟨g,cap,cur,rfl,h2,h3,h4⟩
 ·exact .inl h1
 ·exact .inr ⟨g,cap,cur,rfl,h2,by rw[hb g rfl];exact h3,h4⟩
section
variable (w:World)
def zrZ (w:World) (v v':Value):Prop:=v'.ownBlock=v.ownBlock∨∀k,v'.ownBlock=some k→w.heap.size≤k
theorem zh4 (t u ty e:TypeId) (i:TypeInfo) (ht:P.underlying t=some (.slice e)) (hu:P.underlying u=some .string) (hi:P.info? e=some i) (hz:i.zero=some (.int .u8 0))
  (hsize:i.size=1) (hby:i.bytes=1) (v:Value) (n:Nat) (xs:List Value) (hown:w.ownsRow 0 e 1 v n xs) (s:ByteArray) (h63:n+s.size≤maxLen) (hbytes:n+s.size≤140737488355328) :
  ∃v' w',(Builtin.append_ #[t,u] ty #[v,.string s]).run P w=.ok v' w'∧w'.ownsRow 0 e 1 v' (n+s.size) (xs++Lib.strCells s)∧w.grownBy w' v.ownBlock∧zrZ w v v':=by
 obtain⟨v',w',hr,h2,h3,-⟩:=Lib.run_append_own_string (P:=P) w 0 t u ty e i ht hu hi hz hsize hby v n xs hown s h63 hbytes (Nat.zero_le _);refine⟨v',w',hr,h2,h3,?_⟩;have hxl:xs.length=n:=by simpa using hown.1
 rcases hown.2 with ⟨rfl,rfl⟩|⟨g,cap,cur,rfl,hbg,hg,hnc,hcm,hcs,htake⟩
 ·obtain rfl:xs=[]:=List.eq_nil_of_length_eq_zero hxl;obtain⟨v2,w2,hr2,h5,-⟩:=Lib.run_append_own_string (P:=P) w w.heap.size t u ty e i ht hu hi hz hsize hby (.slice none 0 0) 0 [] (World.ownsRow_nil w _ e 1) s h63 hbytes (Nat.le_refl _);have e1:v'=v2:=by have:=hr.symm.trans hr2;injection this
  subst e1;exact .inr fun k hk=>(h5.lt k hk).1
 ·by_cases hroom:n+s.size≤cap
  ·have hr2:=Lib.run_append_room_string (P:=P) w t u ty e i ht hu hi hsize g n cap cur hg s hroom (by omega);have e1:v'=.slice (some ⟨g,0,none⟩) (n+s.size) cap:=by have:=hr.symm.trans hr2;injection this
   subst e1;exact .inl rfl
  ·have holds:∀j u,xs[j]? = some u→w.cell? ((⟨g,0,none⟩:Addr).add j)=some u:=hown.cells (g:=g) rfl;have hr2:=Lib.run_append_grow_string (P:=P) w t u ty e i (.int .u8 0) ht hu hi hz ⟨g,0,none⟩ n cap xs (by rw[hsize];simpa using hxl) holds s (by omega) (by simp only[maxLen] at h63;omega) (by rw[hby];exact growslice_fits (by omega) (by omega));have e1:v'=.slice (some ⟨w.heap.size,0,none⟩) (n+s.size) (grownCap w (n+s.size) cap e):=by have:=hr.symm.trans hr2;injection this
   subst e1;exact .inr fun k hk=>by simp[Value.ownBlock] at hk;omega
theorem zh5 (t ty e:TypeId) (i:TypeInfo) (ht:P.underlying t=some (.slice e)) (hi:P.info? e=some i) (hz:i.zero=some (.int .u8 0))
  (hsize:i.size=1) (hby:i.bytes=1) (v:Value) (n:Nat) (xs:List Value) (hown:w.ownsRow 0 e 1 v n xs)
  (a:Addr) (m c:Nat) (news:List Value) (hl:news.length=m*1) (hnews:∀j u,news[j]? = some u→w.cell? (a.add j)=some u) (h1:∀u∈news,u.oneCell'=true)
  (h63:n+m≤maxLen) (hbytes:(n+m)*1≤140737488355328) :
  ∃v' w',(Builtin.append_ #[t,t] ty #[v,.slice (some a) m c]).run P w=.ok v' w'∧w'.ownsRow 0 e 1 v' (n+m) (xs++news)∧w.grownBy w' v.ownBlock∧zrZ w v v':=by
 obtain⟨v',w',hr,h2,h3,-⟩:=run_append_own (P:=P) w 0 t ty e i (.int .u8 0) 1 1 ht hi hz hsize hby rfl (by decide) v n xs hown a m c news hl hnews h1 h63 hbytes (Nat.zero_le _);refine⟨v',w',hr,h2,h3,?_⟩;have hxl:xs.length=n:=by simpa using hown.1
 rcases hown.2 with ⟨rfl,rfl⟩|⟨g,cap,cur,rfl,hbg,hg,hnc,hcm,hcs,htake⟩
 ·obtain rfl:xs=[]:=List.eq_nil_of_length_eq_zero hxl;obtain⟨v2,w2,hr2,h5,-⟩:=run_append_own (P:=P) w w.heap.size t ty e i (.int .u8 0) 1 1 ht hi hz hsize hby rfl (by decide) (.slice none 0 0) 0 [] (World.ownsRow_nil w _ e 1) a m c news hl hnews h1 h63 hbytes (Nat.le_refl _);have e1:v'=v2:=by have:=hr.symm.trans hr2;injection this
  subst e1;exact .inr fun k hk=>(h5.lt k hk).1
 ·by_cases hroom:n+m≤cap
  ·have hr2:=run_append_room (P:=P) w t ty e i ht hi g n cap cur hg a m c news (by rw[hsize];exact hl) hnews h1 hroom (by rw[hsize];omega);have e1:v'=.slice (some ⟨g,0,none⟩) (n+m) cap:=by have:=hr.symm.trans hr2;injection this
   subst e1;exact .inl rfl
  ·have holds:∀j u,xs[j]? = some u→w.cell? ((⟨g,0,none⟩:Addr).add j)=some u:=hown.cells (g:=g) rfl;have hr2:=run_append_grow (P:=P) w t ty e i (.int .u8 0) ht hi hz ⟨g,0,none⟩ n cap xs (by rw[hsize];simpa using hxl) holds a m c news (by rw[hsize];exact hl) hnews (by omega) (by simp only[maxLen] at h63;omega) (by rw[hby];exact growslice_fits (by omega) hbytes);have e1:v'=.slice (some ⟨w.heap.size,0,none⟩) (n+m) (grownCap w (n+m) cap e):=by have:=hr.symm.trans hr2;injection this
   subst e1;exact .inr fun k hk=>by simp[Value.ownBlock] at hk;omega
theorem zhR {ops:Array Oper} {rest:List Oper} {o:Oper} {a:Act} {Q:Exit→Act→World→Prop} (hgd:o.guard=none) (sl x:Operand) (t u:TypeId)
  (ho:o.op=.call {callee:=.builtin .append,args:=#[sl,x],argTypes:=#[t,u]})
  (e:TypeId) (i:TypeInfo) (ht:P.underlying t=some (.slice e)) (hu:P.underlying u=some .string) (hi:P.info? e=some i) (hz:i.zero=some (.int .u8 0)) (hsize:i.size=1) (hby:i.bytes=1)
  (v:Value) (n:Nat) (xs:List Value) (hs:a.eval sl=v) (hown:w.ownsRow 0 e 1 v n xs) (s:ByteArray) (hx:a.eval x=.string s) (h63:n+s.size≤maxLen) (hbytes:n+s.size≤140737488355328)
  (h:∀v' w',w'.ownsRow 0 e 1 v' (n+s.size) (xs++Lib.strCells s)→w.grownBy w' v.ownBlock→zrZ w v v' → wpList P ops Q rest (a.put o.dst v') w'):wpList P ops Q (o::rest) a w:=by
 refine wpList_plain hgd fun K hK=>?_;obtain⟨v',w',hr,h2,h3,h4⟩:=zh4 (P:=P) w t u o.type e i ht hu hi hz hsize hby v n xs hown s h63 hbytes;unfold Oper.wp execOp;simp only[ho,resolve,invoke,builtin,Sem.run_bind,Sem.run_pure,Result.andThen_ok,List.map_toArray,List.map_cons,List.map_nil,hs,hx,hr];exact hK _ _ (h v' w' h2 h3 h4)
theorem zhS {ops:Array Oper} {rest:List Oper} {o:Oper} {a:Act} {Q:Exit→Act→World→Prop} (hgd:o.guard=none) (sl x:Operand) (t:TypeId)
  (ho:o.op=.call {callee:=.builtin .append,args:=#[sl,x],argTypes:=#[t,t]})
  (e:TypeId) (i:TypeInfo) (ht:P.underlying t=some (.slice e)) (hi:P.info? e=some i) (hz:i.zero=some (.int .u8 0)) (hsize:i.size=1) (hby:i.bytes=1)
  (v:Value) (n:Nat) (xs:List Value) (hs:a.eval sl=v) (hown:w.ownsRow 0 e 1 v n xs)
  (ad:Addr) (m c:Nat) (news:List Value) (hx:a.eval x=.slice (some ad) m c) (hl:news.length=m*1) (hnews:∀j u,news[j]? = some u→w.cell? (ad.add j)=some u) (h1:∀u∈news,u.oneCell'=true)
  (h63:n+m≤maxLen) (hbytes:(n+m)*1≤140737488355328)
  (h:∀v' w',w'.ownsRow 0 e 1 v' (n+m) (xs++news)→w.grownBy w' v.ownBlock→zrZ w v v' → wpList P ops Q rest (a.put o.dst v') w'):wpList P ops Q (o::rest) a w:=by
 refine wpList_plain hgd fun K hK=>?_;obtain⟨v',w',hr,h2,h3,h4⟩:=zh5 (P:=P) w t o.type e i ht hi hz hsize hby v n xs hown ad m c news hl hnews h1 h63 hbytes;unfold Oper.wp execOp;simp only[ho,resolve,invoke,builtin,Sem.run_bind,Sem.run_pure,Result.andThen_ok,List.map_toArray,List.map_cons,List.map_nil,hs,hx,hr];exact hK _ _ (h v' w' h2 h3 h4)
end
def zut (T e:TypeId) (b:Nat) (p v0:Value) (bs news:List Value) (w w':World):Prop:=
 ∃w1 w2 w3 v',((w1=w∧p=.pointer (some ⟨b,0,none⟩))∨(w1=w.setCell ⟨b,0,none⟩ (.pointer (some ⟨b,0,none⟩))∧p=.pointer none))∧(w2=w1∨∃o,w2=w1.alloc o) ∧
  w3.ownsRow 0 e 1 v' (bs.length+news.length) (bs++news)∧w2.grownBy w3 v0.ownBlock∧zrZ w2 v0 v'∧w'=w3.setCell ⟨b,1,none⟩ v'
set_option maxRecDepth 100000 in
theorem zrh (L:Lays.n169 P ρ) (X:Builder.Extra P ρ) (b:Nat) (p v:Value) (l:List UInt8) (w:World) (hbk:w.heap[b]? = some (.cells #[p,v] (ρ.t 72) (0,0))) (hown:w.ownsRow 0 (ρ.t 5) 1 v l.length (Lib.byteCells l)) (h0:l≠[]) :
  Calls P (ρ.f 169) #[.pointer (some ⟨b,0,none⟩)] w fun e w'=>e=.returned (.string ⟨l.toArray⟩)∧∃g,v.ownBlock=some g∧w'=w.drew.freeze ⟨g,0,none⟩ l.length:=by
 have hl0:l.length≠0:=by simpa using h0
 obtain⟨g,cap,cur,rfl,hbg,hg,hnc,hcm,hcs,htake⟩:∃g cap cur,v=.slice (some ⟨g,0,none⟩) l.length cap∧0≤g∧w.heap[g]? = some (.cells cur (ρ.t 5) (0,0))∧l.length≤cap∧cap≤maxLen∧cur.size=cap*1∧cur.toList.take (l.length*1)=Lib.byteCells l:=by
  rcases hown.2 with ⟨_,hz⟩|⟨g,cap,cur,hv,r⟩
  ·exact absurd hz hl0
  ·exact⟨g,cap,cur,hv,r⟩
 have c1:w.drew.cell? ⟨b,1,none⟩=some (.slice (some ⟨g,0,none⟩) l.length cap):=by
  have:w.drew.heap[b]? = some (.cells #[p,.slice (some ⟨g,0,none⟩) l.length cap] (ρ.t 72) (0,0)):=hbk;rw[Lib.cell_of_heap this];rfl
 have hSD:(Builtin.unsafeSliceData_ #[(ρ.t 37)] (ρ.t 127) #[.slice (some ⟨g,0,none⟩) l.length cap]).run P w.drew=.ok (.pointer (some ⟨g,0,none⟩)) w.drew:=
  Lib.run_unsafeSliceData_row _ _ _ _ _ _ (by omega)
 have hUS:(Builtin.unsafeString_ #[(ρ.t 127),(ρ.t 3)] (ρ.t 9) #[.pointer (some ⟨g,0,none⟩),.int .i64 l.length]).run P w.drew=.ok (.string ⟨l.toArray⟩) (w.drew.freeze ⟨g,0,none⟩ l.length):=by
  refine Lib.run_unsafeString_row w.drew (ρ.t 127) (ρ.t 3) (ρ.t 9) (ρ.t 5) L.t127 X.cellsByte g cur.size (by have hg':w.drew.heap[g]? = some (.cells cur (ρ.t 5) (0,0)):=hg;simp[World.shape?,hg']) l h0 (by omega) (by unfold maxLen at hcm;omega) ?_;intro j x hx;have:=hown.cells (g:=g) rfl j (.int .u8 x.toNat) (by simp[Lib.byteCells,hx]);exact this
 have mixed:=L.mixed;have t72:=L.t72;have a72:=L.a72;have z72:=L.z72;have v72:=L.v72;have u72:=run_underlying L.t72;have t70:=L.t70;have a70:=L.a70;have z70:=L.z70;have v70:=L.v70;have u70:=run_underlying L.t70;have t37:=L.t37;have a37:=L.a37;have z37:=L.z37;have v37:=L.v37;have u37:=run_underlying L.t37;have t127:=L.t127;have a127:=L.a127;have z127:=L.z127;have v127:=L.v127;have u127:=run_underlying L.t127;have t3:=L.t3;have a3:=L.a3;have z3:=L.z3;have v3:=L.v3;have u3:=run_underlying L.t3;have t9:=L.t9;have a9:=L.a9;have z9:=L.z9;have v9:=L.v9;have u9:=run_underlying L.t9;have t5:=X.t5;have a5:=X.a5;have z5:=X.z5;have v5:=X.v5;have u5:=run_underlying X.t5
 go_enter L.f169,Body.n169_ntmps ρ
 go_wp2
 go_region_o
 all_goals (go_wp2;go_ret;exact⟨rfl,g,rfl,rfl⟩)
end Go.Proofs
