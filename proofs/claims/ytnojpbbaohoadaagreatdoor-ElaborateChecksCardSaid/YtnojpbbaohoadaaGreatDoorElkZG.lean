/- The layer of abstract runs, part 33. -/
import Derived.Test.YtnojpbbaohoadaaGreatDoorElkZF
import Derived.Test.YtnojpbbaohoadaaGreatDoorRows
import Derived.KernelRfl
import Derived.JoinedOf
import Derived.SevenTiedAt
set_option linter.unusedSimpArgs false
set_option linter.unusedVariables false
set_option linter.all false
set_option maxHeartbeats 4000000
namespace Go.AI
open Go.Proofs
set_option maxRecDepth 20000
def addZ (x:Ins) (L:List Ins):Nat→List Ins
 |0=>L
 |k+1=>addZ x L k++[⟨zbA 122 (L.length+k),x.tpl,x.evs⟩]
theorem zjp (x:Ins) (L:List Ins):∀k,(addZ x L k).length=L.length+k
 |0=>rfl
 |k+1=>by rw[addZ,List.length_append,zjp x L k];rfl
def chgI (how b:Int) (nm:ByteArray) (L:List Ins) (q:Nat) (x:Ins):List Ins:=
 if how.tmod 6=0 then L.set q ⟨nm,x.tpl,x.evs⟩ else if how.tmod 6=1 then L.set q ⟨x.name,nm,x.evs⟩ else if how.tmod 6=2 then L.set q ⟨x.name,x.tpl,x.evs.drop 1++[nm]⟩
 else if how.tmod 6=3 then L.set q ⟨x.name,x.tpl,x.evs.drop 1⟩ else if how.tmod 6=4 then L.take q else addZ x L ((7+b.tmod 8).toNat-L.length)
def chgY (k how b:Int) (nm:ByteArray) (L:List Ins):List Ins:=
 if L.length=0 then L else chgI how b nm L ((IntKind.i64.wrap k).tmod (L.length:Int)).toNat (L.getD ((IntKind.i64.wrap k).tmod (L.length:Int)).toNat zgs)
theorem zx1 {how b:Int} {nm:ByteArray} {L:List Ins} {q:Nat} {x:Ins} (hx:x∈L) (h1:L.length≤1000000) (h2:∀x∈L,insOk x) (hn:nm.size≤33) (hb:0≤b∧b≤255):(chgI how b nm L q x).length≤1000000∧∀y∈chgI how b nm L q x,insOk y:=by
 have hxo:=h2 x hx;have hset:∀t,insOk t→(L.set q t).length≤1000000∧∀y∈L.set q t,insOk y:=fun t ht=>⟨by rw[List.length_set];exact h1,zeD h2 ht⟩;unfold chgI
 split
 ·exact hset _ ⟨by simp only[zar];omega,hxo.el⟩
 split
 ·exact hset _ ⟨hxo.nm,hxo.el⟩
 split
 ·exact hset _ ⟨hxo.nm,by show (List.drop 1 _++[nm]).length≤_;have:=hxo.el;simp;omega⟩
 split
 ·exact hset _ ⟨hxo.nm,by show (List.drop 1 _).length≤_;have:=hxo.el;simp;omega⟩
 split
 ·exact⟨by rw[List.length_take];omega,fun y hy=>h2 y (List.mem_of_mem_take hy)⟩
 ·have hb2:=Int.emod_nonneg b (show (8:Int)≠0 by decide);have hb3:=Int.emod_lt_of_pos b (show (0:Int)<8 by decide);rw[Int.tmod_eq_emod_of_nonneg hb.1];have key:∀k,L.length+k≤14∨k=0→∀y∈addZ x L k,insOk y:=by
   intro k
   induction k with
   |zero=>exact fun _=>h2
   |succ k ih=>
    intro hk y hy;rcases List.mem_append.1 hy with hy|hy
    ·exact ih (by omega) y hy
    ·rw[List.mem_singleton.1 hy];exact⟨zdh 122 _ (by omega),hxo.el⟩
  exact⟨by rw[zjp];omega,key _ (by omega)⟩
theorem ztg {k how b:Int} {nm:ByteArray} {L:List Ins} (h1:L.length≤1000000) (h2:∀x∈L,insOk x) (hn:nm.size≤33) (hb:0≤b∧b≤255) (hk:0≤k∧k≤255):(chgY k how b nm L).length≤1000000∧∀y∈chgY k how b nm L,insOk y:=by
 unfold chgY
 split
 ·exact⟨h1,h2⟩
 ·rename_i h0;obtain⟨q,hq,hqe⟩:=zfn hk (Nat.pos_of_ne_zero h0);rw[hqe,Int.toNat_natCast];exact zx1 (zfc hq) h1 h2 hn hb
theorem zxV {g:Nat} (hg:zda g) {ty:TypeId} {fr:Nat×Nat} (m:Mdl) (s:Slp) (hm:chgOk m) (hs:slOk s) (h0:s.kind.tmod 7=3∨s.kind.tmod 7=4) :
  ∃n,chgR m n∧∀O,za3 g (ptab ty fr) Tryz.prog 12 [mdlD m,slD s] O (mdlD n) [] O:=by
 obtain⟨nm,hz,hge,hgi⟩:=zek hs.name;have hyc:=ztg (k:=s.k) (how:=s.how) hm.ok.co hm.ok.cok hz hs.name hs.k;have hyr:=ztg (k:=s.k) (how:=s.how) hm.ok.rq hm.ok.rqk hz hs.name hs.k;refine⟨if s.kind.tmod 7=3 then ⟨m.name,m.evs,m.tpls,chgY s.k s.how s.name nm m.comps,m.reqs,m.excs,m.cons⟩ else ⟨m.name,m.evs,m.tpls,m.comps,chgY s.k s.how s.name nm m.reqs,m.excs,m.cons⟩,?_,fun O=>?_⟩
 ·split
  ·exact zdB hm {hm.ok with co:=hyc.1,cok:=hyc.2} rfl
  ·exact zdB hm {hm.ok with rq:=hyr.1,rqk:=hyr.2} rfl
 clear hyc hyr;have hio:∀n:Nat,n≤1000→∀O,za3 g (ptab ty fr) Tryz.prog 27 [ii (n:Int)] O (.i (.v (.string (zcW (n:Int))))) [] O:=fun n hn O=>zkd hg (ty:=ty) (fr:=fr) O (n:Int) (by omega) (by omega);have hsz:∀n:Nat,n≤1000→(zcW (n:Int)).size≤21:=fun n hn=>by
  have:=zcI (n:=(n:Int)) (by omega) (by omega);omega
 have hcl:=hm.ok.co;have hrl:=hm.ok.rq;have hce:∀x∈m.comps,0<x.evs.length∧x.evs.length≤1000000:=fun x hx=>⟨hm.cl x hx,(hm.ok.cok x hx).el⟩;have hre:∀x∈m.reqs,0<x.evs.length∧x.evs.length≤1000000:=fun x hx=>⟨hm.rl x hx,(hm.ok.rqk x hx).el⟩;have hk:=hs.k;have hn:=hs.name;obtain⟨b0,b1,b2,b3⟩:=s;obtain⟨a0,a1,a2,a3,a4,a5,a6⟩:=m;clear hm hs;simp only at h0 hge hgi hcl hrl hce hre hk hn ⊢;obtain⟨L,hL⟩:∃L,L=(if b0.tmod 7=3 then a3 else a4):=⟨_,rfl⟩;have hLl:L.length≤1000000:=by rw[hL];split<;>assumption
 have hLe:∀x∈L,0<x.evs.length∧x.evs.length≤1000000:=by rw[hL];split<;>assumption
 obtain⟨X,hX⟩:∃X,X=chgY b1 b2 b3 nm L:=⟨_,rfl⟩;clear hce hre;refine zaN [200014,53,67,68,200318] Tk Tryz.func12 rfl Tryz.call12 Tryz.ntmps12 (Nat.le_of_ble_eq_true rfl) fun E hE=>?_;refine zai Tk Tryz.func12 ?_;refine zeh Tk Tryz.func12 (.alt (.new [(14,.arr 9 1 10 (chgN.map fun s=>[strI s]) true)] (.osl 0 14)) (.new [] (.i (.sl 1 10 (chgN.map fun s=>[strI s]))))) rfl rfl (by kernel_rfl) ?_;refine zad Tk Tryz.func12 (by decide) ?_;refine zad Tk Tryz.func12 (by exact hgi) ?_;refine zap Tk Tryz.func12 (hge) ?_;refine zad Tk Tryz.func12 (by decide) ?_;refine zae Tk Tryz.func12 rfl (fun h=>absurd h (by rcases h0 with h0|h0<;>simp[h0])) (fun _=>?_);refine zae Tk Tryz.func12 rfl (fun h=>absurd h (by rcases h0 with h0|h0<;>simp[h0])) (fun _=>?_);refine zae Tk Tryz.func12 rfl (fun h=>absurd h (by rcases h0 with h0|h0<;>simp[h0])) (fun _=>?_)
 apply zbK (P:=True) (s6:={ σ:=[(2,.own 0 2 0 0),(3,.own 0 3 0 0),(4,.own 0 4 0 0),(6,.i (strI nm)),(7,ii (IntKind.i64.wrap b1)),(10,.osl 0 248)],S:=[(2,.box (mdlC ⟨a0,a1,a2,a3,a4,a5,a6⟩)),(3,.box (slC ⟨b0,b1,b2,b3⟩)),(4,.box zbF),(248,.arr 107 3 L.length (L.map insI) true)]::O,n:=423})
 ·intro J;refine zae Tk Tryz.func12 rfl (fun hk3=>?_) (fun hk3=>?_)
  ·have hk3:b0.tmod 7=3:=by simpa using hk3
   rw[if_pos hk3] at hL;refine zae Tk Tryz.func12 rfl (fun _=>?_) (fun h=>absurd h (by simp[hk3]));refine zad Tk Tryz.func12 (by exact⟨by show (0+a3.length)*56≤140737488355328;omega,by show 0+a3.length≤9223372036854775807;omega⟩) ?_;refine zad Tk Tryz.func12 (by decide) ?_;refine zae Tk Tryz.func12 rfl (fun h=>absurd h (by simp[hk3])) (fun _=>?_);refine zat ?_;exact zau (J trivial) ⟨rfl,rfl,rfl,rfl,rfl,rfl,trivial⟩ rfl ⟨rfl,rfl,rfl,(by rw[hL];exact congrArg (fun n=>some (Ob.arr 107 3 n (a3.map insI) true)) (Nat.zero_add a3.length)),trivial⟩ rfl rfl
  ·have hk3:b0.tmod 7≠3:=by simpa using hk3
   have hk4:b0.tmod 7=4:=by rcases h0 with h0|h0;exact absurd h0 hk3;exact h0
   rw[if_neg hk3] at hL;refine zae Tk Tryz.func12 rfl (fun _=>?_) (fun h=>absurd h (by simp[hk4]));refine zad Tk Tryz.func12 (by exact⟨by show (0+a3.length)*56≤140737488355328;omega,by show 0+a3.length≤9223372036854775807;omega⟩) ?_;refine zad Tk Tryz.func12 (by decide) ?_;refine zae Tk Tryz.func12 rfl (fun _=>?_) (fun h=>absurd h (by simp[hk4]));refine zad Tk Tryz.func12 (by exact⟨by show (0+a4.length)*56≤140737488355328;omega,by show 0+a4.length≤9223372036854775807;omega⟩) ?_;refine zat ?_
   refine zaq (zbo (l:=[(2,.own 0 2 0 0),(3,.own 0 3 0 0),(4,.own 0 4 0 0),(6,.i (strI nm)),(7,ii (IntKind.i64.wrap b1)),(10,.osl 0 256)]) (Hv:=[(2,.box (mdlC ⟨a0,a1,a2,a3,a4,a5,a6⟩)),(3,.box (slC ⟨b0,b1,b2,b3⟩)),(4,.box zbF),(256,.arr 107 3 L.length (L.map insI) true)]) ⟨rfl,rfl,rfl,rfl,rfl,rfl,trivial⟩ rfl ⟨rfl,rfl,rfl,(by rw[hL];exact congrArg (fun n=>some (Ob.arr 107 3 n (a4.map insI) true)) (Nat.zero_add a4.length)),trivial⟩ rfl rfl) ?_;refine zaq (zq4 256 248 rfl rfl rfl) ?_;exact zau (J trivial) ⟨rfl,rfl,rfl,rfl,rfl,rfl,trivial⟩ rfl ⟨rfl,rfl,rfl,rfl,trivial⟩ rfl rfl
 intro _
 apply zbK (P:=True) (s6:={ σ:=[(2,.own 0 2 0 0),(3,.own 0 3 0 0),(4,.own 0 4 0 0),(10,.i (zaP X))],S:=[(2,.box (mdlC ⟨a0,a1,a2,a3,a4,a5,a6⟩)),(3,.box (slC ⟨b0,b1,b2,b3⟩)),(4,.box zbF)]::O,n:=423})
 ·intro J;refine zai Tk Tryz.func12 ?_;refine g_go Tk Tryz.func12 ?_;refine zae Tk Tryz.func12 rfl (fun hz0=>?_) (fun hz0=>?_)
  ·have hz0:(L.length:Int)>0:=of_decide_eq_true hz0;obtain⟨q,hq,hqe⟩:=zfn hk (show 0<L.length by omega);have hXd:X=chgI b2 b3 nm L q L[q]:=by
    rw[hX];unfold chgY;rw[if_neg (by omega),hqe,Int.toNat_natCast,List.getD_eq_getElem?_getD,List.getElem?_eq_getElem hq];rfl
   have hxe:=hLe _ (List.getElem_mem hq);have gE:(L.map insI)[((IntKind.i64.wrap b1).tmod (L.length:Int)).toNat]? = some (insI L[q]):=by
    rw[hqe];exact zan (f:=insI) hq
   have hS:∀t,D.i (.sl 3 L.length ((L.map insI).set ((IntKind.i64.wrap b1).tmod (L.length:Int)).toNat (insI t)))=D.i (zaP (L.set q t)):=fun t=>by
    rw[hqe,Int.toNat_natCast];show _=D.i (.sl 3 (L.set q t).length ((L.set q t).map insI));rw[List.length_set,List.map_set]
   generalize L[q]=T at *;obtain⟨tn,tt,te⟩:=T;unfold chgI at hXd;simp only at hxe hXd;refine zad Tk Tryz.func12 (by show (L.length:Int)≠0;omega) ?_;refine zad Tk Tryz.func12 (by rw[hqe];exact⟨by omega,by show (q:Int)<(L.length:Int);omega⟩) ?_;refine zad Tk Tryz.func12 (by decide) ?_;refine zae Tk Tryz.func12 rfl (fun e0=>?_) (fun e0=>?_)
   ·have e0:b2.tmod 6=0:=by simpa using e0
    rw[if_pos e0] at hXd;refine zap Tk Tryz.func12 (gE) ?_;refine zat ?_;refine zaq (zam 248 rfl rfl) ?_;exact zau (J trivial) ⟨rfl,rfl,rfl,((hS ⟨nm,tt,te⟩).trans (congrArg (fun l=>D.i (zaP l)) hXd.symm)),trivial⟩ rfl ⟨rfl,rfl,rfl,trivial⟩ rfl rfl
   have e0:b2.tmod 6≠0:=by simpa using e0
   rw[if_neg e0] at hXd;refine zae Tk Tryz.func12 rfl (fun e1=>?_) (fun e1=>?_)
   ·have e1:b2.tmod 6=1:=by simpa using e1
    rw[if_pos e1] at hXd;refine zap Tk Tryz.func12 (gE) ?_;refine zat ?_;refine zaq (zam 248 rfl rfl) ?_;exact zau (J trivial) ⟨rfl,rfl,rfl,((hS ⟨tn,nm,te⟩).trans (congrArg (fun l=>D.i (zaP l)) hXd.symm)),trivial⟩ rfl ⟨rfl,rfl,rfl,trivial⟩ rfl rfl
   have e1:b2.tmod 6≠1:=by simpa using e1
   rw[if_neg e1] at hXd;refine zae Tk Tryz.func12 rfl (fun e2=>?_) (fun e2=>?_)
   ·have e2:b2.tmod 6=2:=by simpa using e2
    rw[if_pos e2] at hXd;have h317:some (Ob.arr 9 1 (0+(te.length-1)+1) ([]++(te.map fun s=>[strI s]).drop 1++[[strI nm]]) true)=some (Ob.arr 9 1 (te.drop 1++[nm]).length ((te.drop 1++[nm]).map fun s=>[strI s]) true):=by simp
    refine zap Tk Tryz.func12 (gE) ?_;refine zad Tk Tryz.func12 (by exact⟨by decide,by show (1:Int)≤(te.length:Int);omega⟩) ?_;refine zad Tk Tryz.func12 (by exact⟨by show (0+(te.length-1))*16≤140737488355328;omega,by show 0+(te.length-1)≤9223372036854775807;omega⟩) ?_;refine zad Tk Tryz.func12 (by exact⟨by show (0+(te.length-1)+1)*16≤140737488355328;omega,by show 0+(te.length-1)+1≤9223372036854775807;omega⟩) ?_
    refine zaY (zbo (l:=[(2,.own 0 2 0 0),(3,.own 0 3 0 0),(4,.own 0 4 0 0),(10,.osl 0 248),(307,.own 0 248 ((IntKind.i64.wrap b1).tmod (L.length:Int)).toNat 0),(317,.osl 0 317)]) (Hv:=[(2,.box (mdlC ⟨a0,a1,a2,a3,a4,a5,a6⟩)),(3,.box (slC ⟨b0,b1,b2,b3⟩)),(4,.box zbF),(248,.arr 107 3 L.length (L.map insI) true),(317,.arr 9 1 (te.drop 1++[nm]).length ((te.drop 1++[nm]).map fun s=>[strI s]) true)]) ⟨rfl,rfl,rfl,rfl,rfl,rfl,trivial⟩ rfl ⟨rfl,rfl,rfl,rfl,h317,trivial⟩ rfl rfl) ?_;refine zaY (zam 317 rfl rfl) ?_;refine zaY (zaQ rfl) ?_;refine zcP Tk Tryz.func12 rfl rfl Wk.refl ?_;refine zap Tk Tryz.func12 (gE) ?_;refine zat ?_;refine zaq (zam 248 rfl rfl) ?_;exact zau (J trivial) ⟨rfl,rfl,rfl,((hS ⟨tn,tt,te.drop 1++[nm]⟩).trans (congrArg (fun l=>D.i (zaP l)) hXd.symm)),trivial⟩ rfl ⟨rfl,rfl,rfl,trivial⟩ rfl rfl
   have e2:b2.tmod 6≠2:=by simpa using e2
   rw[if_neg e2] at hXd;refine zae Tk Tryz.func12 rfl (fun e3=>?_) (fun e3=>?_)
   ·have e3:b2.tmod 6=3:=by simpa using e3
    rw[if_pos e3] at hXd;refine zap Tk Tryz.func12 (gE) ?_;refine zad Tk Tryz.func12 (by exact⟨by decide,by show (1:Int)≤(te.length:Int);omega⟩) ?_;refine zap Tk Tryz.func12 (gE) ?_;refine zat ?_;refine zaq (zam 248 rfl rfl) ?_;exact zau (J trivial) ⟨rfl,rfl,rfl,(congrArg (fun z=>D.i (.sl 3 L.length ((L.map insI).set ((IntKind.i64.wrap b1).tmod (L.length:Int)).toNat [strI tn,strI tt,z]))) (zjD te 1)).trans ((hS ⟨tn,tt,te.drop 1⟩).trans (congrArg (fun l=>D.i (zaP l)) hXd.symm)),trivial⟩ rfl ⟨rfl,rfl,rfl,trivial⟩ rfl rfl
   have e3:b2.tmod 6≠3:=by simpa using e3
   rw[if_neg e3] at hXd;refine zae Tk Tryz.func12 rfl (fun e4=>?_) (fun e4=>?_)
   ·have e4:b2.tmod 6=4:=by simpa using e4
    rw[if_pos e4] at hXd;refine zat ?_;refine zaq (zam 248 rfl rfl) ?_;refine zai Tk Tryz.func12 ?_;refine g_go Tk Tryz.func12 ?_;refine zad Tk Tryz.func12 (by show (L.length:Int)≠0;omega) ?_;refine zad Tk Tryz.func12 (by rw[hqe];exact⟨by omega,by show (q:Int)≤(L.length:Int);omega⟩) ?_;refine zat ?_;refine zau (J trivial) ⟨rfl,rfl,rfl,?_,trivial⟩ rfl ⟨rfl,rfl,rfl,trivial⟩ rfl rfl;rw[hXd];show D.i (.sl 3 ((IntKind.i64.wrap b1).tmod (L.length:Int)).toNat ((L.map insI).take ((IntKind.i64.wrap b1).tmod (L.length:Int)).toNat))=D.i (.sl 3 (L.take q).length ((L.take q).map insI));rw[hqe,Int.toNat_natCast,List.length_take,Nat.min_eq_left (by omega),List.map_take]
   have e4:b2.tmod 6≠4:=by simpa using e4
   rw[if_neg e4] at hXd;refine zah ?_;refine zrH 10 11 rfl rfl rfl rfl rfl fun E1 E2 v hB hR hv=>?_;obtain⟨bl0,cap0,hv0⟩:=(hR.row 0 v _ rfl rfl).form (by rw[List.length_map];omega);rw[List.length_map] at hv0;subst hv0;clear hv;have hE:=hB.eok.tb _ _ _ rfl hE;have hb2:=Int.emod_nonneg b3 (show (8:Int)≠0 by decide);have hb3:=Int.emod_lt_of_pos b3 (show (0:Int)<8 by decide);have hbm:b3.tmod 8=b3%8:=Int.tmod_eq_emod_of_nonneg hn.1;have hw:IntKind.i64.wrap (7+IntKind.i64.wrap (b3.tmod 8))=7+b3.tmod 8:=by rw[w64 (n:=b3.tmod 8) (by omega) (by omega),w64 (by omega) (by omega)]
   obtain⟨N,hN⟩:∃N:Nat,N=(7+b3.tmod 8).toNat:=⟨_,rfl⟩;have hNi:(N:Int)=7+b3.tmod 8:=by omega
   rw[←hN] at hXd;have hNl:N≤14:=by omega
   refine zrG (c:={ P:=Tryz.prog,T:=zvU,E:=E2,f:=12,fn:=Tryz.f12,post:=_,stop:=_}) (fun x:Nat×Nat×Nat=>[(2,.own 0 2 0 0),(3,.own 0 3 0 0),(4,.own 0 4 0 0),(10,.i (.v (.slice (some ⟨x.2.1,0,none⟩) (L.length+x.1) x.2.2))),(11,.i (.ptr 3 (L.map insI) ((IntKind.i64.wrap b1).tmod (L.length:Int)).toNat 0))])
    (fun _=>[(2,.box (mdlC ⟨a0,a1,a2,a3,a4,a5,a6⟩)),(3,.box (slC ⟨b0,b1,b2,b3⟩)),(4,.box zbF)]) (fun _=>O) 423
    (fun E x=>x.1≤N-L.length∧RowsO E1 E O 107 3 [.slice (some ⟨x.2.1,0,none⟩) (L.length+x.1) x.2.2] [(addZ ⟨tn,tt,te⟩ L x.1).map insI]) (fun x=>N-x.1) (0,bl0,cap0) ⟨Nat.zero_le _,hR⟩ ⟨rfl,rfl,rfl,rfl,rfl,trivial⟩ rfl ⟨rfl,rfl,rfl,trivial⟩ rfl rfl ?_
   intro E x hI ih;obtain⟨j,bl,cap⟩:=x;obtain⟨hj,hR⟩:=hI;have hj:j≤N-L.length:=hj;have hR:RowsO E1 E O 107 3 [.slice (some ⟨bl,0,none⟩) (L.length+j) cap] [(addZ ⟨tn,tt,te⟩ L j).map insI]:=hR;refine zai Tk Tryz.func12 ?_;refine zad Tk Tryz.func12 (by decide) ?_;refine zae Tk Tryz.func12 rfl (fun hc=>?_) (fun hc=>?_)
   ·have hc:((L.length+j:Nat):Int)<IntKind.i64.wrap (7+IntKind.i64.wrap (b3.tmod 8)):=of_decide_eq_true hc;rw[hw,←hNi] at hc;have hit:=hio (L.length+j) (by omega);have hsi:=hsz (L.length+j) (by omega);have hal:=zjp ⟨tn,tt,te⟩ L j;have hbb:((addZ ⟨tn,tt,te⟩ L j).map insI).length+1≤1000:=by rw[List.length_map,hal];omega
    refine zvp Tk E1 15 rfl ?_;refine zcg Tk hE (hit _) rfl rfl rfl rfl ?_;refine zas Tk (by show 1+(zcW ((L.length+j:Nat):Int)).size≤9223372036854775807;omega) ?_;refine zaE Tk (gE) ?_;refine zaE Tk (gE) ?_;refine zwg Tk Tryz.func12 zaz (m:=1) (j:=0) (ti2:=zjq) hR rfl rfl ⟨by show (((addZ ⟨tn,tt,te⟩ L j).map insI).length+1)*56≤140737488355328;omega,by show ((addZ ⟨tn,tt,te⟩ L j).map insI).length+1≤9223372036854775807;omega⟩ [16] rfl rfl rfl rfl rfl rfl rfl rfl rfl rfl rfl rfl rfl rfl rfl (fun _=>by kernel_rfl) (by kernel_rfl) ?_;intro E' v' hR';obtain⟨bl',cap',hv'⟩:=(hR'.row 0 v' _ rfl rfl).form (by rw[List.length_append];exact Nat.succ_pos _);rw[List.length_append,List.length_map,hal] at hv';subst hv';refine zah ?_
    refine ih E' (j+1,bl',cap') _ _ ⟨by show j+1≤_;omega,?_⟩ (by show N-(j+1)<N-j;omega) ⟨rfl,rfl,rfl,rfl,rfl,trivial⟩ rfl ⟨rfl,rfl,rfl,trivial⟩ rfl rfl;show RowsO E1 E' O 107 3 [_] [(addZ ⟨tn,tt,te⟩ L j++[_]).map insI];rw[List.map_append];exact hR'
   ·have hc:¬(((L.length+j:Nat):Int)<IntKind.i64.wrap (7+IntKind.i64.wrap (b3.tmod 8))):=of_decide_eq_false hc;rw[hw,←hNi] at hc;have hjN:N-L.length=j:=by omega
    rw[hjN] at hXd;refine zat ?_;refine zaq (zye 10 (j:=0) hR rfl rfl rfl) ?_;refine zde hR.base rfl ?_;refine zde hB rfl ?_;refine zau (J trivial) ⟨rfl,rfl,rfl,?_,trivial⟩ rfl ⟨rfl,rfl,rfl,trivial⟩ rfl rfl;rw[hXd];show D.i (.sl 3 ((addZ ⟨tn,tt,te⟩ L j).map insI).length ((addZ ⟨tn,tt,te⟩ L j).map insI))=D.i (.sl 3 (addZ ⟨tn,tt,te⟩ L j).length ((addZ ⟨tn,tt,te⟩ L j).map insI));rw[List.length_map]
  ·have hz0:¬((L.length:Int)>0):=of_decide_eq_false hz0;have hXd:X=L:=by rw[hX];unfold chgY;rw[if_pos (by omega)]
   refine zat ?_;refine zaq (zam 248 rfl rfl) ?_;exact zau (J trivial) ⟨rfl,rfl,rfl,congrArg (fun l=>D.i (zaP l)) hXd.symm,trivial⟩ rfl ⟨rfl,rfl,rfl,trivial⟩ rfl rfl
 intro _;refine zai Tk Tryz.func12 ?_;refine g_go Tk Tryz.func12 ?_;refine zad Tk Tryz.func12 (by decide) ?_;refine zae Tk Tryz.func12 rfl (fun hk3=>?_) (fun hk3=>?_)
 ·have hk3:b0.tmod 7=3:=by simpa using hk3
  rw[if_pos hk3] at hL ⊢;subst hL;refine zag Tk (r:=mdlD ⟨a0,a1,a2,X,a4,a5,a6⟩) rfl rfl rfl trivial rfl rfl ?_;rw[hX]
 ·have hk3:b0.tmod 7≠3:=by simpa using hk3
  rw[if_neg hk3] at hL ⊢;subst hL;refine zag Tk (r:=mdlD ⟨a0,a1,a2,a3,X,a5,a6⟩) rfl rfl rfl trivial rfl rfl ?_;rw[hX]
theorem zbZ {K:Kn} {d0 d1:List I} (h:∀ws,RepL K ws d0→RepL K ws d1):∀(xs:List (List I)) (q:Nat) (vs:List Value),RepL K vs (xs.set q d0).flatten→RepL K vs (xs.set q d1).flatten
 |[],_,_,hr=>hr
 |x::xs,0,vs,hr=>by
  simp only[List.set_cons_zero,List.flatten_cons] at hr ⊢;have h1:=hr.take d0.length;have h2:=hr.drop d0.length;rw[List.take_left] at h1;rw[List.drop_left] at h2;have:=(h _ h1).append h2;rwa [List.take_append_drop] at this
 |x::xs,q+1,vs,hr=>by
  simp only[List.set_cons_succ,List.flatten_cons] at hr ⊢;have h1:=hr.take x.length;have h2:=hr.drop x.length;rw[List.take_left] at h1;rw[List.drop_left] at h2;have:=h1.append (zbZ h xs q _ h2);rwa [List.take_append_drop] at this
theorem zgf {K:Kn} {a:I} {v:Value} {d:I} (h:Rep K v d):∀ws,RepL K ws [a,.v v]→RepL K ws [a,d]
 |_,.cons r (.cons r2 .nil)=>by
  cases r2 with
  |v e=>exact .cons r (.cons h .nil)
theorem zgg {c:Cx} {E:Env} {todo:List Item} {s:St} {ty es b n cap:Nat} {xs:List (List I)} {H:Heap} {O:List Heap} (nm:Nat) {tya esa na:Nat} {ca:List (List I)} {wr:Bool} (hR:RowU E c.E O ty es b n cap xs) (hS:s.S=H::O) (ho:look H nm=some (.arr tya esa na ca wr))
  (ys:List (List I)) (hl:ys.length=ca.length) (he:∀d∈ys,d.length=esa) (hco:∀K vs,Rep K (.slice (some ⟨b,0,none⟩) n cap) (.sl es n xs)→RepL K vs ca.flatten→RepL K vs ys.flatten)
  (h:Rch {c with E:=E} todo {σ:=s.σ,S:=((nm,.arr tya esa na ys wr)::H)::O,n:=s.n}):Rch c todo s:=by
 refine zpG hR hS fun E' hB hr=>?_;refine zaq (zgd nm hS ho hl he fun K vs hK=>hco K vs (hr.mono hK)) ?_;exact zde hB rfl h
theorem ziG {c:Cx} {s:St} {k:List Item} {ops:Array Oper} {rest:List Nat} {n:Nat} (hT:TOk c.P c.T) (hfn:c.P.funcs[c.f]? = some c.fn) (hn:s.n=n) (h:GM c (zks s.σ fun σ=>zlz s.S fun S=>run c.T c.stop 1000 (.inRegion ops rest::k) ⟨σ,S,n⟩)):RG c ops rest s k:=by
 subst hn;rw[zhk,zib] at h;exact zyt hT hfn h
def hdL (l:List NLc):NLc:=l.headD (⟨#[]⟩,⟨#[]⟩)
def chgE (how:Int) (nm:ByteArray) (x:NEx):NEx:=
 if how.tmod 5=0 then ⟨nm,x.locals⟩ else if how.tmod 5=1 then ⟨x.name,x.locals.set 0 (nm,(hdL x.locals).2)⟩ else if how.tmod 5=2 then ⟨x.name,x.locals.set 0 ((hdL x.locals).1,nm)⟩
 else if how.tmod 5=3 then ⟨x.name,x.locals++[hdL x.locals]⟩ else ⟨x.name,[]⟩
def zNEx:NEx:=⟨⟨#[]⟩,[]⟩
def chgX (k how:Int) (nm:ByteArray) (L:List NEx):List NEx:=
 if L.length=0 then L else L.set ((IntKind.i64.wrap k).tmod (L.length:Int)).toNat (chgE how nm (L.getD ((IntKind.i64.wrap k).tmod (L.length:Int)).toNat zNEx))
theorem zxY {k how:Int} {nm:ByteArray} {L:List NEx} (h1:L.length≤1000000) (h2:∀x∈L,x.name.size≤zar∧x.locals.length≤1000000) (h3:∀x∈L,0<x.locals.length∧x.locals.length≤1000) (hn:nm.size≤33) (hk:0≤k∧k≤255) :
  (chgX k how nm L).length≤1000000∧∀x∈chgX k how nm L,x.name.size≤zar∧x.locals.length≤1000000:=by
 unfold chgX
 split
 ·exact⟨h1,h2⟩
 ·rename_i h0;obtain⟨q,hq,hqe⟩:=zfn hk (Nat.pos_of_ne_zero h0);rw[hqe,Int.toNat_natCast];have hm:=zfc (d:=zNEx) hq;have g2:=h2 _ hm;have g3:=h3 _ hm;generalize L.getD q zNEx=x at *;refine⟨by rw[List.length_set];exact h1,zeD h2 ?_⟩;unfold chgE
  split
  ·exact⟨by simp only[zar];omega,g2.2⟩
  split
  ·exact⟨g2.1,by show (List.set _ _ _).length≤_;rw[List.length_set];exact g2.2⟩
  split
  ·exact⟨g2.1,by show (List.set _ _ _).length≤_;rw[List.length_set];exact g2.2⟩
  split
  ·exact⟨g2.1,by show (_++[_]).length≤_;rw[List.length_append];show _+1≤_;omega⟩
  ·exact⟨g2.1,Nat.zero_le _⟩
theorem zy5 {g:Nat} (hg:zda g) {ty:TypeId} {fr:Nat×Nat} (m:Mdl) (s:Slp) (hm:chgOk m) (hs:slOk s) (h0:s.kind.tmod 7=5) :
  ∃n,chgR m n∧∀O,za3 g (ptab ty fr) Tryz.prog 12 [mdlD m,slD s] O (mdlD n) [] O:=by
 obtain⟨nm,hz,hge,hgi⟩:=zek hs.name;have hy:=zxY (k:=s.k) (how:=s.how) hm.ok.ex hm.ok.exk hm.xl hz hs.k;refine⟨⟨m.name,m.evs,m.tpls,m.comps,m.reqs,chgX s.k s.how nm m.excs,m.cons⟩,zdB hm {hm.ok with ex:=hy.1,exk:=hy.2} rfl,fun O=>?_⟩;clear hy;have hel:=hm.ok.ex;have hxl:=hm.xl;have hk:=hs.k;obtain⟨b0,b1,b2,b3⟩:=s;obtain⟨a0,a1,a2,a3,a4,a5,a6⟩:=m;clear hm hs;simp only at h0 hge hgi hel hxl hk ⊢;obtain⟨X,hX⟩:∃X,X=chgX b1 b2 nm a5:=⟨_,rfl⟩;rw[←hX];refine zaN [200014,73,75,77,200373,200395,200404,87] Tk Tryz.func12 rfl Tryz.call12 Tryz.ntmps12 (Nat.le_of_ble_eq_true rfl) fun E hE=>?_;refine zai Tk Tryz.func12 ?_;refine zeh Tk Tryz.func12 (.alt (.new [(14,.arr 9 1 10 (chgN.map fun s=>[strI s]) true)] (.osl 0 14)) (.new [] (.i (.sl 1 10 (chgN.map fun s=>[strI s]))))) rfl rfl (by kernel_rfl) ?_;refine zad Tk Tryz.func12 (by decide) ?_
 refine zad Tk Tryz.func12 (by exact hgi) ?_;refine zap Tk Tryz.func12 (hge) ?_;refine zad Tk Tryz.func12 (by decide) ?_;refine zae Tk Tryz.func12 rfl (fun h=>absurd h (by simp[h0])) (fun _=>?_);refine zae Tk Tryz.func12 rfl (fun h=>absurd h (by simp[h0])) (fun _=>?_);refine zae Tk Tryz.func12 rfl (fun h=>absurd h (by simp[h0])) (fun _=>?_);refine zae Tk Tryz.func12 rfl (fun h=>absurd h (by simp[h0])) (fun _=>?_);refine zae Tk Tryz.func12 rfl (fun h=>absurd h (by simp[h0])) (fun _=>?_);refine zae Tk Tryz.func12 rfl (fun _=>?_) (fun h=>absurd h (by simp[h0]));refine zad Tk Tryz.func12 (by exact⟨by show (0+a5.length)*40≤140737488355328;omega,by show 0+a5.length≤9223372036854775807;omega⟩) ?_;refine zat ?_
 refine zaq (zbo (l:=[(2,.own 0 2 0 0),(4,.own 0 4 0 0),(3,.own 0 3 0 0),(6,.i (strI nm)),(7,ii (IntKind.i64.wrap b1))]) (Hv:=[(2,.box [.i (strI a0),.i (zbb a1),.i (zbD a2),.i (zaP a3),.i (zaP a4),.osl 0 351,.i (zdt a6)]),(3,.box (slC ⟨b0,b1,b2,b3⟩)),(4,.box zbF),(351,.arr 91 2 a5.length (a5.map nexI) true)]) ⟨rfl,rfl,rfl,rfl,rfl,trivial⟩ rfl ⟨rfl,rfl,rfl,congrArg (fun n=>some (Ob.arr 91 2 n (a5.map nexI) true)) (Nat.zero_add a5.length),trivial⟩ rfl rfl) ?_
 by_cases hz0:a5.length=0
 ·have hXd:X=a5:=by rw[hX];unfold chgX;rw[if_pos hz0]
  refine zaq (zam 351 rfl rfl) ?_;refine zaq (zaQ rfl) ?_;refine zai Tk Tryz.func12 ?_;refine g_go Tk Tryz.func12 ?_;refine zae Tk Tryz.func12 rfl (fun _=>?_) (fun h=>absurd h (by simp;exact List.eq_nil_of_length_eq_zero hz0));refine zag Tk (r:=mdlD ⟨a0,a1,a2,a3,a4,a5,a6⟩) rfl rfl rfl trivial rfl rfl ?_;rw[hXd]
 apply zbK (c:={ P:=Tryz.prog,T:=zvU,E:=E,f:=12,fn:=Tryz.f12,post:=zd1 E (mdlD ⟨a0,a1,a2,a3,a4,X,a6⟩) [] O,stop:=[200014,73,75,77,200373,200395,200404,87]}) (P:=True) (s6:={ σ:=[(2,.own 0 2 0 0),(4,.own 0 4 0 0)],S:=[(2,.box [.i (strI a0),.i (zbb a1),.i (zbD a2),.i (zaP a3),.i (zaP a4),.osl 0 351,.i (zdt a6)]),(4,.box zbF),(351,.arr 91 2 X.length (X.map nexI) true)]::O,n:=423})
 ·intro J;obtain⟨q,hq,hqe⟩:=zfn hk (Nat.pos_of_ne_zero hz0);have hXd:X=a5.set q (chgE b2 nm a5[q]):=by
   rw[hX];unfold chgX;rw[if_neg hz0,hqe,Int.toNat_natCast,List.getD_eq_getElem?_getD,List.getElem?_eq_getElem hq];rfl
  have htl:=hxl _ (List.getElem_mem hq);have gE:(a5.map nexI)[((IntKind.i64.wrap b1).tmod (a5.length:Int)).toNat]? = some (nexI a5[q]):=by
   rw[hqe];exact zan (f:=nexI) hq
  have g2:∀d,((a5.map nexI).set ((IntKind.i64.wrap b1).tmod (a5.length:Int)).toNat d)[((IntKind.i64.wrap b1).tmod (a5.length:Int)).toNat]? = some d:=fun d=>by
   rw[hqe,Int.toNat_natCast,List.getElem?_set_self (by rw[List.length_map];exact hq)]
  have hset:∀t,X=a5.set q t→some (Ob.arr 91 2 a5.length ((a5.map nexI).set ((IntKind.i64.wrap b1).tmod (a5.length:Int)).toNat (nexI t)) true)=some (Ob.arr 91 2 X.length (X.map nexI) true):=fun t h=>by
   rw[h,hqe,Int.toNat_natCast,List.length_set,List.map_set]
  have hslf:some (Ob.arr 91 2 a5.length ((a5.map nexI).set ((IntKind.i64.wrap b1).tmod (a5.length:Int)).toNat (nexI a5[q])) true)=some (Ob.arr 91 2 a5.length (a5.map nexI) true):=by rw[znm gE]
  have hel2:∀d:List I,d.length=2→∀y∈(a5.map nexI).set ((IntKind.i64.wrap b1).tmod (a5.length:Int)).toNat d,y.length=2:=fun d hd y hy=>by
   rcases List.mem_or_eq_of_mem_set hy with h|h
   ·obtain⟨z,_,rfl⟩:=List.mem_map.1 h;rfl
   ·rw[h];exact hd
  generalize a5[q]=T at *;obtain⟨tn,tl⟩:=T;unfold chgE at hXd;simp only at htl hXd;obtain⟨⟨p1,p2⟩,lr,rfl⟩:∃y l,tl=y::l:=by cases tl with|nil=>simp at htl|cons y l=>exact⟨y,l,rfl⟩
  refine zai Tk Tryz.func12 ?_;refine g_go Tk Tryz.func12 ?_;refine zae Tk Tryz.func12 rfl (fun h=>absurd h (by simp;intro e;rw[e] at hz0;simp at hz0)) (fun _=>?_);refine g_go Tk Tryz.func12 ?_;refine zav Tk Tryz.func12 zaz rfl ?_;refine zas Tk (by show (a5.length:Int)≠0;omega) ?_;refine zas Tk (by rw[hqe];exact⟨by omega,by show (q:Int)<(a5.length:Int);omega⟩) ?_;refine zaB Tk Tryz.func12 (by kernel_rfl) ?_;refine zap Tk Tryz.func12 (gE) ?_;refine zad Tk Tryz.func12 (by exact⟨by show (0+((p1,p2)::lr).length)*32≤140737488355328;omega,by show 0+((p1,p2)::lr).length≤9223372036854775807;omega⟩) ?_
  refine zaY (zbo (l:=[(2,.own 0 2 0 0),(4,.own 0 4 0 0),(3,.own 0 3 0 0),(6,.i (strI nm)),(12,.own 0 351 ((IntKind.i64.wrap b1).tmod (a5.length:Int)).toNat 0),(366,.own 0 351 ((IntKind.i64.wrap b1).tmod (a5.length:Int)).toNat 0),(372,.osl 0 372)]) (Hv:=[(2,.box [.i (strI a0),.i (zbb a1),.i (zbD a2),.i (zaP a3),.i (zaP a4),.osl 0 351,.i (zdt a6)]),(3,.box (slC ⟨b0,b1,b2,b3⟩)),(4,.box zbF),(351,.arr 91 2 a5.length (a5.map nexI) true),(372,.arr 103 2 ((p1,p2)::lr).length (((p1,p2)::lr).map nlcI) true)]) ⟨rfl,rfl,rfl,rfl,rfl,rfl,rfl,trivial⟩ rfl ⟨rfl,rfl,rfl,rfl,congrArg (fun n=>some (Ob.arr 103 2 n (((p1,p2)::lr).map nlcI) true)) (Nat.zero_add ((p1,p2)::lr).length),trivial⟩ rfl rfl) ?_
  by_cases e3:b2.tmod 5=3
  ·rw[if_neg (by omega),if_neg (by omega),if_neg (by omega),if_pos e3] at hXd;refine zvo 372 rfl rfl rfl fun E1 E2 v hB hR hv=>?_;obtain⟨bl,cap,hv0⟩:=(hR.row 0 v _ rfl rfl).form (by rw[List.length_map];exact htl.1);rw[List.length_map] at hv0;subst hv0;refine zcP Tk Tryz.func12 rfl rfl Wk.refl ?_;refine zap Tk Tryz.func12 (gE) ?_;refine zat ?_;refine zai Tk Tryz.func12 ?_;refine g_go Tk Tryz.func12 ?_;refine zad Tk Tryz.func12 (by decide) ?_;refine zae Tk Tryz.func12 rfl (fun h=>absurd h (by simp[e3])) (fun _=>?_);refine zae Tk Tryz.func12 rfl (fun h=>absurd h (by simp[e3])) (fun _=>?_);refine zae Tk Tryz.func12 rfl (fun h=>absurd h (by simp[e3])) (fun _=>?_);refine zae Tk Tryz.func12 rfl (fun _=>?_) (fun h=>absurd h (by simp[e3]));refine zlx Tk E1 8 12 rfl (by decide) (Nat.le_of_ble_eq_true rfl) ?_;refine zaE Tk (g2 _) ?_
   refine zy2 Tk (i:=9) rfl rfl rfl rfl rfl rfl rfl (g2 _) rfl hv ?_;refine zas Tk (by exact⟨by decide,by show (0:Int)<((((p1,p2)::lr).length:Nat):Int);omega⟩) ?_;refine zaE Tk (rfl) ?_;refine zwg Tk Tryz.func12 zaz (m:=1) (j:=0) (ti2:=zjr) hR rfl rfl ⟨by show ((((p1,p2)::lr).map nlcI).length+1)*32≤140737488355328;rw[List.length_map];omega,by show (((p1,p2)::lr).map nlcI).length+1≤9223372036854775807;rw[List.length_map];omega⟩ [13,14,15] rfl rfl rfl rfl rfl rfl rfl rfl rfl rfl rfl rfl rfl rfl rfl (fun _=>by kernel_rfl) (by kernel_rfl) ?_;intro E' v' hR';refine zap Tk Tryz.func12 (g2 _) ?_;refine zat ?_;have hrp:∀K,E'.K0.le K→Rep K v' (.sl 2 (((p1,p2)::lr)++[(p1,p2)]).length ((((p1,p2)::lr)++[(p1,p2)]).map nlcI)):=fun K hK=>by
    have:=(hR'.row 0 v' _ rfl rfl).rep hK;rw[List.map_append,List.length_append];rw[List.length_append,List.length_map] at this;exact this
   refine zaq (zgd 351 (ca:=(a5.map nexI).set ((IntKind.i64.wrap b1).tmod (a5.length:Int)).toNat [strI tn,.v v']) (ys:=(a5.map nexI).set ((IntKind.i64.wrap b1).tmod (a5.length:Int)).toNat (nexI ⟨tn,((p1,p2)::lr)++[(p1,p2)]⟩)) rfl (congrArg (fun l=>some (Ob.arr 91 2 a5.length l true)) (List.set_set ..)) (by simp) (hel2 _ rfl) fun K vs hK=>zbZ (zgf (hrp K hK)) _ _ _) ?_;refine zde hR'.base rfl ?_;refine zde hB rfl ?_;exact zau (J trivial) ⟨rfl,rfl,trivial⟩ rfl ⟨rfl,rfl,hset _ hXd,trivial⟩ rfl rfl
  by_cases e12:b2.tmod 5=1∨b2.tmod 5=2
  ·refine zsF 372 (Base.refl _ _) rfl rfl rfl htl.1 fun E2 bl cap hR=>?_;refine zcP Tk Tryz.func12 rfl rfl Wk.refl ?_;refine zap Tk Tryz.func12 (gE) ?_;refine zat ?_;refine zai Tk Tryz.func12 ?_;refine g_go Tk Tryz.func12 ?_;refine zad Tk Tryz.func12 (by decide) ?_;refine zae Tk Tryz.func12 rfl (fun h=>absurd h (by rcases e12 with e|e<;>simp[e])) (fun _=>?_);refine zae Tk Tryz.func12 rfl (fun e1=>?_) (fun e1=>?_)
   ·have e1:b2.tmod 5=1:=by simpa using e1
    rw[if_neg (by omega),if_pos e1] at hXd;refine zap Tk Tryz.func12 (g2 _) ?_;refine zad Tk Tryz.func12 (by exact⟨by decide,by show (0:Int)<((((p1,p2)::lr).length:Nat):Int);omega⟩) ?_;refine g_rg ?_;refine zk9 Tk rfl rfl rfl rfl rfl rfl rfl rfl rfl ?_;refine ze3 Tk (j:=0) (off:=0) hR rfl rfl rfl rfl rfl rfl rfl rfl rfl rfl rfl (by decide) rfl fun E' hR'=>?_;refine ziG Tk Tryz.func12 rfl ?_;refine zat ?_;refine zgg 351 hR' rfl rfl ((a5.map nexI).set ((IntKind.i64.wrap b1).tmod (a5.length:Int)).toNat (nexI ⟨tn,(nm,p2)::lr⟩)) (by simp) (hel2 _ rfl) (fun K vs hr=>zbZ (zgf hr) _ _ _) ?_;exact zau (J trivial) ⟨rfl,rfl,trivial⟩ rfl ⟨rfl,rfl,hset _ hXd,trivial⟩ rfl rfl
   ·have e1:b2.tmod 5≠1:=by simpa using e1
    have e2:b2.tmod 5=2:=by omega
    rw[if_neg (by omega),if_neg (by omega),if_pos e2] at hXd;refine zae Tk Tryz.func12 rfl (fun _=>?_) (fun h=>absurd h (by simp[e2]));refine zap Tk Tryz.func12 (g2 _) ?_;refine zad Tk Tryz.func12 (by exact⟨by decide,by show (0:Int)<((((p1,p2)::lr).length:Nat):Int);omega⟩) ?_;refine g_rg ?_;refine zk9 Tk rfl rfl rfl rfl rfl rfl rfl rfl rfl ?_;refine ze3 Tk (j:=0) (off:=1) hR rfl rfl rfl rfl rfl rfl rfl rfl rfl rfl rfl (by decide) rfl fun E' hR'=>?_;refine ziG Tk Tryz.func12 rfl ?_;refine zat ?_;refine zgg 351 hR' rfl rfl ((a5.map nexI).set ((IntKind.i64.wrap b1).tmod (a5.length:Int)).toNat (nexI ⟨tn,(p1,nm)::lr⟩)) (by simp) (hel2 _ rfl) (fun K vs hr=>zbZ (zgf hr) _ _ _) ?_;exact zau (J trivial) ⟨rfl,rfl,trivial⟩ rfl ⟨rfl,rfl,hset _ hXd,trivial⟩ rfl rfl
  refine zaY (zam 372 rfl rfl) ?_;refine zaY (zaQ rfl) ?_;refine zcP Tk Tryz.func12 rfl rfl Wk.refl ?_;refine zap Tk Tryz.func12 (gE) ?_;refine zat ?_;refine zaq (zbo (l:=[(2,.own 0 2 0 0),(4,.own 0 4 0 0),(3,.own 0 3 0 0),(6,.i (strI nm)),(12,.own 0 351 ((IntKind.i64.wrap b1).tmod (a5.length:Int)).toNat 0)]) (Hv:=[(2,.box [.i (strI a0),.i (zbb a1),.i (zbD a2),.i (zaP a3),.i (zaP a4),.osl 0 351,.i (zdt a6)]),(3,.box (slC ⟨b0,b1,b2,b3⟩)),(4,.box zbF),(351,.arr 91 2 a5.length (a5.map nexI) true)]) ⟨rfl,rfl,rfl,rfl,rfl,trivial⟩ rfl ⟨rfl,rfl,rfl,hslf,trivial⟩ rfl rfl) ?_;refine zai Tk Tryz.func12 ?_;refine g_go Tk Tryz.func12 ?_;refine zad Tk Tryz.func12 (by decide) ?_;refine zae Tk Tryz.func12 rfl (fun e0=>?_) (fun e0=>?_)
  ·have e0:b2.tmod 5=0:=by simpa using e0
   rw[if_pos e0] at hXd;refine zap Tk Tryz.func12 (gE) ?_;refine zat ?_;exact zau (J trivial) ⟨rfl,rfl,trivial⟩ rfl ⟨rfl,rfl,hset _ hXd,trivial⟩ rfl rfl
  ·have e0:b2.tmod 5≠0:=by simpa using e0
   rw[if_neg e0,if_neg (by omega),if_neg (by omega),if_neg e3] at hXd;refine zae Tk Tryz.func12 rfl (fun h=>absurd h (by simp;omega)) (fun _=>?_);refine zae Tk Tryz.func12 rfl (fun h=>absurd h (by simp;omega)) (fun _=>?_);refine zae Tk Tryz.func12 rfl (fun h=>absurd h (by simp;omega)) (fun _=>?_);refine zap Tk Tryz.func12 (gE) ?_;refine zat ?_;refine zaq (zgd 351 (ca:=(a5.map nexI).set ((IntKind.i64.wrap b1).tmod (a5.length:Int)).toNat [strI tn,.v (.slice none 0 0)]) (ys:=(a5.map nexI).set ((IntKind.i64.wrap b1).tmod (a5.length:Int)).toNat (nexI ⟨tn,[]⟩)) rfl rfl (by simp) (hel2 _ rfl) fun K vs hK=>zbZ (zgf .nil) _ _ _) ?_;exact zau (J trivial) ⟨rfl,rfl,trivial⟩ rfl ⟨rfl,rfl,hset _ hXd,trivial⟩ rfl rfl
 intro _;refine zaq (zam 351 rfl rfl) ?_;refine zaq (zaQ rfl) ?_;refine zai Tk Tryz.func12 ?_;refine g_go Tk Tryz.func12 ?_;refine zag Tk (r:=mdlD ⟨a0,a1,a2,a3,a4,X,a6⟩) rfl rfl rfl trivial rfl rfl ?_;rfl
theorem ziI {K:Kn} {a z:I} {v:Value} {d:I} (h:Rep K v d):∀ws,RepL K ws [a,.v v,z]→RepL K ws [a,d,z]
 |_,.cons r (.cons r2 r3)=>by
  cases r2 with
  |v e=>exact .cons r (.cons h r3)
def hdT (l:List NTm):NTm:=l.headD (⟨#[]⟩,0)
def chgC (how bv:Int) (nm:ByteArray) (x:NCn):NCn:=
 if how.tmod 5=0 then ⟨nm,x.terms,x.bound⟩ else if how.tmod 5=1 then ⟨x.name,x.terms.set 0 (nm,(hdT x.terms).2),x.bound⟩ else if how.tmod 5=2 then ⟨x.name,x.terms.set 0 ((hdT x.terms).1,bv),x.bound⟩
 else if how.tmod 5=3 then ⟨x.name,x.terms,bv⟩ else ⟨x.name,[],x.bound⟩
def zNCn:NCn:=⟨⟨#[]⟩,[],0⟩
def chgZ (k how bv:Int) (nm:ByteArray) (L:List NCn):List NCn:=
 if L.length=0 then L else L.set ((IntKind.i64.wrap k).tmod (L.length:Int)).toNat (chgC how bv nm (L.getD ((IntKind.i64.wrap k).tmod (L.length:Int)).toNat zNCn))
theorem zxX {k how bv:Int} {nm:ByteArray} {L:List NCn} (h1:L.length≤1000000) (h2:∀x∈L,x.name.size≤zar∧x.terms.length≤1000000) (hn:nm.size≤33) (hk:0≤k∧k≤255) :
  (chgZ k how bv nm L).length≤1000000∧∀x∈chgZ k how bv nm L,x.name.size≤zar∧x.terms.length≤1000000:=by
 unfold chgZ
 split
 ·exact⟨h1,h2⟩
 ·rename_i h0;obtain⟨q,hq,hqe⟩:=zfn hk (Nat.pos_of_ne_zero h0);rw[hqe,Int.toNat_natCast];have g2:=h2 _ (zfc (d:=zNCn) hq);generalize L.getD q zNCn=x at *;refine⟨by rw[List.length_set];exact h1,zeD h2 ?_⟩;unfold chgC
  split
  ·exact⟨by simp only[zar];omega,g2.2⟩
  split
  ·exact⟨g2.1,by show (List.set _ _ _).length≤_;rw[List.length_set];exact g2.2⟩
  split
  ·exact⟨g2.1,by show (List.set _ _ _).length≤_;rw[List.length_set];exact g2.2⟩
  split
  ·exact g2
  ·exact⟨g2.1,Nat.zero_le _⟩
theorem zy4 {g:Nat} (hg:zda g) {ty:TypeId} {fr:Nat×Nat} (m:Mdl) (s:Slp) (hm:chgOk m) (hs:slOk s) (h0:s.kind.tmod 7=6) :
  ∃n,chgR m n∧∀O,za3 g (ptab ty fr) Tryz.prog 12 [mdlD m,slD s] O (mdlD n) [] O:=by
 obtain⟨nm,hz,hge,hgi⟩:=zek hs.name;obtain⟨bv,hbe,hbi⟩:=zxW hs.name;have hy:=zxX (k:=s.k) (how:=s.how) (bv:=bv) hm.ok.cn hm.ok.cnk hz hs.k;refine⟨⟨m.name,m.evs,m.tpls,m.comps,m.reqs,m.excs,chgZ s.k s.how bv nm m.cons⟩,zdB hm {hm.ok with cn:=hy.1,cnk:=hy.2} rfl,fun O=>?_⟩;clear hy;have hel:=hm.ok.cn;have hxl:∀x∈m.cons,0<x.terms.length∧x.terms.length≤1000000:=fun x hx=>⟨hm.nl x hx,(hm.ok.cnk x hx).2⟩;have hk:=hs.k;obtain⟨b0,b1,b2,b3⟩:=s;obtain⟨a0,a1,a2,a3,a4,a5,a6⟩:=m;clear hm hs;simp only at h0 hge hgi hbe hbi hel hxl hk ⊢;obtain⟨X,hX⟩:∃X,X=chgZ b1 b2 bv nm a6:=⟨_,rfl⟩;rw[←hX];refine zaN [200014,6,8,10,200055,200077,87] Tk Tryz.func12 rfl Tryz.call12 Tryz.ntmps12 (Nat.le_of_ble_eq_true rfl) fun E hE=>?_;refine zai Tk Tryz.func12 ?_
 refine zeh Tk Tryz.func12 (.alt (.new [(14,.arr 9 1 10 (chgN.map fun s=>[strI s]) true)] (.osl 0 14)) (.new [] (.i (.sl 1 10 (chgN.map fun s=>[strI s]))))) rfl rfl (by kernel_rfl) ?_;refine zad Tk Tryz.func12 (by decide) ?_;refine zad Tk Tryz.func12 (by exact hgi) ?_;refine zap Tk Tryz.func12 (hge) ?_;refine zad Tk Tryz.func12 (by decide) ?_;refine zae Tk Tryz.func12 rfl (fun h=>absurd h (by simp[h0])) (fun _=>?_);refine zae Tk Tryz.func12 rfl (fun h=>absurd h (by simp[h0])) (fun _=>?_);refine zae Tk Tryz.func12 rfl (fun h=>absurd h (by simp[h0])) (fun _=>?_);refine zae Tk Tryz.func12 rfl (fun h=>absurd h (by simp[h0])) (fun _=>?_);refine zae Tk Tryz.func12 rfl (fun h=>absurd h (by simp[h0])) (fun _=>?_);refine zae Tk Tryz.func12 rfl (fun h=>absurd h (by simp[h0])) (fun _=>?_)
 refine zad Tk Tryz.func12 (by exact⟨by show (0+a6.length)*48≤140737488355328;omega,by show 0+a6.length≤9223372036854775807;omega⟩) ?_;refine zat ?_;refine zaq (zbo (l:=[(2,.own 0 2 0 0),(4,.own 0 4 0 0),(3,.own 0 3 0 0),(6,.i (strI nm)),(7,ii (IntKind.i64.wrap b1))]) (Hv:=[(2,.box [.i (strI a0),.i (zbb a1),.i (zbD a2),.i (zaP a3),.i (zaP a4),.i (zcN a5),.osl 0 33]),(3,.box (slC ⟨b0,b1,b2,b3⟩)),(4,.box zbF),(33,.arr 96 3 a6.length (a6.map ncnI) true)]) ⟨rfl,rfl,rfl,rfl,rfl,trivial⟩ rfl ⟨rfl,rfl,rfl,congrArg (fun n=>some (Ob.arr 96 3 n (a6.map ncnI) true)) (Nat.zero_add a6.length),trivial⟩ rfl rfl) ?_
 by_cases hz0:a6.length=0
 ·have hXd:X=a6:=by rw[hX];unfold chgZ;rw[if_pos hz0]
  refine zaq (zam 33 rfl rfl) ?_;refine zaq (zaQ rfl) ?_;refine zai Tk Tryz.func12 ?_;refine g_go Tk Tryz.func12 ?_;refine zae Tk Tryz.func12 rfl (fun _=>?_) (fun h=>absurd h (by simp;exact List.eq_nil_of_length_eq_zero hz0));refine zag Tk (r:=mdlD ⟨a0,a1,a2,a3,a4,a5,a6⟩) rfl rfl rfl trivial rfl rfl ?_;rw[hXd]
 apply zbK (c:={ P:=Tryz.prog,T:=zvU,E:=E,f:=12,fn:=Tryz.f12,post:=zd1 E (mdlD ⟨a0,a1,a2,a3,a4,a5,X⟩) [] O,stop:=[200014,6,8,10,200055,200077,87]}) (P:=True) (s6:={ σ:=[(2,.own 0 2 0 0),(4,.own 0 4 0 0)],S:=[(2,.box [.i (strI a0),.i (zbb a1),.i (zbD a2),.i (zaP a3),.i (zaP a4),.i (zcN a5),.osl 0 33]),(4,.box zbF),(33,.arr 96 3 X.length (X.map ncnI) true)]::O,n:=423})
 ·intro J;obtain⟨q,hq,hqe⟩:=zfn hk (Nat.pos_of_ne_zero hz0);have hXd:X=a6.set q (chgC b2 bv nm a6[q]):=by
   rw[hX];unfold chgZ;rw[if_neg hz0,hqe,Int.toNat_natCast,List.getD_eq_getElem?_getD,List.getElem?_eq_getElem hq];rfl
  have htl:=hxl _ (List.getElem_mem hq);have gE:(a6.map ncnI)[((IntKind.i64.wrap b1).tmod (a6.length:Int)).toNat]? = some (ncnI a6[q]):=by
   rw[hqe];exact zan (f:=ncnI) hq
  have g2:∀d,((a6.map ncnI).set ((IntKind.i64.wrap b1).tmod (a6.length:Int)).toNat d)[((IntKind.i64.wrap b1).tmod (a6.length:Int)).toNat]? = some d:=fun d=>by
   rw[hqe,Int.toNat_natCast,List.getElem?_set_self (by rw[List.length_map];exact hq)]
  have hset:∀t,X=a6.set q t→some (Ob.arr 96 3 a6.length ((a6.map ncnI).set ((IntKind.i64.wrap b1).tmod (a6.length:Int)).toNat (ncnI t)) true)=some (Ob.arr 96 3 X.length (X.map ncnI) true):=fun t h=>by
   rw[h,hqe,Int.toNat_natCast,List.length_set,List.map_set]
  have hslf:some (Ob.arr 96 3 a6.length ((a6.map ncnI).set ((IntKind.i64.wrap b1).tmod (a6.length:Int)).toNat (ncnI a6[q])) true)=some (Ob.arr 96 3 a6.length (a6.map ncnI) true):=by rw[znm gE]
  have hel2:∀d:List I,d.length=3→∀y∈(a6.map ncnI).set ((IntKind.i64.wrap b1).tmod (a6.length:Int)).toNat d,y.length=3:=fun d hd y hy=>by
   rcases List.mem_or_eq_of_mem_set hy with h|h
   ·obtain⟨z,_,rfl⟩:=List.mem_map.1 h;rfl
   ·rw[h];exact hd
  generalize a6[q]=T at *;obtain⟨tn,tl,tb⟩:=T;unfold chgC at hXd;simp only at htl hXd;obtain⟨⟨p1,p2⟩,lr,rfl⟩:∃y l,tl=y::l:=by cases tl with|nil=>simp at htl|cons y l=>exact⟨y,l,rfl⟩
  refine zai Tk Tryz.func12 ?_;refine g_go Tk Tryz.func12 ?_;refine zae Tk Tryz.func12 rfl (fun h=>absurd h (by simp;intro e;rw[e] at hz0;simp at hz0)) (fun _=>?_);refine g_go Tk Tryz.func12 ?_;refine zav Tk Tryz.func12 zaz rfl ?_;refine zas Tk (by show (a6.length:Int)≠0;omega) ?_;refine zas Tk (by rw[hqe];exact⟨by omega,by show (q:Int)<(a6.length:Int);omega⟩) ?_;refine zaB Tk Tryz.func12 (by kernel_rfl) ?_;refine zap Tk Tryz.func12 (gE) ?_;refine zad Tk Tryz.func12 (by exact⟨by show (0+((p1,p2)::lr).length)*24≤140737488355328;omega,by show 0+((p1,p2)::lr).length≤9223372036854775807;omega⟩) ?_
  refine zaY (zbo (l:=[(2,.own 0 2 0 0),(4,.own 0 4 0 0),(3,.own 0 3 0 0),(6,.i (strI nm)),(13,.own 0 33 ((IntKind.i64.wrap b1).tmod (a6.length:Int)).toNat 0),(48,.own 0 33 ((IntKind.i64.wrap b1).tmod (a6.length:Int)).toNat 0),(54,.osl 0 54)]) (Hv:=[(2,.box [.i (strI a0),.i (zbb a1),.i (zbD a2),.i (zaP a3),.i (zaP a4),.i (zcN a5),.osl 0 33]),(3,.box (slC ⟨b0,b1,b2,b3⟩)),(4,.box zbF),(33,.arr 96 3 a6.length (a6.map ncnI) true),(54,.arr 93 2 ((p1,p2)::lr).length (((p1,p2)::lr).map ntmI) true)]) ⟨rfl,rfl,rfl,rfl,rfl,rfl,rfl,trivial⟩ rfl ⟨rfl,rfl,rfl,rfl,congrArg (fun n=>some (Ob.arr 93 2 n (((p1,p2)::lr).map ntmI) true)) (Nat.zero_add ((p1,p2)::lr).length),trivial⟩ rfl rfl) ?_
  by_cases e12:b2.tmod 5=1∨b2.tmod 5=2
  ·refine zsF 54 (Base.refl _ _) rfl rfl rfl htl.1 fun E2 bl cap hR=>?_;refine zcP Tk Tryz.func12 rfl rfl Wk.refl ?_;refine zap Tk Tryz.func12 (gE) ?_;refine zat ?_;refine zai Tk Tryz.func12 ?_;refine g_go Tk Tryz.func12 ?_;refine zad Tk Tryz.func12 (by decide) ?_;refine zae Tk Tryz.func12 rfl (fun h=>absurd h (by rcases e12 with e|e<;>simp[e])) (fun _=>?_);refine zae Tk Tryz.func12 rfl (fun e1=>?_) (fun e1=>?_)
   ·have e1:b2.tmod 5=1:=by simpa using e1
    rw[if_neg (by omega),if_pos e1] at hXd;refine zap Tk Tryz.func12 (g2 _) ?_;refine zad Tk Tryz.func12 (by exact⟨by decide,by show (0:Int)<((((p1,p2)::lr).length:Nat):Int);omega⟩) ?_;refine g_rg ?_;refine zk9 Tk rfl rfl rfl rfl rfl rfl rfl rfl rfl ?_;refine ze3 Tk (j:=0) (off:=0) hR rfl rfl rfl rfl rfl rfl rfl rfl rfl rfl rfl (by decide) rfl fun E' hR'=>?_;refine ziG Tk Tryz.func12 rfl ?_;refine zat ?_;refine zgg 33 hR' rfl rfl ((a6.map ncnI).set ((IntKind.i64.wrap b1).tmod (a6.length:Int)).toNat (ncnI ⟨tn,(nm,p2)::lr,tb⟩)) (by simp) (hel2 _ rfl) (fun K vs hr=>zbZ (ziI hr) _ _ _) ?_;exact zau (J trivial) ⟨rfl,rfl,trivial⟩ rfl ⟨rfl,rfl,hset _ hXd,trivial⟩ rfl rfl
   ·have e1:b2.tmod 5≠1:=by simpa using e1
    have e2:b2.tmod 5=2:=by omega
    rw[if_neg (by omega),if_neg (by omega),if_pos e2] at hXd;refine zae Tk Tryz.func12 rfl (fun _=>?_) (fun h=>absurd h (by simp[e2]));refine zav Tk Tryz.func12 zaz rfl ?_;refine zaE Tk (g2 _) ?_;refine zas Tk (by decide) ?_;refine zas Tk (by exact hbi) ?_;refine zaE Tk (hbe) ?_;refine zas Tk (by exact⟨by decide,by show (0:Int)<((((p1,p2)::lr).length:Nat):Int);omega⟩) ?_;refine zvA [13] (by kernel_rfl) (by kernel_rfl) ?_;refine ze3 Tk (j:=0) (off:=1) hR rfl rfl rfl rfl rfl rfl rfl rfl rfl rfl rfl (by decide) rfl fun E' hR'=>?_;refine ziG Tk Tryz.func12 rfl ?_;refine zat ?_;refine zgg 33 hR' rfl rfl ((a6.map ncnI).set ((IntKind.i64.wrap b1).tmod (a6.length:Int)).toNat (ncnI ⟨tn,(p1,bv)::lr,tb⟩)) (by simp) (hel2 _ rfl) (fun K vs hr=>zbZ (ziI hr) _ _ _) ?_;exact zau (J trivial) ⟨rfl,rfl,trivial⟩ rfl ⟨rfl,rfl,hset _ hXd,trivial⟩ rfl rfl
  refine zaY (zam 54 rfl rfl) ?_;refine zaY (zaQ rfl) ?_;refine zcP Tk Tryz.func12 rfl rfl Wk.refl ?_;refine zap Tk Tryz.func12 (gE) ?_;refine zat ?_;refine zaq (zbo (l:=[(2,.own 0 2 0 0),(4,.own 0 4 0 0),(3,.own 0 3 0 0),(6,.i (strI nm)),(13,.own 0 33 ((IntKind.i64.wrap b1).tmod (a6.length:Int)).toNat 0)]) (Hv:=[(2,.box [.i (strI a0),.i (zbb a1),.i (zbD a2),.i (zaP a3),.i (zaP a4),.i (zcN a5),.osl 0 33]),(3,.box (slC ⟨b0,b1,b2,b3⟩)),(4,.box zbF),(33,.arr 96 3 a6.length (a6.map ncnI) true)]) ⟨rfl,rfl,rfl,rfl,rfl,trivial⟩ rfl ⟨rfl,rfl,rfl,hslf,trivial⟩ rfl rfl) ?_;refine zai Tk Tryz.func12 ?_;refine g_go Tk Tryz.func12 ?_;refine zad Tk Tryz.func12 (by decide) ?_;refine zae Tk Tryz.func12 rfl (fun e0=>?_) (fun e0=>?_)
  ·have e0:b2.tmod 5=0:=by simpa using e0
   rw[if_pos e0] at hXd;refine zap Tk Tryz.func12 (gE) ?_;refine zat ?_;exact zau (J trivial) ⟨rfl,rfl,trivial⟩ rfl ⟨rfl,rfl,hset _ hXd,trivial⟩ rfl rfl
  have e0:b2.tmod 5≠0:=by simpa using e0
  rw[if_neg e0,if_neg (by omega),if_neg (by omega)] at hXd;refine zae Tk Tryz.func12 rfl (fun h=>absurd h (by simp;omega)) (fun _=>?_);refine zae Tk Tryz.func12 rfl (fun h=>absurd h (by simp;omega)) (fun _=>?_);refine zae Tk Tryz.func12 rfl (fun e3=>?_) (fun e3=>?_)
  ·have e3:b2.tmod 5=3:=by simpa using e3
   rw[if_pos e3] at hXd;refine zad Tk Tryz.func12 (by decide) ?_;refine zad Tk Tryz.func12 (by exact hbi) ?_;refine zap Tk Tryz.func12 (hbe) ?_;refine zap Tk Tryz.func12 (gE) ?_;refine zat ?_;exact zau (J trivial) ⟨rfl,rfl,trivial⟩ rfl ⟨rfl,rfl,hset _ hXd,trivial⟩ rfl rfl
  ·have e3:b2.tmod 5≠3:=by simpa using e3
   rw[if_neg e3] at hXd;refine zap Tk Tryz.func12 (gE) ?_;refine zat ?_;refine zaq (zgd 33 (ca:=(a6.map ncnI).set ((IntKind.i64.wrap b1).tmod (a6.length:Int)).toNat [strI tn,.v (.slice none 0 0),vi tb]) (ys:=(a6.map ncnI).set ((IntKind.i64.wrap b1).tmod (a6.length:Int)).toNat (ncnI ⟨tn,[],tb⟩)) rfl rfl (by simp) (hel2 _ rfl) fun K vs hK=>zbZ (ziI .nil) _ _ _) ?_;exact zau (J trivial) ⟨rfl,rfl,trivial⟩ rfl ⟨rfl,rfl,hset _ hXd,trivial⟩ rfl rfl
 intro _;refine zaq (zam 33 rfl rfl) ?_;refine zaq (zaQ rfl) ?_;refine zai Tk Tryz.func12 ?_;refine g_go Tk Tryz.func12 ?_;refine zag Tk (r:=mdlD ⟨a0,a1,a2,a3,a4,a5,X⟩) rfl rfl rfl trivial rfl rfl ?_;rfl
def chgT (how b:Int) (nm:ByteArray) (x:Tpl):Tpl:=
 if how.tmod 6=0 then ⟨nm,x.locs,x.evs,x.mach⟩ else if how.tmod 6=1 then ⟨x.name,x.locs.drop 1++[nm],x.evs,x.mach⟩ else if how.tmod 6=2 then ⟨x.name,x.locs.drop 1,x.evs,x.mach⟩
 else if how.tmod 6=3 then ⟨x.name,x.locs,x.evs.drop 1++[nm],x.mach⟩ else if how.tmod 6=4 then ⟨x.name,x.locs,x.evs++[nm],x.mach⟩ else ⟨x.name,x.locs,x.evs,zge x.mach (IntKind.i64.wrap (b.tmod 6))⟩
def chgP (k how b:Int) (nm:ByteArray) (L:List Tpl):List Tpl:=
 if L.length=0 then L else L.set ((IntKind.i64.wrap k).tmod (L.length:Int)).toNat (chgT how b nm (L.getD ((IntKind.i64.wrap k).tmod (L.length:Int)).toNat zTpl))
theorem zxZ {how b:Int} {nm:ByteArray} {x:Tpl} (h:tplOk x) (hl:x.evs.length≤1000) (hz:nm.size≤33):tplOk (chgT how b nm x)∧∃c,(chgT how b nm x).mach=zge x.mach c:=by
 have hn:nm.size≤zar:=by simp only[zar];omega
 have hap:∀l:List ByteArray,(∀y∈l,y.size≤zar)→∀y∈l++[nm],y.size≤zar:=fun l h y hy=>(List.mem_append.1 hy).elim (h y) fun h=>by rw[List.mem_singleton.1 h];exact hn
 unfold chgT
 split
 ·exact⟨{h with nm:=hn},x.mach.init,rfl⟩
 split
 ·exact⟨{h with ll:=by show (List.drop 1 _++[nm]).length≤_;simp;have:=h.ll;omega,ls:=hap _ fun y hy=>h.ls y (List.mem_of_mem_drop hy)},x.mach.init,rfl⟩
 split
 ·exact⟨{h with ll:=by show (List.drop 1 _).length≤_;rw[List.length_drop];have:=h.ll;omega,ls:=fun y hy=>h.ls y (List.mem_of_mem_drop hy)},x.mach.init,rfl⟩
 split
 ·exact⟨{h with el:=by show (List.drop 1 _++[nm]).length≤_;simp;omega,es:=hap _ fun y hy=>h.es y (List.mem_of_mem_drop hy)},x.mach.init,rfl⟩
 split
 ·exact⟨{h with el:=by show (_++[nm]).length≤_;simp;omega,es:=hap _ h.es},x.mach.init,rfl⟩
 ·exact⟨{h with mo:=⟨h.mo.al,h.mo.ma,h.mo.va,h.mo.na,h.mo.mo,h.mo.mv⟩},_,rfl⟩
theorem zy6 {g:Nat} (hg:zda g) {ty:TypeId} {fr:Nat×Nat} (m:Mdl) (s:Slp) (hm:chgOk m) (hs:slOk s) (h0:s.kind.tmod 7=2) :
  ∃n,chgR m n∧∀O,za3 g (ptab ty fr) Tryz.prog 12 [mdlD m,slD s] O (mdlD n) [] O:=by
 obtain⟨nm,hz,hge,hgi⟩:=zek hs.name;refine⟨⟨m.name,m.evs,chgP s.k s.how s.name nm m.tpls,m.comps,m.reqs,m.excs,m.cons⟩,?_,fun O=>?_⟩
 ·unfold chgP
  split
  ·exact zdB hm hm.ok rfl
  ·rename_i h;obtain⟨q,hq,hqe⟩:=zfn hs.k (Nat.pos_of_ne_zero h);rw[hqe,Int.toNat_natCast,List.getD_eq_getElem?_getD,List.getElem?_eq_getElem hq];have ho:=zxZ (how:=s.how) (b:=s.name) (hm.ok.tpk _ (List.getElem_mem hq)) (hm.tl _ (List.getElem_mem hq)).2.2 hz;exact zxU hm hq ho.1 ho.2
 have hel:=hm.ok.tp;have hxl:∀x∈m.tpls,0<x.locs.length∧x.locs.length≤1000000∧0<x.evs.length∧x.evs.length≤1000:=fun x hx=>⟨(hm.tl x hx).1,(hm.ok.tpk x hx).ll,(hm.tl x hx).2⟩;have hk:=hs.k;obtain⟨b0,b1,b2,b3⟩:=s;obtain⟨a0,a1,a2,a3,a4,a5,a6⟩:=m;clear hm hs;simp only at h0 hge hgi hel hxl hk ⊢;obtain⟨X,hX⟩:∃X,X=chgP b1 b2 b3 nm a2:=⟨_,rfl⟩;rw[←hX];refine zaN [200014,33,35,87,200201,200226,200240] Tk Tryz.func12 rfl Tryz.call12 Tryz.ntmps12 (Nat.le_of_ble_eq_true rfl) fun E hE=>?_;refine zai Tk Tryz.func12 ?_;refine zeh Tk Tryz.func12 (.alt (.new [(14,.arr 9 1 10 (chgN.map fun s=>[strI s]) true)] (.osl 0 14)) (.new [] (.i (.sl 1 10 (chgN.map fun s=>[strI s]))))) rfl rfl (by kernel_rfl) ?_;refine zad Tk Tryz.func12 (by decide) ?_;refine zad Tk Tryz.func12 (by exact hgi) ?_;refine zap Tk Tryz.func12 (hge) ?_;refine zad Tk Tryz.func12 (by decide) ?_
 refine zae Tk Tryz.func12 rfl (fun h=>absurd h (by simp[h0])) (fun _=>?_);refine zae Tk Tryz.func12 rfl (fun h=>absurd h (by simp[h0])) (fun _=>?_);refine zae Tk Tryz.func12 rfl (fun _=>?_) (fun h=>absurd h (by simp[h0]));refine zad Tk Tryz.func12 (by exact⟨by show (0+a2.length)*176≤140737488355328;omega,by show 0+a2.length≤9223372036854775807;omega⟩) ?_;refine zat ?_;refine zaq (zbo (l:=[(2,.own 0 2 0 0),(4,.own 0 4 0 0),(3,.own 0 3 0 0),(6,.i (strI nm)),(7,ii (IntKind.i64.wrap b1))]) (Hv:=[(2,.box [.i (strI a0),.i (zbb a1),.osl 0 156,.i (zaP a3),.i (zaP a4),.i (zcN a5),.i (zdt a6)]),(3,.box (slC ⟨b0,b1,b2,b3⟩)),(4,.box zbF),(156,.arr 87 9 a2.length (a2.map tplI) true)]) ⟨rfl,rfl,rfl,rfl,rfl,trivial⟩ rfl ⟨rfl,rfl,rfl,congrArg (fun n=>some (Ob.arr 87 9 n (a2.map tplI) true)) (Nat.zero_add a2.length),trivial⟩ rfl rfl) ?_
 by_cases hz0:a2.length=0
 ·have hXd:X=a2:=by rw[hX];unfold chgP;rw[if_pos hz0]
  refine zaq (zam 156 rfl rfl) ?_;refine zaq (zaQ rfl) ?_;refine zai Tk Tryz.func12 ?_;refine g_go Tk Tryz.func12 ?_;refine zae Tk Tryz.func12 rfl (fun _=>?_) (fun h=>absurd h (by simp;exact List.eq_nil_of_length_eq_zero hz0));refine zag Tk (r:=mdlD ⟨a0,a1,a2,a3,a4,a5,a6⟩) rfl rfl rfl trivial rfl rfl ?_;rw[hXd]
 apply zbK (P:=True) (s6:={ σ:=[(2,.own 0 2 0 0),(4,.own 0 4 0 0)],S:=[(2,.box [.i (strI a0),.i (zbb a1),.osl 0 156,.i (zaP a3),.i (zaP a4),.i (zcN a5),.i (zdt a6)]),(4,.box zbF),(156,.arr 87 9 X.length (X.map tplI) true)]::O,n:=423})
 ·intro J;obtain⟨q,hq,hqe⟩:=zfn hk (Nat.pos_of_ne_zero hz0);have hXd:X=a2.set q (chgT b2 b3 nm a2[q]):=by
   rw[hX];unfold chgP;rw[if_neg hz0,hqe,Int.toNat_natCast,List.getD_eq_getElem?_getD,List.getElem?_eq_getElem hq];rfl
  have htl:=hxl _ (List.getElem_mem hq);have gE:(a2.map tplI)[((IntKind.i64.wrap b1).tmod (a2.length:Int)).toNat]? = some (tplI a2[q]):=by
   rw[hqe];exact zan (f:=tplI) hq
  have hset:∀t,X=a2.set q t→some (Ob.arr 87 9 a2.length ((a2.map tplI).set ((IntKind.i64.wrap b1).tmod (a2.length:Int)).toNat (tplI t)) true)=some (Ob.arr 87 9 X.length (X.map tplI) true):=fun t h=>by
   rw[h,hqe,Int.toNat_natCast,List.length_set,List.map_set]
  generalize a2[q]=T at *;obtain⟨tn,tl,te,⟨al,lo,ini,mk,vr,mo⟩⟩:=T;unfold chgT at hXd;simp only at htl hXd;have hap:∀l:List ByteArray,some (Ob.arr 9 1 (0+l.length+1) ([]++(l.map fun s=>[strI s])++[[strI nm]]) true)=some (Ob.arr 9 1 (l++[nm]).length ((l++[nm]).map fun s=>[strI s]) true):=fun l=>by simp
  have hdr:∀l:List ByteArray,some (Ob.arr 9 1 (0+(l.length-1)+1) ([]++(l.map fun s=>[strI s]).drop 1++[[strI nm]]) true)=some (Ob.arr 9 1 (l.drop 1++[nm]).length ((l.drop 1++[nm]).map fun s=>[strI s]) true):=fun l=>by simp
  refine zai Tk Tryz.func12 ?_;refine g_go Tk Tryz.func12 ?_;refine zae Tk Tryz.func12 rfl (fun h=>absurd h (by simp;intro e;rw[e] at hz0;simp at hz0)) (fun _=>?_);refine g_go Tk Tryz.func12 ?_;refine zav Tk Tryz.func12 zaz rfl ?_;refine zas Tk (by show (a2.length:Int)≠0;omega) ?_;refine zas Tk (by rw[hqe];exact⟨by omega,by show (q:Int)<(a2.length:Int);omega⟩) ?_;refine zaB Tk Tryz.func12 (by kernel_rfl) ?_;refine zad Tk Tryz.func12 (by decide) ?_;refine zae Tk Tryz.func12 rfl (fun e0=>?_) (fun e0=>?_)
  ·have e0:b2.tmod 6=0:=by simpa using e0
   rw[if_pos e0] at hXd;refine zap Tk Tryz.func12 (gE) ?_;refine zat ?_;exact zau (J trivial) ⟨rfl,rfl,trivial⟩ rfl ⟨rfl,rfl,hset _ hXd,trivial⟩ rfl rfl
  have e0:b2.tmod 6≠0:=by simpa using e0
  rw[if_neg e0] at hXd;refine zae Tk Tryz.func12 rfl (fun e1=>?_) (fun e1=>?_)
  ·have e1:b2.tmod 6=1:=by simpa using e1
   rw[if_pos e1] at hXd;refine zap Tk Tryz.func12 (gE) ?_;refine zad Tk Tryz.func12 (by exact⟨by decide,by show (1:Int)≤(tl.length:Int);omega⟩) ?_;refine zad Tk Tryz.func12 (by exact⟨by show (0+(tl.length-1))*16≤140737488355328;omega,by show 0+(tl.length-1)≤9223372036854775807;omega⟩) ?_;refine zad Tk Tryz.func12 (by exact⟨by show (0+(tl.length-1)+1)*16≤140737488355328;omega,by show 0+(tl.length-1)+1≤9223372036854775807;omega⟩) ?_
   refine zaY (zbo (l:=[(2,.own 0 2 0 0),(4,.own 0 4 0 0),(190,.own 0 156 ((IntKind.i64.wrap b1).tmod (a2.length:Int)).toNat 0),(200,.osl 0 200)]) (Hv:=[(2,.box [.i (strI a0),.i (zbb a1),.osl 0 156,.i (zaP a3),.i (zaP a4),.i (zcN a5),.i (zdt a6)]),(4,.box zbF),(156,.arr 87 9 a2.length (a2.map tplI) true),(200,.arr 9 1 (tl.drop 1++[nm]).length ((tl.drop 1++[nm]).map fun s=>[strI s]) true)]) ⟨rfl,rfl,rfl,rfl,trivial⟩ rfl ⟨rfl,rfl,rfl,hdr tl,trivial⟩ rfl rfl) ?_;refine zaY (zam 200 rfl rfl) ?_;refine zaY (zaQ rfl) ?_;refine zcP Tk Tryz.func12 rfl rfl Wk.refl ?_;refine zap Tk Tryz.func12 (gE) ?_;refine zat ?_;exact zau (J trivial) ⟨rfl,rfl,trivial⟩ rfl ⟨rfl,rfl,hset _ hXd,trivial⟩ rfl rfl
  have e1:b2.tmod 6≠1:=by simpa using e1
  rw[if_neg e1] at hXd;refine zae Tk Tryz.func12 rfl (fun e2=>?_) (fun e2=>?_)
  ·have e2:b2.tmod 6=2:=by simpa using e2
   rw[if_pos e2] at hXd;refine zap Tk Tryz.func12 (gE) ?_;refine zad Tk Tryz.func12 (by exact⟨by decide,by show (1:Int)≤(tl.length:Int);omega⟩) ?_;refine zap Tk Tryz.func12 (gE) ?_;refine zat ?_;exact zau (J trivial) ⟨rfl,rfl,trivial⟩ rfl ⟨rfl,rfl,(congrArg (fun z=>some (Ob.arr 87 9 a2.length ((a2.map tplI).set ((IntKind.i64.wrap b1).tmod (a2.length:Int)).toNat [strI tn,z,zhB te,zdj al,vi lo,vi ini,zdj mk,vrsI vr,.sl 8 mo.length (mo.map mvI)]) true)) (zjD tl 1)).trans (hset _ hXd),trivial⟩ rfl rfl
  have e2:b2.tmod 6≠2:=by simpa using e2
  rw[if_neg e2] at hXd;refine zae Tk Tryz.func12 rfl (fun e3=>?_) (fun e3=>?_)
  ·have e3:b2.tmod 6=3:=by simpa using e3
   rw[if_pos e3] at hXd;refine zap Tk Tryz.func12 (gE) ?_;refine zad Tk Tryz.func12 (by exact⟨by decide,by show (1:Int)≤(te.length:Int);omega⟩) ?_;refine zad Tk Tryz.func12 (by exact⟨by show (0+(te.length-1))*16≤140737488355328;omega,by show 0+(te.length-1)≤9223372036854775807;omega⟩) ?_;refine zad Tk Tryz.func12 (by exact⟨by show (0+(te.length-1)+1)*16≤140737488355328;omega,by show 0+(te.length-1)+1≤9223372036854775807;omega⟩) ?_
   refine zaY (zbo (l:=[(2,.own 0 2 0 0),(4,.own 0 4 0 0),(215,.own 0 156 ((IntKind.i64.wrap b1).tmod (a2.length:Int)).toNat 0),(225,.osl 0 225)]) (Hv:=[(2,.box [.i (strI a0),.i (zbb a1),.osl 0 156,.i (zaP a3),.i (zaP a4),.i (zcN a5),.i (zdt a6)]),(4,.box zbF),(156,.arr 87 9 a2.length (a2.map tplI) true),(225,.arr 9 1 (te.drop 1++[nm]).length ((te.drop 1++[nm]).map fun s=>[strI s]) true)]) ⟨rfl,rfl,rfl,rfl,trivial⟩ rfl ⟨rfl,rfl,rfl,hdr te,trivial⟩ rfl rfl) ?_;refine zaY (zam 225 rfl rfl) ?_;refine zaY (zaQ rfl) ?_;refine zcP Tk Tryz.func12 rfl rfl Wk.refl ?_;refine zap Tk Tryz.func12 (gE) ?_;refine zat ?_;exact zau (J trivial) ⟨rfl,rfl,trivial⟩ rfl ⟨rfl,rfl,hset _ hXd,trivial⟩ rfl rfl
  have e3:b2.tmod 6≠3:=by simpa using e3
  rw[if_neg e3] at hXd;refine zae Tk Tryz.func12 rfl (fun e4=>?_) (fun e4=>?_)
  ·have e4:b2.tmod 6=4:=by simpa using e4
   rw[if_pos e4] at hXd;refine zap Tk Tryz.func12 (gE) ?_;refine zad Tk Tryz.func12 (by exact⟨by show (0+te.length)*16≤140737488355328;omega,by show 0+te.length≤9223372036854775807;omega⟩) ?_;refine zad Tk Tryz.func12 (by exact⟨by show (0+te.length+1)*16≤140737488355328;omega,by show 0+te.length+1≤9223372036854775807;omega⟩) ?_;refine zaY (zbo (l:=[(2,.own 0 2 0 0),(4,.own 0 4 0 0),(230,.own 0 156 ((IntKind.i64.wrap b1).tmod (a2.length:Int)).toNat 0),(239,.osl 0 239)]) (Hv:=[(2,.box [.i (strI a0),.i (zbb a1),.osl 0 156,.i (zaP a3),.i (zaP a4),.i (zcN a5),.i (zdt a6)]),(4,.box zbF),(156,.arr 87 9 a2.length (a2.map tplI) true),(239,.arr 9 1 (te++[nm]).length ((te++[nm]).map fun s=>[strI s]) true)]) ⟨rfl,rfl,rfl,rfl,trivial⟩ rfl ⟨rfl,rfl,rfl,hap te,trivial⟩ rfl rfl) ?_;refine zaY (zam 239 rfl rfl) ?_;refine zaY (zaQ rfl) ?_
   refine zcP Tk Tryz.func12 rfl rfl Wk.refl ?_;refine zap Tk Tryz.func12 (gE) ?_;refine zat ?_;exact zau (J trivial) ⟨rfl,rfl,trivial⟩ rfl ⟨rfl,rfl,hset _ hXd,trivial⟩ rfl rfl
  have e4:b2.tmod 6≠4:=by simpa using e4
  rw[if_neg e4] at hXd;refine zad Tk Tryz.func12 (by decide) ?_;refine zap Tk Tryz.func12 (gE) ?_;refine zat ?_;exact zau (J trivial) ⟨rfl,rfl,trivial⟩ rfl ⟨rfl,rfl,hset _ hXd,trivial⟩ rfl rfl
 intro _;refine zaq (zam 156 rfl rfl) ?_;refine zaq (zaQ rfl) ?_;refine zai Tk Tryz.func12 ?_;refine g_go Tk Tryz.func12 ?_;refine zag Tk (r:=mdlD ⟨a0,a1,X,a3,a4,a5,a6⟩) rfl rfl rfl trivial rfl rfl ?_;rfl
theorem zy7 {g:Nat} (hg:zda g) {ty:TypeId} {fr:Nat×Nat} (m:Mdl) (s:Slp) (hm:chgOk m) (hs:slOk s) (h0:s.kind.tmod 7=1) :
  ∃n,chgR m n∧∀O,za3 g (ptab ty fr) Tryz.prog 12 [mdlD m,slD s] O (mdlD n) [] O:=by
 obtain⟨nm,hz,hge,hgi⟩:=zek hs.name;obtain⟨q,hq,hqe⟩:=zfn hs.k hm.ev;refine⟨⟨m.name,if s.how.tmod 3=0 then m.evs.set q ⟨nm,m.evs[q].c,m.evs[q].o,m.evs[q].f,m.evs[q].fault⟩ else if s.how.tmod 3=1 then m.evs.set q ⟨m.evs[q].name,m.evs[q].c,m.evs[q].o,m.evs[q].f,IntKind.i64.wrap (s.name.tmod 7)⟩ else m.evs.take q,m.tpls,m.comps,m.reqs,m.excs,m.cons⟩,zdB hm ?_ rfl,fun O=>?_⟩
 ·have hnm:nm.size≤zar:=by simp only[zar];omega
  have hev:=hm.ok.ev;have hen:=hm.ok.evn
  split
  ·exact {hm.ok with ev:=by simp;exact hev,evn:=zeD hen hnm}
  split
  ·exact {hm.ok with ev:=by simp;exact hev,evn:=zeD hen (hen m.evs[q] (List.getElem_mem hq))}
  ·exact {hm.ok with ev:=by simp;omega,evn:=fun x hx=>hen x (List.mem_of_mem_take hx)}
 have hel:=hm.ok.ev;obtain⟨b0,b1,b2,b3⟩:=s;obtain⟨a0,a1,a2,a3,a4,a5,a6⟩:=m;clear hm hs;simp only at h0 hge hgi hq hqe hel ⊢;have gE:(a1.map evtI)[((IntKind.i64.wrap b1).tmod (a1.length:Int)).toNat]? = some (evtI a1[q]):=by
  rw[hqe];exact zan (f:=evtI) hq
 have hset:∀t,some (Ob.arr 101 5 a1.length ((a1.map evtI).set ((IntKind.i64.wrap b1).tmod (a1.length:Int)).toNat (evtI t)) true)=some (Ob.arr 101 5 (a1.set q t).length ((a1.set q t).map evtI) true):=fun t=>by
  rw[hqe,Int.toNat_natCast,List.length_set,List.map_set]
 generalize a1[q]=T at *;obtain⟨tn,t1,t2,t3,t4⟩:=T;refine zaN [200014,24,26,87] Tk Tryz.func12 rfl Tryz.call12 Tryz.ntmps12 (Nat.le_of_ble_eq_true rfl) fun E hE=>?_;refine zai Tk Tryz.func12 ?_;refine zeh Tk Tryz.func12 (.alt (.new [(14,.arr 9 1 10 (chgN.map fun s=>[strI s]) true)] (.osl 0 14)) (.new [] (.i (.sl 1 10 (chgN.map fun s=>[strI s]))))) rfl rfl (by kernel_rfl) ?_;refine zad Tk Tryz.func12 (by decide) ?_;refine zad Tk Tryz.func12 (by exact hgi) ?_;refine zap Tk Tryz.func12 (hge) ?_;refine zad Tk Tryz.func12 (by decide) ?_;refine zae Tk Tryz.func12 rfl (fun h=>absurd h (by simp[h0])) (fun _=>?_);refine zae Tk Tryz.func12 rfl (fun _=>?_) (fun h=>absurd h (by simp[h0]));refine zad Tk Tryz.func12 (by exact⟨by show (0+a1.length)*32≤140737488355328;omega,by show 0+a1.length≤9223372036854775807;omega⟩) ?_;refine zat ?_
 refine zaq (zbo (l:=[(2,.own 0 2 0 0),(4,.own 0 4 0 0),(3,.own 0 3 0 0),(6,.i (strI nm)),(7,ii (IntKind.i64.wrap b1))]) (Hv:=[(2,.box [.i (strI a0),.osl 0 114,.i (zbD a2),.i (zaP a3),.i (zaP a4),.i (zcN a5),.i (zdt a6)]),(3,.box (slC ⟨b0,b1,b2,b3⟩)),(4,.box zbF),(114,.arr 101 5 a1.length (a1.map evtI) true)]) ⟨rfl,rfl,rfl,rfl,rfl,trivial⟩ rfl ⟨rfl,rfl,rfl,congrArg (fun n=>some (Ob.arr 101 5 n (a1.map evtI) true)) (Nat.zero_add a1.length),trivial⟩ rfl rfl) ?_;refine zai Tk Tryz.func12 ?_;refine g_go Tk Tryz.func12 ?_;refine zav Tk Tryz.func12 zaz rfl ?_;refine zas Tk (by show (a1.length:Int)≠0;omega) ?_;refine zas Tk (by rw[hqe];exact⟨by omega,by show (q:Int)<(a1.length:Int);omega⟩) ?_;refine zaB Tk Tryz.func12 (by kernel_rfl) ?_;refine zad Tk Tryz.func12 (by decide) ?_;refine zae Tk Tryz.func12 rfl (fun e0=>?_) (fun e0=>?_)
 ·have e0:b2.tmod 3=0:=by simpa using e0
  rw[if_pos e0];refine zap Tk Tryz.func12 (gE) ?_;refine zat ?_;refine zaq (zbo (l:=[(2,.own 0 2 0 0),(4,.own 0 4 0 0)]) (Hv:=[(2,.box [.i (strI a0),.osl 0 114,.i (zbD a2),.i (zaP a3),.i (zaP a4),.i (zcN a5),.i (zdt a6)]),(4,.box zbF),(114,.arr 101 5 (a1.set q ⟨nm,t1,t2,t3,t4⟩).length ((a1.set q ⟨nm,t1,t2,t3,t4⟩).map evtI) true)]) ⟨rfl,rfl,trivial⟩ rfl ⟨rfl,rfl,hset ⟨nm,t1,t2,t3,t4⟩,trivial⟩ rfl rfl) ?_;refine zaq (zam 114 rfl rfl) ?_;refine zaq (zaQ rfl) ?_;refine zai Tk Tryz.func12 ?_;refine g_go Tk Tryz.func12 ?_;refine zag Tk (r:=mdlD ⟨a0,a1.set q ⟨nm,t1,t2,t3,t4⟩,a2,a3,a4,a5,a6⟩) rfl rfl rfl trivial rfl rfl ?_;rfl
 have e0:b2.tmod 3≠0:=by simpa using e0
 rw[if_neg e0];refine zae Tk Tryz.func12 rfl (fun e1=>?_) (fun e1=>?_)
 ·have e1:b2.tmod 3=1:=by simpa using e1
  rw[if_pos e1];refine zad Tk Tryz.func12 (by decide) ?_;refine zap Tk Tryz.func12 (gE) ?_;refine zat ?_;refine zaq (zbo (l:=[(2,.own 0 2 0 0),(4,.own 0 4 0 0)]) (Hv:=[(2,.box [.i (strI a0),.osl 0 114,.i (zbD a2),.i (zaP a3),.i (zaP a4),.i (zcN a5),.i (zdt a6)]),(4,.box zbF),(114,.arr 101 5 (a1.set q ⟨tn,t1,t2,t3,IntKind.i64.wrap (b3.tmod 7)⟩).length ((a1.set q ⟨tn,t1,t2,t3,IntKind.i64.wrap (b3.tmod 7)⟩).map evtI) true)]) ⟨rfl,rfl,trivial⟩ rfl ⟨rfl,rfl,hset ⟨tn,t1,t2,t3,IntKind.i64.wrap (b3.tmod 7)⟩,trivial⟩ rfl rfl) ?_;refine zaq (zam 114 rfl rfl) ?_;refine zaq (zaQ rfl) ?_;refine zai Tk Tryz.func12 ?_;refine g_go Tk Tryz.func12 ?_;refine zag Tk (r:=mdlD ⟨a0,a1.set q ⟨tn,t1,t2,t3,IntKind.i64.wrap (b3.tmod 7)⟩,a2,a3,a4,a5,a6⟩) rfl rfl rfl trivial rfl rfl ?_;rfl
 have e1:b2.tmod 3≠1:=by simpa using e1
 rw[if_neg e1];refine zat ?_;refine zaq (zam 114 rfl rfl) ?_;refine zaq (zaQ rfl) ?_;refine zai Tk Tryz.func12 ?_;refine g_go Tk Tryz.func12 ?_;refine zav Tk Tryz.func12 zaz rfl ?_;refine zas Tk (by show (a1.length:Int)≠0;omega) ?_;refine zas Tk (by rw[hqe];exact⟨by omega,by show (q:Int)≤(a1.length:Int);omega⟩) ?_;refine zdc Tk rfl rfl rfl ?_;refine zaB Tk Tryz.func12 (by kernel_rfl) ?_;refine g_go Tk Tryz.func12 ?_;refine zag Tk (r:=.agg [.i (strI a0),.i (.sl 5 ((IntKind.i64.wrap b1).tmod (a1.length:Int)).toNat ((a1.map evtI).take ((IntKind.i64.wrap b1).tmod (a1.length:Int)).toNat)),.i (zbD a2),.i (zaP a3),.i (zaP a4),.i (zcN a5),.i (zdt a6)]) rfl rfl rfl trivial rfl rfl ?_;rw[hqe,Int.toNat_natCast,←List.map_take];show D.agg [.i (strI a0),.i (.sl 5 q ((a1.take q).map evtI)),.i (zbD a2),.i (zaP a3),.i (zaP a4),.i (zcN a5),.i (zdt a6)]=mdlD ⟨a0,a1.take q,a2,a3,a4,a5,a6⟩
 have:(a1.take q).length=q:=by rw[List.length_take];omega
 simp only[mdlD,mdlC,zbb,this]
theorem zti {g:Nat} (hg:zda g) {ty:TypeId} {fr:Nat×Nat} (m:Mdl) (s:Slp) (hm:chgOk m) (hs:slOk s) :
  ∃n,chgR m n∧∀O,za3 g (ptab ty fr) Tryz.prog 12 [mdlD m,slD s] O (mdlD n) [] O:=by
 have h1:=Int.emod_nonneg s.kind (show (7:Int)≠0 by decide);have h2:=Int.emod_lt_of_pos s.kind (show (0:Int)<7 by decide);have h3:s.kind.tmod 7=s.kind%7:=Int.tmod_eq_emod_of_nonneg hs.kind.1
 by_cases e0:s.kind.tmod 7=0
 ·exact zy8 hg m s hm hs e0
 by_cases e1:s.kind.tmod 7=1
 ·exact zy7 hg m s hm hs e1
 by_cases e2:s.kind.tmod 7=2
 ·exact zy6 hg m s hm hs e2
 by_cases e5:s.kind.tmod 7=5
 ·exact zy5 hg m s hm hs e5
 by_cases e6:s.kind.tmod 7=6
 ·exact zy4 hg m s hm hs e6
 exact zxV hg m s hm hs (by omega)
end Go.AI
namespace Go.AI
open Go.Proofs
theorem znT (T:List Tpl) (C:List Ins) (acc:List NLc) (w:Whr) (h:acc=[]∨0<acc.length):0<(excA T C acc w).length:=by
 unfold excA;rcases acc with _|⟨a,r⟩
 ·rw[if_neg (by simp)];simp
 ·show 0<(if sB a.1 (C.getD (w.1%(C.length:Int)).toNat zgs).name=true then a::r else a::r++_).length
  split<;>simp
theorem zst (nt i:Nat) (u:Use22):(ziY nt i u).evs.length=3:=by
 show (ordS _ 3).1.length=3;exact ze5 _ 3
theorem zsa {k:Sk22} (hk:sk22Ok k):chgOk (zcn k):=by
 have hins:∀x∈(mkI k).1++(mkI k).2,0<x.evs.length:=zef (P:=fun x=>0<x.evs.length) _ _ _ fun i hi=>by rw[zst];decide
 refine {ok:=zu2 hk,mv:=zu3 hk,ev:=?_,tl:=?_,cl:=?_,rl:=?_,xl:=?_,nl:=?_}
 ·rw[zg2];decide
 ·rw[zeb];intro t h;obtain⟨j,h1,h2,rfl⟩:=zlh h;refine⟨?_,by show 0<3;decide,by show 3≤1000;decide⟩;show 0<((List.range _).map _).length;rw[List.length_map,List.length_range];exact zsc _
 ·rw[zeK];exact fun x h=>hins x (List.mem_append_left _ h)
 ·rw[zfA];exact fun x h=>hins x (List.mem_append_right _ h)
 ·refine fun x hx=>⟨?_,by have:=(zhZ.2 x hx).2;omega⟩
  revert x
  unfold zcn
  split
  ·simp
  ·intro x hx;obtain⟨i,hi,rfl⟩:=List.mem_map.1 hx;exact znT _ _ _ _ (.inr (znT _ _ _ _ (.inl rfl)))
 ·unfold zcn
  split
  ·simp
  ·rename_i hc;simp only
   split
   ·intro x hx;rw[List.mem_singleton.1 hx];show 0<(zcK _).length;rw[zdb];omega
   ·simp
theorem zx2 {g:Nat} (hg:zda g) {ty:TypeId} {fr:Nat×Nat} (O:List Heap) (k:Sk22) (s:Slp) (hk:sk22Ok k) (hs:slOk s):za3 g (ptab ty fr) Tryz.prog 3 [zuz k,slD s] O (bb true) [] O:=by
 obtain⟨n,hn,hch⟩:=zti hg (ty:=ty) (fr:=fr) (zcn k) s (zsa hk) hs;exact zqh hg O k (slC s) n hk hn.ok hn.mv hch ⟨_,_,_,_,rfl⟩
end Go.AI
namespace Go.Proofs.YtnojpbbaohoadaaGreatDoor
set_option maxRecDepth 100000
theorem zcb:laidOutB Tryz.prog=true:=by kernel_rfl
theorem zfl:mapsRowed Tryz.prog=true:=by kernel_rfl
theorem zeW:(Rows.elaborateChecksRow.inPlace==Tryz.prog.inPlace 3)=true:=by kernel_rfl
theorem zeV:(Rows.elaborateChecksRow.unfollowed==Tryz.prog.unfollowed 3)=true:=by kernel_rfl
theorem zeU:(Rows.elaborateChecksRow.recurses==Tryz.prog.recurses 3)=true:=by kernel_rfl
theorem zeT:(Rows.elaborateChecksRow.named==Tryz.prog.varsNamed 3)=true:=by kernel_rfl
theorem zdG:joinedFacts Tryz.prog 3 Tryz.f3 Rows.elaborateChecksSpec Rows.elaborateChecksRow=true:=by
 simp only[joinedFacts,Bool.and_eq_true]
 repeat' refine And.intro ?_ ?_
 ·kernel_rfl
 ·exact zcb
 ·exact zfl
 ·kernel_rfl
 ·kernel_rfl
 ·kernel_rfl
 ·kernel_rfl
 ·kernel_rfl
 ·kernel_rfl
 ·exact zeW
 ·exact zeV
 ·exact zeU
 ·exact zeT
 ·kernel_rfl
 ·kernel_rfl
 ·kernel_rfl
 ·kernel_rfl
 ·kernel_rfl
 ·kernel_rfl
 ·kernel_rfl
 ·kernel_rfl
 ·kernel_rfl
 ·kernel_rfl
 ·kernel_rfl
 ·kernel_rfl
 ·kernel_rfl
 ·kernel_rfl
 ·kernel_rfl
 ·kernel_rfl
 ·kernel_rfl
 ·kernel_rfl
 ·kernel_rfl
theorem zeo : Tryz.prog.mainIs = some (true, "9aa124d96d2f2fea36404c3e6649a1942013d744947b2e2ae648d5b84282eb38".toList) := by kernel_rfl
theorem zdW:false=Tryz.prog.looks []:=by kernel_rfl
theorem zep:false=Rows.elaborateChecksRow.goesBy Tryz.prog:=by kernel_rfl
end Go.Proofs.YtnojpbbaohoadaaGreatDoor
