/- The layer of abstract runs, part 26. -/
import Derived.Test.YtnojpbbaohoadaaGreatDoorElkY
import Derived.KernelRfl
set_option linter.unusedSimpArgs false
set_option linter.unusedVariables false
set_option linter.all false
set_option maxHeartbeats 4000000
namespace Go.AI
structure PrjOk (b:Aut) (on:List Int) (n:Nat) (V:Unf (List Int)):Prop where
 fst:V.sts[0]? = some (clo b.edges (lowP on [] false) n [0])
 nd:V.sts.Nodup
 el:∀s∈V.sts,s∈subs n
 ne:∀s∈V.sts,s≠[]
 mrk:∀(i:Nat) E,V.sts[i]? = some E→decide ((i:Int)∈V.mkl)=znB b E
 st:∀(i:Nat) E,V.sts[i]? = some E→∀ev∈zzp b on,(nxt b.edges (lowP on [] false) n E ev=[]∧stp3 V.eds i ev = -1) ∨
  ∃j:Nat,stp3 V.eds i ev=(j:Int)∧V.sts[j]? = some (nxt b.edges (lowP on [] false) n E ev)∧nxt b.edges (lowP on [] false) n E ev≠[]
 len:V.sts.length≤32∧V.mkl.length≤32∧V.eds.length≤32*32
abbrev NP:=Nat×Nat
section
variable (b c:Aut) (lp:Int→Bool) (n:Nat) (kp:List Int) (V W:Unf (List Int))
def atW (t:List Int) (z:NP):Prop:=V.sts[z.1]? = some (nxtL b.edges lp n (clo b.edges lp n [0]) t)∧W.sts[z.2]? = some (nxtL c.edges lp n (clo c.edges lp n [0]) t)
def zzr (l:List NP) (z:NP) (ev:Int):Prop:=∀E F,V.sts[z.1]? = some E→W.sts[z.2]? = some F→(nxt b.edges lp n E ev=[]↔nxt c.edges lp n F ev=[]) ∧
 (nxt b.edges lp n E ev≠[]→∃y∈l,V.sts[y.1]? = some (nxt b.edges lp n E ev)∧W.sts[y.2]? = some (nxt c.edges lp n F ev))
def zzq (z:NP):Prop:=∀E F,V.sts[z.1]? = some E→W.sts[z.2]? = some F→znB b E=znB c F
structure prOk (i:Nat) (l:List NP):Prop where
 nd:l.Nodup
 zero:(0,0)∈l
 at_:∀z∈l,∃t,(∀ev∈t,ev∈kp)∧atW b c lp n V W t z
 mrk:∀(k:Nat) z,k<i→l[k]? = some z→zzq b c V W z
 ev:∀(k:Nat) z,k<i→l[k]? = some z→∀ev∈kp,zzr b c lp n V W l z ev
variable {b c lp n kp V W}
end
section
variable {b c:Aut} {on:List Int} {n:Nat} {kp:List Int} {V W:Unf (List Int)}
end
end Go.AI
namespace Go.AI
set_option maxRecDepth 20000
section
variable {σ τ:Type} {eq:σ→σ→Bool} {eq':τ→τ→Bool} {lim:Bool} {step:σ→Int→σ×Bool×Int} {step':τ→Int→τ×Bool×Int} {mkd:σ→Bool} {mkd':τ→Bool} {P:σ→Prop} {f:σ→τ} {alpha:List Int}
structure Sim (eq:σ→σ→Bool) (eq':τ→τ→Bool) (step:σ→Int→σ×Bool×Int) (step':τ→Int→τ×Bool×Int) (mkd:σ→Bool) (mkd':τ→Bool) (P:σ→Prop) (f:σ→τ) (alpha:List Int):Prop where
 st:∀s ev,P s→ev∈alpha→(step' (f s) ev).2=(step s ev).2∧((step s ev).2.1=true→(step' (f s) ev).1=f (step s ev).1∧P (step s ev).1)
 eq:∀a b,P a→P b→eq' (f a) (f b)=eq a b
 mark:∀s,P s→mkd' (f s)=mkd s
end
end Go.AI
namespace Go.AI
abbrev pk (x ev:Int):Value:=.agg ⟨[.int .i64 x,.int .i64 ev]⟩
def zzg (es:List Edg):List (Value×Int):=es.foldl (fun m e=>mset m (pk e.1 e.2.1) e.2.2) []
section
variable {σ:Type} [DecidableEq σ] {mkd:σ→Bool} {al:List Int} {P:σ→Prop} {step:σ→Int→σ×Bool×Int} {V:Unf σ}
end
end Go.AI
namespace Go.AI
open Go.Proofs
set_option maxRecDepth 20000
end Go.AI
namespace Go.AI
open Go.Proofs
section
variable {P:Program} {T:TT} {f:FuncId} {fn:Func} {code:Code}
end
section
variable {c:Cx} {s:St} {k:List Item} {ops:Array Oper} {rest:List Nat} {o:Oper}
end
section
variable {c:Cx} {s:St} {k:List Item} {ops:Array Oper} {rest:List Nat} {o:Oper} {H:Heap} {O:List Heap}
def zzw (ob:Obj) (m:MC):Prop:=∃es ck,ob=.map es ck∧es.toList.map (fun e=>(e.key,e.val))=m.vals
end
section
variable {c:Cx} {ops:Array Oper} {O:List Heap} {n:Nat} {F:SH→List Pl→Prop}
end
section
variable {c:Cx} {ops:Array Oper} {O:List Heap} {n:Nat} {F:SH→List Pl→Prop} {o:Oper} {rest:List Oper} {x:SH} {acc:List Pl} {i:Nat}
end
end Go.AI
namespace Go.AI
open Go.Proofs
set_option maxRecDepth 20000
abbrev Tb:=Nat×Obj
structure tbOk (l:List Aut) (bs:List Tb):Prop where
 len:bs.length=l.length
 is:∀(i:Nat) a b,l[i]? = some a→bs[i]? = some b→zzw b.2 (.i .i64 (zzg a.edges))
structure byt (b:Int):Prop where
 h0:0≤b
 h1:b≤255
def ztm (m:Ext):Sta×Int:=if chk m≠0 then (zgr,chk m) else (zdJ m,0)
theorem zx7 (O:List Heap) (m:Ext) (hok:extOk m):zao Tryz.prog 79 [extD m] O (.tup [staD (ztm m).1,ii (ztm m).2]) [] O:=by
 have hv:chk m=0→m.vars.length≤16:=by
  intro h
  by_cases h2:m.vars.length≤16
  ·exact h2
  ·exfalso;have e:zbz m.vars=3:=by
    unfold zbz;rw[if_pos (by omega)]
   unfold chk at h;rw[e] at h
   revert h
   repeat' split
   all_goals omega
 generalize hR:ztm m=R;unfold ztm at hR;refine zaa Tk Tryz.func79 rfl Tryz.call79 Tryz.ntmps79 (Nat.le_of_ble_eq_true rfl) fun E=>?_;refine zai Tk Tryz.func79 ?_;refine zaj Tk Tryz.func79 (zjk _ m hok) rfl rfl rfl rfl rfl ?_;refine zae Tk Tryz.func79 rfl (fun h1=>?_) (fun h1=>?_)
 ·have h1:=bneT h1;rw[if_pos h1] at hR;subst hR;refine zaD Tk (r:=_) rfl rfl rfl trivial rfl rfl ?_
  repeat' (first|refine zbR ?_|refine zbu ?_|refine zcv ?_|refine CoDL.cons ?_ ?_|exact CoDL.nil|exact zbd|refine zcB ?_|refine CoLL.cons ?_ ?_|exact CoLL.nil|refine CoL.cons ?_ ?_|exact CoL.nil|exact CoI.refl _|exact CoL.refl _|exact CoLL.refl _|exact CoDL.refl _|exact CoD.refl _)
 have h1:=bneF h1;rw[if_neg (by simpa using h1)] at hR;subst hR;refine zaj Tk Tryz.func79 (zwH _ m (hv (by simpa using h1))) rfl rfl rfl rfl rfl ?_;refine zag Tk (r:=.tup [staD (zdJ m),ii 0]) rfl rfl rfl trivial rfl rfl ?_;rfl
def ckS (m:Ext) (s:Sta):Int:=
 if chk m≠0 then chk m else if s.loc<0∨s.loc≥m.locs then 2 else if s.vals.length≠m.vars.length then 4 else if within m.vars s.vals=false then 2 else 0
theorem zfZ (O:List Heap) (m:Ext) (s:Sta) (hok:extOk m):zao Tryz.prog 34 [extD m,staD s] O (ii (ckS m s)) [] O:=by
 generalize hR:ckS m s=R;unfold ckS at hR;obtain⟨sl,sv⟩:=s;simp only at hR;have hw:=fun O=>zun O m.vars sv hok.va;generalize within m.vars sv=W at hw hR;refine zaa Tk Tryz.func34 rfl Tryz.call34 Tryz.ntmps34 (Nat.le_of_ble_eq_true rfl) fun E=>?_;refine zai Tk Tryz.func34 ?_;refine zaj Tk Tryz.func34 (zjk _ m hok) rfl rfl rfl rfl rfl ?_;refine zae Tk Tryz.func34 rfl (fun h1=>?_) (fun h1=>?_)
 ·have h1:=bneT h1;rw[if_pos h1] at hR;refine zag Tk (r:=ii (chk m)) rfl rfl rfl trivial rfl rfl ?_;exact congrArg ii hR
 have h1:=bneF h1;rw[if_neg (by simpa using h1)] at hR;refine zaK Tk Tryz.func34 rfl (fun h2=>?_) (fun h2=>?_)
 ·have h2:sl<0:=by simpa using h2
  rw[if_pos (.inl h2)] at hR;refine gcT Tk Tryz.func34 rfl ?_;refine zag Tk (r:=ii 2) rfl rfl rfl trivial rfl rfl ?_;exact congrArg ii hR
 have h2:¬sl<0:=by simpa using h2
 refine zae Tk Tryz.func34 rfl (fun h3=>?_) (fun h3=>?_)
 ·have h3:m.locs≤sl:=by simpa using h3
  rw[if_pos (.inr h3)] at hR;refine zag Tk (r:=ii 2) rfl rfl rfl trivial rfl rfl ?_;exact congrArg ii hR
 have h3:¬m.locs≤sl:=by simpa using h3
 rw[if_neg (by rintro (h|h);exact h2 h;exact h3 h)] at hR;refine zae Tk Tryz.func34 rfl (fun h4=>?_) (fun h4=>?_)
 ·have h4:=bneT h4;rw[if_pos (by intro e;exact h4 (by rw[e]))] at hR;refine zag Tk (r:=ii 4) rfl rfl rfl trivial rfl rfl ?_;exact congrArg ii hR
 have h4:=bneF h4;have h4:sv.length=m.vars.length:=by
  have:((sv.length:Nat):Int)=m.vars.length:=by simpa using h4
  omega
 rw[if_neg (by rw[h4];simp)] at hR;refine zaj Tk Tryz.func34 (hw _) rfl rfl rfl rfl rfl ?_
 cases W with
 |false=>
  refine gcT Tk Tryz.func34 rfl ?_;refine zag Tk (r:=ii 2) rfl rfl rfl trivial rfl rfl ?_;exact congrArg ii hR
 |true=>
  refine gcF Tk Tryz.func34 rfl ?_;refine zag Tk (r:=ii 0) rfl rfl rfl trivial rfl rfl ?_;exact congrArg ii hR
def stpR (m:Ext) (s:Sta) (ev:Int):Sta×Bool×Int:=if ckS m s≠0 then (zgr,false,ckS m s) else if ev ∉ m.alpha then (zgr,false,9) else zhC m s ev
theorem zkL {m:Ext} {s:Sta} (h:ckS m s=0):chk m=0∧s.vals.length=m.vars.length∧within m.vars s.vals=true∧0≤s.loc∧s.loc<m.locs:=by
 unfold ckS at h
 by_cases h1:chk m≠0
 ·rw[if_pos h1] at h;exact absurd h h1
 rw[if_neg h1] at h
 by_cases h2:s.loc<0∨s.loc≥m.locs
 ·rw[if_pos h2] at h;cases h
 rw[if_neg h2] at h
 by_cases h3:s.vals.length≠m.vars.length
 ·rw[if_pos h3] at h;cases h
 rw[if_neg h3] at h
 by_cases h4:within m.vars s.vals=false
 ·rw[if_pos h4] at h;cases h
 exact⟨by simpa using h1,by simpa using h3,by simpa using h4,by omega,by omega⟩
theorem zyi (O:List Heap) (m:Ext) (s:Sta) (ev:Int) (hok:extOk m):zao Tryz.prog 83 [extD m,staD s,ii ev] O (.tup [staD (stpR m s ev).1,bb (stpR m s ev).2.1,ii (stpR m s ev).2.2]) [] O:=by
 have hck:=fun O=>zfZ O m s hok;have hs:=@zkL m s;have hst:=fun O hr hl=>zyh O m s ev hok hr hl;generalize hR:stpR m s ev=R;unfold stpR at hR;generalize ckS m s=c at *;refine zaa Tk Tryz.func83 rfl Tryz.call83 Tryz.ntmps83 (Nat.le_of_ble_eq_true rfl) fun E=>?_;refine zai Tk Tryz.func83 ?_;refine zaj Tk Tryz.func83 (hck _) rfl rfl rfl rfl rfl ?_;refine zae Tk Tryz.func83 rfl (fun h1=>?_) (fun h1=>?_)
 ·have h1:=bneT h1;rw[if_pos h1] at hR;subst hR;refine zaD Tk (r:=_) rfl rfl rfl trivial rfl rfl ?_;exact coZ
 have h1:=bneF h1;rw[if_neg (by simpa using h1)] at hR;obtain⟨h2,h3,-⟩:=hs h1;have hr:=zhu h2;refine zaj Tk Tryz.func83 (zih _ m.alpha ev hok.al (zcQ hr.alpha).1) rfl rfl rfl rfl rfl ?_;refine zae Tk Tryz.func83 rfl (fun h4=>?_) (fun h4=>?_)
 ·have h4:ev ∉ m.alpha:=by simpa using h4
  rw[if_pos h4] at hR;subst hR;refine zaD Tk (r:=_) rfl rfl rfl trivial rfl rfl ?_;exact coZ
 have h4:ev∈m.alpha:=by simpa using h4
 rw[if_neg (by simpa using h4)] at hR;subst hR;have hst:=fun O=>hst O hr h3;generalize zhC m s ev=n at *;obtain⟨⟨nl,nv⟩,np,ne⟩:=n;refine zaj Tk Tryz.func83 (hst _) rfl rfl rfl rfl rfl ?_;refine zag Tk (r:=.tup [staD ⟨nl,nv⟩,bb np,ii ne]) rfl rfl rfl trivial rfl rfl ?_;rfl
theorem zfq {n:Int}:∀{l:List Int} {y:Int},zaO n l (some y)=0→y+1≤n→(l.length:Int)≤n-1-y
 |[],y,_,h=>by simp only[List.length_nil];omega
 |x::r,y,h,hy=>by
  simp only[zaO] at h
  by_cases h1:x<0∨x≥n
  ·rw[if_pos h1] at h;exact absurd h (by decide)
  rw[if_neg h1] at h
  by_cases h2:(some y).any (x ≤ ·)=true
  ·rw[if_pos h2] at h;exact absurd h (by decide)
  rw[if_neg h2] at h;have hxy:y<x:=by simpa using h2
  have:=zfq h (by omega);simp only[List.length_cons];omega
theorem zfp {n:Int} (hn:0≤n):∀{l:List Int},zaO n l none=0→(l.length:Int)≤n
 |[],_=>by simpa using hn
 |x::r,h=>by
  simp only[zaO] at h
  by_cases h1:x<0∨x≥n
  ·rw[if_pos h1] at h;exact absurd h (by decide)
  rw[if_neg h1] at h;have h':zaO n r (some x)=0:=by simpa using h
  have:=zfq h' (by omega);simp only[List.length_cons];omega
def zyv (lo hi:Int):List Int:=(List.range (hi-lo+1).toNat).map fun (k:Nat)=>lo+k
def zx9 (out:List (List Int)) (v:Vr):List (List Int):=out.flatMap fun vals=>(zyv v.low v.high).map fun n=>vals++[n]
def allV (l:List Vr):List (List Int):=l.foldl zx9 [[]]
end Go.AI
namespace Go.AI
set_option maxRecDepth 20000
structure Bx where
 low:List Int
 high:List Int
def inV:List Vr→List Int→Prop
 |[],[]=>True
 |v::r,x::xs=>(v.low≤x∧x≤v.high)∧inV r xs
 |_,_=>False
structure DomOk (l:List Vr) (out:List (List Int)):Prop where
 mem:∀v,v∈out↔inV l v
 nd:out.Nodup
end Go.AI
namespace Go.AI
open Go.Proofs
set_option maxRecDepth 20000
structure domOk (l:List Vr):Prop where
 len:l.length≤16
 b:∀v∈l,(-65536≤v.low∧v.high≤65536)∧v.low≤v.high
 cnt:∀j,(allV (l.take j)).length≤4096
structure valsB (l:List Vr) (dom:List (List Int)):Prop where
 vb:∀a∈l,-65536≤a.low∧a.high≤65536
 ll:l.length≤16
 len:dom.length≤4096
 vl:∀v∈dom,v.length=l.length
 b:∀v∈dom,∀j,-65536≤v.getD j 0∧v.getD j 0≤65536
abbrev obyJ (T:List UInt8):Ob:=.arr 5 1 T.length (u8l T) true
theorem znx (T s:List UInt8):Ob.arr 5 1 (T.length+s.length) (u8l T++u8l s) true=obyJ (T++s):=by rw[zwA];simp[obyJ]
theorem zjE (K:Kn) (s:ByteArray):RepL K (Lib.strCells s) (u8l s.data.toList).flatten:=zk0 K s.data.toList
theorem zfw (s:ByteArray):s.data.toList.length=s.size:=by rw[Array.length_toList];rfl
theorem zvB {c:Cx} (hP:c.P=Tryz.prog) {s:St} {o:Oper} {t nm nm2:Nat} {dp:D} {H:Heap} {O:List Heap} (sb:ByteArray) (T:List UInt8) (hdp:dp=.i (.v (.pointer none))∨dp=.own 0 nm 0 0) (hlim:T.length+sb.size≤140737488355328) (ht:o.dst=some t) (hn:t<s.n) (hS:s.S=H::O)
  (hb:look H nm=some (.tb 277 [dp,.osl 0 nm2])) (ha:look H nm2=some (obyJ T)) (hne:nm≠nm2) :
  Wp c o s 155 [.own 0 nm 0 0,.i (.v (.string sb))] {σ:=(t,.tup [ii sb.size,.i (.v .nilIface)])::zdS nm2 s.σ,S:=((nm,.tb 277 [.own 0 nm 0 0,.osl 0 nm2])::(nm2,obyJ (T++sb.data.toList))::zbp nm2 ((nm,.tb 277 [.own 0 nm 0 0,.osl 0 nm2])::H))::O,n:=s.n}:=by
 have h:=zif (c:=c) (s:=s) (o:=o) (ys:=u8l sb.data.toList) (m:=sb.data.toList.length) (T:=277) (ty:=5) (rd:=.tup [ii sb.size,.i (.v .nilIface)]) (dx:=.i (.v (.string sb))) (x:=.string sb) (res:=.tuple #[.int .i64 sb.size,.nilIface]) (xs:=u8l T) (n:=T.length) (by rw[hP];exact zwu sb) (by rw[hP];exact Tryz.call155)
  (fun K ρ sh v h=>zaT h) (fun K ρ sh=>.tup (.cons (.i (.v rfl)) (.cons (.i (.v rfl)) .nil))) hdp ht hn hS hb ha hne (fun K=>zjE K sb) (zvV _) (by simp[u8l]) (by rw[zfw];exact hlim)
 rwa [znx] at h
theorem zvC {c:Cx} (hP:c.P=Tryz.prog) {s:St} {o:Oper} {t nm nm2:Nat} {dp:D} {H:Heap} {O:List Heap} {T:List UInt8} (h0:T≠[]) (ht:o.dst=some t) (hn:t<s.n) (hS:s.S=H::O)
  (hb:look H nm=some (.tb 277 [dp,.osl 0 nm2])) (ha:look H nm2=some (obyJ T)) :
  Wp c o s 157 [.own 0 nm 0 0] {σ:=(t,.i (.v (.string ⟨T.toArray⟩)))::zdS nm2 s.σ,S:=((nm2,.arr 5 1 0 [] true)::zbp nm2 H)::O,n:=s.n}:=
 zs5 (c:=c) (s:=s) (o:=o) (T:=277) (ty:=5) (by rw[hP];exact zwI) (by rw[hP];exact Tryz.call157) h0 ht hn hS hb ha
theorem znZ {c:Cx} (hP:c.P=Tryz.prog) {s:St} {o:Oper} {t nm nm2:Nat} {dp:D} {H:Heap} {O:List Heap} (b:UInt8) (T:List UInt8) (hdp:dp=.i (.v (.pointer none))∨dp=.own 0 nm 0 0) (hlim:T.length+1≤140737488355328) (ht:o.dst=some t) (hn:t<s.n) (hS:s.S=H::O)
  (hb:look H nm=some (.tb 277 [dp,.osl 0 nm2])) (ha:look H nm2=some (obyJ T)) (hne:nm≠nm2) :
  Wp c o s 156 [.own 0 nm 0 0,.i (.v (.int .u8 b.toNat))] {σ:=(t,.i (.v .nilIface))::zdS nm2 s.σ,S:=((nm,.tb 277 [.own 0 nm 0 0,.osl 0 nm2])::(nm2,obyJ (T++[b]))::zbp nm2 ((nm,.tb 277 [.own 0 nm 0 0,.osl 0 nm2])::H))::O,n:=s.n}:=by
 have h:=zif (c:=c) (s:=s) (o:=o) (ys:=u8l [b]) (m:=1) (T:=277) (ty:=5) (rd:=.i (.v .nilIface)) (dx:=.i (.v (.int .u8 b.toNat))) (x:=.int .u8 b.toNat) (res:=.nilIface) (xs:=u8l T) (n:=T.length) (by rw[hP];exact zuj b.toNat) (by rw[hP];exact Tryz.call156)
  (fun K ρ sh v h=>zaT h) (fun K ρ sh=>.i (.v rfl)) hdp ht hn hS hb ha hne (fun K=>zk0 K [b]) (zvV _) (by simp[u8l]) hlim
 rwa [show T.length+1=T.length+[b].length from rfl,znx] at h
def zkc:List UInt8→List Int→List UInt8
 |T,[]=>T
 |T,n::r=>zkc (T++(zcW n).data.toList++[32]) r
def zh5:List UInt8→List (List Int)→List UInt8
 |T,[]=>T
 |T,l::r=>zh5 (zkc T l++[59]) r
def zku (ls:List (List Int)):ByteArray:=⟨(zh5 [] ls).toArray⟩
abbrev dp3J (p:Bool):D:=bif p then .own 0 3 0 0 else .i (.v (.pointer none))
theorem zs4 (p:Bool):dp3J p=.i (.v (.pointer none))∨dp3J p=.own 0 3 0 0:=by cases p;exact .inl rfl;exact .inr rfl
theorem zyM {g:Nat} (hg:zda g) {ty:TypeId} {fr:Nat×Nat} (O:List Heap) (ls:List (List Int)) (h0:ls≠[]) (hn:ls.length≤4096) (hl:∀l∈ls,l.length≤4096∧∀v∈l,i64B v) :
  za3 g (ptab ty fr) Tryz.prog 81 [.i (zso ls)] O (.i (.v (.string (zku ls)))) [] O:=by
 have hno:zku ls=⟨(zh5 [] (ls.drop 0)).toArray⟩:=rfl;have hpos:0<ls.length:=List.length_pos_iff.2 h0;generalize zku ls=R at *;refine zaN [200003,200022,200023,200025,200027] Tk Tryz.func81 rfl Tryz.call81 Tryz.ntmps81 (Nat.le_of_ble_eq_true rfl) fun E hE=>?_;refine zai Tk Tryz.func81 ?_;refine g_tb Tk Tryz.func81 rfl rfl rfl rfl rfl rfl rfl rfl ?_;refine zah ?_;refine zaq (zul 3 60 5 1 rfl rfl rfl) ?_;refine zak (fun x:Nat×List UInt8×Bool=>[(3,.own 0 3 0 0),(8,.i (zso ls)),(9,ii ls.length),(10,ii x.1)]) (fun x=>[(3,.tb 277 [dp3J x.2.2,.osl 0 60]),(60,obyJ x.2.1)]) (fun _=>O) 28
  (fun x=>x.1≤ls.length∧x.2.1.length≤100000*x.1∧(x.1=0∨x.2.1≠[])∧R=⟨(zh5 x.2.1 (ls.drop x.1)).toArray⟩) (fun x=>ls.length-x.1) (0,[],false)
  ⟨Nat.zero_le _,by simp,.inl rfl,hno⟩ ⟨rfl,rfl,rfl,rfl,trivial⟩ rfl ⟨rfl,rfl,trivial⟩ rfl rfl ?_
 clear hno;rintro ⟨i,T,p⟩ ⟨hi,hTl,hT0,hno⟩ ih;simp only at hi hTl hT0 hno;refine zai Tk Tryz.func81 ?_;refine zae Tk Tryz.func81 rfl (fun g1=>?_) (fun g1=>?_)
 ·have h2:i<ls.length:=by simpa using g1
  clear g1;have gb:(ls.map fun x=>[zdj x])[(i:Int).toNat]? = some [zdj ls[i]]:=zan (f:=fun x=>[zdj x]) h2;have db:ls.drop i=ls[i]::ls.drop (i+1):=List.drop_eq_getElem_cons h2;have hll:=hl _ (List.getElem_mem h2);rw[db] at hno;simp only[zh5] at hno;clear db;generalize ls[i]=l at *;have hi1:ii (IntKind.i64.wrap ((i:Int)+1))=ii ((i+1:Nat):Int):=congrArg ii (zaC (n:=4096) (by omega) (by decide));refine zad Tk Tryz.func81 (by exact⟨by omega,by show (i:Int)<(ls.length:Int);omega⟩) ?_;refine zap Tk Tryz.func81 (gb) ?_;have hF0:zkc T l=zkc T (l.drop 0):=rfl;generalize zkc T l=F at *;refine zah ?_;refine zak (fun x:Nat×List UInt8×Bool=>[(3,.own 0 3 0 0),(8,.i (zso ls)),(9,ii ls.length),(10,ii i),(14,ints l),(15,ii l.length),(16,ii x.1)]) (fun x=>[(3,.tb 277 [dp3J x.2.2,.osl 0 60]),(60,obyJ x.2.1)]) (fun _=>O) 28
   (fun x=>x.1≤l.length∧x.2.1.length≤T.length+22*x.1∧F=zkc x.2.1 (l.drop x.1)) (fun x=>l.length-x.1) (0,T,p)
   ⟨Nat.zero_le _,by simp,hF0⟩ ⟨rfl,rfl,rfl,rfl,rfl,rfl,rfl,trivial⟩ rfl ⟨rfl,rfl,trivial⟩ (by cases p<;>rfl) rfl ?_
  clear hF0;rintro ⟨k,U,q⟩ ⟨hk,hUl,hF⟩ ih2;simp only at hk hUl hF;refine zai Tk Tryz.func81 ?_;refine zae Tk Tryz.func81 rfl (fun g2=>?_) (fun g2=>?_)
  ·have h3:k<l.length:=by simpa using g2
   clear g2;have gl:(l.map fun x=>[vi x])[(k:Int).toNat]? = some [vi l[k]]:=zan (f:=fun x=>[vi x]) h3;have dl:l.drop k=l[k]::l.drop (k+1):=List.drop_eq_getElem_cons h3;have hv:=hll.2 _ (List.getElem_mem h3);rw[dl] at hF;simp only[zkc] at hF;clear dl;generalize l[k]=n at *;have hz:=zcI hv.1 hv.2;have hk1:ii (IntKind.i64.wrap ((k:Int)+1))=ii ((k+1:Nat):Int):=congrArg ii (zaC (n:=4096) (by omega) (by decide));refine zad Tk Tryz.func81 (by exact⟨by omega,by show (k:Int)<(l.length:Int);omega⟩) ?_;refine zap Tk Tryz.func81 (gl) ?_;refine zbB Tk Tryz.func81 hE (zkd hg _ n hv.1 hv.2) rfl rfl rfl rfl rfl rfl ?_;generalize zcW n=W at *;refine zb8 Tk Tryz.func81 rfl rfl rfl rfl (zvB rfl W U (zs4 q) (by omega) rfl (show 22<28 by decide) rfl rfl rfl (by decide)) ?_
   refine zb8 Tk Tryz.func81 rfl rfl rfl rfl (znZ rfl 32 (U++W.data.toList) (.inr rfl) (by rw[List.length_append,zfw];omega) rfl (show 23<28 by decide) rfl rfl rfl (by decide)) ?_;refine zah ?_;refine ih2 (k+1,U++W.data.toList++[32],true) _ _ ⟨h3,by simp only[List.length_append,zfw,List.length_singleton];omega,hF⟩ (by simp only;omega) ⟨rfl,rfl,rfl,rfl,rfl,rfl,hk1,trivial⟩ rfl ⟨rfl,rfl,trivial⟩ rfl rfl
  ·have h3:l.length≤k:=by simpa using g2
   rw[List.drop_eq_nil_of_le h3] at hF;simp only[zkc] at hF;subst hF;refine zb8 Tk Tryz.func81 rfl rfl rfl rfl (znZ rfl 59 F (zs4 q) (by omega) rfl (show 25<28 by decide) rfl rfl rfl (by decide)) ?_;refine zah ?_;refine ih (i+1,F++[59],true) _ _ ⟨h2,by simp only[List.length_append,List.length_singleton];omega,.inr (by simp),hno⟩ (by simp only;omega) ⟨rfl,rfl,rfl,hi1,trivial⟩ rfl ⟨rfl,rfl,trivial⟩ rfl rfl
 ·have h2:ls.length≤i:=by simpa using g1
  rw[List.drop_eq_nil_of_le h2] at hno;simp only[zh5] at hno;subst hno;have hT0:T≠[]:=hT0.resolve_left (by omega);refine zb8 Tk Tryz.func81 rfl rfl rfl rfl (zvC rfl hT0 rfl (show 27<28 by decide) rfl rfl rfl) ?_;refine zag Tk (r:=.i (.v (.string ⟨T.toArray⟩))) rfl rfl rfl trivial rfl rfl ?_;rfl
def zhd (x:Int):List Int→Nat→Int
 |[],_=>-1
 |y::r,i=>if x=y then i else zhd x r (i+1)
theorem zkj (x:Int):∀(l:List Int) (i:Nat),zhd x l i≥0↔x∈l
 |[],_=>by simp[zhd]
 |y::r,i=>by
  simp only[zhd]
  by_cases h:x=y
  ·simp only[if_pos h,h];simp
  ·simp only[if_neg h];rw[zkj x r (i+1)];simp[h]
theorem zsz (x:Int) (l:List Int) (i:Nat):decide (zhd x l i≥0)=decide (x∈l):=decide_eq_decide.2 (zkj x l i)
theorem zsy (O:List Heap) (l:List Int) (x:Int) (hl:l.length≤zar):zao Tryz.prog 152 [ints l,ii x] O (ii (zhd x l 0)) [] O:=by
 generalize hR:zhd x l 0=R;refine zaa Tk Tryz.func152 rfl Tryz.call152 Tryz.ntmps152 (Nat.le_of_ble_eq_true rfl) fun E=>?_;refine zai Tk Tryz.func152 ?_;refine zah ?_;refine zak (fun i:Nat=>[(0,ints l),(1,ii x),(7,ii l.length),(8,ii i)]) (fun _=>[]) (fun _=>O) 19
  (fun i=>i≤l.length∧zhd x (l.drop i) i=R) (fun i=>l.length-i) 0 ⟨Nat.zero_le _,hR⟩ ⟨rfl,rfl,rfl,rfl,trivial⟩ rfl trivial rfl rfl ?_
 rintro i ⟨hi,hno⟩ ih;clear hR;refine zai Tk Tryz.func152 ?_;refine zae Tk Tryz.func152 rfl (fun g1=>?_) (fun g1=>?_)
 ·have h1:i<l.length:=by simpa using g1
  have gl:(l.map fun x=>[vi x])[(i:Int).toNat]? = some [vi l[i]]:=zan (f:=fun x=>[vi x]) h1;have dl:l.drop i=l[i]::l.drop (i+1):=List.drop_eq_getElem_cons h1;rw[dl] at hno;simp only[zhd] at hno;clear dl;generalize l[i]=y at *;refine zad Tk Tryz.func152 (by exact⟨by omega,by show (i:Int)<(l.length:Int);omega⟩) ?_;refine zap Tk Tryz.func152 (gl) ?_;refine zae Tk Tryz.func152 rfl (fun g2=>?_) (fun g2=>?_)
  ·have g2:x=y:=beqT g2;rw[if_pos g2] at hno;subst hno;refine zag Tk (r:=ii (i:Int)) rfl rfl rfl trivial rfl rfl ?_;rfl
  ·have g2:x≠y:=beqF g2;rw[if_neg g2] at hno;refine zah ?_;exact ih (i+1) _ _ ⟨h1,hno⟩ (by omega) ⟨rfl,rfl,rfl,congrArg ii (zaC h1 hl),trivial⟩ rfl trivial rfl rfl
 ·have h1:l.length≤i:=by simpa using g1
  rw[List.drop_eq_nil_of_le h1] at hno;simp only[zhd] at hno;subst hno;refine zag Tk (r:=ii (-1)) rfl rfl rfl trivial rfl rfl ?_;rfl
theorem zkG (O:List Heap) (l:List Int) (x:Int) (hl:l.length≤zar):zao Tryz.prog 75 [ints l,ii x] O (bb (decide (x∈l))) [] O:=by
 rw[←zsz x l 0];have h:=fun O=>zsy O l x hl;refine zaa Tk Tryz.func75 rfl Tryz.call75 Tryz.ntmps75 (Nat.le_of_ble_eq_true rfl) fun E=>?_;refine zai Tk Tryz.func75 ?_;refine zaj Tk Tryz.func75 (h _) rfl rfl rfl rfl rfl ?_;refine zag Tk (r:=bb (decide (zhd x l 0≥0))) rfl rfl rfl trivial rfl rfl ?_;rfl
theorem zn3 (O:List Heap) (l:List Int) (hl:l.length*8≤big):zao Tryz.prog 86 [ints l] O (ints l) [] O:=by
 refine zaa Tk Tryz.func86 rfl Tryz.call86 Tryz.ntmps86 (Nat.le_of_ble_eq_true rfl) fun E=>?_;refine zai Tk Tryz.func86 ?_;refine znP Tk Tryz.func86 rfl rfl fun b hb=>?_;refine zae Tk Tryz.func86 rfl (fun h1=>?_) (fun h1=>?_)
 ·have hl0:l=[]:=List.eq_nil_of_length_eq_zero (hb h1);subst hl0;refine zaD Tk (r:=.i (.v (.slice none 0 0))) rfl rfl rfl trivial rfl rfl ?_;exact zcv zbd
 ·refine zad Tk Tryz.func86 (by exact⟨by show (0+l.length)*8≤140737488355328;simp only[big] at hl;omega,by show 0+l.length≤9223372036854775807;simp only[big] at hl;omega⟩) ?_;refine za4 (zbo (l:=[(2,.osl 0 7)]) (Hv:=[(7,.arr 3 1 (0+l.length) ([]++l.map fun x=>[vi x]) true)]) ⟨rfl,trivial⟩ rfl ⟨rfl,trivial⟩ rfl rfl) ?_;rw[Nat.zero_add,List.nil_append];refine za4 (zam 7 rfl rfl) ?_;refine zag Tk (r:=ints l) rfl rfl rfl trivial rfl rfl ?_;rfl
def fkey (s:Sta):ByteArray:=zku [[s.loc],s.vals]
structure keyOkJ (s:Sta):Prop where
 loc:i64B s.loc
 len:s.vals.length≤4096
 vals:∀v∈s.vals,i64B v
theorem zfD {g:Nat} (hg:zda g) {ty:TypeId} {fr:Nat×Nat} (O:List Heap) (s:Sta) (hs:keyOkJ s):za3 g (ptab ty fr) Tryz.prog 80 [staD s] O (.i (.v (.string (fkey s)))) [] O:=by
 have hk:=fun O=>zyM hg (ty:=ty) (fr:=fr) O [[s.loc],s.vals] (by simp) (by simp) (by
  intro l hl;simp only[List.mem_cons,List.mem_nil_iff,or_false] at hl;rcases hl with rfl|rfl
  ·exact⟨by simp,fun v hv=>by simp only[List.mem_singleton] at hv;subst hv;exact hs.loc⟩
  ·exact⟨hs.len,hs.vals⟩)
 unfold fkey;generalize zku [[s.loc],s.vals]=K at *;obtain⟨l,v⟩:=s;refine zaN [] Tk Tryz.func80 rfl Tryz.call80 Tryz.ntmps80 (Nat.le_of_ble_eq_true rfl) fun E hE=>?_;refine zai Tk Tryz.func80 ?_;refine zbB Tk Tryz.func80 hE (hk _) rfl rfl rfl rfl rfl rfl ?_;refine zag Tk (r:=.i (.v (.string K))) rfl rfl rfl trivial rfl rfl ?_;rfl
theorem zpZ (O:List Heap) (m:Ext) (s:Sta) (ev:Int) (d nm:Nat) (ho:zab O d nm=some (.box (extC m))) (hok:extOk m):zao Tryz.prog 82 [staD s,ii ev,.own d nm 0 0] O (.tup [staD (stpR m s ev).1,bb (stpR m s ev).2.1,ii (stpR m s ev).2.2]) [] O:=by
 have h:=fun O=>zyi O m s ev hok;generalize stpR m s ev=R at *;obtain⟨⟨a,b⟩,p,e⟩:=R;obtain⟨l,v⟩:=s;refine zaa Tk Tryz.func82 rfl Tryz.call82 Tryz.ntmps82 (Nat.le_of_ble_eq_true rfl) fun E=>?_;refine zai Tk Tryz.func82 ?_;refine zbE Tk Tryz.func82 (zay ho) ?_;refine zaj Tk Tryz.func82 (h _) rfl rfl rfl rfl rfl ?_;refine zag Tk (r:=.tup [staD ⟨a,b⟩,bb p,ii e]) rfl rfl rfl trivial rfl rfl ?_;rfl
theorem zp0 (O:List Heap) (m:Ext) (s:Sta) (d nm:Nat) (ho:zab O d nm=some (.box (extC m))) (hok:extOk m):zao Tryz.prog 84 [staD s,.own d nm 0 0] O (bb (decide (s.loc∈m.marked))) [] O:=by
 have h:=fun O=>zkG O m.marked s.loc hok.ma;obtain⟨l,v⟩:=s;refine zaa Tk Tryz.func84 rfl Tryz.call84 Tryz.ntmps84 (Nat.le_of_ble_eq_true rfl) fun E=>?_;refine zai Tk Tryz.func84 ?_;refine zbE Tk Tryz.func84 (zay ho) ?_;refine zaj Tk Tryz.func84 (h _) rfl rfl rfl rfl rfl ?_;refine zag Tk (r:=bb (decide (l∈m.marked))) rfl rfl rfl trivial rfl rfl ?_;rfl
abbrev zjY (l:List Edg):Ob:=.arr 129 3 l.length (l.map edgI) true
theorem zpS (l:List Edg) (e:Edg):Ob.arr 129 3 (l.length+1) (l.map edgI++[edgI e]) true=zjY (l++[e]):=by simp
theorem zpN (l:List Sta) (s:Sta):Ob.arr 68 2 (l.length+1) (l.map staI++[staI s]) true=zrQ (l++[s]):=by simp
abbrev keq (a b:Sta):Bool:=fkey a==fkey b
def unfX (m:Ext) (alpha:List Int) (first:Sta):Except Int (Unf Sta):=unfR keq true (stpR m) (fun s=>decide (s.loc∈m.marked)) alpha first
def kidx:List Sta→Nat→List (Value×Int)
 |[],_=>[]
 |s::r,i=>(.string (fkey s),(i:Int))::kidx r (i+1)
theorem zka (b:ByteArray):∀(l:List Sta) (i:Nat),zdR (kidx l i) (.string b)=if l.findIdx (fun t=>b==fkey t)<l.length then some (((i+l.findIdx fun t=>b==fkey t:Nat):Int)) else none
 |[],i=>by simp[kidx,zdR]
 |s::r,i=>by
  simp only[kidx,zdR,keyB,List.findIdx_cons]
  cases h:b==fkey s with
  |true=>simp
  |false=>
   simp only[cond_false];rw[zka b r (i+1)];have e:i+1+r.findIdx (fun t=>b==fkey t)=i+(r.findIdx (fun t=>b==fkey t)+1):=by omega
   simp only[e,List.length_cons,Nat.add_lt_add_iff_right]
theorem znG {s:Sta}:∀(l:List Sta) (i:Nat),¬l.findIdx (keq s)<l.length→mset (kidx l i) (.string (fkey s)) ((i+l.length:Nat):Int)=kidx (l++[s]) i
 |[],i,_=>by simp[kidx,mset]
 |t::r,i,h=>by
  rw[List.findIdx_cons] at h
  cases hk:keq s t with
  |true=>rw[hk] at h;simp at h
  |false=>
   rw[hk] at h;simp only[cond_false,List.length_cons,Nat.add_lt_add_iff_right] at h;have hk':(fkey s==fkey t)=false:=hk;simp only[List.cons_append,kidx,mset,keyB,hk',cond_false];have e:i+(t::r).length=(i+1)+r.length:=by simp only[List.length_cons];omega
   rw[e,znG r (i+1) h]
theorem zwE {m:Ext} {s:Sta} {ev:Int} (hr:extRight m) (h:okS m s) (hp:(stpR m s ev).2.1=true):okS m (stpR m s ev).1:=by
 unfold stpR at hp ⊢
 split at hp
 ·cases hp
 rename_i h1;rw[if_neg h1]
 split at hp
 ·cases hp
 rename_i h2;rw[if_neg h2];exact zwG hr h hp
theorem zrY {m:Ext} {s:Sta} (hr:extRight m) (h:okS m s):keyOkJ s:=by
 have:=zpR hr h;exact⟨this.1,by omega,this.2.1⟩
theorem zkZ {σ:Type} {eq:σ→σ→Bool} {lim:Bool} {step:σ→Int→σ×Bool×Int} {mkd:σ→Bool} {alpha:List Int} {U:Unf σ} {i:Nat} (h:U.sts.length≤i):∀k,zf4 eq lim step mkd alpha k i U=.ok U
 |0=>rfl
 |k+1=>by simp only[zf4,List.getElem?_eq_none h]
structure UGood (m:Ext) (U:Unf Sta):Prop where
 len:U.sts.length≤4096
 ok:∀s∈U.sts,okS m s
abbrev fnS (d nm:Nat):D:=.fn (.func 82) [] [.own d nm 0 0]
abbrev fnM (d nm:Nat):D:=.fn (.func 84) [] [.own d nm 0 0]
def unfD (alpha:List Int):Except Int (Unf Sta)→D
 |.error e=>.tup [autD ⟨[],0,[],[]⟩,zjG [],ii e]
 |.ok U=>.tup [autD ⟨alpha,U.sts.length,U.mkl,U.eds⟩,zjG U.sts,ii 0]
theorem zxP {e:Int}:CoD (.tup [.agg [.i (.v (.slice none 0 0)),ii 0,.i (.v (.slice none 0 0)),.i (.v (.slice none 0 0))],.i (.v (.slice none 0 0)),ii e]) (unfD [] (.error e)):=
 zbR (.cons (zbu (.cons (zcv zbd) (.cons (CoD.refl _) (.cons (zcv zbd) (.cons (zcv zbd) .nil))))) (.cons (zcv zbd) (CoDL.refl _)))
theorem zra {g:Nat} (hg:zda g) {ty:TypeId} {fr:Nat×Nat} (O:List Heap) (m:Ext) (alpha:List Int) (first:Sta) (d nm:Nat) (ho:zab O d nm=some (.box (extC m))) (hok:extOk m) (hr:extRight m) (ha:alpha.length≤4096) (hf:okS m first) :
  za3 g (ptab ty fr) Tryz.prog 85 [ints alpha,staD first,.fn (.func 80) [] [],fnS d nm,fnM d nm] O (unfD alpha (unfX m alpha first)) [] O:=by
 have hO:∀H,zab (H::O) (d+1) nm=some (.box (extC m)):=fun H=>zay ho;have hno:unfX m alpha first=zf4 keq true (stpR m) (fun s=>decide (s.loc∈m.marked)) alpha (4097-0) 0 (unf0 first):=rfl
 generalize unfX m alpha first=R at *
 have hkf:=zrY hr hf;refine zaN [9,23] Tk Tryz.func85 rfl Tryz.call85 Tryz.ntmps85 (Nat.le_of_ble_eq_true rfl) fun E hE=>?_;refine zai Tk Tryz.func85 ?_;refine zbB Tk Tryz.func85 hE (zfD hg _ first hkf) rfl rfl rfl rfl rfl rfl ?_;refine zah ?_;refine zaq (zq4 25 95 rfl rfl rfl) ?_;refine zaq (zaL 10 47 3 1 (pre:=[ints alpha,ii 0]) (post:=[.i (.v (.slice none 0 0))]) rfl rfl rfl) ?_;refine zaq (zaL 10 103 129 3 (pre:=[ints alpha,ii 0,.osl 0 47]) (post:=[]) rfl rfl rfl) ?_;refine zak (fun x:Nat×Unf Sta=>[(0,ints alpha),(2,.fn (.func 80) [] []),(3,fnS (d+1) nm),(4,fnM (d+1) nm),(10,.own 0 10 0 0),(11,.osl 0 95),(13,.osl 0 26),(14,ii x.1)])
  (fun x=>[(10,.box [ints alpha,ii 0,.osl 0 47,.osl 0 103]),(95,zrQ x.2.sts),(47,zb7 x.2.mkl),(103,zjY x.2.eds),(26,.mp .str (.i .i64 (kidx x.2.sts 0)))]) (fun _=>O) 111
  (fun x=>x.1≤x.2.sts.length∧UGood m x.2∧x.2.mkl.length≤x.1∧x.2.eds.length≤4096*x.1∧R=zf4 keq true (stpR m) (fun s=>decide (s.loc∈m.marked)) alpha (4097-x.1) x.1 x.2) (fun x=>4097-x.1) (0,unf0 first)
  ⟨Nat.zero_le _,⟨by simp[unf0],fun s hs=>by rw[unf0,List.mem_singleton] at hs;subst hs;exact hf⟩,Nat.le_refl _,Nat.le_refl _,hno⟩ ⟨rfl,rfl,rfl,rfl,rfl,rfl,rfl,rfl,trivial⟩ rfl ⟨rfl,rfl,rfl,rfl,rfl,trivial⟩ rfl rfl ?_
 clear hno;rintro ⟨i,U⟩ ⟨hi,hgd,hml,hel,hno⟩ ih;simp only at hi hgd hml hel hno;refine zai Tk Tryz.func85 ?_;refine zae Tk Tryz.func85 rfl (fun g1=>?_) (fun g1=>?_)
 ·have h1:i<U.sts.length:=by simpa using g1
  clear g1;have hle:=hgd.len;have hsi:U.sts[i]? = some U.sts[i]:=List.getElem?_eq_getElem h1;have gs:(U.sts.map staI)[(i:Int).toNat]? = some (staI U.sts[i]):=zan h1;have hoks:=hgd.ok _ (List.getElem_mem h1);generalize U.sts[i]=s at *;have hno:R=match zbG keq true (stpR m) i s alpha (zgy (fun s=>decide (s.loc∈m.marked)) i s U) with
    |.error e=>.error e
    |.ok U'=>zf4 keq true (stpR m) (fun s=>decide (s.loc∈m.marked)) alpha (4097-(i+1)) (i+1) U':=by
   rw[hno,show 4097-i=(4097-(i+1))+1 by omega];simp only[zf4,hsi]
   cases zbG keq true (stpR m) i s alpha (zgy (fun s=>decide (s.loc∈m.marked)) i s U)<;>rfl
  have hmk:=fun H=>zp0 (H::O) m s (d+1) nm (hO H) hok;obtain⟨m1,m2⟩:=zjx (fun s:Sta=>decide (s.loc∈m.marked)) i s U;have hm3:(zgy (fun s:Sta=>decide (s.loc∈m.marked)) i s U).mkl=if s.loc∈m.marked then U.mkl++[(i:Int)] else U.mkl:=by
   unfold zgy
   by_cases h:s.loc∈m.marked<;>simp[h]
  generalize zgy (fun s:Sta=>decide (s.loc∈m.marked)) i s U=U1 at *;obtain⟨sts,mkl,eds⟩:=U;obtain⟨sts1,mkl1,eds1⟩:=U1;simp only at *;subst m1 m2;obtain⟨sl,sv⟩:=s;simp only at *;refine zad Tk Tryz.func85 (by exact⟨by omega,by show (i:Int)<(sts1.length:Int);omega⟩) ?_;refine zap Tk Tryz.func85 (gs) ?_;refine zaj Tk Tryz.func85 (hmk _) rfl rfl rfl rfl rfl ?_
  apply zbK (P:=True) (s6:={ σ:=[(0,ints alpha),(2,.fn (.func 80) [] []),(3,fnS (d+1) nm),(4,fnM (d+1) nm),(10,.own 0 10 0 0),(11,.osl 0 95),(13,.osl 0 26),(14,ii i)],S:=[(10,.box [ints alpha,ii 0,.osl 0 47,.osl 0 103]),(95,zrQ sts1),(47,zb7 mkl1),(103,zjY eds1),(26,.mp .str (.i .i64 (kidx sts1 0)))]::O,n:=111})
  ·intro J;refine zae Tk Tryz.func85 rfl (fun c1=>?_) (fun c1=>?_)
   ·have c1:sl∈m.marked:=of_decide_eq_true c1;rw[if_pos c1] at hm3;subst hm3;refine zad Tk Tryz.func85 (by exact⟨by show (mkl.length+1)*8≤140737488355328;omega,by show mkl.length+1≤9223372036854775807;omega⟩) ?_;refine zat ?_;refine zau (J trivial) ⟨rfl,rfl,rfl,rfl,rfl,rfl,rfl,rfl,trivial⟩ rfl ⟨rfl,rfl,congrArg some (zcM mkl (i:Int)),rfl,rfl,trivial⟩ rfl rfl
   ·have c1:sl ∉ m.marked:=of_decide_eq_false c1;rw[if_neg c1] at hm3;subst hm3;refine zat ?_;refine zau (J trivial) ⟨rfl,rfl,rfl,rfl,rfl,rfl,rfl,rfl,trivial⟩ rfl ⟨rfl,rfl,rfl,rfl,rfl,trivial⟩ rfl rfl
  intro _;have hml1:mkl1.length≤i+1:=by rw[hm3];split;(rw[List.length_append,List.length_singleton];omega);omega
  clear hm3 hml hmk gs;have hV0:zbG keq true (stpR m) i ⟨sl,sv⟩ alpha ⟨sts1,mkl1,eds1⟩=zbG keq true (stpR m) i ⟨sl,sv⟩ (alpha.drop 0) ⟨sts1,mkl1,eds1⟩:=rfl;generalize zbG keq true (stpR m) i ⟨sl,sv⟩ alpha ⟨sts1,mkl1,eds1⟩=V at *;refine zai Tk Tryz.func85 ?_;refine g_go Tk Tryz.func85 ?_;refine zah ?_;refine zak (fun x:Nat×Unf Sta=>[(0,ints alpha),(2,.fn (.func 80) [] []),(3,fnS (d+1) nm),(4,fnM (d+1) nm),(10,.own 0 10 0 0),(11,.osl 0 95),(13,.osl 0 26),(14,ii i),(49,ints alpha),(50,ii alpha.length),(51,ii x.1)])
   (fun x=>[(10,.box [ints alpha,ii 0,.osl 0 47,.osl 0 103]),(95,zrQ x.2.sts),(47,zb7 x.2.mkl),(103,zjY x.2.eds),(26,.mp .str (.i .i64 (kidx x.2.sts 0)))]) (fun _=>O) 111
   (fun x=>x.1≤alpha.length∧UGood m x.2∧i<x.2.sts.length∧x.2.mkl.length≤i+1∧x.2.eds.length≤4096*i+x.1∧x.2.sts[i]? = some ⟨sl,sv⟩∧V=zbG keq true (stpR m) i ⟨sl,sv⟩ (alpha.drop x.1) x.2) (fun x=>alpha.length-x.1) (0,⟨sts1,mkl1,eds1⟩)
   ⟨Nat.zero_le _,⟨hgd.len,hgd.ok⟩,h1,hml1,hel,hsi,hV0⟩ ⟨rfl,rfl,rfl,rfl,rfl,rfl,rfl,rfl,rfl,rfl,rfl,trivial⟩ rfl ⟨rfl,rfl,rfl,rfl,rfl,trivial⟩ rfl rfl ?_
  clear hV0 hsi hml1 hel hgd hle;rintro ⟨j,⟨sts,mk,eds⟩⟩ ⟨hj,hgd,hil,hml,hel,hsi,hV⟩ ih2;simp only at hj hgd hil hml hel hsi hV;have hle:sts.length≤4096:=hgd.len;refine zai Tk Tryz.func85 ?_;refine zae Tk Tryz.func85 rfl (fun g2=>?_) (fun g2=>?_)
  ·have h3:j<alpha.length:=by simpa using g2
   clear g2;have ga:(alpha.map fun x=>[vi x])[(j:Int).toNat]? = some [vi alpha[j]]:=zan (f:=fun x=>[vi x]) h3;have da:alpha.drop j=alpha[j]::alpha.drop (j+1):=List.drop_eq_getElem_cons h3;rw[da] at hV;simp only[zbG] at hV;clear da;generalize alpha[j]=ev at *;have gs:(sts.map staI)[(i:Int).toNat]? = some (staI ⟨sl,sv⟩):=by simp[hsi]
   have hst:=fun H=>zpZ (H::O) m ⟨sl,sv⟩ ev (d+1) nm (hO H) hok;have hokn:=@zwE m ⟨sl,sv⟩ ev hr hoks;have hj1:ii (IntKind.i64.wrap ((j:Int)+1))=ii ((j+1:Nat):Int):=congrArg ii (zaC (n:=4096) (by omega) (by decide));unfold zfN at hV;generalize stpR m ⟨sl,sv⟩ ev=N at *;obtain⟨⟨nl,nv⟩,np,ne⟩:=N;simp only at hV hst hokn;refine zad Tk Tryz.func85 (by exact⟨by omega,by show (j:Int)<(alpha.length:Int);omega⟩) ?_;refine zap Tk Tryz.func85 (ga) ?_;refine zad Tk Tryz.func85 (by exact⟨by omega,by show (i:Int)<(sts.length:Int);omega⟩) ?_;refine zap Tk Tryz.func85 (gs) ?_;refine zaj Tk Tryz.func85 (hst _) rfl rfl rfl rfl rfl ?_;refine zae Tk Tryz.func85 rfl (fun c1=>?_) (fun c1=>?_)
   ·have c1:ne≠0:=bneT c1;rw[if_pos c1] at hV;subst hV;simp only at hno;subst hno;refine zaD Tk (r:=_) rfl rfl rfl trivial rfl rfl ?_;exact zxP
   have c1:ne=0:=bneF c1;rw[if_neg (by simpa using c1)] at hV;refine zae Tk Tryz.func85 rfl (fun c2=>?_) (fun c2=>?_)
   ·have c2:np=false:=notT c2;rw[if_pos c2] at hV;refine zah ?_;exact ih2 (j+1,⟨sts,mk,eds⟩) _ _ ⟨h3,hgd,hil,hml,by simp only;omega,hsi,hV⟩ (by simp only;omega) ⟨rfl,rfl,rfl,rfl,rfl,rfl,rfl,rfl,rfl,rfl,hj1,trivial⟩ rfl ⟨rfl,rfl,rfl,rfl,rfl,trivial⟩ rfl rfl
   have c2:np=true:=notF c2;rw[if_neg (by rw[c2];simp)] at hV;have hon:=hokn c2;have hkn:=zrY hr hon;have hlk:=zka (fkey ⟨nl,nv⟩) sts 0;have hks:=@znG ⟨nl,nv⟩ sts 0;rw[Nat.zero_add] at hks;rw[Nat.zero_add] at hlk;have hix:sts.findIdx (keq ⟨nl,nv⟩)≤sts.length:=findIdx_le;have hlk:zdR (kidx sts 0) (.string (fkey ⟨nl,nv⟩))=if sts.findIdx (keq ⟨nl,nv⟩)<sts.length then some ((sts.findIdx (keq ⟨nl,nv⟩):Nat):Int) else none:=hlk
   generalize sts.findIdx (keq ⟨nl,nv⟩)=t at *;refine zbB Tk Tryz.func85 hE (zfD hg _ ⟨nl,nv⟩ hkn) rfl rfl rfl rfl rfl rfl ?_;generalize hst2:(if t<sts.length then sts else sts++[(⟨nl,nv⟩:Sta)])=sts2
   apply zbK (P:=t<sts.length∨sts.length≠4096) (s6:={ σ:=[(0,ints alpha),(2,.fn (.func 80) [] []),(3,fnS (d+1) nm),(4,fnM (d+1) nm),(10,.own 0 10 0 0),(11,.osl 0 95),(13,.osl 0 26),(14,ii i),(16,ii ev),(20,ii t),(49,ints alpha),(50,ii alpha.length),(51,ii j)],S:=[(10,.box [ints alpha,ii 0,.osl 0 47,.osl 0 103]),(95,zrQ sts2),(47,zb7 mk),(103,zjY eds),(26,.mp .str (.i .i64 (kidx sts2 0)))]::O,n:=111})
   ·intro J;refine zae Tk Tryz.func85 rfl (fun c3=>?_) (fun c3=>?_)
    ·have c3:mhas (kidx sts 0) (.string (fkey ⟨nl,nv⟩))=false:=notT c3;have hlt:¬t<sts.length:=fun h=>by
      unfold mhas at c3;rw[hlk,if_pos h] at c3
      cases c3
     have hte:t=sts.length:=by omega
     rw[if_neg hlt] at hst2 hV;have hks:=hks hlt;refine zae Tk Tryz.func85 rfl (fun c4=>?_) (fun c4=>?_)
     ·have c4:((sts.length:Nat):Int)=4096:=beqT c4;have c4:sts.length=4096:=by omega
      rw[if_pos ⟨trivial,c4⟩] at hV;subst hV;simp only at hno;subst hno;refine zaD Tk (r:=_) rfl rfl rfl trivial rfl rfl ?_;exact zxP
     have c4:((sts.length:Nat):Int)≠4096:=beqF c4;have c4:sts.length≠4096:=by omega
     refine zbB Tk Tryz.func85 hE (zfD hg _ ⟨nl,nv⟩ hkn) rfl rfl rfl rfl rfl rfl ?_;refine zad Tk Tryz.func85 (by exact⟨by show (sts.length+1)*32≤140737488355328;omega,by show sts.length+1≤9223372036854775807;omega⟩) ?_;subst hst2;refine zat ?_;refine zau (J (.inr c4)) ⟨rfl,rfl,rfl,rfl,rfl,rfl,rfl,rfl,rfl,by rw[hte];rfl,rfl,rfl,rfl,trivial⟩ rfl ⟨rfl,congrArg some (zpN sts (⟨nl,nv⟩:Sta)),rfl,rfl,congrArg (fun l=>some (Ob.mp .str (.i .i64 l))) hks,trivial⟩ rfl rfl
    ·have c3:mhas (kidx sts 0) (.string (fkey ⟨nl,nv⟩))=true:=notF c3;have hlt:t<sts.length:=Classical.byContradiction fun h=>by
      unfold mhas at c3;rw[hlk,if_neg h] at c3
      cases c3
     rw[if_pos hlt] at hst2 hlk;subst hst2;refine zat ?_;refine zau (J (.inl hlt)) ⟨rfl,rfl,rfl,rfl,rfl,rfl,rfl,rfl,rfl,by show ii (zpW (kidx sts 0) (.string (fkey ⟨nl,nv⟩)))=_;unfold zpW;rw[hlk];rfl,rfl,rfl,rfl,trivial⟩ rfl ⟨rfl,rfl,rfl,rfl,rfl,trivial⟩ rfl rfl
   ·intro hP;have hV:V=zbG keq true (stpR m) i ⟨sl,sv⟩ (alpha.drop (j+1)) ⟨sts2,mk,eds++[((i:Int),ev,(t:Int))]⟩:=by
     rw[hV]
     by_cases hlt:t<sts.length
     ·rw[if_pos hlt] at hst2 ⊢;subst hst2;rfl
     ·rw[if_neg hlt] at hst2 ⊢;rw[if_neg (by rintro ⟨_,h⟩;rcases hP with h'|h';exact hlt h';exact h' h)];subst hst2;rfl
    have hg2:UGood m ⟨sts2,mk,eds++[((i:Int),ev,(t:Int))]⟩:=by
     by_cases hlt:t<sts.length
     ·rw[if_pos hlt] at hst2;subst hst2;exact⟨hgd.len,hgd.ok⟩
     ·rw[if_neg hlt] at hst2;subst hst2;refine⟨?_,fun x hx=>?_⟩
      ·show (sts++[(⟨nl,nv⟩:Sta)]).length≤4096;rw[List.length_append,List.length_singleton];rcases hP with h'|h'
       ·exact absurd h' hlt
       ·omega
      ·rcases List.mem_append.1 hx with hx|hx
       ·exact hgd.ok x hx
       ·rw[List.mem_singleton] at hx;subst hx;exact hon
    have hi2:i<sts2.length∧sts2[i]? = some ⟨sl,sv⟩:=by
     by_cases hlt:t<sts.length
     ·rw[if_pos hlt] at hst2;subst hst2;exact⟨hil,hsi⟩
     ·rw[if_neg hlt] at hst2;subst hst2;refine⟨by rw[List.length_append];omega,?_⟩;rw[List.getElem?_append_left hil];exact hsi
    have hi4:i<4096:=by omega
    clear hst2 hst hlk hks hgd hil hsi;refine zai Tk Tryz.func85 ?_;refine g_go Tk Tryz.func85 ?_;refine zad Tk Tryz.func85 (by exact⟨by show (eds.length+1)*24≤140737488355328;omega,by show eds.length+1≤9223372036854775807;omega⟩) ?_;refine zah ?_;exact ih2 (j+1,⟨sts2,mk,eds++[((i:Int),ev,(t:Int))]⟩) _ _ ⟨h3,hg2,hi2.1,hml,by simp only[List.length_append,List.length_singleton];omega,hi2.2,hV⟩ (by simp only;omega) ⟨rfl,rfl,rfl,rfl,rfl,rfl,rfl,rfl,rfl,rfl,hj1,trivial⟩ rfl ⟨rfl,rfl,rfl,congrArg some (zpS eds ((i:Int),ev,(t:Int))),rfl,trivial⟩ rfl rfl
  ·have h3:alpha.length≤j:=by simpa using g2
   rw[List.drop_eq_nil_of_le h3] at hV;simp only[zbG] at hV;subst hV;simp only at hno;have hja:j≤4096:=by omega
   refine zah ?_;exact ih (i+1,⟨sts,mk,eds⟩) _ _ ⟨by simp only;omega,hgd,hml,by simp only;omega,hno⟩ (by simp only;omega) ⟨rfl,rfl,rfl,rfl,rfl,rfl,rfl,congrArg ii (zaC (n:=4096) (by omega) (by decide)),trivial⟩ rfl ⟨rfl,rfl,rfl,rfl,rfl,trivial⟩ rfl rfl
 ·have h1:U.sts.length≤i:=by simpa using g1
  rw[zkZ h1] at hno;subst hno;obtain⟨sts,mk,eds⟩:=U;refine za4 (zam 95 rfl rfl) ?_;refine za4 (zam 47 rfl rfl) ?_;refine za4 (zam 103 rfl rfl) ?_;refine za4 (zaQ rfl) ?_;refine zag Tk (r:=unfD alpha (.ok ⟨sts,mk,eds⟩)) rfl rfl rfl trivial rfl rfl ?_;rfl
def zcJ (m:Ext):Except Int (Unf Sta):=if chk m≠0 then .error (chk m) else unfX m m.alpha (zdJ m)
theorem zvT {g:Nat} (hg:zda g) {ty:TypeId} {fr:Nat×Nat} (O:List Heap) (m:Ext) (hok:extOk m):za3 g (ptab ty fr) Tryz.prog 32 [extD m] O (unfD m.alpha (zcJ m)) [] O:=by
 have hb:=fun O=>zx7 O m hok;unfold ztm at hb;unfold zcJ
 by_cases h1:chk m≠0
 ·simp only[if_pos h1] at hb ⊢;refine zaN [] Tk Tryz.func32 rfl Tryz.call32 Tryz.ntmps32 (Nat.le_of_ble_eq_true rfl) fun E hE=>?_;refine zai Tk Tryz.func32 ?_;refine zaj Tk Tryz.func32 (hb _) rfl rfl rfl rfl rfl ?_;refine zae Tk Tryz.func32 rfl (fun h2=>?_) (fun h2=>?_);rotate_left
  ·exact absurd (bneF h2) h1
  refine zaD Tk (r:=_) rfl rfl rfl trivial rfl rfl ?_;exact zxP
 ·have h1:chk m=0:=Classical.byContradiction h1;have hr:=zhu h1;have hal:=zfp (by decide) hr.alpha;simp only[h1,ne_eq,not_true_eq_false,if_false] at hb ⊢;have hcl:=fun O=>zn3 O m.alpha (by simp only[big];omega);have hun:=fun O ho=>zra hg (ty:=ty) (fr:=fr) O m m.alpha (zdJ m) 0 1 ho hok hr (by omega) (zuu hr);generalize unfX m m.alpha (zdJ m)=R at *;generalize zdJ m=st at *;obtain⟨sl,sv⟩:=st
  cases R with
  |error e=>
   refine zaN [] Tk Tryz.func32 rfl Tryz.call32 Tryz.ntmps32 (Nat.le_of_ble_eq_true rfl) fun E hE=>?_;refine zai Tk Tryz.func32 ?_;refine zaj Tk Tryz.func32 (hb _) rfl rfl rfl rfl rfl ?_;refine gcF Tk Tryz.func32 rfl ?_;refine zav Tk Tryz.func32 zaz rfl ?_;refine zaJ Tk (fun _=>hcl _) rfl rfl rfl ?_;refine zcg Tk hE (hun _ rfl) rfl rfl rfl rfl ?_;refine zdc Tk rfl rfl rfl ?_;refine zaB Tk Tryz.func32 (by kernel_rfl) ?_;refine zaD Tk (r:=_) rfl rfl rfl trivial rfl rfl ?_;exact CoD.refl _
  |ok U=>
   obtain⟨us,um,ue⟩:=U;refine zaN [] Tk Tryz.func32 rfl Tryz.call32 Tryz.ntmps32 (Nat.le_of_ble_eq_true rfl) fun E hE=>?_;refine zai Tk Tryz.func32 ?_;refine zaj Tk Tryz.func32 (hb _) rfl rfl rfl rfl rfl ?_;refine gcF Tk Tryz.func32 rfl ?_;refine zav Tk Tryz.func32 zaz rfl ?_;refine zaJ Tk (fun _=>hcl _) rfl rfl rfl ?_;refine zcg Tk hE (hun _ rfl) rfl rfl rfl rfl ?_;refine zdc Tk rfl rfl rfl ?_;refine zaB Tk Tryz.func32 (by kernel_rfl) ?_;refine zaD Tk (r:=_) rfl rfl rfl trivial rfl rfl ?_;exact CoD.refl _
end Go.AI
namespace Go.AI
def nmIx (l:List ByteArray) (s:ByteArray):Int:=zaw (fun x=>sB x s) l 0
def fndI (l:List ByteArray) (s:ByteArray):Int:=if nmIx l s<0 then 0 else nmIx l s
def zen (x:Mv):List Mv→List Mv
 |[]=>[x]
 |y::r=>if x.frm<y.frm∨x.frm=y.frm∧x.ev<y.ev then x::y::r else y::zen x r
def zdK (l:List Mv):List Mv:=l.foldl (fun acc x=>zen x acc) []
def insZ (x:Int):List Int→List Int
 |[]=>[x]
 |y::r=>if x<y then x::y::r else y::insZ x r
def srtZ:List Int→List Int
 |[]=>[]
 |x::r=>insZ x (srtZ r)
theorem zhb (x:Int):∀l,(insZ x l).Perm (x::l)
 |[]=>.refl _
 |y::r=>by
  unfold insZ
  by_cases h:x<y
  ·rw[if_pos h]
  ·rw[if_neg h];exact ((zhb x r).cons y).trans (.swap x y r)
theorem zgA:∀l,(srtZ l).Perm l
 |[]=>.refl _
 |x::r=>(zhb x (srtZ r)).trans ((zgA r).cons x)
theorem zsp {x:Int}:∀{l:List Int},l.Pairwise (· ≤ ·)→(insZ x l).Pairwise (· ≤ ·)
 |[],_=>List.pairwise_singleton _ _
 |y::r,h=>by
  obtain⟨h1,h2⟩:=List.pairwise_cons.1 h;unfold insZ
  by_cases c:x<y
  ·rw[if_pos c];refine List.pairwise_cons.2 ⟨fun z hz=>?_,h⟩;rcases List.mem_cons.1 hz with rfl|hz
   ·omega
   ·have:=h1 z hz;omega
  ·rw[if_neg c];refine List.pairwise_cons.2 ⟨fun z hz=>?_,zsp h2⟩;rcases List.mem_cons.1 ((zhb x r).mem_iff.1 hz) with rfl|hz
   ·omega
   ·exact h1 z hz
theorem zrn:∀l,(srtZ l).Pairwise (· ≤ ·)
 |[]=>.nil
 |x::r=>zsp (zrn r)
theorem zwK (l:List Int):srtZ l=zdo l:=by
 refine List.Perm.eq_of_pairwise (le:=(· ≤ ·)) (fun a b _ _ h1 h2=>by omega) (zrn l) (zuv l) ?_;exact (zgA l).trans (List.mergeSort_perm l _).symm
def mchE (m:Mdl) (x:Ins) (t:Tpl):Ext:=
 let evs:=x.evs.map fun s=>fndI (m.evs.map (·.name)) s
 { alpha:=srtZ evs,locs:=t.mach.locs,init:=t.mach.init,marked:=t.mach.marked,vars:=t.mach.vars,moves:=zdK (t.mach.moves.map fun y=>{ y with ev:=evs.getD y.ev.toNat 0})}
def zExt:Ext:=⟨[],0,0,[],[],[]⟩
def mchR (m:Mdl) (x:Ins):Ext:=match zb4 m x with
 |none=>zExt
 |some t=>mchE m x t
structure Itm where
 name:ByteArray
 aut:Aut
abbrev itmI (x:Itm):List I:=[strI x.name,zdj x.aut.alpha,vi x.aut.states,zdj x.aut.marked,.sl 3 x.aut.edges.length (x.aut.edges.map edgI)]
abbrev Loc2:=Int×Int
structure XEx where
 name:ByteArray
 locals:List Loc2
abbrev zcc (x:Loc2):List I:=[vi x.1,vi x.2]
abbrev xexI (x:XEx):List I:=[strI x.name,.sl 2 x.locals.length (x.locals.map zcc)]
structure XCn where
 name:ByteArray
 terms:List Loc2
 bound:Int
abbrev xcnI (x:XCn):List I:=[strI x.name,.sl 2 x.terms.length (x.terms.map zcc),vi x.bound]
structure Cel where
 evs:List Evt
 comps:List Itm
 reqs:List Itm
 excs:List XEx
 cons:List XCn
abbrev celC (c:Cel):List D:=[.i (zbb c.evs),.i (.sl 5 c.comps.length (c.comps.map itmI)),.i (.sl 5 c.reqs.length (c.reqs.map itmI)),.i (.sl 2 c.excs.length (c.excs.map xexI)),.i (.sl 3 c.cons.length (c.cons.map xcnI))]
abbrev celD (c:Cel):D:=.agg (celC c)
def zCel:Cel:=⟨[],[],[],[],[]⟩
def zg8 (m:Mdl):List Ins→Nat→Except (Nat×Int) (List Itm×List (List Sta))
 |[],_=>.ok ([],[])
 |x::r,i=>match zcJ (mchR m x) with
  |.error e=>.error (i,e)
  |.ok U=>match zg8 m r (i+1) with
   |.error e=>.error e
   |.ok (a,o)=>.ok (⟨x.name,⟨(mchR m x).alpha,U.sts.length,U.mkl,U.eds⟩⟩::a,U.sts::o)
def stAt (loc:Int):List Sta→Nat→List Int
 |[],_=>[]
 |s::r,i=>if s.loc=loc then (i:Int)::stAt loc r (i+1) else stAt loc r (i+1)
abbrev Chc:=Int×List Int
def chcR (m:Mdl) (origins:List (List Sta)) (x:NLc):Chc:=
 let c:=fndI (m.comps.map (·.name)) x.1
 let t:=match m.comps[c.toNat]? with
  |none=>none
  |some y=>zb4 m y
 let loc:=match t with
  |none=>-1
  |some t=>nmIx t.locs x.2
 (c,stAt loc (origins.getD c.toNat []) 0)
def zeP (x:Chc):List Chc→List Chc
 |[]=>[x]
 |y::r=>if x.1<y.1 then x::y::r else y::zeP x r
def zeA (l:List Chc):List Chc:=l.foldl (fun acc x=>zeP x acc) []
def chsR:List Chc→List (List Loc2)→List (List Loc2)
 |[],all=>all
 |y::r,all=>chsR r (all.flatMap fun b=>y.2.map fun s=>b++[(y.1,s)])
def chsN:List Chc→Int→Int
 |[],n=>n
 |y::r,n=>chsN r (if n*(y.2.length:Int)<1048576 then n*(y.2.length:Int) else 1048576)
def numX (name:ByteArray):List (List Loc2)→Nat→List XEx
 |[],_=>[]
 |l::r,i=>⟨name++⟨#[95]⟩++zcW i,l⟩::numX name r (i+1)
def expX (m:Mdl) (origins:List (List Sta)) (x:NEx) (most:Int):List XEx×Int:=
 let l:=x.locals.map (chcR m origins)
 if l.any (fun y=>y.2.isEmpty)=true then ([],0) else if chsN l 1>most then ([],3) else
 match chsR (zeA l) [[]] with
 |[one]=>([⟨x.name,one⟩],0)
 |all=>(numX x.name all 0,0)
def dupX:List ByteArray→List XEx→Except Unit (List ByteArray)
 |seen,[]=>.ok seen
 |seen,y::r=>if hasB seen y.name=true then .error () else dupX (seen++[y.name]) r
def zf7 (m:Mdl) (origins:List (List Sta)):List NEx→Nat→List ByteArray→List XEx→Except (Nat×Int) (List XEx)
 |[],_,_,out=>.ok out
 |x::r,i,seen,out=>
  if (expX m origins x (32-(out.length:Int))).2≠0 then .error (i,(expX m origins x (32-(out.length:Int))).2)
  else if (expX m origins x (32-(out.length:Int))).1.any (fun y=>decide (y.name.size>32))=true then .error (i,7)
  else match dupX seen (expX m origins x (32-(out.length:Int))).1 with
   |.error _=>.error (i,8)
   |.ok seen'=>zf7 m origins r (i+1) seen' (out++(expX m origins x (32-(out.length:Int))).1)
def zfE (x:Loc2):List Loc2→List Loc2
 |[]=>[x]
 |y::r=>if x.1<y.1 then x::y::r else y::zfE x r
def zje (m:Mdl) (x:NCn):XCn:=⟨x.name,(x.terms.map fun t=>(fndI (m.comps.map (·.name)) t.1,t.2)).foldl (fun acc x=>zfE x acc) [],x.bound⟩
def celR (m:Mdl):Cel×Plc×Int:=
 if (mdlE m).2≠0 then (zCel,mdlE m) else
 match zg8 m m.comps 0 with
 |.error (i,e)=>(zCel,(3,(i:Int)),e)
 |.ok (a,origins)=>match zg8 m m.reqs 0 with
  |.error (i,e)=>(zCel,(4,(i:Int)),e)
  |.ok (b,_)=>match zf7 m origins m.excs 0 [] [] with
   |.error (i,e)=>(zCel,(5,(i:Int)),e)
   |.ok out=>(⟨m.evs,a,b,out,m.cons.map (zje m)⟩,(0,0),0)
end Go.AI
namespace Go.AI
open Go.Proofs
set_option maxRecDepth 100000
def yesX:Ex:=.mk 6 0 0 [.mk 0 0 0 [],.mk 0 0 0 []]
def zsb:Ext:=⟨[0,1],2,0,[0],[],[⟨0,0,1,yesX,[]⟩,⟨1,1,0,yesX,[]⟩]⟩
def zvS:Ext:=⟨[0],1,0,[0],[⟨⟨#[110]⟩,0,2,0⟩],[⟨0,0,0,.mk 8 0 0 [.mk 1 0 0 [],.mk 0 2 0 []],[⟨0,.mk 2 0 0 [.mk 1 0 0 [],.mk 0 1 0 []]⟩]⟩]⟩
def shopM:Mdl:=
 { name:=⟨#[115,104,111,112]⟩,evs:=[⟨⟨#[98]⟩,false,false,false,0⟩,⟨⟨#[97]⟩,true,false,false,0⟩],tpls:=[⟨⟨#[109,97,99,104,105,110,101]⟩,[⟨#[105,100,108,101]⟩,⟨#[98,117,115,121]⟩],[⟨#[98,101,103,105,110]⟩,⟨#[101,110,100]⟩],zsb⟩,⟨⟨#[115,116,111,114,101]⟩,[⟨#[105,116]⟩],[⟨#[112,117,116]⟩],zvS⟩],comps:=[⟨⟨#[109,49]⟩,⟨#[109,97,99,104,105,110,101]⟩,[⟨#[97]⟩,⟨#[98]⟩]⟩,⟨⟨#[98,117,102,102,101,114]⟩,⟨#[115,116,111,114,101]⟩,[⟨#[98]⟩]⟩],reqs:=[],excs:=[⟨⟨#[120]⟩,[(⟨#[98,117,102,102,101,114]⟩,⟨#[105,116]⟩),(⟨#[109,49]⟩,⟨#[98,117,115,121]⟩)]⟩],cons:=[]}
def zzh:Cel:=⟨shopM.evs,[⟨⟨#[109,49]⟩,⟨[0,1],2,[0],[(0,1,1),(1,0,0)]⟩⟩,⟨⟨#[98,117,102,102,101,114]⟩,⟨[0],3,[0,1,2],[(0,0,1),(1,0,2)]⟩⟩],[],[⟨⟨#[120,95,48]⟩,[(0,1),(1,0)]⟩,⟨⟨#[120,95,49]⟩,[(0,1),(1,1)]⟩,⟨⟨#[120,95,50]⟩,[(0,1),(1,2)]⟩],[]⟩
theorem zrB:celR shopM=(zzh,(0,0),0):=by kernel_rfl
def tplX:Tpl:=⟨⟨#[109,97,99,104,105,110,101]⟩,[⟨#[105,100,108,101]⟩,⟨#[98,117,115,121]⟩],[⟨#[98,101,103,105,110]⟩,⟨#[101,110,100]⟩],zsb⟩
def zbA (c:UInt8) (i:Nat):ByteArray:=⟨#[c]⟩++zcW (i:Int)
def labT:List Vr→List Int→ByteArray→ByteArray
 |v::r,n::s,acc=>labT r s (acc++(⟨#[32]⟩++v.name++⟨#[61]⟩++zcW n))
 |_,_,acc=>acc
def zdf (m:Mdl) (at_:Plc):Except Int Ins:=
 if at_.1=3 then (if at_.2<0 then .error 10 else match m.comps[at_.2.toNat]? with|none=>.error 10|some x=>.ok x)
 else if at_.1=4 then (if at_.2<0 then .error 10 else match m.reqs[at_.2.toNat]? with|none=>.error 10|some x=>.ok x)
 else .error 11
def labR (m:Mdl) (at_:Plc) (s:Sta):ByteArray×Int:=
 if (mdlE m).2≠0 then (⟨#[]⟩,(mdlE m).2) else match zdf m at_ with
 |.error e=>(⟨#[]⟩,e)
 |.ok x=>if ckS (mchR m x) s≠0 then (⟨#[]⟩,ckS (mchR m x) s) else
  match zb4 m x with
  |none=>(⟨#[]⟩,0)
  |some t=>(labT (mchR m x).vars s.vals (t.locs.getD s.loc.toNat ⟨#[]⟩),0)
theorem zpy:labR shopM (3,1) ⟨0,[2]⟩=(⟨#[105,116,32,110,61,50]⟩,0):=by kernel_rfl
end Go.AI
namespace Go.AI
open Go.Proofs
structure Use22 where
 t:Int
 o:Int
 req:Bool
abbrev Whr:=Int×Int
structure Sk22 where
 tpls:List Sk
 ins:List Use22
 excs:List (Whr×Whr)
 bound:Int
abbrev u8J (b:Int):I:=.v (.int .u8 b)
abbrev skI (k:Sk):List I:=[u8J k.locs,u8J k.marks,.sl 2 k.rngs.length (k.rngs.map r8I),.sl 5 k.lines.length (k.lines.map linI)]
abbrev useI (u:Use22):List I:=[u8J u.t,u8J u.o,bI u.req]
abbrev whrI (p:Whr×Whr):List I:=[u8J p.1.1,u8J p.1.2,u8J p.2.1,u8J p.2.2]
abbrev zeC (k:Sk22):List D:=[.i (.sl 4 k.tpls.length (k.tpls.map skI)),.i (.sl 3 k.ins.length (k.ins.map useI)),.i (.sl 4 k.excs.length (k.excs.map whrI)),.i (.v (.int .i8 k.bound))]
abbrev zuz (k:Sk22):D:=.agg (zeC k)
def zhA (p:Whr):Prop:=(0≤p.1∧p.1≤255)∧(0≤p.2∧p.2≤255)
structure sk22Ok (k:Sk22):Prop where
 tl:k.tpls.length≤zar
 t:∀x∈k.tpls,skOk x
 il:k.ins.length≤zar
 i:∀u∈k.ins,(0≤u.t∧u.t≤255)∧(0≤u.o∧u.o≤255)
 el:k.excs.length≤zar
 e:∀p∈k.excs,zhA p.1∧zhA p.2
 b:-128≤k.bound∧k.bound≤127
def evs4:List Evt:=[⟨⟨#[101,48]⟩,true,true,false,0⟩,⟨⟨#[101,49]⟩,false,true,false,0⟩,⟨⟨#[101,50]⟩,true,false,false,0⟩,⟨⟨#[101,51]⟩,false,false,false,0⟩]
def nms4:List ByteArray:=[⟨#[101,48]⟩,⟨#[101,49]⟩,⟨#[101,50]⟩,⟨#[101,51]⟩]
def abc3:List ByteArray:=[⟨#[97]⟩,⟨#[98]⟩,⟨#[99]⟩]
def zSk:Sk:=⟨0,0,[],[]⟩
def zUse:Use22:=⟨0,0,false⟩
def zgs:Ins:=⟨⟨#[]⟩,⟨#[]⟩,[]⟩
def zTpl:Tpl:=⟨⟨#[]⟩,[],[],⟨[],0,0,[],[],[]⟩⟩
def zrd (i:Nat) (k:Sk):Tpl:=⟨zbA 116 i,(List.range (zcV k)).map (zbA 115),abc3,ziT k⟩
def zft (l:List Sk) (n:Nat):List Tpl:=(List.range n).map fun i=>zrd i (l.getD i zSk)
def mkT (k:Sk22):List Tpl:=zft k.tpls (min k.tpls.length 3)
def ordS (o:Int):Nat→List ByteArray×List ByteArray×Int
 |0=>([],nms4,o)
 |k+1=>((ordS o k).1++[(ordS o k).2.1.getD ((ordS o k).2.2%(4-(k:Int))).toNat ⟨#[]⟩],
   (ordS o k).2.1.take ((ordS o k).2.2%(4-(k:Int))).toNat++(ordS o k).2.1.drop (((ordS o k).2.2%(4-(k:Int))).toNat+1),(ordS o k).2.2/(4-(k:Int)))
theorem ziJ (o:Int) (ho:0≤o∧o≤255):∀k,k≤3→(ordS o k).1.length=k∧(ordS o k).2.1.length=4-k∧0≤(ordS o k).2.2∧(ordS o k).2.2≤255
 |0,_=>⟨rfl,rfl,ho⟩
 |k+1,h=>by
  obtain⟨h1,h2,h3,h4⟩:=ziJ o ho k (by omega);have h5:=Int.emod_nonneg (ordS o k).2.2 (show 4-(k:Int)≠0 by omega);have h6:=Int.emod_lt_of_pos (ordS o k).2.2 (show 0<4-(k:Int) by omega);have h7:=Int.ediv_nonneg h3 (show 0≤4-(k:Int) by omega);have h8:=Int.ediv_le_self (4-(k:Int)) h3;simp only[ordS,List.length_append,List.length_singleton,List.length_take,List.length_drop];generalize (ordS o k).2.2%(4-(k:Int))=q at *;refine⟨by omega,by omega,h7,by omega⟩
def ziY (nt:Nat) (i:Nat) (u:Use22):Ins:=⟨zbA 105 i,zbA 116 (u.t%(nt:Int)).toNat,(ordS u.o 3).1⟩
def covB (l:List Ins) (evs:List ByteArray):Bool:=evs.all fun s=>l.any fun x=>decide (nmIx x.evs s≥0)
def zp4 (nt:Nat) (st:List Ins×List Ins) (i:Nat) (u:Use22):List Ins×List Ins:=
 if u.req=false∧st.1.length<3 then (st.1++[ziY nt i u],st.2) else if covB st.1 (ziY nt i u).evs=true∧st.2.length<2 then (st.1,st.2++[ziY nt i u]) else st
def insN (nt:Nat) (l:List Use22):Nat→List Ins×List Ins
 |0=>([],[])
 |i+1=>zp4 nt (insN nt l i) i (l.getD i zUse)
theorem zgj (nt:Nat) (l:List Use22):∀i,(insN nt l i).1.length≤3∧(insN nt l i).2.length≤2
 |0=>⟨Nat.zero_le _,Nat.zero_le _⟩
 |i+1=>by
  obtain⟨h1,h2⟩:=zgj nt l i;simp only[insN,zp4]
  split
  ·rename_i h;simp only[List.length_append,List.length_singleton];exact⟨by omega,h2⟩
  ·split
   ·rename_i h;simp only[List.length_append,List.length_singleton];exact⟨h1,by omega⟩
   ·exact⟨h1,h2⟩
theorem znL {P:Ins→Prop} (nt:Nat) (l:List Use22) (h:∀i,P (ziY nt i (l.getD i zUse))):∀i,∀x∈(insN nt l i).1++(insN nt l i).2,P x
 |0=>by simp[insN]
 |i+1=>by
  have ih:=znL nt l h i;have h1:=h i;intro x hx;simp only[insN,zp4] at hx;rcases List.mem_append.1 hx with hx|hx
  ·split at hx
   ·rcases List.mem_append.1 hx with hx|hx
    ·exact ih x (List.mem_append_left _ hx)
    ·rw[List.mem_singleton.1 hx];exact h1
   ·split at hx<;>exact ih x (List.mem_append_left _ hx)
  ·split at hx
   ·exact ih x (List.mem_append_right _ hx)
   ·split at hx
    ·rcases List.mem_append.1 hx with hx|hx
     ·exact ih x (List.mem_append_right _ hx)
     ·rw[List.mem_singleton.1 hx];exact h1
    ·exact ih x (List.mem_append_right _ hx)
def zfb (k:Sk22):Nat:=if (mkT k).length=0 then 0 else min k.ins.length 5
def mkI (k:Sk22):List Ins×List Ins:=insN (mkT k).length k.ins (zfb k)
def znh (T:List Tpl) (c:Ins):Tpl:=(T.find? fun t=>sB t.name c.tpl).getD zTpl
def excA (T:List Tpl) (C:List Ins) (acc:List NLc) (w:Whr):List NLc:=
 if (match acc with|[]=>false|a::_=>sB a.1 (C.getD (w.1%(C.length:Int)).toNat zgs).name)=true then acc
 else acc++[((C.getD (w.1%(C.length:Int)).toNat zgs).name,(znh T (C.getD (w.1%(C.length:Int)).toNat zgs)).locs.getD (w.2%((znh T (C.getD (w.1%(C.length:Int)).toNat zgs)).locs.length:Int)).toNat ⟨#[]⟩)]
def zvw (T:List Tpl) (C:List Ins) (i:Nat) (p:Whr×Whr):NEx:=⟨zbA 120 i,excA T C (excA T C [] p.1) p.2⟩
def zWhr:Whr×Whr:=((0,0),(0,0))
def zeQ (T:List Tpl) (C:List Ins) (l:List (Whr×Whr)) (n:Nat):List NEx:=(List.range n).map fun i=>zvw T C i (l.getD i zWhr)
def zcK (C:List Ins):List NTm:=((List.range C.length).map fun i=>((C.getD i zgs).name,1+(i:Int))).reverse
def zy3 (C:List Ins) (b:Int):NCn:=⟨⟨#[99]⟩,zcK C,b%5⟩
def zcn (k:Sk22):Mdl:=
 if (mkI k).1.length=0 then ⟨⟨#[109]⟩,evs4,mkT k,(mkI k).1,(mkI k).2,[],[]⟩
 else ⟨⟨#[109]⟩,evs4,mkT k,(mkI k).1,(mkI k).2,zeQ (mkT k) (mkI k).1 k.excs (min k.excs.length 2),if k.bound>0 then [zy3 (mkI k).1 k.bound] else []⟩
theorem ziQ (k:Sk22):(mkT k).length=min k.tpls.length 3:=by simp[mkT,zft]
theorem zxj {k:Sk22} {j:Nat} (h:j<(mkT k).length):(mkT k)[j]? = some (zrd j (k.tpls.getD j zSk)):=by
 unfold mkT zft at *;rw[List.getElem?_map,List.getElem?_range (by simpa using h)];rfl
theorem zss (k:Sk22) (hk:sk22Ok k) (h:(mkT k).length≠0) (i:Nat) (hi:i<k.ins.length):∃t∈mkT k,(mkT k).find? (fun t=>sB t.name (ziY (mkT k).length i (k.ins.getD i zUse)).tpl)=some t:=by
 have hu:=hk.i (k.ins.getD i zUse) (by rw[List.getD_eq_getElem?_getD,List.getElem?_eq_getElem hi];exact List.getElem_mem hi);have h1:=Int.emod_nonneg (k.ins.getD i zUse).t (show ((mkT k).length:Int)≠0 by omega);have h2:=Int.emod_lt_of_pos (k.ins.getD i zUse).t (show 0<((mkT k).length:Int) by omega);have hg:=zxj (k:=k) (j:=((k.ins.getD i zUse).t%((mkT k).length:Int)).toNat) (by omega);have hm:=List.mem_of_getElem? hg
 cases hf:(mkT k).find? (fun t=>sB t.name (ziY (mkT k).length i (k.ins.getD i zUse)).tpl) with
 |none=>
  have:=List.find?_eq_none.1 hf _ hm;exact absurd (zfS.2 rfl) this
 |some t=>exact⟨t,List.mem_of_find?_eq_some hf,rfl⟩
theorem zlh {k:Sk22} {t:Tpl} (h:t∈mkT k):∃j,j<(mkT k).length∧j<k.tpls.length∧t=zrd j (k.tpls.getD j zSk):=by
 unfold mkT zft at h;obtain⟨j,h1,h2⟩:=List.mem_map.1 h;have h1:=List.mem_range.1 h1;exact⟨j,by rw[ziQ];exact h1,by omega,h2.symm⟩
theorem zsc (k:Sk):1≤zcV k:=by unfold zcV;omega
theorem zfc {α:Type} {l:List α} {i:Nat} {d:α} (h:i<l.length):l.getD i d∈l:=by
 rw[List.getD_eq_getElem?_getD,List.getElem?_eq_getElem h];exact List.getElem_mem h
theorem zef {P:Ins→Prop} (nt:Nat) (l:List Use22):∀n,(∀i,i<n→P (ziY nt i (l.getD i zUse)))→∀x∈(insN nt l n).1++(insN nt l n).2,P x
 |0,_=>by simp[insN]
 |i+1,h=>by
  have ih:=zef nt l i fun j hj=>h j (by omega);have h1:=h i (by omega);intro x hx;simp only[insN,zp4] at hx;rcases List.mem_append.1 hx with hx|hx
  ·split at hx
   ·rcases List.mem_append.1 hx with hx|hx
    ·exact ih x (List.mem_append_left _ hx)
    ·rw[List.mem_singleton.1 hx];exact h1
   ·split at hx<;>exact ih x (List.mem_append_left _ hx)
  ·split at hx
   ·exact ih x (List.mem_append_right _ hx)
   ·split at hx
    ·rcases List.mem_append.1 hx with hx|hx
     ·exact ih x (List.mem_append_right _ hx)
     ·rw[List.mem_singleton.1 hx];exact h1
    ·exact ih x (List.mem_append_right _ hx)
theorem zhc (k:Sk22):zfb k≤k.ins.length∧zfb k≤5:=by unfold zfb;split<;>omega
theorem zxk (k:Sk22) (hk:sk22Ok k):∀x∈(mkI k).1++(mkI k).2,∃t∈mkT k,(mkT k).find? (fun t=>sB t.name x.tpl)=some t:=by
 by_cases h:(mkT k).length=0
 ·have:zfb k=0:=by unfold zfb;rw[if_pos h]
  intro x hx;unfold mkI at hx;rw[this] at hx;simp[insN] at hx
 ·exact zef _ _ _ fun i hi=>zss k hk h i (by have:=zhc k;omega)
end Go.AI
namespace Go.Proofs.YtnojpbbaohoadaaGreatDoor
open Go.ChangeShapes Go.WideShapes Go.ChangeAt Go.RowKit Go.Deep Go.WideElems
set_option maxRecDepth 100000
section
variable {H:Type} {enc:TypeId×Value→H} {W:World}
theorem zuW:Opn enc Tryz.prog W 229 fun is=>∃x:AI.Lin,is=AI.linI x∧AI.linOk x:=by
 intro n cs x h;obtain⟨is,hr,a,b,c,rfl,⟨zs,hz,rfl,hw⟩,⟨g,rfl,hg,hgl⟩,⟨u,rfl,hu,hul⟩⟩:=zgR Tryz.underlying229 (z0:=3) (z1:=1) (z2:=1) (by kernel_rfl) (by kernel_rfl) (by kernel_rfl) (by kernel_rfl) rfl rfl rfl
  (zjX Tryz.underlying227 Tryz.underlying5 (by kernel_rfl) (by kernel_rfl)) znw znw n cs x h
 match zs,hz with
 |[p,q,r],_=>
  exact⟨_,hr,⟨p,q,r,g,u⟩,rfl,wf_u8 (hw p (by simp)),wf_u8 (hw q (by simp)),wf_u8 (hw r (by simp)),hg,hgl,hu,hul⟩
theorem zrT:Opn enc Tryz.prog W 139 fun is=>∃l:List AI.Lin,is=[.sl 5 l.length (l.map AI.linI)]∧(∀x∈l,AI.linOk x)∧l.length≤AI.zar:=by
 intro n cs x h;obtain⟨is,hr,xs,rfl,hx,hl⟩:=zdg Tryz.underlying139 (z:=5) (by kernel_rfl) (by decide) zuW n cs x h;obtain⟨l,rfl,hq⟩:=zeL (f:=AI.linI) (Q:=AI.linOk) (xs:=xs) hx;refine⟨_,hr,l,by simp,hq,zea (by simpa using hl)⟩
theorem zpP:Opn enc Tryz.prog W 138 fun is=>∃l:List (Int×Int),is=[.sl 2 l.length (l.map AI.r8I)]∧(∀x∈l,AI.zfU x)∧l.length≤AI.zar:=by
 intro n cs x h;obtain⟨is,hr,xs,rfl,hx,hl⟩:=zdg Tryz.underlying138 (z:=2) (by kernel_rfl) (by decide) (zjX Tryz.underlying288 Tryz.underlying25 (by kernel_rfl) (by kernel_rfl)) n cs x h;obtain⟨l,rfl,hq⟩:=zeL (f:=AI.r8I) (Q:=AI.zfU) (xs:=xs) fun d hd=>by
  obtain⟨zs,hz,he,hw⟩:=hx d hd
  match zs,hz with
  |[p,q],_=>exact⟨(p,q),he,(wf_i8 (hw p (by simp))).1,(wf_i8 (hw p (by simp))).2,(wf_i8 (hw q (by simp))).1,(wf_i8 (hw q (by simp))).2⟩
 refine⟨_,hr,l,by simp,hq,zea (by simpa using hl)⟩
theorem zxd:Opn enc Tryz.prog W 141 fun is=>∃k:AI.Sk,is=AI.skI k∧AI.skOk k:=by
 intro n cs x h;obtain⟨is,hr,a,b,c,d,rfl,⟨p,rfl,hp⟩,⟨q,rfl,hq⟩,⟨r,rfl,h1,h2⟩,⟨l,rfl,h3,h4⟩⟩:=zeG Tryz.underlying141 (z0:=1) (z1:=1) (z2:=1) (z3:=1) (by kernel_rfl) (by kernel_rfl) (by kernel_rfl) (by kernel_rfl) (by kernel_rfl) rfl rfl rfl rfl
  (zcw Tryz.underlying5) (zcw Tryz.underlying5) zpP zrT n cs x h
 exact⟨_,hr,⟨p,q,r,l⟩,rfl,wf_u8 hp,wf_u8 hq,h2,h1,h4,h3⟩
theorem zuV:Opn enc Tryz.prog W 22 fun is=>∃l:List AI.Sk,is=[.sl 4 l.length (l.map AI.skI)]∧(∀x∈l,AI.skOk x)∧l.length≤AI.zar:=by
 intro n cs x h;obtain⟨is,hr,xs,rfl,hx,hl⟩:=zdg Tryz.underlying22 (z:=4) (by kernel_rfl) (by decide) zxd n cs x h;obtain⟨l,rfl,hq⟩:=zeL (f:=AI.skI) (Q:=AI.skOk) (xs:=xs) hx;refine⟨_,hr,l,by simp,hq,zea (by simpa using hl)⟩
theorem zrV:Opn enc Tryz.prog W 4 fun is=>∃b:Bool,is=[AI.bI b]:=by
 intro n cs x h;obtain⟨b,rfl,_⟩:=DataW.trod_bool Tryz.underlying4 h;exact⟨[AI.bI b],.cons (.v rfl) .nil,b,rfl⟩
theorem zuU:Opn enc Tryz.prog W 143 fun is=>∃u:AI.Use22,is=AI.useI u∧(0≤u.t∧u.t≤255)∧(0≤u.o∧u.o≤255):=by
 intro n cs x h;obtain⟨is,hr,a,b,c,rfl,⟨p,rfl,hp⟩,⟨q,rfl,hq⟩,⟨r,rfl⟩⟩:=zgR Tryz.underlying143 (z0:=1) (z1:=1) (z2:=1) (by kernel_rfl) (by kernel_rfl) (by kernel_rfl) (by kernel_rfl) rfl rfl rfl
  (zcw Tryz.underlying5) (zcw Tryz.underlying5) zrV n cs x h
 exact⟨_,hr,⟨p,q,r⟩,rfl,wf_u8 hp,wf_u8 hq⟩
theorem zrS:Opn enc Tryz.prog W 23 fun is=>∃l:List AI.Use22,is=[.sl 3 l.length (l.map AI.useI)]∧(∀u∈l,(0≤u.t∧u.t≤255)∧(0≤u.o∧u.o≤255))∧l.length≤AI.zar:=by
 intro n cs x h;obtain⟨is,hr,xs,rfl,hx,hl⟩:=zdg Tryz.underlying23 (z:=3) (by kernel_rfl) (by decide) zuU n cs x h;obtain⟨l,rfl,hq⟩:=zeL (f:=AI.useI) (Q:=fun u=>(0≤u.t∧u.t≤255)∧(0≤u.o∧u.o≤255)) (xs:=xs) hx;refine⟨_,hr,l,by simp,hq,zea (by simpa using hl)⟩
theorem znv:Opn enc Tryz.prog W 146 fun is=>∃p:AI.Whr,is=[AI.u8J p.1,AI.u8J p.2]∧AI.zhA p:=by
 intro n cs x h;obtain⟨is,hr,a,b,rfl,⟨p,rfl,hp⟩,⟨q,rfl,hq⟩⟩:=zlf Tryz.underlying146 (z0:=1) (z1:=1) (by kernel_rfl) (by kernel_rfl) (by kernel_rfl) rfl rfl
  (zcw Tryz.underlying5) (zcw Tryz.underlying5) n cs x h
 exact⟨_,hr,(p,q),rfl,wf_u8 hp,wf_u8 hq⟩
theorem zrR:Opn enc Tryz.prog W 147 fun is=>∃p:AI.Whr×AI.Whr,is=AI.whrI p∧AI.zhA p.1∧AI.zhA p.2:=by
 intro n cs x h;obtain⟨xs,f,rfl,rfl,hl,hlen,hx⟩:=DataW.trod_array Tryz.underlying147 h;have e4:Tryz.prog.cellsOf 147=4:=by kernel_rfl
 have e2:Tryz.prog.cellsOf 146=2:=by kernel_rfl
 rw[e4] at hl;have h0:=hx 0 (by omega);have h1:=hx 1 (by omega);rw[e2,List.getElem?_eq_getElem (by omega)] at h0 h1;obtain⟨i0,r0,p,rfl,hp⟩:=znv _ _ _ h0;obtain⟨i1,r1,q,rfl,hq⟩:=znv _ _ _ h1;refine⟨AI.whrI (p,q),?_,(p,q),rfl,hp,hq⟩;have e:cs=(cs.drop (0*2)).take 2++(cs.drop (1*2)).take 2:=by
  rw[Nat.zero_mul,Nat.one_mul,List.drop_zero];have:(cs.drop 2).take 2=cs.drop 2:=List.take_of_length_le (by simp;omega);rw[this,List.take_append_drop]
 rw[e];exact zcY r0 r1
theorem zrU:Opn enc Tryz.prog W 24 fun is=>∃l:List (AI.Whr×AI.Whr),is=[.sl 4 l.length (l.map AI.whrI)]∧(∀p∈l,AI.zhA p.1∧AI.zhA p.2)∧l.length≤AI.zar:=by
 intro n cs x h;obtain⟨is,hr,xs,rfl,hx,hl⟩:=zdg Tryz.underlying24 (z:=4) (by kernel_rfl) (by decide) zrR n cs x h;obtain⟨l,rfl,hq⟩:=zeL (f:=AI.whrI) (Q:=fun p=>AI.zhA p.1∧AI.zhA p.2) (xs:=xs) hx;refine⟨_,hr,l,by simp,hq,zea (by simpa using hl)⟩
theorem zrX {r:Reach} {b0:Nat} {v:Value} {d:DataW H} {p:List MemPlace} (hv:Value.okWide Tryz.prog W r b0 27 v) (h:DataW.Trod enc Tryz.prog W 0 (fun _=>true) true 27 v d p) :
  ∃k:AI.Sk22,AI.sk22Ok k∧∀ρ sh,AI.RepD (KW W) ρ sh v (AI.zuz k):=by
 obtain⟨cs,rfl,_⟩:=okWide_struct Tryz.underlying27 hv;obtain⟨n,hn⟩:=h;obtain⟨is,hr,a,b,c,e,rfl,⟨t,rfl,t1,t2⟩,⟨u,rfl,u1,u2⟩,⟨x,rfl,x1,x2⟩,⟨z,rfl,hz⟩⟩:=zeG Tryz.underlying27 (z0:=1) (z1:=1) (z2:=1) (z3:=1) (by kernel_rfl) (by kernel_rfl) (by kernel_rfl) (by kernel_rfl) (by kernel_rfl) rfl rfl rfl rfl
  zuV zrS zrU (zcw Tryz.underlying25) n _ _ hn
 refine⟨⟨t,u,x,z⟩,⟨t2,t1,u2,u1,x2,x1,wf_i8 hz⟩,fun ρ sh=>?_⟩;have:=AI.RepD.agg (AI.RepDL.ofL (ρ:=ρ) (sh:=sh) hr);simpa [Value.cells] using this
end
end Go.Proofs.YtnojpbbaohoadaaGreatDoor
