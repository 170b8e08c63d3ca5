/- The layer of abstract runs, part 23. -/
import Derived.Test.YtnojpbbaohoadaaGreatDoorElkV
import Derived.Test.YtnojpbbaohoadaaGreatDoorTie
import Derived.Test.YtnojpbbaohoadaaGreatDoorCards
import Derived.ProofKit
import Derived.LaidMore
import Derived.OpenShut
import Derived.Lay
import Derived.SevenTiedAt
import Derived.Stop.Joined
import Derived.Stop.LaidErr
import Derived.Lib.LaidTab
import Derived.WideKeyArgs
import Derived.Lib.SmallJoins
import Derived.Deep.Slices
set_option linter.unusedSimpArgs false
set_option linter.unusedVariables false
set_option linter.all false
set_option maxHeartbeats 4000000
namespace Go.AI
open Go.Proofs
set_option maxRecDepth 20000
theorem zn4 {s:Sta} {ev:Int}:∀{l:List Mv} {i:Nat} {out:Option Nat} {two:Bool} {k:Nat},(∀k,out=some k→k<i)→(chs s ev l i out two).1=some k→k<i+l.length
 |[],i,out,two,k,ho,h=>by
  simp only[chs] at h
  split at h
  ·cases h
  ·exact ho k h
 |x::r,i,out,two,k,ho,h=>by
  simp only[chs] at h;have h1:(∀k,out=some k→k<i+1):=fun k hk=>by have:=ho k hk;omega
  split at h
  ·have:=zn4 h1 h;simp only[List.length_cons];omega
  ·split at h
   ·cases h
   ·split at h
    ·have:=zn4 (out:=some i) (fun k hk=>by simp at hk;omega) h;simp only[List.length_cons];omega
    ·have:=zn4 h1 h;simp only[List.length_cons];omega
theorem zfO {n:Int}:∀{l:List Upd} {p:Option Int},zcX n p l=0→∀u∈l,0≤u.v∧u.v<n∧zbm u.x n 1=0
 |[],_,_,u,hu=>by simp at hu
 |x::r,p,h,u,hu=>by
  simp only[zcX] at h
  by_cases h1:x.v<0∨x.v≥n
  ·rw[if_pos h1] at h;cases h
  rw[if_neg h1] at h
  by_cases h2:p.any (x.v ≤ ·)=true
  ·rw[if_pos h2] at h;cases h
  rw[if_neg h2] at h
  by_cases h3:zbm x.x n 1≠0
  ·rw[if_pos h3] at h;exact absurd h h3
  rw[if_neg h3] at h;rcases List.mem_cons.1 hu with rfl|hu
  ·exact⟨by omega,by omega,by simpa using h3⟩
  ·exact zfO h u hu
structure mvRight (m:Ext) (x:Mv):Prop where
 frm:0≤x.frm∧x.frm<m.locs
 to:0≤x.to∧x.to<m.locs
 ev:x.ev∈m.alpha
 g:zbm x.g m.vars.length 2=0
 us:zcX m.vars.length none x.us=0
theorem zlg {m:Ext} {p:Option Mv} {x:Mv} (h:zj4 m p x=0):mvRight m x:=by
 unfold zj4 at h
 by_cases h1:x.frm<0∨x.frm≥m.locs∨x.to<0∨x.to≥m.locs
 ·rw[if_pos h1] at h;cases h
 rw[if_neg h1] at h
 by_cases h2:x.ev ∉ m.alpha
 ·rw[if_pos h2] at h;cases h
 rw[if_neg h2] at h
 by_cases h3:p.any (fun p=>decide (x.frm<p.frm∨(x.frm=p.frm∧x.ev<p.ev)))=true
 ·rw[if_pos h3] at h;cases h
 rw[if_neg h3] at h
 by_cases h4:zbm x.g m.vars.length 2≠0
 ·rw[if_pos h4] at h;exact absurd h h4
 rw[if_neg h4] at h;exact⟨by omega,by omega,by simpa using h2,by simpa using h4,h⟩
theorem zfV {m:Ext}:∀{l:List Mv} {p:Option Mv},zgY m p l=0→∀x∈l,mvRight m x
 |[],_,_,x,hx=>by simp at hx
 |y::r,p,h,x,hx=>by
  simp only[zgY] at h
  by_cases h1:zj4 m p y≠0
  ·rw[if_pos h1] at h;exact absurd h h1
  rw[if_neg h1] at h;rcases List.mem_cons.1 hx with rfl|hx
  ·exact zlg (by simpa using h1)
  ·exact zfV h x hx
structure extRight (m:Ext):Prop where
 alpha:zaO 32 m.alpha none=0
 locs:1≤m.locs∧m.locs≤64
 init:0≤m.init∧m.init<m.locs
 marked:zaO m.locs m.marked none=0
 vars:zbz m.vars=0
 len:m.moves.length≤256
 mv:∀x∈m.moves,mvRight m x
theorem zhu {m:Ext} (h:chk m=0):extRight m:=by
 unfold chk at h
 by_cases h1:zaO 32 m.alpha none≠0
 ·rw[if_pos h1] at h;exact absurd h h1
 rw[if_neg h1] at h
 by_cases h2:m.locs<1∨m.locs>64∨m.init<0∨m.init≥m.locs
 ·rw[if_pos h2] at h;cases h
 rw[if_neg h2] at h
 by_cases h3:zaO m.locs m.marked none≠0
 ·rw[if_pos h3] at h;exact absurd h h3
 rw[if_neg h3] at h
 by_cases h4:zbz m.vars≠0
 ·rw[if_pos h4] at h;exact absurd h h4
 rw[if_neg h4] at h
 by_cases h5:m.moves.length>256
 ·rw[if_pos h5] at h;cases h
 rw[if_neg h5] at h;exact⟨by simpa using h1,by omega,by omega,by simpa using h3,by simpa using h4,by omega,zfV h⟩
theorem znf {l:List Vr} (h:zbz l=0):l.length≤16:=by
 unfold zbz at h
 by_cases h1:l.length>16
 ·rw[if_pos h1] at h;cases h
 ·omega
def updR (m:Ext) (vals:List Int):List Upd→List Int→Option (List Int)
 |[],acc=>some acc
 |u::r,acc=>match m.vars[u.v.toNat]? with
  |none=>none
  |some v=>if (zdz u.x vals).2≠0∨(zdz u.x vals).1<v.low∨(zdz u.x vals).1>v.high then none else updR m vals r (acc.set u.v.toNat (zdz u.x vals).1)
def zgr:Sta:=⟨0,[]⟩
def zhC (m:Ext) (s:Sta) (ev:Int):Sta×Bool×Int:=
 match (chs s ev m.moves 0 none false).1 with
 |none=>(zgr,false,(chs s ev m.moves 0 none false).2)
 |some k=>if (chs s ev m.moves 0 none false).2≠0 then (zgr,false,(chs s ev m.moves 0 none false).2) else match m.moves[k]? with
  |none=>(zgr,false,0)
  |some x=>match updR m s.vals x.us s.vals with
   |none=>(zgr,false,17)
   |some acc=>(⟨x.to,acc⟩,true,0)
theorem coZ {b:Bool} {e:Int}:CoD (.tup [.agg [ii 0,.i (.v (.slice none 0 0))],bb b,ii e]) (.tup [staD zgr,bb b,ii e]):=
 zbR (.cons (zbu (.cons (.refl _) (.cons (zcv zbd) .nil))) (CoDL.refl _))
theorem zyh (O:List Heap) (m:Ext) (s:Sta) (ev:Int) (hok:extOk m) (hr:extRight m) (hl:s.vals.length=m.vars.length):zao Tryz.prog 71 [extD m,staD s,ii ev] O (.tup [staD (zhC m s ev).1,bb (zhC m s ev).2.1,ii (zhC m s ev).2.2]) [] O:=by
 have hv16:=znf hr.vars;have hlm:s.vals.length≤zar:=by simp only[zar];omega
 have hch:=fun O=>zvM O m s ev hok hlm;have hlt:=@zn4 s ev m.moves 0 none false;generalize hR:zhC m s ev=R;unfold zhC at hR;generalize chs s ev m.moves 0 none false=C at *;obtain⟨out,e⟩:=C;simp only at hR hch hlt;obtain⟨sl,sv⟩:=s;simp only at hl hR hlm
 cases out with
 |none=>
  simp only at hR;subst hR;refine zaa Tk Tryz.func71 rfl Tryz.call71 Tryz.ntmps71 (Nat.le_of_ble_eq_true rfl) fun E=>?_;refine zai Tk Tryz.func71 ?_;refine zaj Tk Tryz.func71 (hch _) rfl rfl rfl rfl rfl ?_;refine zaK Tk Tryz.func71 rfl (fun h1=>?_) (fun h1=>?_)
  ·refine gcT Tk Tryz.func71 rfl ?_;refine zaD Tk (r:=.tup [.agg [ii 0,.i (.v (.slice none 0 0))],bb false,ii e]) rfl rfl rfl trivial rfl rfl ?_;exact coZ
  ·refine gcT Tk Tryz.func71 rfl ?_;refine zaD Tk (r:=.tup [.agg [ii 0,.i (.v (.slice none 0 0))],bb false,ii e]) rfl rfl rfl trivial rfl rfl ?_;exact coZ
 |some k=>
  refine zaa Tk Tryz.func71 rfl Tryz.call71 Tryz.ntmps71 (Nat.le_of_ble_eq_true rfl) fun E=>?_;refine zai Tk Tryz.func71 ?_;refine zaj Tk Tryz.func71 (hch _) rfl rfl rfl rfl rfl ?_;refine zaK Tk Tryz.func71 rfl (fun h1=>?_) (fun h1=>?_)
  ·have h1:=bneT h1;simp only at hR;rw[if_pos h1] at hR;subst hR;refine gcT Tk Tryz.func71 rfl ?_;refine zaD Tk (r:=.tup [.agg [ii 0,.i (.v (.slice none 0 0))],bb false,ii e]) rfl rfl rfl trivial rfl rfl ?_;exact coZ
  have h1:=bneF h1;have hk:k<m.moves.length:=by have:=hlt (k:=k) (by simp) rfl;omega
  have hg:(m.moves.map mvI)[k]? = some (mvI m.moves[k]):=by simp[hk]
  have hx:=hok.mv _ (List.getElem_mem hk);have hxr:=hr.mv _ (List.getElem_mem hk);simp only at hR;rw[if_neg (by simpa using h1),List.getElem?_eq_getElem hk] at hR;simp only at hR;generalize m.moves[k]=x at *;obtain⟨xf,xe,xt,xg,xu⟩:=x;obtain⟨-,hx2,hx3⟩:=hx;simp only at hx2 hx3 hR;have hur:=zfO hxr.us;simp only at hur;clear hxr hch hlt;refine gcF Tk Tryz.func71 rfl ?_;refine zav Tk Tryz.func71 zaz rfl ?_;refine zaE Tk (hg) ?_;refine zaJ Tk (fun _=>zxR 38 _ sv (by simp only[big];omega)) rfl rfl rfl ?_;refine zuC Tk ?_;refine zlO Tk (p:=⟨[],[(11,.box [ii xt,.osl 0 38])],none⟩) rfl rfl rfl ?_;refine zkE Tk Tryz.func71 (by kernel_rfl) (GM.h ?_);refine zap Tk Tryz.func71 (hg) ?_;refine zah ?_
  refine zak (fun x:Nat×List Int=>[(3,.own 0 3 0 0),(4,.own 0 4 0 0),(6,.own 0 6 0 0),(11,.own 0 11 0 0),(43,upds xu),(44,ii xu.length),(45,ii x.1)]) (fun x=>[(11,.box [ii xt,.osl 0 38]),(38,zb7 x.2),(6,.box [ii 0,.i (.v (.slice none 0 0))]),(4,.box [ii sl,ints sv]),(3,.box (extC m))]) (fun _=>O) 86
   (fun x=>x.1≤xu.length∧x.2.length=m.vars.length∧(match updR m sv (xu.drop x.1) x.2 with|none=>(zgr,false,17)|some acc=>(⟨xt,acc⟩,true,0))=R) (fun x=>xu.length-x.1) (0,sv) ⟨Nat.zero_le _,hl,hR⟩ ⟨rfl,rfl,rfl,rfl,rfl,rfl,rfl,trivial⟩ rfl ⟨rfl,rfl,rfl,rfl,rfl,trivial⟩ rfl rfl ?_
  rintro ⟨i,acc⟩ ⟨hi,hacc,hno⟩ ih;clear hR;simp only at hi hacc hno;refine zai Tk Tryz.func71 ?_;refine zae Tk Tryz.func71 rfl (fun h2=>?_) (fun h2=>?_)
  ·have h2:i<xu.length:=by simpa using h2
   have hd:xu.drop i=xu[i]::xu.drop (i+1):=List.drop_eq_getElem_cons h2;have hgu:(xu.map updI)[(i:Int).toNat]? = some (updI xu[i]):=zan h2;have hm:=List.getElem_mem h2;generalize xu[i]=u at *;have hux:=hx3 u hm;have hur:=hur u hm;obtain⟨uv,ux⟩:=u;simp only at hux hur;obtain⟨hu0,hu1,-⟩:=hur;have huv:uv.toNat<m.vars.length:=by omega
   have hgv:(m.vars.map vrI)[uv.toNat]? = some (vrI m.vars[uv.toNat]):=by simp[huv]
   rw[hd] at hno;simp only[updR] at hno;rw[List.getElem?_eq_getElem huv] at hno;simp only at hno;generalize m.vars[uv.toNat]=v at *;obtain⟨vn,vl,vh,vi'⟩:=v;simp only at hno;have bad:((zdz ux sv).2≠0∨(zdz ux sv).1<vl∨(zdz ux sv).1>vh)→R=(zgr,false,17):=fun h=>by rw[←hno,if_pos h]
   have good:¬((zdz ux sv).2≠0∨(zdz ux sv).1<vl∨(zdz ux sv).1>vh)→(match updR m sv (xu.drop (i+1)) (acc.set uv.toNat (zdz ux sv).1) with|none=>(zgr,false,17)|some acc=>(⟨xt,acc⟩,true,0))=R:=fun h=>by rw[←hno,if_neg h]
   clear hno;refine zad Tk Tryz.func71 (by omega) ?_;refine zap Tk Tryz.func71 (hgu) ?_;refine zaj Tk Tryz.func71 (zeS _ ux sv hux hlm) rfl rfl rfl rfl rfl ?_;generalize zdz ux sv=V at *;obtain⟨w,we⟩:=V;simp only at bad good;refine zad Tk Tryz.func71 (by exact⟨hu0,hu1⟩) ?_;refine zap Tk Tryz.func71 (hgv) ?_;refine zaK Tk Tryz.func71 rfl (fun h3=>?_) (fun h3=>?_)
   ·have:=bad (.inl (bneT h3));subst this
    repeat (first|refine gcT Tk Tryz.func71 rfl ?_|refine gkT Tk Tryz.func71 rfl ?_|refine skT Tk ?_|refine gcF Tk Tryz.func71 rfl ?_|refine gkF Tk Tryz.func71 rfl ?_|refine skF Tk ?_)
    refine zaD Tk (r:=.tup [.agg [ii 0,.i (.v (.slice none 0 0))],bb false,ii 17]) rfl rfl rfl trivial rfl rfl ?_;exact coZ
   have h3:=bneF h3;refine zaK Tk Tryz.func71 rfl (fun h4=>?_) (fun h4=>?_)
   ·have:=bad (.inr (.inl (of_decide_eq_true h4)));subst this;refine gcT Tk Tryz.func71 rfl ?_;refine zaD Tk (r:=.tup [.agg [ii 0,.i (.v (.slice none 0 0))],bb false,ii 17]) rfl rfl rfl trivial rfl rfl ?_;exact coZ
   have h4:¬w<vl:=of_decide_eq_false h4;refine zae Tk Tryz.func71 rfl (fun h5=>?_) (fun h5=>?_)
   ·have:=bad (.inr (.inr (of_decide_eq_true h5)));subst this;refine zaD Tk (r:=.tup [.agg [ii 0,.i (.v (.slice none 0 0))],bb false,ii 17]) rfl rfl rfl trivial rfl rfl ?_;exact coZ
   have h5:¬w>vh:=of_decide_eq_false h5;have good:=good (by omega);refine zad Tk Tryz.func71 (by exact⟨hu0,by rw[hacc];exact hu1⟩) ?_;refine zah ?_;refine ih (i+1,acc.set uv.toNat w) _ _ ⟨h2,by simp only[List.length_set];exact hacc,good⟩ (by simp only;omega) ⟨rfl,rfl,rfl,rfl,rfl,rfl,congrArg ii (zaC h2 hx2),trivial⟩ rfl ⟨rfl,?_,rfl,rfl,rfl,trivial⟩ rfl rfl;show some (Ob.arr 3 1 acc.length ((acc.map fun x=>[vi x]).set uv.toNat [vi w]) true)=_;simp[List.map_set]
  ·have h2:xu.length≤i:=by simpa using h2
   rw[List.drop_eq_nil_of_le h2] at hno;simp only[updR] at hno;subst hno;refine za4 (zam 38 rfl rfl) ?_;refine za4 (zaQ rfl) ?_;refine zag Tk (r:=.tup [.agg [ii xt,ints acc],bb true,ii 0]) rfl rfl rfl trivial rfl rfl ?_;rfl
def zcW (n:Int):ByteArray:=⟨(Lib.itoa n).toArray⟩
def ptab (ty:TypeId) (fr:Nat×Nat):Obj:=.cells (Lib.pow10Tab.map fun z=>Value.int .u64 z).toArray ty fr
theorem zur {name:String} {g:Nat} {ty:TypeId} {fr:Nat×Nat} {w:World} (hg:Tryz.prog.globalNamed name=some g) (h:w.heap[g]? = some (ptab ty fr)):Lib.TabIs Tryz.prog w name .u64 Lib.pow10Tab:=by
 simp only[Lib.TabIs,World.var?,hg,Option.bind_some,h,ptab]
def zda (g : Nat) : Prop := ∀ ty fr w, w.heap[g]? = some (ptab ty fr) → Lib.TabIs Tryz.prog w "internal/strconv.uint64pow10" .u64 Lib.pow10Tab
theorem zkd {g:Nat} (hg:zda g) {ty:TypeId} {fr:Nat×Nat} (O:List Heap) (n:Int) (h0:-9223372036854775808≤n) (h1:n≤9223372036854775807):za3 g (ptab ty fr) Tryz.prog 27 [ii n] O (.i (.v (.string (zcW n)))) [] O:=by
 intro E K ρ w vs hw htab hrep;obtain rfl:vs=[.int .i64 n]:=by
  cases hrep with
  |cons r rs=>cases rs;rw[zaT r]
 refine .inl ⟨Tryz.call27 _ _,?_⟩;refine (Tryz.strconv_Itoa n h0 h1 w (hg ty fr w htab.1)).mono ?_;rintro e w' ⟨rfl,k,os,rfl⟩;obtain⟨ρ1,hρ1,hI⟩:=zdk hw;obtain⟨hI2,hst⟩:=HInv.grow (S:=[]::O) rfl hI (fun _ _ _ e=>e) (fun _ h=>by simp[look] at h) (zkk hI k os);exact⟨_,rfl,K,ρ1,hI2,.i (.v rfl)⟩
end Go.AI
namespace Go.Proofs.YtnojpbbaohoadaaGreatDoor
open Go.ChangeShapes Go.WideShapes Go.ChangeAt Go.RowKit
set_option maxRecDepth 100000
theorem Tryz.own:ownKnob Tryz.prog.godebug=none:=by kernel_rfl
theorem powG : Tryz.prog.globalNamed "internal/strconv.uint64pow10" = some 0 := by kernel_rfl
theorem zyN:AI.zda 0:=fun _ _ _ h=>AI.zur powG h
theorem zk3 {W : World} (h : laidMetH Tryz.prog [("math/bits.deBruijn32tab", Rows.laid_math_bits_deBruijn32tab), ("math/bits.deBruijn64tab", Rows.laid_math_bits_deBruijn64tab), ("internal/strconv.uint64pow10", Rows.laid_internal_strconv_uint64pow10)] W) :
  ∃ty fr,W.heap[0]? = some (AI.ptab ty fr):=by
 rw[MakeChecks.laidMetH_plain _ _ _ (by kernel_rfl)] at h;have h3:=laidMet.tail (laidMet.tail h);have hT : Lib.TabIs Tryz.prog W "internal/strconv.uint64pow10" .u64 Lib.pow10Tab :=
  Lib.tabIs_of_head (t:=369) (e:=321) (n:=20) powG (by kernel_rfl) (by kernel_rfl) (by kernel_rfl) (by kernel_rfl) (by kernel_rfl) (rest:=[]) h3
 unfold Lib.TabIs World.var? at hT;rw[powG] at hT;simp only[Option.bind_some] at hT
 cases hc:W.heap[0]? with
 |none=>rw[hc] at hT;cases hT
 |some o=>
  rw[hc] at hT
  cases o with
  |cells cs ty fr=>
   simp only[Option.some.injEq] at hT;subst hT;exact⟨ty,fr,rfl⟩
  |_=>cases hT
theorem zvQ {f:FuncId} {args:List AI.D} {vs:List Value} {b:Bool} {W:World} {ty:TypeId} {fr:Nat×Nat} (h0:W.heap[0]? = some (AI.ptab ty fr))
  (hcall:∀a w,(callFunc f a).run Tryz.prog w=.ok (.enter f a) w) (hs:AI.za3 0 (AI.ptab ty fr) Tryz.prog f args [] (AI.bb b) [] [])
  {K:AI.Kn} (hK:∀bl o x,K bl o=some x→W.cell? ⟨bl,o,none⟩=some x) (hr:∀ρ sh,AI.RepDL K ρ sh vs args) :
  Calls Tryz.prog f vs.toArray W fun e W'=>e=.returned (.bool b)∧(∀i,i<W.heap.size→W'.heap[i]? = W.heap[i]?)∧W'.os=W.os∧W'.output=W.output:=by
 let ρ:Nat→Nat→AI.Loc:=fun _ _=>⟨0,0,none⟩
 have hobj:∀d n,AI.zab [] d n=none:=fun d n=>by simp[AI.zab]
 have hI:AI.HInv (AI.Env.of K ρ W) K ρ [] W:=
  ⟨hK,(fun d n ob e=>absurd ((hobj d n).symm.trans e) (by simp)),(fun d n ob d' n' ob' e=>absurd ((hobj d n).symm.trans e) (by simp)),Nat.le_refl _,fun _ _ _=>rfl,(fun n ob e=>absurd ((hobj 0 n).symm.trans e) (by simp)),fun _=>rfl,fun _ _ _ h=>h,fun _ _ _ h=>.inl h,rfl,rfl,rfl⟩
 have ht:AI.TabQ 0 (AI.ptab ty fr) [] ρ W:=⟨h0,fun d n x e=>by simp[AI.shape,hobj] at e⟩;rcases hs _ K ρ W vs hI ht (hr _ _) with ⟨_,h⟩|⟨v,w',h,_⟩
 ·refine h.mono fun e W'=>?_;rintro ⟨v,rfl,K',ρ',h1,h2⟩;obtain rfl:=AI.zaT h2;refine⟨rfl,fun i hi=>h1.old i hi fun d n ob e=>?_,h1.rest.2.1,h1.rest.2.2⟩;simp[AI.zab] at e
 ·rw[hcall] at h
  cases h
theorem zxB {W W':World} {P:MemPlace→Prop} (h:∀i,i<W.heap.size→W'.heap[i]? = W.heap[i]?) (h1:W'.os=W.os) (h2:W'.output=W.output):W.keptBut W' P:=by
 refine⟨h1,h2,fun i hi=>?_⟩;rw[h i hi];exact (World.keptBut_refl W P).2.2 i hi
end Go.Proofs.YtnojpbbaohoadaaGreatDoor
namespace Go.Proofs.YtnojpbbaohoadaaGreatDoor
open Go.ChangeShapes Go.WideShapes Go.ChangeAt Go.RowKit Go.Deep Go.WideElems
set_option maxRecDepth 100000
def KW (W:World):AI.Kn:=fun b o=>W.cell? ⟨b,o,none⟩
theorem zzx (W:World):∀bl o x,KW W bl o=some x→W.cell? ⟨bl,o,none⟩=some x:=fun _ _ _ h=>h
section
variable {H:Type} {enc:TypeId×Value→H} {P:Program} {W:World}
def Opn (enc:TypeId×Value→H) (P:Program) (W:World) (t:TypeId) (R:List AI.I→Prop):Prop:=
 ∀n cs x,DataW.trod enc P W 0 (fun _=>true) true n t cs=some x→∃is,AI.RepL (KW W) cs is∧R is
theorem zcY {K:AI.Kn} {a b:List Value} {c d:List AI.I} (h:AI.RepL K a c) (h':AI.RepL K b d):AI.RepL K (a++b) (c++d):=h.append h'
theorem zcw {t:TypeId} {k:IntKind} (ht:P.underlying t=some (.int k)):Opn enc P W t fun is=>∃z,is=[.v (.int k z)]∧(Lit.int k z).wf=true:=by
 intro n cs x h;obtain⟨z,rfl,rfl,hw⟩:=DataW.trod_int ht h;exact⟨[.v (.int k z)],.cons (.v rfl) .nil,z,rfl,hw⟩
theorem znI {K:AI.Kn} {k:IntKind}:∀{cs:List Value},(∀i,i<cs.length→∃z,cs[i]? = some (.int k z)∧(Lit.int k z).wf=true)→∃zs:List Int,zs.length=cs.length∧AI.RepL K cs (zs.map fun z=>.v (.int k z))∧∀z∈zs,(Lit.int k z).wf=true
 |[],_=>⟨[],rfl,.nil,by simp⟩
 |c::cs,h=>by
  obtain⟨z,hz,hw⟩:=h 0 (by simp);simp only[List.getElem?_cons_zero,Option.some.injEq] at hz;subst hz;obtain⟨zs,h1,h2,h3⟩:=znI (cs:=cs) fun i hi=>by
   have:=h (i+1) (by simp;omega);simpa using this
  exact⟨z::zs,by simp[h1],.cons (.v rfl) h2,fun y hy=>by
   rcases List.mem_cons.1 hy with rfl|hy
   ·exact hw
   ·exact h3 y hy⟩
theorem zjX {t e:TypeId} {k:IntKind} {m:Nat} (ht:P.underlying t=some (.array m e)) (he:P.underlying e=some (.int k)) (hc:P.cellsOf e=1) (hct:P.cellsOf t=m) :
  Opn enc P W t fun is=>∃zs:List Int,zs.length=m∧is=zs.map (fun z=>.v (.int k z))∧∀z∈zs,(Lit.int k z).wf=true:=by
 intro n cs x h;obtain⟨xs,f,rfl,rfl,hl,hlen,hx⟩:=DataW.trod_array ht h;rw[hct] at hl;obtain⟨zs,h1,h2,h3⟩:=znI (K:=KW W) (k:=k) (cs:=cs) fun i hi=>by
  have h0:=hx i (by omega);rw[hc,Nat.mul_one,List.getElem?_eq_getElem (by omega)] at h0;obtain⟨z,hz,_,hw⟩:=DataW.trod_int he h0;refine⟨z,?_,hw⟩;have:=congrArg (fun l=>l[0]?) hz;simpa [List.getElem?_take,List.getElem?_drop] using this
 exact⟨_,h2,zs,by omega,rfl,h3⟩
theorem zdg {t e:TypeId} {z:Nat} {R:List AI.I→Prop} (ht:P.underlying t=some (.slice e)) (hc:P.cellsOf e=z) (hz:0<z) (he:Opn enc P W e R) :
  Opn enc P W t fun is=>∃xs:List (List AI.I),is=[.sl z xs.length xs]∧(∀d∈xs,R d)∧xs.length≤maxLen:=by
 intro n cs x h;rcases open_slice ht h with ⟨rfl,_⟩|⟨a,len,cap,m,f,D,Pl,rfl,_,hle,hm,hmm,_,hx⟩
 ·exact⟨[.sl z 0 []],.cons .nil .nil,[],rfl,by simp,Nat.zero_le _⟩
 ·simp only[if_true] at hmm;subst hmm;rw[hc] at hx
  by_cases h0:m=0
  ·subst h0;obtain rfl:len=0:=by omega
   exact⟨[.sl z 0 []],.cons .nil .nil,[],rfl,by simp,Nat.zero_le _⟩
  ·have hspot:a.spot=none:=by
    obtain⟨cs',h1,_⟩:=hx 0 (by omega);obtain⟨_,hl,hcell⟩:=World.cells?_some h1;have:=hcell 0 hz;rw[Nat.zero_mul] at this;have ha:(a.add 0).add 0=a:=by simp[Addr.add]
    rw[ha,List.getElem?_eq_getElem (by omega)] at this;unfold World.cell? at this
    cases hsp:a.spot with
    |none=>rfl
    |some s=>
     rw[hsp] at this
     split at this<;>simp at this
   obtain⟨bl,o,sp⟩:=a;simp only at hspot;subst hspot;have build:∀k,k≤len→∃(xs:List (List AI.I)) (vs:List Value),xs.length=k∧vs.length=k*z∧AI.RepL (KW W) vs xs.flatten∧(∀d∈xs,R d)∧(∀d∈xs,d.length=z)∧∀j c,vs[j]? = some c→KW W bl (o+j)=some c:=by
    intro k
    induction k with
    |zero=>intro _;exact⟨[],[],rfl,by simp,.nil,by simp,by simp,by simp⟩
    |succ k ih=>
     intro hk;obtain⟨xs,vs,h1,h2,h3,h4,h5,h6⟩:=ih (by omega);obtain⟨cs',hc1,hc2⟩:=hx k (by omega);obtain⟨_,hl,hcell⟩:=World.cells?_some hc1;obtain⟨is,hr,hR⟩:=he f cs' _ hc2;refine⟨xs++[is],vs++cs',by simp[h1],by simp[h2,hl,Nat.add_mul],?_,?_,?_,?_⟩
     ·rw[List.flatten_append];simpa using zcY h3 hr
     ·intro d hd;rcases List.mem_append.1 hd with h|h
      ·exact h4 d h
      ·simp only[List.mem_singleton] at h;subst h;exact hR
     ·intro d hd;rcases List.mem_append.1 hd with h|h
      ·exact h5 d h
      ·simp only[List.mem_singleton] at h;subst h;rw[←hr.length,hl]
     ·intro j c hj;rw[List.getElem?_append] at hj
      split at hj
      ·exact h6 j c hj
      ·rename_i hge;have hlt:j-vs.length<cs'.length:=(List.getElem?_eq_some_iff.1 hj).1;have:=hcell (j-vs.length) (by omega);rw[hj] at this;unfold KW;rw[←this];have e:((⟨bl,o,none⟩:Addr).add (k*z)).add (j-vs.length)=⟨bl,o+j,none⟩:=by
        have e1:(⟨bl,o,none⟩:Addr).add (k*z)=⟨bl,o+k*z,none⟩:=by unfold Addr.add;split<;>simp_all
        rw[e1];unfold Addr.add
        split
        ·simp<;>omega
        ·simp<;>omega
       rw[e]
   obtain⟨xs,vs,h1,h2,h3,h4,h5,h6⟩:=build len (Nat.le_refl _);refine⟨[.sl z xs.length xs],.cons ?_ .nil,xs,rfl,h4,by omega⟩;rw[h1];exact .sl h3 h5 h6 hle h1
theorem zgR {t:TypeId} {f0 f1 f2:Field} {R0 R1 R2:List AI.I→Prop} {z0 z1 z2:Nat} (ht:P.underlying t=some (.struct #[f0,f1,f2])) (hc:P.cellsOf t=z0+z1+z2)
  (c0:P.cellsOf f0.type=z0) (c1:P.cellsOf f1.type=z1) (c2:P.cellsOf f2.type=z2) (o0:f0.offset=0) (o1:f1.offset=z0) (o2:f2.offset=z0+z1)
  (h0:Opn enc P W f0.type R0) (h1:Opn enc P W f1.type R1) (h2:Opn enc P W f2.type R2):Opn enc P W t fun is=>∃a b c,is=a++b++c∧R0 a∧R1 b∧R2 c:=by
 intro n cs x h;obtain⟨y0,y1,y2,m,_,hl,g0,g1,g2⟩:=trod_struct3 ht h;obtain⟨a,ra,ha⟩:=h0 _ _ _ g0;obtain⟨b,rb,hb⟩:=h1 _ _ _ g1;obtain⟨c,rc,hcc⟩:=h2 _ _ _ g2;refine⟨a++b++c,?_,a,b,c,rfl,ha,hb,hcc⟩;have e:cs=(cs.drop f0.offset).take (P.cellsOf f0.type)++(cs.drop f1.offset).take (P.cellsOf f1.type)++(cs.drop f2.offset).take (P.cellsOf f2.type):=by
  rw[c0,c1,c2,o0,o1,o2,List.drop_zero];have e1:(cs.drop (z0+z1)).take z2=cs.drop (z0+z1):=List.take_of_length_le (by simp;omega);rw[e1];have e2:cs.drop (z0+z1)=(cs.drop z0).drop z1:=by rw[List.drop_drop]
  rw[e2,List.append_assoc,List.take_append_drop,List.take_append_drop]
 rw[e];exact zcY (zcY ra rb) rc
theorem zlf {t:TypeId} {f0 f1:Field} {R0 R1:List AI.I→Prop} {z0 z1:Nat} (ht:P.underlying t=some (.struct #[f0,f1])) (hc:P.cellsOf t=z0+z1)
  (c0:P.cellsOf f0.type=z0) (c1:P.cellsOf f1.type=z1) (o0:f0.offset=0) (o1:f1.offset=z0)
  (h0:Opn enc P W f0.type R0) (h1:Opn enc P W f1.type R1):Opn enc P W t fun is=>∃a b,is=a++b∧R0 a∧R1 b:=by
 intro n cs x h;obtain⟨y0,y1,m,_,hl,g0,g1⟩:=trod_struct2 ht h;obtain⟨a,ra,ha⟩:=h0 _ _ _ g0;obtain⟨b,rb,hb⟩:=h1 _ _ _ g1;refine⟨a++b,?_,a,b,rfl,ha,hb⟩;have e:cs=(cs.drop f0.offset).take (P.cellsOf f0.type)++(cs.drop f1.offset).take (P.cellsOf f1.type):=by
  rw[c0,c1,o0,o1,List.drop_zero];have e1:(cs.drop z0).take z1=cs.drop z0:=List.take_of_length_le (by simp;omega);rw[e1,List.take_append_drop]
 rw[e];exact zcY ra rb
theorem zeG {t:TypeId} {f0 f1 f2 f3:Field} {R0 R1 R2 R3:List AI.I→Prop} {z0 z1 z2 z3:Nat} (ht:P.underlying t=some (.struct #[f0,f1,f2,f3])) (hc:P.cellsOf t=z0+z1+z2+z3)
  (c0:P.cellsOf f0.type=z0) (c1:P.cellsOf f1.type=z1) (c2:P.cellsOf f2.type=z2) (c3:P.cellsOf f3.type=z3) (o0:f0.offset=0) (o1:f1.offset=z0) (o2:f2.offset=z0+z1) (o3:f3.offset=z0+z1+z2)
  (h0:Opn enc P W f0.type R0) (h1:Opn enc P W f1.type R1) (h2:Opn enc P W f2.type R2) (h3:Opn enc P W f3.type R3):Opn enc P W t fun is=>∃a b c d,is=a++b++c++d∧R0 a∧R1 b∧R2 c∧R3 d:=by
 intro n cs x h;obtain⟨y0,y1,y2,y3,m,_,hl,g0,g1,g2,g3⟩:=Go.Joins.trod_struct4 ht h;obtain⟨a,ra,ha⟩:=h0 _ _ _ g0;obtain⟨b,rb,hb⟩:=h1 _ _ _ g1;obtain⟨c,rc,hcc⟩:=h2 _ _ _ g2;obtain⟨d,rd,hd⟩:=h3 _ _ _ g3;refine⟨a++b++c++d,?_,a,b,c,d,rfl,ha,hb,hcc,hd⟩;have e:cs=(cs.drop f0.offset).take (P.cellsOf f0.type)++(cs.drop f1.offset).take (P.cellsOf f1.type)++(cs.drop f2.offset).take (P.cellsOf f2.type)++(cs.drop f3.offset).take (P.cellsOf f3.type):=by
  rw[c0,c1,c2,c3,o0,o1,o2,o3,List.drop_zero];have e1:(cs.drop (z0+z1+z2)).take z3=cs.drop (z0+z1+z2):=List.take_of_length_le (by simp;omega);rw[e1];have e2:cs.drop (z0+z1+z2)=((cs.drop z0).drop z1).drop z2:=by rw[List.drop_drop,List.drop_drop,Nat.add_assoc]
  have e3:cs.drop (z0+z1)=(cs.drop z0).drop z1:=by rw[List.drop_drop]
  rw[e2,e3,List.append_assoc,List.take_append_drop,List.append_assoc,List.take_append_drop,List.take_append_drop]
 rw[e];exact zcY (zcY (zcY ra rb) rc) rd
theorem zim {t:TypeId} (hl:laidOutB P=true) (hr:P.readableRec t=true) (hrow:decide (t<P.types.size)=true) {W':World} {v:Value} {d:DataW H} {ps:List MemPlace}
  (h:DataW.Trod enc P W 0 (fun _=>true) true t v d ps) (hold:∀i,i<W.heap.size→W'.heap[i]? = W.heap[i]?):DataW.Trod enc P W' 0 (fun b=>decide (b<W.heap.size)) true t v d ps:=by
 have hlt:∀p∈ps,p.block<W.heap.size:=by
  obtain⟨n,hn⟩:=h;exact DataW.trod_lt n t _ _ hn
 refine Trod_stays hl hr (of_decide_eq_true hrow) h (fun p hp=>?_) (fun p hp=>decide_eq_true (hlt p hp));have hb:=hlt p hp
 cases p with
 |cell b off=>
  show W'.cell? ⟨b,off,none⟩=W.cell? ⟨b,off,none⟩;unfold World.cell?;rw[hold b hb]
 |map b=>exact hold b hb
end
end Go.Proofs.YtnojpbbaohoadaaGreatDoor
namespace Go.Proofs.YtnojpbbaohoadaaGreatDoor
open Go.ChangeShapes Go.WideShapes Go.ChangeAt Go.RowKit Go.Deep Go.WideElems
set_option maxRecDepth 100000
section
variable {H:Type} {enc:TypeId×Value→H} {W:World}
end
end Go.Proofs.YtnojpbbaohoadaaGreatDoor
namespace Go.AI
open Go.Proofs
set_option maxRecDepth 20000
abbrev u8I (b:Int):List I:=[.v (.int .u8 b)]
abbrev byts (l:List Int):D:=.i (.sl 1 l.length (l.map u8I))
def zcC (l:List Int):Prop:=∀b∈l,0≤b∧b≤255
theorem zcq {l:List Int} (h:zcC l):zcC l.tail:=fun b hb=>h b (List.mem_of_mem_tail hb)
def b0 (l:List Int):Int:=match l with
 |[]=>0
 |b::_=>b
theorem zfs {l:List Int} (h:zcC l):0≤b0 l∧b0 l≤255:=by
 cases l with
 |nil=>exact⟨Int.le_refl _,by decide⟩
 |cons b r=>exact h b (by simp)
abbrev zbU (bs:List Int) (vars k:Int):Ob:=.box [byts bs,ii vars,ii k]
def zfP (t:Bool):Ex:=.mk (if t then 6 else 7) 0 0 [zhx,zhx]
def zf6 (vars b:Int):Ex:=if b%2=0∧vars>0 then .mk 1 0 (b/8%vars) [] else .mk 0 (b/8-8) 0 []
def zal (vars:Int):Nat→Bool→List Int→Nat→Ex×List Int×Nat
 |0,true,bs,k=>(zf6 vars (b0 bs),bs.tail,k+1)
 |0,false,bs,k=>(zfP (decide (b0 bs%2=0)),bs.tail,k+1)
 |lv+1,true,bs,k=>
  if k+1>12∨b0 bs%8<4 then (zf6 vars (b0 bs),bs.tail,k+1) else
  if b0 bs%8=4 then (.mk 5 0 0 [(zal vars lv true bs.tail (k+1)).1],(zal vars lv true bs.tail (k+1)).2) else
  if b0 bs%8=5 then
   (.mk 13 0 0 [(zal vars lv false bs.tail (k+1)).1,(zal vars lv true (zal vars lv false bs.tail (k+1)).2.1 (zal vars lv false bs.tail (k+1)).2.2).1,
    (zal vars lv true (zal vars lv true (zal vars lv false bs.tail (k+1)).2.1 (zal vars lv false bs.tail (k+1)).2.2).2.1 (zal vars lv true (zal vars lv false bs.tail (k+1)).2.1 (zal vars lv false bs.tail (k+1)).2.2).2.2).1],
    (zal vars lv true (zal vars lv true (zal vars lv false bs.tail (k+1)).2.1 (zal vars lv false bs.tail (k+1)).2.2).2.1 (zal vars lv true (zal vars lv false bs.tail (k+1)).2.1 (zal vars lv false bs.tail (k+1)).2.2).2.2).2)
  else (.mk (2+b0 bs/8%3) 0 0 [(zal vars lv true bs.tail (k+1)).1,(zal vars lv true (zal vars lv true bs.tail (k+1)).2.1 (zal vars lv true bs.tail (k+1)).2.2).1],
    (zal vars lv true (zal vars lv true bs.tail (k+1)).2.1 (zal vars lv true bs.tail (k+1)).2.2).2)
 |lv+1,false,bs,k=>
  if lv=0∨k+1>12∨b0 bs%8<4 then (.mk (6+b0 bs/8%4) 0 0 [(zal vars lv true bs.tail (k+1)).1,(zal vars lv true (zal vars lv true bs.tail (k+1)).2.1 (zal vars lv true bs.tail (k+1)).2.2).1],
    (zal vars lv true (zal vars lv true bs.tail (k+1)).2.1 (zal vars lv true bs.tail (k+1)).2.2).2) else
  if b0 bs%8=4 then (.mk 10 0 0 [(zal vars lv false bs.tail (k+1)).1],(zal vars lv false bs.tail (k+1)).2) else
  if b0 bs%8=5 then
   (.mk 13 0 0 [(zal vars lv false bs.tail (k+1)).1,(zal vars lv false (zal vars lv false bs.tail (k+1)).2.1 (zal vars lv false bs.tail (k+1)).2.2).1,
    (zal vars lv false (zal vars lv false (zal vars lv false bs.tail (k+1)).2.1 (zal vars lv false bs.tail (k+1)).2.2).2.1 (zal vars lv false (zal vars lv false bs.tail (k+1)).2.1 (zal vars lv false bs.tail (k+1)).2.2).2.2).1],
    (zal vars lv false (zal vars lv false (zal vars lv false bs.tail (k+1)).2.1 (zal vars lv false bs.tail (k+1)).2.2).2.1 (zal vars lv false (zal vars lv false bs.tail (k+1)).2.1 (zal vars lv false bs.tail (k+1)).2.2).2.2).2)
  else (.mk (11+b0 bs/8%2) 0 0 [(zal vars lv false bs.tail (k+1)).1,(zal vars lv false (zal vars lv false bs.tail (k+1)).2.1 (zal vars lv false bs.tail (k+1)).2.2).1],
    (zal vars lv false (zal vars lv false bs.tail (k+1)).2.1 (zal vars lv false bs.tail (k+1)).2.2).2)
structure gOk (r:Ex×List Int×Nat) (n:Nat) (N:Nat):Prop where
 b:zcC r.2.1
 l:r.2.1.length≤n
 k:r.2.2≤N
theorem zi1 (vars:Int):∀(lv:Nat) (t:Bool) (bs:List Int) (k:Nat),zcC bs→gOk (zal vars lv t bs k) bs.length (k+4 ^ (lv+1)-1):=by
 intro lv
 induction lv with
 |zero=>
  intro t bs k hb
  cases t<;>exact⟨zcq hb,by simp[zal],by simp[zal]⟩
 |succ lv ih=>
  intro t bs k hb;have hp:4 ^ (lv+1+1)=4*4 ^ (lv+1):=by rw[Nat.pow_succ];omega
  have hq:1≤4 ^ (lv+1):=Nat.one_le_pow _ _ (by decide);have ht:bs.tail.length≤bs.length:=by simp
  generalize hN:4 ^ (lv+1)=N at *;have one:∀t,gOk (zal vars lv t bs.tail (k+1)) bs.length (k+N):=fun t=>by
   have h:=ih t bs.tail (k+1) (zcq hb);exact⟨h.b,Nat.le_trans h.l ht,by have:=h.k;omega⟩
  have two:∀t (r:Ex×List Int×Nat) M,gOk r bs.length (k+M)→gOk (zal vars lv t r.2.1 r.2.2) bs.length (k+M+N-1):=fun t r M hr=>by
   have h:=ih t r.2.1 r.2.2 hr.b;exact⟨h.b,Nat.le_trans h.l hr.l,by have:=h.k;have:=hr.k;omega⟩
  have fit:∀(x:Ex) (r:Ex×List Int×Nat) M,gOk r bs.length (k+M)→M≤4*N-1→gOk (x,r.2) bs.length (k+4 ^ (lv+1+1)-1):=fun x r M h hM=>⟨h.b,h.l,by have:=h.k;rw[hp];show r.2.2≤_;omega⟩;have leaf:∀x:Ex,gOk (x,bs.tail,k+1) bs.length (k+4 ^ (lv+1+1)-1):=fun x=>⟨zcq hb,ht,by rw[hp];show k+1≤_;omega⟩;have cast:∀(r:Ex×List Int×Nat) M,gOk r bs.length (k+M+N-1)→gOk r bs.length (k+(M+N-1)):=fun r M h=>⟨h.b,h.l,by have:=h.k;omega⟩
  cases t with
  |true=>
   simp only[zal]
   split
   ·exact leaf _
   split
   ·exact fit _ _ _ (one true) (by omega)
   split
   ·exact fit _ _ _ (cast _ _ (two true _ _ (cast _ _ (two true _ _ (one false))))) (by omega)
   ·exact fit _ _ _ (cast _ _ (two true _ _ (one true))) (by omega)
  |false=>
   simp only[zal]
   split
   ·exact fit _ _ _ (cast _ _ (two true _ _ (one true))) (by omega)
   split
   ·exact fit _ _ _ (one false) (by omega)
   split
   ·exact fit _ _ _ (cast _ _ (two false _ _ (cast _ _ (two false _ _ (one false))))) (by omega)
   ·exact fit _ _ _ (cast _ _ (two false _ _ (one false))) (by omega)
theorem zv4 (O:List Heap) (d nm:Nat) (bs:List Int) (vars k:Int) (hb:zcC bs) (hl:bs.length≤zar) (ho:zab O d nm=some (zbU bs vars k)) :
  zao Tryz.prog 222 [.own d nm 0 0] O (ii (b0 bs)) [] (setAt O d nm (zbU bs.tail vars k)):=by
 have hO1:∀H,zab (H::O) (d+1) nm=some (zbU bs vars k):=fun H=>by simpa [zab] using ho
 cases bs with
 |nil=>
  refine zaa Tk Tryz.func222 rfl Tryz.call222 Tryz.ntmps222 (Nat.le_of_ble_eq_true rfl) fun E=>?_;refine zai Tk Tryz.func222 ?_;refine zbE Tk Tryz.func222 (hO1 _) ?_;refine gcT Tk Tryz.func222 rfl ?_;refine za4 (wk_S (S':=_::setAt O d nm (zbU [] vars k)) (zaG (zbl ho))) ?_;refine zag Tk (r:=ii 0) rfl rfl rfl trivial rfl rfl ?_;rfl
 |cons b r=>
  have hb:=hb b (by simp);simp only[zar,List.length_cons] at hl;have hw:IntKind.i64.wrap b=b:=w64 (by omega) (by omega);refine zaa Tk Tryz.func222 rfl Tryz.call222 Tryz.ntmps222 (Nat.le_of_ble_eq_true rfl) fun E=>?_;refine zai Tk Tryz.func222 ?_;refine zbE Tk Tryz.func222 (hO1 _) ?_;refine zae Tk Tryz.func222 rfl (fun h1=>?_) (fun h1=>?_)
  ·have h1:=beqT h1;simp only[List.length_cons] at h1;omega
  refine zbE Tk Tryz.func222 (hO1 _) ?_;refine zad Tk Tryz.func222 (by exact⟨by decide,by show (0:Int)<((r.length+1:Nat):Int);omega⟩) ?_;refine zap Tk Tryz.func222 (rfl) ?_;refine zbE Tk Tryz.func222 (hO1 _) ?_;refine zad Tk Tryz.func222 (by exact⟨by decide,by show (1:Int)≤((r.length+1:Nat):Int);omega⟩) ?_;refine zbE Tk Tryz.func222 (hO1 _) ?_;refine zag Tk (r:=ii (IntKind.i64.wrap b)) rfl rfl rfl trivial rfl rfl ?_;exact congrArg ii hw
theorem zwB (O:List Heap) (t:Bool):zao Tryz.prog 223 [bb t] O (exA (zfP t)) [] O:=by
 refine zaa Tk Tryz.func223 rfl Tryz.call223 Tryz.ntmps223 (Nat.le_of_ble_eq_true rfl) fun E=>?_;refine zai Tk Tryz.func223 ?_;refine zae Tk Tryz.func223 rfl (fun h1=>?_) (fun h1=>?_)
 ·subst h1;refine zaD Tk (r:=_) rfl rfl rfl trivial rfl rfl ?_
  repeat' (first|refine zbR ?_|refine zbu ?_|refine zcv ?_|refine CoDL.cons ?_ ?_|exact CoDL.nil|exact zbd|refine zcB ?_|refine CoLL.cons ?_ ?_|exact CoLL.nil|refine CoL.cons ?_ ?_|exact CoL.nil|exact CoI.refl _|exact CoL.refl _|exact CoLL.refl _|exact CoDL.refl _|exact CoD.refl _)
 ·subst h1;refine zaD Tk (r:=_) rfl rfl rfl trivial rfl rfl ?_
  repeat' (first|refine zbR ?_|refine zbu ?_|refine zcv ?_|refine CoDL.cons ?_ ?_|exact CoDL.nil|exact zbd|refine zcB ?_|refine CoLL.cons ?_ ?_|exact CoLL.nil|refine CoL.cons ?_ ?_|exact CoL.nil|exact CoI.refl _|exact CoL.refl _|exact CoLL.refl _|exact CoDL.refl _|exact CoD.refl _)
theorem os2 {S:List Heap} {d nm:Nat} (a b:Ob) (d' n':Nat):zab (setAt S d nm b) d' n'=zab (setAt (setAt S d nm a) d nm b) d' n':=zbM d' n'
theorem os3 {S:List Heap} {d nm:Nat} (a b c:Ob) (d' n':Nat):zab (setAt S d nm c) d' n'=zab (setAt (setAt (setAt S d nm a) d nm b) d nm c) d' n':=(os2 a c d' n').trans (os2 b c d' n')
structure bytG (b:Int):Prop where
 h0:0≤b
 h1:b≤255
theorem bytG.m8 {b:Int} (h:bytG b):b.tmod 8=b%8:=Int.tmod_eq_emod_of_nonneg h.h0
theorem bytG.m2 {b:Int} (h:bytG b):b.tmod 2=b%2:=Int.tmod_eq_emod_of_nonneg h.h0
theorem bytG.q8 {b:Int} (h:bytG b):IntKind.i64.wrap (b.tdiv 8)=b/8:=by
 rw[Int.tdiv_eq_ediv_of_nonneg h.h0];have:=h.h0;have:=h.h1;rw[w64 (by omega) (by omega)]
theorem bytG.q8m {b:Int} (h:bytG b) {m:Int}:(IntKind.i64.wrap (b.tdiv 8)).tmod m=b/8%m:=by
 rw[h.q8,Int.tmod_eq_emod_of_nonneg (by have:=h.h0;omega)]
theorem bytG.q8a {b:Int} (h:bytG b) {m c:Int} (hm:0<m) (h1:m≤10) (hc:0≤c) (h2:c≤20):IntKind.i64.wrap (c+(IntKind.i64.wrap (b.tdiv 8)).tmod m)=c+b/8%m:=by
 rw[h.q8m];have:=Int.emod_nonneg (b/8) (show m≠0 by omega);have:=Int.emod_lt_of_pos (b/8) hm;rw[w64 (by omega) (by omega)]
theorem bytG.q8s {b:Int} (h:bytG b):IntKind.i64.wrap (IntKind.i64.wrap (b.tdiv 8)-8)=b/8-8:=by
 rw[h.q8];have:=h.h0;have:=h.h1;rw[w64 (by omega) (by omega)]
abbrev exIa (x:Ex):List I:=[vi x.op,vi x.vl,vi x.ix,.sl 4 x.args.length (exIs x.args)]
theorem exA1 (o:Int) (a:Ex):exA (.mk o 0 0 [a])=.agg [ii o,ii 0,ii 0,.i (.sl 4 1 [exIa a])]:=by simp[Ex.op,Ex.vl,Ex.ix,Ex.args,exIs,zsW]
theorem exA2 (o:Int) (a b:Ex):exA (.mk o 0 0 [a,b])=.agg [ii o,ii 0,ii 0,.i (.sl 4 2 [exIa a,exIa b])]:=by simp[Ex.op,Ex.vl,Ex.ix,Ex.args,exIs,zsW]
theorem exA3 (o:Int) (a b c:Ex):exA (.mk o 0 0 [a,b,c])=.agg [ii o,ii 0,ii 0,.i (.sl 4 3 [exIa a,exIa b,exIa c])]:=by simp[Ex.op,Ex.vl,Ex.ix,Ex.args,exIs,zsW]
def tyOf (t:Bool):Int:=match t with
 |true=>1
 |false=>2
def zui (vars:Int) (lv:Nat) (t:Bool):Prop:=∀(bs:List Int) (k:Nat) (levels:Int),levels=(lv:Int)+1→zcC bs→bs.length≤zar→k+4 ^ (lv+1)≤zar→∀(O:List Heap) (d nm:Nat),zab O d nm=some (zbU bs vars k) →
  zao Tryz.prog 161 [.own d nm 0 0,ii (tyOf t),ii levels] O (exA (zal vars lv t bs k).1) [] (setAt O d nm (zbU (zal vars lv t bs k).2.1 vars (zal vars lv t bs k).2.2))
theorem zh8 (vars:Int) (hv:0≤vars) (lv:Nat) (hl10:lv≤10) (ih:∀lv',lv=lv'+1→∀t,zui vars lv' t):zui vars lv true:=by
 obtain⟨t,ht⟩:∃t,t=true:=⟨_,rfl⟩;rw[←ht];intro bs k levels hlv hb hbl hk O d nm ho;have hO1:∀H,zab (H::O) (d+1) nm=some (zbU bs vars k):=fun H=>by simpa [zab] using ho
 have hn:=fun O ho=>zv4 O (d+1) nm bs vars (IntKind.i64.wrap ((k:Int)+1)) hb hbl ho;have hkk:(k:Int)+1≤9223372036854775807:=by
  simp only[zar] at hk;have:1≤4 ^ (lv+1):=Nat.one_le_pow _ _ (by decide);omega
 have hkw:IntKind.i64.wrap ((k:Int)+1)=((k+1:Nat):Int):=by
  rw[w64 (by omega) (by omega)];omega
 have hby:bytG (b0 bs):=⟨(zfs hb).1,(zfs hb).2⟩;have hbt:=zcq hb;have hbtl:bs.tail.length≤zar:=Nat.le_trans (by simp) hbl;have hlw:lv≠0→IntKind.i64.wrap (levels-1)=(lv:Int):=fun h=>by rw[w64 (by omega) (by omega)];omega
 -- the children
 have child:∀lv',lv=lv'+1→∀t' bs' k',zcC bs' → bs'.length≤zar→k'+4 ^ (lv'+1)≤zar→∀O d nm,zab O d nm=some (zbU bs' vars ((k':Nat):Int)) →
   zao Tryz.prog 161 [.own d nm 0 0,ii (tyOf t'),ii (IntKind.i64.wrap (levels-1))] O (exA (zal vars lv' t' bs' k').1) [] (setAt O d nm (zbU (zal vars lv' t' bs' k').2.1 vars (zal vars lv' t' bs' k').2.2)):=by
  intro lv' e t' bs' k' h1 h2 h3;exact ih lv' e t' bs' k' _ (by rw[hlw (by omega),e];omega) h1 h2 h3
 have gok:=fun lv'=>zi1 vars lv';have hpow:∀lv',lv=lv'+1→4 ^ (lv+1)=4*4 ^ (lv'+1)∧1≤4 ^ (lv'+1):=fun lv' e=>by subst e;rw[Nat.pow_succ];exact⟨by omega,Nat.one_le_pow _ _ (by decide)⟩
 generalize hR:zal vars lv t bs k=R
 -- what the expression is,case by case
 have hleaf:t=true→lv=0∨k+1>12∨b0 bs%8<4→R=(zf6 vars (b0 bs),bs.tail,k+1):=by
  intro e h;subst e;rw[←hR]
  cases lv with
  |zero=>simp only[zal]
  |succ lv'=>simp only[zal];rw[if_pos (by omega)]
 have htruth:t=false→lv=0→R=(zfP (decide (b0 bs%2=0)),bs.tail,k+1):=by
  intro e h;subst e h;rw[←hR];simp only[zal]
 have hT:∀lv',lv=lv'+1→t=true→¬(k+1>12∨b0 bs%8<4)→R=if b0 bs%8=4 then (.mk 5 0 0 [(zal vars lv' true bs.tail (k+1)).1],(zal vars lv' true bs.tail (k+1)).2) else
  if b0 bs%8=5 then
   (.mk 13 0 0 [(zal vars lv' false bs.tail (k+1)).1,(zal vars lv' true (zal vars lv' false bs.tail (k+1)).2.1 (zal vars lv' false bs.tail (k+1)).2.2).1,
    (zal vars lv' true (zal vars lv' true (zal vars lv' false bs.tail (k+1)).2.1 (zal vars lv' false bs.tail (k+1)).2.2).2.1 (zal vars lv' true (zal vars lv' false bs.tail (k+1)).2.1 (zal vars lv' false bs.tail (k+1)).2.2).2.2).1],
    (zal vars lv' true (zal vars lv' true (zal vars lv' false bs.tail (k+1)).2.1 (zal vars lv' false bs.tail (k+1)).2.2).2.1 (zal vars lv' true (zal vars lv' false bs.tail (k+1)).2.1 (zal vars lv' false bs.tail (k+1)).2.2).2.2).2)
  else (.mk (2+b0 bs/8%3) 0 0 [(zal vars lv' true bs.tail (k+1)).1,(zal vars lv' true (zal vars lv' true bs.tail (k+1)).2.1 (zal vars lv' true bs.tail (k+1)).2.2).1],
    (zal vars lv' true (zal vars lv' true bs.tail (k+1)).2.1 (zal vars lv' true bs.tail (k+1)).2.2).2):=by
  intro lv' e e2 h;subst e e2;rw[←hR];simp only[zal];rw[if_neg h]
 have hF:∀lv',lv=lv'+1→t=false→R=if lv'=0∨k+1>12∨b0 bs%8<4 then (.mk (6+b0 bs/8%4) 0 0 [(zal vars lv' true bs.tail (k+1)).1,(zal vars lv' true (zal vars lv' true bs.tail (k+1)).2.1 (zal vars lv' true bs.tail (k+1)).2.2).1],
    (zal vars lv' true (zal vars lv' true bs.tail (k+1)).2.1 (zal vars lv' true bs.tail (k+1)).2.2).2) else
  if b0 bs%8=4 then (.mk 10 0 0 [(zal vars lv' false bs.tail (k+1)).1],(zal vars lv' false bs.tail (k+1)).2) else
  if b0 bs%8=5 then
   (.mk 13 0 0 [(zal vars lv' false bs.tail (k+1)).1,(zal vars lv' false (zal vars lv' false bs.tail (k+1)).2.1 (zal vars lv' false bs.tail (k+1)).2.2).1,
    (zal vars lv' false (zal vars lv' false (zal vars lv' false bs.tail (k+1)).2.1 (zal vars lv' false bs.tail (k+1)).2.2).2.1 (zal vars lv' false (zal vars lv' false bs.tail (k+1)).2.1 (zal vars lv' false bs.tail (k+1)).2.2).2.2).1],
    (zal vars lv' false (zal vars lv' false (zal vars lv' false bs.tail (k+1)).2.1 (zal vars lv' false bs.tail (k+1)).2.2).2.1 (zal vars lv' false (zal vars lv' false bs.tail (k+1)).2.1 (zal vars lv' false bs.tail (k+1)).2.2).2.2).2)
  else (.mk (11+b0 bs/8%2) 0 0 [(zal vars lv' false bs.tail (k+1)).1,(zal vars lv' false (zal vars lv' false bs.tail (k+1)).2.1 (zal vars lv' false bs.tail (k+1)).2.2).1],
    (zal vars lv' false (zal vars lv' false bs.tail (k+1)).2.1 (zal vars lv' false bs.tail (k+1)).2.2).2):=by
  intro lv' e e2;subst e e2;rw[←hR];simp only[zal]
 clear hR ih;have hlev:levels≤1↔lv=0:=by omega
 refine zaM [3,5,17] Tk Tryz.func161 rfl Tryz.call161 Tryz.ntmps161 (Nat.le_of_ble_eq_true rfl) fun E=>?_;refine zai Tk Tryz.func161 ?_;refine zbE Tk Tryz.func161 (hO1 _) ?_;refine zbE Tk Tryz.func161 (hO1 _) ?_;refine zaj Tk Tryz.func161 (hn _ (by exact zay (zaf ho))) rfl rfl rfl (za1 (zaU (zaf ho) rfl)) rfl ?_;obtain⟨O2,hO2⟩:∃O2,O2=setAt O d nm (zbU bs.tail vars ((k+1:Nat):Int)):=⟨_,rfl⟩;have ho2:zab O2 d nm=some (zbU bs.tail vars ((k+1:Nat):Int)):=by rw[hO2];exact zaf ho
 have hfin:∀c d' n',zab (setAt O d nm c) d' n'=zab (setAt O2 d nm c) d' n':=fun c=>by rw[hO2];exact os2 _ _
 have hfin0:∀d' n',zab (setAt O d nm (zbU bs.tail vars ((k+1:Nat):Int))) d' n'=zab O2 d' n':=fun d' n'=>by rw[hO2]
 have hO3:∀H,zab (H::O2) (d+1) nm=some (zbU bs.tail vars ((k+1:Nat):Int)):=fun H=>by simpa [zab] using ho2
 refine zat ?_;refine zaq (wk_S (S':=[(6,Ob.box [ii 0,ii 0,ii 0,.i (.v (.slice none 0 0))])]::O2) (zaG (by rw[hO2,hkw];exact os2 _ _))) ?_;refine zau (l:=[(0,.own (d+1) nm 0 0),(1,ii (tyOf t)),(2,ii levels),(6,.own 0 6 0 0),(7,ii (b0 bs))]) (Hv:=[(6,.box [ii 0,ii 0,ii 0,.i (.v (.slice none 0 0))])]) (n:=183) ?_ ⟨rfl,rfl,rfl,rfl,rfl,trivial⟩ rfl ⟨rfl,trivial⟩ rfl rfl;clear hn hO2 hO1;generalize b0 bs=b at *
 cases t with
 |true=>
  have hleaf:=hleaf rfl
  apply zbK (P:=lv=0∨k+1>12∨b%8<4) (s6:={ σ:=[(0,.own (d+1) nm 0 0),(6,.own 0 6 0 0),(7,ii b)],S:=[(6,.box [ii 0,ii 0,ii 0,.i (.v (.slice none 0 0))])]::O2,n:=183})
  ·intro J;refine zai Tk Tryz.func161 ?_;refine g_go Tk Tryz.func161 ?_;refine gcT Tk Tryz.func161 rfl ?_;refine zaK Tk Tryz.func161 rfl (fun h1=>?_) (fun h1=>?_)
   ·repeat (first|refine gcT Tk Tryz.func161 rfl ?_|refine gkT Tk Tryz.func161 rfl ?_|refine skT Tk ?_|refine gcF Tk Tryz.func161 rfl ?_|refine gkF Tk Tryz.func161 rfl ?_|refine skF Tk ?_)
    refine zat ?_;exact zcj (J (.inl (hlev.1 (of_decide_eq_true h1)))) ⟨rfl,rfl,rfl,trivial⟩ rfl rfl
   have h1:lv≠0:=fun e=>of_decide_eq_false h1 (hlev.2 e);refine zbE Tk Tryz.func161 (hO3 _) ?_;refine zaK Tk Tryz.func161 rfl (fun h2=>?_) (fun h2=>?_)
   ·refine gcT Tk Tryz.func161 rfl ?_;refine zat ?_;exact zcj (J (.inr (.inl (by have:=of_decide_eq_true h2;omega)))) ⟨rfl,rfl,rfl,trivial⟩ rfl rfl
   have h2:¬k+1>12:=by have:=of_decide_eq_false h2;omega
   refine zad Tk Tryz.func161 (by decide) ?_;refine zae Tk Tryz.func161 rfl (fun h3=>?_) (fun h3=>?_)
   ·refine zat ?_;exact zcj (J (.inr (.inr (by have:=of_decide_eq_true h3;rw[hby.m8] at this;exact this)))) ⟨rfl,rfl,rfl,trivial⟩ rfl rfl
   have h3:¬b%8<4:=by have:=of_decide_eq_false h3;rw[hby.m8] at this;exact this
   obtain⟨lv',elv⟩:∃lv',lv=lv'+1:=⟨lv-1,by omega⟩;have hT:=hT lv' elv rfl (by omega);have hp:=hpow lv' elv;have child:=child lv' elv;have gok:=gok lv';clear J hleaf hF htruth hpow hlev;refine zad Tk Tryz.func161 (by decide) ?_;refine zae Tk Tryz.func161 rfl (fun h4=>?_) (fun h4=>?_)
   ·have h4:=beqT h4;rw[hby.m8] at h4;rw[if_pos h4] at hT;subst hT;have c1:=fun O ho=>child true bs.tail (k+1) hbt hbtl (by omega) O (d+1) nm ho;refine zaj Tk Tryz.func161 (c1 _ (by exact zay ho2)) rfl rfl rfl (za1 (zaU ho2 rfl)) rfl ?_;refine za4 (wk_S (S':=_::setAt O d nm _) (zaG (hfin _))) ?_;refine zag Tk (r:=_) rfl rfl rfl trivial rfl rfl ?_;exact (exA1 _ _).symm
   have h4:b%8≠4:=by have:=beqF h4;rw[hby.m8] at this;exact this
   rw[if_neg h4] at hT;refine zae Tk Tryz.func161 rfl (fun h5=>?_) (fun h5=>?_)
   ·have h5:=beqT h5;rw[hby.m8] at h5;rw[if_pos h5] at hT;have g1:=gok false bs.tail (k+1) hbt;have c1:=fun O ho=>child false bs.tail (k+1) hbt hbtl (by omega) O (d+1) nm ho;generalize zal vars lv' false bs.tail (k+1)=A at *;have gk1:=g1.k;have gl1:=Nat.le_trans g1.l hbtl;have g2:=gok true A.2.1 A.2.2 g1.b;have c2:=fun O ho=>child true A.2.1 A.2.2 g1.b gl1 (by omega) O (d+1) nm ho;generalize zal vars lv' true A.2.1 A.2.2=B at *;have gk2:=g2.k;have gl2:=Nat.le_trans g2.l gl1;have g3:=gok true B.2.1 B.2.2 g2.b;have c3:=fun O ho=>child true B.2.1 B.2.2 g2.b gl2 (by omega) O (d+1) nm ho;generalize zal vars lv' true B.2.1 B.2.2=C at *;subst hT;refine zaj Tk Tryz.func161 (c1 _ (by exact zay ho2)) rfl rfl rfl (za1 (zaU ho2 rfl)) rfl ?_;refine zaj Tk Tryz.func161 (c2 _ (by exact zay (zaf ho2))) rfl rfl rfl (za1 (zaU (zaf ho2) rfl)) rfl ?_
    refine zaj Tk Tryz.func161 (c3 _ (by exact zay (zaf (zaf ho2)))) rfl rfl rfl (za1 (zaU (zaf (zaf ho2)) rfl)) rfl ?_;refine za4 (wk_S (S':=_::setAt O d nm _) (zaG fun d' n'=>(hfin _ d' n').trans (os3 _ _ _ d' n'))) ?_;refine zag Tk (r:=_) rfl rfl rfl trivial rfl rfl ?_;exact (exA3 _ _ _ _).symm
   have h5:b%8≠5:=by have:=beqF h5;rw[hby.m8] at this;exact this
   rw[if_neg h5] at hT;refine zad Tk Tryz.func161 (by decide) ?_;refine zad Tk Tryz.func161 (by decide) ?_;have g1:=gok true bs.tail (k+1) hbt;have c1:=fun O ho=>child true bs.tail (k+1) hbt hbtl (by omega) O (d+1) nm ho;generalize zal vars lv' true bs.tail (k+1)=A at *;have gk1:=g1.k;have gl1:=Nat.le_trans g1.l hbtl;have c2:=fun O ho=>child true A.2.1 A.2.2 g1.b gl1 (by omega) O (d+1) nm ho;generalize zal vars lv' true A.2.1 A.2.2=B at *;subst hT;refine zaj Tk Tryz.func161 (c1 _ (by exact zay ho2)) rfl rfl rfl (za1 (zaU ho2 rfl)) rfl ?_;refine zaj Tk Tryz.func161 (c2 _ (by exact zay (zaf ho2))) rfl rfl rfl (za1 (zaU (zaf ho2) rfl)) rfl ?_;refine za4 (wk_S (S':=_::setAt O d nm _) (zaG fun d' n'=>(hfin _ d' n').trans (os2 _ _ d' n'))) ?_;refine zag Tk (r:=_) rfl rfl rfl trivial rfl rfl ?_;rw[←hby.q8a (by decide) (by decide) (by decide) (by decide)];exact (exA2 _ _ _).symm
  ·intro hP;have hleaf:=hleaf hP;subst hleaf;generalize hL:zf6 vars b=L;unfold zf6 at hL;refine zai Tk Tryz.func161 ?_;refine g_go Tk Tryz.func161 ?_;refine zad Tk Tryz.func161 (by decide) ?_;refine zaK Tk Tryz.func161 rfl (fun h1=>?_) (fun h1=>?_)
   ·have h1:=beqT h1;rw[hby.m2] at h1;refine zbE Tk Tryz.func161 (hO3 _) ?_;refine zae Tk Tryz.func161 rfl (fun h2=>?_) (fun h2=>?_)
    ·have h2:0<vars:=of_decide_eq_true h2;rw[if_pos ⟨h1,h2⟩] at hL;subst hL;refine zad Tk Tryz.func161 (by decide) ?_;refine zbE Tk Tryz.func161 (hO3 _) ?_;refine zad Tk Tryz.func161 (by omega) ?_;refine za4 (wk_S (S':=_::setAt O d nm _) (zaG hfin0)) ?_;refine zaD Tk (r:=_) rfl rfl rfl trivial rfl rfl ?_;rw[←hby.q8m]
     repeat' (first|refine zbR ?_|refine zbu ?_|refine zcv ?_|refine CoDL.cons ?_ ?_|exact CoDL.nil|exact zbd|refine zcB ?_|refine CoLL.cons ?_ ?_|exact CoLL.nil|refine CoL.cons ?_ ?_|exact CoL.nil|exact CoI.refl _|exact CoL.refl _|exact CoLL.refl _|exact CoDL.refl _|exact CoD.refl _)
    ·have h2:¬0<vars:=of_decide_eq_false h2;rw[if_neg (by omega)] at hL;subst hL;refine zad Tk Tryz.func161 (by decide) ?_;refine za4 (wk_S (S':=_::setAt O d nm _) (zaG hfin0)) ?_;refine zaD Tk (r:=_) rfl rfl rfl trivial rfl rfl ?_;rw[←hby.q8s]
     repeat' (first|refine zbR ?_|refine zbu ?_|refine zcv ?_|refine CoDL.cons ?_ ?_|exact CoDL.nil|exact zbd|refine zcB ?_|refine CoLL.cons ?_ ?_|exact CoLL.nil|refine CoL.cons ?_ ?_|exact CoL.nil|exact CoI.refl _|exact CoL.refl _|exact CoLL.refl _|exact CoDL.refl _|exact CoD.refl _)
   ·have h1:=beqF h1;rw[hby.m2] at h1;rw[if_neg (by omega)] at hL;subst hL;refine gcF Tk Tryz.func161 rfl ?_;refine zad Tk Tryz.func161 (by decide) ?_;refine za4 (wk_S (S':=_::setAt O d nm _) (zaG hfin0)) ?_;refine zaD Tk (r:=_) rfl rfl rfl trivial rfl rfl ?_;rw[←hby.q8s]
    repeat' (first|refine zbR ?_|refine zbu ?_|refine zcv ?_|refine CoDL.cons ?_ ?_|exact CoDL.nil|exact zbd|refine zcB ?_|refine CoLL.cons ?_ ?_|exact CoLL.nil|refine CoL.cons ?_ ?_|exact CoL.nil|exact CoI.refl _|exact CoL.refl _|exact CoLL.refl _|exact CoDL.refl _|exact CoD.refl _)
 |false=>cases ht
theorem zh9 (vars:Int) (hv:0≤vars) (lv:Nat) (hl10:lv≤10) (ih:∀lv',lv=lv'+1→∀t,zui vars lv' t):zui vars lv false:=by
 obtain⟨t,ht⟩:∃t,t=false:=⟨_,rfl⟩;rw[←ht];intro bs k levels hlv hb hbl hk O d nm ho;have hO1:∀H,zab (H::O) (d+1) nm=some (zbU bs vars k):=fun H=>by simpa [zab] using ho
 have hn:=fun O ho=>zv4 O (d+1) nm bs vars (IntKind.i64.wrap ((k:Int)+1)) hb hbl ho;have hkk:(k:Int)+1≤9223372036854775807:=by
  simp only[zar] at hk;have:1≤4 ^ (lv+1):=Nat.one_le_pow _ _ (by decide);omega
 have hkw:IntKind.i64.wrap ((k:Int)+1)=((k+1:Nat):Int):=by
  rw[w64 (by omega) (by omega)];omega
 have hby:bytG (b0 bs):=⟨(zfs hb).1,(zfs hb).2⟩;have hbt:=zcq hb;have hbtl:bs.tail.length≤zar:=Nat.le_trans (by simp) hbl;have hlw:lv≠0→IntKind.i64.wrap (levels-1)=(lv:Int):=fun h=>by rw[w64 (by omega) (by omega)];omega
 -- the children
 have child:∀lv',lv=lv'+1→∀t' bs' k',zcC bs' → bs'.length≤zar→k'+4 ^ (lv'+1)≤zar→∀O d nm,zab O d nm=some (zbU bs' vars ((k':Nat):Int)) →
   zao Tryz.prog 161 [.own d nm 0 0,ii (tyOf t'),ii (IntKind.i64.wrap (levels-1))] O (exA (zal vars lv' t' bs' k').1) [] (setAt O d nm (zbU (zal vars lv' t' bs' k').2.1 vars (zal vars lv' t' bs' k').2.2)):=by
  intro lv' e t' bs' k' h1 h2 h3;exact ih lv' e t' bs' k' _ (by rw[hlw (by omega),e];omega) h1 h2 h3
 have gok:=fun lv'=>zi1 vars lv';have hpow:∀lv',lv=lv'+1→4 ^ (lv+1)=4*4 ^ (lv'+1)∧1≤4 ^ (lv'+1):=fun lv' e=>by subst e;rw[Nat.pow_succ];exact⟨by omega,Nat.one_le_pow _ _ (by decide)⟩
 generalize hR:zal vars lv t bs k=R
 -- what the expression is,case by case
 have hleaf:t=true→lv=0∨k+1>12∨b0 bs%8<4→R=(zf6 vars (b0 bs),bs.tail,k+1):=by
  intro e h;subst e;rw[←hR]
  cases lv with
  |zero=>simp only[zal]
  |succ lv'=>simp only[zal];rw[if_pos (by omega)]
 have htruth:t=false→lv=0→R=(zfP (decide (b0 bs%2=0)),bs.tail,k+1):=by
  intro e h;subst e h;rw[←hR];simp only[zal]
 have hT:∀lv',lv=lv'+1→t=true→¬(k+1>12∨b0 bs%8<4)→R=if b0 bs%8=4 then (.mk 5 0 0 [(zal vars lv' true bs.tail (k+1)).1],(zal vars lv' true bs.tail (k+1)).2) else
  if b0 bs%8=5 then
   (.mk 13 0 0 [(zal vars lv' false bs.tail (k+1)).1,(zal vars lv' true (zal vars lv' false bs.tail (k+1)).2.1 (zal vars lv' false bs.tail (k+1)).2.2).1,
    (zal vars lv' true (zal vars lv' true (zal vars lv' false bs.tail (k+1)).2.1 (zal vars lv' false bs.tail (k+1)).2.2).2.1 (zal vars lv' true (zal vars lv' false bs.tail (k+1)).2.1 (zal vars lv' false bs.tail (k+1)).2.2).2.2).1],
    (zal vars lv' true (zal vars lv' true (zal vars lv' false bs.tail (k+1)).2.1 (zal vars lv' false bs.tail (k+1)).2.2).2.1 (zal vars lv' true (zal vars lv' false bs.tail (k+1)).2.1 (zal vars lv' false bs.tail (k+1)).2.2).2.2).2)
  else (.mk (2+b0 bs/8%3) 0 0 [(zal vars lv' true bs.tail (k+1)).1,(zal vars lv' true (zal vars lv' true bs.tail (k+1)).2.1 (zal vars lv' true bs.tail (k+1)).2.2).1],
    (zal vars lv' true (zal vars lv' true bs.tail (k+1)).2.1 (zal vars lv' true bs.tail (k+1)).2.2).2):=by
  intro lv' e e2 h;subst e e2;rw[←hR];simp only[zal];rw[if_neg h]
 have hF:∀lv',lv=lv'+1→t=false→R=if lv'=0∨k+1>12∨b0 bs%8<4 then (.mk (6+b0 bs/8%4) 0 0 [(zal vars lv' true bs.tail (k+1)).1,(zal vars lv' true (zal vars lv' true bs.tail (k+1)).2.1 (zal vars lv' true bs.tail (k+1)).2.2).1],
    (zal vars lv' true (zal vars lv' true bs.tail (k+1)).2.1 (zal vars lv' true bs.tail (k+1)).2.2).2) else
  if b0 bs%8=4 then (.mk 10 0 0 [(zal vars lv' false bs.tail (k+1)).1],(zal vars lv' false bs.tail (k+1)).2) else
  if b0 bs%8=5 then
   (.mk 13 0 0 [(zal vars lv' false bs.tail (k+1)).1,(zal vars lv' false (zal vars lv' false bs.tail (k+1)).2.1 (zal vars lv' false bs.tail (k+1)).2.2).1,
    (zal vars lv' false (zal vars lv' false (zal vars lv' false bs.tail (k+1)).2.1 (zal vars lv' false bs.tail (k+1)).2.2).2.1 (zal vars lv' false (zal vars lv' false bs.tail (k+1)).2.1 (zal vars lv' false bs.tail (k+1)).2.2).2.2).1],
    (zal vars lv' false (zal vars lv' false (zal vars lv' false bs.tail (k+1)).2.1 (zal vars lv' false bs.tail (k+1)).2.2).2.1 (zal vars lv' false (zal vars lv' false bs.tail (k+1)).2.1 (zal vars lv' false bs.tail (k+1)).2.2).2.2).2)
  else (.mk (11+b0 bs/8%2) 0 0 [(zal vars lv' false bs.tail (k+1)).1,(zal vars lv' false (zal vars lv' false bs.tail (k+1)).2.1 (zal vars lv' false bs.tail (k+1)).2.2).1],
    (zal vars lv' false (zal vars lv' false bs.tail (k+1)).2.1 (zal vars lv' false bs.tail (k+1)).2.2).2):=by
  intro lv' e e2;subst e e2;rw[←hR];simp only[zal]
 clear hR ih;have hlev:levels≤1↔lv=0:=by omega
 refine zaM [3,5,17] Tk Tryz.func161 rfl Tryz.call161 Tryz.ntmps161 (Nat.le_of_ble_eq_true rfl) fun E=>?_;refine zai Tk Tryz.func161 ?_;refine zbE Tk Tryz.func161 (hO1 _) ?_;refine zbE Tk Tryz.func161 (hO1 _) ?_;refine zaj Tk Tryz.func161 (hn _ (by exact zay (zaf ho))) rfl rfl rfl (za1 (zaU (zaf ho) rfl)) rfl ?_;obtain⟨O2,hO2⟩:∃O2,O2=setAt O d nm (zbU bs.tail vars ((k+1:Nat):Int)):=⟨_,rfl⟩;have ho2:zab O2 d nm=some (zbU bs.tail vars ((k+1:Nat):Int)):=by rw[hO2];exact zaf ho
 have hfin:∀c d' n',zab (setAt O d nm c) d' n'=zab (setAt O2 d nm c) d' n':=fun c=>by rw[hO2];exact os2 _ _
 have hfin0:∀d' n',zab (setAt O d nm (zbU bs.tail vars ((k+1:Nat):Int))) d' n'=zab O2 d' n':=fun d' n'=>by rw[hO2]
 have hO3:∀H,zab (H::O2) (d+1) nm=some (zbU bs.tail vars ((k+1:Nat):Int)):=fun H=>by simpa [zab] using ho2
 refine zat ?_;refine zaq (wk_S (S':=[(6,Ob.box [ii 0,ii 0,ii 0,.i (.v (.slice none 0 0))])]::O2) (zaG (by rw[hO2,hkw];exact os2 _ _))) ?_;refine zau (l:=[(0,.own (d+1) nm 0 0),(1,ii (tyOf t)),(2,ii levels),(6,.own 0 6 0 0),(7,ii (b0 bs))]) (Hv:=[(6,.box [ii 0,ii 0,ii 0,.i (.v (.slice none 0 0))])]) (n:=183) ?_ ⟨rfl,rfl,rfl,rfl,rfl,trivial⟩ rfl ⟨rfl,trivial⟩ rfl rfl;clear hn hO2 hO1;generalize b0 bs=b at *
 cases t with
 |true=>cases ht
 |false=>
  refine zai Tk Tryz.func161 ?_;refine g_go Tk Tryz.func161 ?_;refine gcF Tk Tryz.func161 rfl ?_;refine zae Tk Tryz.func161 rfl (fun h1=>?_) (fun h1=>?_)
  ·have h1:lv=0:=hlev.1 (of_decide_eq_true h1);have hR:=htruth rfl h1;subst hR;refine zad Tk Tryz.func161 (by decide) ?_;refine zaj Tk Tryz.func161 (zwB _ _) rfl rfl rfl rfl rfl ?_;refine za4 (wk_S (S':=_::setAt O d nm _) (zaG hfin0)) ?_;refine zag Tk (r:=_) rfl rfl rfl trivial rfl rfl ?_;rw[hby.m2];rfl
  have h1:lv≠0:=fun e=>of_decide_eq_false h1 (hlev.2 e);obtain⟨lv',elv⟩:∃lv',lv=lv'+1:=⟨lv-1,by omega⟩;have hF:=hF lv' elv rfl;have hp:=hpow lv' elv;have child:=child lv' elv;have gok:=gok lv';have hlev2:levels≤2↔lv'=0:=by omega
  clear hleaf hT htruth hpow hlev
  apply zbK (P:=lv'=0∨k+1>12∨b%8<4) (s6:={ σ:=[(0,.own (d+1) nm 0 0),(2,ii levels),(6,.own 0 6 0 0),(7,ii b)],S:=[(6,.box [ii 0,ii 0,ii 0,.i (.v (.slice none 0 0))])]::O2,n:=183})
  ·intro J;refine zaK Tk Tryz.func161 rfl (fun h2=>?_) (fun h2=>?_)
   ·repeat (first|refine gcT Tk Tryz.func161 rfl ?_|refine gkT Tk Tryz.func161 rfl ?_|refine skT Tk ?_|refine gcF Tk Tryz.func161 rfl ?_|refine gkF Tk Tryz.func161 rfl ?_|refine skF Tk ?_)
    refine zat ?_;exact zcj (J (.inl (hlev2.1 (of_decide_eq_true h2)))) ⟨rfl,rfl,rfl,rfl,trivial⟩ rfl rfl
   have h2:lv' ≠ 0:=fun e=>of_decide_eq_false h2 (hlev2.2 e);refine zbE Tk Tryz.func161 (hO3 _) ?_;refine zaK Tk Tryz.func161 rfl (fun h3=>?_) (fun h3=>?_)
   ·refine gcT Tk Tryz.func161 rfl ?_;refine zat ?_;exact zcj (J (.inr (.inl (by have:=of_decide_eq_true h3;omega)))) ⟨rfl,rfl,rfl,rfl,trivial⟩ rfl rfl
   have h3:¬k+1>12:=by have:=of_decide_eq_false h3;omega
   refine zad Tk Tryz.func161 (by decide) ?_;refine zae Tk Tryz.func161 rfl (fun h4=>?_) (fun h4=>?_)
   ·refine zat ?_;exact zcj (J (.inr (.inr (by have:=of_decide_eq_true h4;rw[hby.m8] at this;exact this)))) ⟨rfl,rfl,rfl,rfl,trivial⟩ rfl rfl
   have h4:¬b%8<4:=by have:=of_decide_eq_false h4;rw[hby.m8] at this;exact this
   rw[if_neg (by omega)] at hF;clear J;refine zad Tk Tryz.func161 (by decide) ?_;refine zae Tk Tryz.func161 rfl (fun h5=>?_) (fun h5=>?_)
   ·have h5:=beqT h5;rw[hby.m8] at h5;rw[if_pos h5] at hF;subst hF;have c1:=fun O ho=>child false bs.tail (k+1) hbt hbtl (by omega) O (d+1) nm ho;refine zaj Tk Tryz.func161 (c1 _ (by exact zay ho2)) rfl rfl rfl (za1 (zaU ho2 rfl)) rfl ?_;refine za4 (wk_S (S':=_::setAt O d nm _) (zaG (hfin _))) ?_;refine zag Tk (r:=_) rfl rfl rfl trivial rfl rfl ?_;exact (exA1 _ _).symm
   have h5:b%8≠4:=by have:=beqF h5;rw[hby.m8] at this;exact this
   rw[if_neg h5] at hF;refine zad Tk Tryz.func161 (by decide) ?_;refine zae Tk Tryz.func161 rfl (fun h6=>?_) (fun h6=>?_)
   ·have h6:=beqT h6;rw[hby.m8] at h6;rw[if_pos h6] at hF;have g1:=gok false bs.tail (k+1) hbt;have c1:=fun O ho=>child false bs.tail (k+1) hbt hbtl (by omega) O (d+1) nm ho;generalize zal vars lv' false bs.tail (k+1)=A at *;have gk1:=g1.k;have gl1:=Nat.le_trans g1.l hbtl;have g2:=gok false A.2.1 A.2.2 g1.b;have c2:=fun O ho=>child false A.2.1 A.2.2 g1.b gl1 (by omega) O (d+1) nm ho;generalize zal vars lv' false A.2.1 A.2.2=B at *;have gk2:=g2.k;have gl2:=Nat.le_trans g2.l gl1;have g3:=gok false B.2.1 B.2.2 g2.b;have c3:=fun O ho=>child false B.2.1 B.2.2 g2.b gl2 (by omega) O (d+1) nm ho;generalize zal vars lv' false B.2.1 B.2.2=C at *;subst hF;refine zaj Tk Tryz.func161 (c1 _ (by exact zay ho2)) rfl rfl rfl (za1 (zaU ho2 rfl)) rfl ?_;refine zaj Tk Tryz.func161 (c2 _ (by exact zay (zaf ho2))) rfl rfl rfl (za1 (zaU (zaf ho2) rfl)) rfl ?_
    refine zaj Tk Tryz.func161 (c3 _ (by exact zay (zaf (zaf ho2)))) rfl rfl rfl (za1 (zaU (zaf (zaf ho2)) rfl)) rfl ?_;refine za4 (wk_S (S':=_::setAt O d nm _) (zaG fun d' n'=>(hfin _ d' n').trans (os3 _ _ _ d' n'))) ?_;refine zag Tk (r:=_) rfl rfl rfl trivial rfl rfl ?_;exact (exA3 _ _ _ _).symm
   have h6:b%8≠5:=by have:=beqF h6;rw[hby.m8] at this;exact this
   rw[if_neg h6] at hF;refine zad Tk Tryz.func161 (by decide) ?_;refine zad Tk Tryz.func161 (by decide) ?_;have g1:=gok false bs.tail (k+1) hbt;have c1:=fun O ho=>child false bs.tail (k+1) hbt hbtl (by omega) O (d+1) nm ho;generalize zal vars lv' false bs.tail (k+1)=A at *;have gk1:=g1.k;have gl1:=Nat.le_trans g1.l hbtl;have c2:=fun O ho=>child false A.2.1 A.2.2 g1.b gl1 (by omega) O (d+1) nm ho;generalize zal vars lv' false A.2.1 A.2.2=B at *;subst hF;refine zaj Tk Tryz.func161 (c1 _ (by exact zay ho2)) rfl rfl rfl (za1 (zaU ho2 rfl)) rfl ?_;refine zaj Tk Tryz.func161 (c2 _ (by exact zay (zaf ho2))) rfl rfl rfl (za1 (zaU (zaf ho2) rfl)) rfl ?_;refine za4 (wk_S (S':=_::setAt O d nm _) (zaG fun d' n'=>(hfin _ d' n').trans (os2 _ _ d' n'))) ?_;refine zag Tk (r:=_) rfl rfl rfl trivial rfl rfl ?_;rw[←hby.q8a (by decide) (by decide) (by decide) (by decide)];exact (exA2 _ _ _).symm
  ·intro hP;rw[if_pos hP] at hF;have g1:=gok true bs.tail (k+1) hbt;have c1:=fun O ho=>child true bs.tail (k+1) hbt hbtl (by omega) O (d+1) nm ho;generalize zal vars lv' true bs.tail (k+1)=A at *;have gk1:=g1.k;have gl1:=Nat.le_trans g1.l hbtl;have c2:=fun O ho=>child true A.2.1 A.2.2 g1.b gl1 (by omega) O (d+1) nm ho;generalize zal vars lv' true A.2.1 A.2.2=B at *;subst hF;refine zai Tk Tryz.func161 ?_;refine g_go Tk Tryz.func161 ?_;refine zad Tk Tryz.func161 (by decide) ?_;refine zad Tk Tryz.func161 (by decide) ?_;refine zaj Tk Tryz.func161 (c1 _ (by exact zay ho2)) rfl rfl rfl (za1 (zaU ho2 rfl)) rfl ?_;refine zaj Tk Tryz.func161 (c2 _ (by exact zay (zaf ho2))) rfl rfl rfl (za1 (zaU (zaf ho2) rfl)) rfl ?_;refine za4 (wk_S (S':=_::setAt O d nm _) (zaG fun d' n'=>(hfin _ d' n').trans (os2 _ _ d' n'))) ?_;refine zag Tk (r:=_) rfl rfl rfl trivial rfl rfl ?_
   rw[←hby.q8a (by decide) (by decide) (by decide) (by decide)];exact (exA2 _ _ _).symm
theorem zsE (vars:Int) (hv:0≤vars):∀lv,lv≤10→∀t,zui vars lv t
 |0,h,true=>zh8 vars hv 0 h fun lv' e=>by omega
 |0,h,false=>zh9 vars hv 0 h fun lv' e=>by omega
 |lv+1,h,true=>zh8 vars hv (lv+1) h fun lv' e t=>by
  obtain rfl:lv=lv':=by omega
  exact zsE vars hv lv (by omega) t
 |lv+1,h,false=>zh9 vars hv (lv+1) h fun lv' e t=>by
  obtain rfl:lv=lv':=by omega
  exact zsE vars hv lv (by omega) t
def zhg (vars:Int) (t:Bool) (bs:List Int):Ex:=(zal vars 4 t (bs.take 60) 0).1
theorem zwb (O:List Heap) (bs:List Int) (vars:Int) (t:Bool) (hv:0≤vars) (hb:zcC bs) (hl:bs.length≤zar) :
  zao Tryz.prog 118 [byts bs,ii vars,ii (tyOf t)] O (exA (zhg vars t bs)) [] O:=by
 have hb':zcC (bs.take 60):=fun b h=>hb b (List.mem_of_mem_take h);have hl':(bs.take 60).length≤zar:=Nat.le_trans (List.length_take_le _ _) (by decide);have hg:=fun O d nm ho=>zsE vars hv 4 (by decide) t (bs.take 60) 0 5 rfl hb' hl' (by decide) O d nm ho;unfold zhg;generalize zal vars 4 t (bs.take 60) 0=R at *;have hmin:(if (60:Int)<bs.length then (60:Int) else bs.length).toNat=(bs.take 60).length:=by
  simp only[List.length_take]
  split<;>omega
 have htk:(bs.map u8I).take (if (60:Int)<bs.length then (60:Int) else bs.length).toNat=(bs.take 60).map u8I:=by
  rw[hmin,List.map_take,List.take_eq_take_iff];simp
 have hobj:some (Ob.box [.i (.sl 1 (if (60:Int)<bs.length then (60:Int) else bs.length).toNat ((bs.map u8I).take (if (60:Int)<bs.length then (60:Int) else bs.length).toNat)),ii vars,ii 0])=some (zbU (bs.take 60) vars ((0:Nat):Int)):=by
  rw[htk,hmin];rfl
 refine zaa Tk Tryz.func118 rfl Tryz.call118 Tryz.ntmps118 (Nat.le_of_ble_eq_true rfl) fun E=>?_;refine zai Tk Tryz.func118 ?_;refine zad Tk Tryz.func118 (by split<;>omega) ?_;refine zaj Tk Tryz.func118 (hg _ 0 15 (by exact hobj)) rfl rfl rfl (by exact za7 rfl rfl) rfl ?_;refine zag Tk (r:=_) rfl rfl rfl trivial rfl rfl ?_;rfl
abbrev r8I (p:Int×Int):List I:=[.v (.int .i8 p.1),.v (.int .i8 p.2)]
abbrev r8s (l:List (Int×Int)):D:=.i (.sl 2 l.length (l.map r8I))
abbrev ovrs (l:List Vr):Ob:=.arr 115 4 l.length (l.map vrI) true
def zj3 (i:Nat):ByteArray:=⟨#[120]⟩++bytesOf [IntKind.u8.wrap (48+IntKind.u8.wrap (i:Int))]
def rngV (i:Nat) (p:Int×Int):Vr:=⟨zj3 i,p.1.tmod 5,p.1.tmod 5+p.2%256%4,p.1.tmod 5+p.2%256/4%(p.2%256%4+1)⟩
def zdE (l:List (Int×Int)):List Vr:=(List.range (min l.length 3)).map fun i=>rngV i (l.getD i (0,0))
def zfU (p:Int×Int):Prop:=-128≤p.1∧p.1≤127 ∧ -128≤p.2∧p.2≤127
theorem zuT (l:List Vr) (v:Vr):Ob.arr 115 4 (l.length+1) (l.map vrI++[vrI v]) true=ovrs (l++[v]):=by simp
theorem zhX (i:Nat):(zj3 i).size=2:=by
 unfold zj3 bytesOf;simp only[List.foldl_cons,List.foldl_nil];rw[ByteArray.size_append,ByteArray.size_push];rfl
theorem wu8 (n:Int):IntKind.u8.wrap n=n%256:=by
 unfold IntKind.wrap;simp[IntKind.bits,IntKind.signed]
theorem zuQ (O:List Heap) (l:List (Int×Int)) (hl:l.length≤zar) (hp:∀p∈l,zfU p):zao Tryz.prog 116 [r8s l] O (vrs (zdE l)) [] O:=by
 refine zaM [7] Tk Tryz.func116 rfl Tryz.call116 Tryz.ntmps116 (Nat.le_of_ble_eq_true rfl) fun E=>?_;refine zai Tk Tryz.func116 ?_;refine zah ?_;refine zaq (zbn 3 58 115 4 rfl rfl rfl) ?_;refine zak (fun i:Nat=>[(0,r8s l),(3,.osl 0 58),(4,ii i)]) (fun i=>[(58,ovrs ((List.range i).map fun i=>rngV i (l.getD i (0,0))))]) (fun _=>O) 60
  (fun i=>i≤min l.length 3) (fun i=>min l.length 3-i) 0 (Nat.zero_le _) ⟨rfl,rfl,rfl,trivial⟩ rfl ⟨rfl,trivial⟩ rfl rfl ?_
 rintro i hi ih;have hend:i=min l.length 3→vrs (zdE l)=vrs ((List.range i).map fun i=>rngV i (l.getD i (0,0))):=fun e=>by rw[e];rfl
 have hsucc:(List.range (i+1)).map (fun i=>rngV i (l.getD i (0,0)))=(List.range i).map (fun i=>rngV i (l.getD i (0,0)))++[rngV i (l.getD i (0,0))]:=by rw[List.range_succ,List.map_append];rfl
 have hlen:((List.range i).map fun i=>rngV i (l.getD i (0,0))).length=i:=by simp
 generalize zdE l=R at *;generalize (List.range i).map (fun i=>rngV i (l.getD i (0,0)))=acc at *;refine zai Tk Tryz.func116 ?_;refine zaK Tk Tryz.func116 rfl (fun h1=>?_) (fun h1=>?_)
 ·have h1:i<l.length:=by have:=of_decide_eq_true h1;omega
  refine zae Tk Tryz.func116 rfl (fun h2=>?_) (fun h2=>?_)
  ·have h2:i<3:=by have:=of_decide_eq_true h2;omega
   have hgd:l.getD i (0,0)=l[i]:=by simp[h1]
   have hm:=List.getElem_mem h1;have hg:(l.map r8I)[(i:Int).toNat]? = some (r8I l[i]):=zan h1;rw[hgd] at hsucc;generalize l[i]=p at *;obtain⟨a,b⟩:=p;obtain⟨ha0,ha1,hb0,hb1⟩:=hp _ hm;simp only at ha0 ha1 hb0 hb1;have hlo:IntKind.i64.wrap (a.tmod 5)=a.tmod 5:=by
    have:=Int.tmod_lt_of_pos a (show (0:Int)<5 by decide);have:=Int.lt_tmod_of_pos a (show (0:Int)<5 by decide);rw[w64 (by omega) (by omega)]
   have hwd:IntKind.i64.wrap ((IntKind.u8.wrap b).tmod 4)=b%256%4:=by
    rw[wu8,Int.tmod_eq_emod_of_nonneg (by omega),w64 (by omega) (by omega)]
   refine zad Tk Tryz.func116 (by exact⟨by omega,by show (i:Int)<(l.length:Int);omega⟩) ?_;refine zad Tk Tryz.func116 (by decide) ?_;refine zap Tk Tryz.func116 (hg) ?_;refine zad Tk Tryz.func116 (by decide) ?_;refine zad Tk Tryz.func116 (by exact⟨by omega,by show (i:Int)<(l.length:Int);omega⟩) ?_;refine zad Tk Tryz.func116 (by decide) ?_;refine zap Tk Tryz.func116 (hg) ?_;refine zad Tk Tryz.func116 (by decide) ?_;refine zat ?_;refine zau (l:=[(0,r8s l),(3,.osl 0 58),(4,ii i),(5,ii (a.tmod 5)),(6,ii (b%256%4))]) (Hv:=[(58,ovrs acc)]) (n:=60) ?_ ⟨rfl,rfl,rfl,congrArg ii hlo,congrArg ii hwd,trivial⟩ rfl ⟨rfl,trivial⟩ rfl rfl;refine zai Tk Tryz.func116 ?_;refine g_go Tk Tryz.func116 ?_;refine zav Tk Tryz.func116 zaz rfl ?_;have hsz:=zhX i;unfold zj3 at hsz;rw[ByteArray.size_append] at hsz;have hw1:IntKind.i64.wrap (b%256%4+1)=b%256%4+1:=w64 (by omega) (by omega)
   have hq:IntKind.i64.wrap (IntKind.u8.wrap ((IntKind.u8.wrap b).tdiv 4))=b%256/4:=by
    rw[wu8,wu8,Int.tdiv_eq_ediv_of_nonneg (by omega),w64 (by omega) (by omega)];omega
   have hmod:=Int.emod_nonneg (b%256/4) (show b%256%4+1≠0 by omega);have hmod2:=Int.emod_lt_of_pos (b%256/4) (show 0<b%256%4+1 by omega);have hl5:=Int.tmod_lt_of_pos a (show (0:Int)<5 by decide);have hg5:=Int.lt_tmod_of_pos a (show (0:Int)<5 by decide);refine zas Tk (by omega) ?_;refine zas Tk (by exact⟨by omega,by show (i:Int)<(l.length:Int);omega⟩) ?_;refine zas Tk (by decide) ?_;refine zaE Tk (hg) ?_;refine zas Tk (by decide) ?_;refine zas Tk (by rw[hw1];omega) ?_;have hin:(b%256/4).tmod (b%256%4+1)=(b%256/4)%(b%256%4+1):=Int.tmod_eq_emod_of_nonneg (by omega);refine zdY Tk Tryz.func116 ([26,27]) (by kernel_rfl) (by kernel_rfl) ?_;refine zad Tk Tryz.func116 (by exact⟨by show (acc.length+1)*40≤140737488355328;omega,by show acc.length+1≤9223372036854775807;omega⟩) ?_;refine zah ?_
   refine ih (i+1) _ _ (by omega) (by omega) ⟨rfl,rfl,congrArg ii (zaC h1 hl),trivial⟩ rfl ⟨?_,trivial⟩ rfl rfl;rw[hsucc,←zuT];show some (Ob.arr 115 4 (acc.length+1) (acc.map vrI++[[.v (.string (⟨#[120]⟩++bytesOf [IntKind.u8.wrap (48+IntKind.u8.wrap (i:Int))])),vi (a.tmod 5),vi _,vi _]]) true)=_;rw[hw1,hq,hin,w64 (by omega) (by omega),w64 (by omega) (by omega)];rfl
  ·have h2:¬i<3:=by have:=of_decide_eq_false h2;omega
   have:=hend (by omega);refine za4 (zam 58 rfl rfl) ?_;refine zag Tk (r:=vrs acc) rfl rfl rfl trivial rfl rfl ?_;exact this.symm
 ·have h1:¬i<l.length:=by have:=of_decide_eq_false h1;omega
  have:=hend (by omega);refine gcF Tk Tryz.func116 rfl ?_;refine za4 (zam 58 rfl rfl) ?_;refine zag Tk (r:=vrs acc) rfl rfl rfl trivial rfl rfl ?_;exact this.symm
end Go.AI
