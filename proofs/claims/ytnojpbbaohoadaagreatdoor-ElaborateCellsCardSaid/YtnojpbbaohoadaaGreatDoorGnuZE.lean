/- The layer of abstract runs, part 31. -/
import Derived.Test.YtnojpbbaohoadaaGreatDoorGnuZD
set_option linter.unusedSimpArgs false
set_option linter.unusedVariables false
set_option linter.all false
set_option maxHeartbeats 4000000
namespace Go.AI
open Go.Proofs
set_option maxRecDepth 20000
theorem zgh {n:Int}:∀{l:List Int} {p:Option Int},l.Pairwise (· < ·)→(∀x∈l,0≤x∧x<n)→(∀y,p=some y→∀x∈l,y<x)→zaM n l p=0
 |[],_,_,_,_=>rfl
 |x::r,p,hs,hr,hp=>by
  simp only[zaM];have h1:=hr x (by simp);rw[if_neg (by omega),if_neg]
  ·rw[List.pairwise_cons] at hs;refine zgh hs.2 (fun y hy=>hr y (by simp[hy])) (fun y e z hz=>?_);simp only[Option.some.injEq] at e;subst e;exact hs.1 z hz
  ·cases p with
   |none=>simp
   |some y=>
    have:=hp y rfl x (by simp);simp only[Option.any_some,decide_eq_true_eq];omega
theorem zvX (marks:Int) (L:Nat):zaM (L:Int) (mrks marks L) none=0:=by
 refine zgh ?_ (fun x hx=>?_) (by simp)
 ·unfold mrks;rw[List.pairwise_map];exact (List.Pairwise.filter _ List.pairwise_lt_range).imp fun h=>by omega
 ·unfold mrks at hx;simp only[List.mem_map,List.mem_filter,List.mem_range] at hx;obtain⟨i,⟨h1,_⟩,rfl⟩:=hx;omega
structure vrOk (v:Vr):Prop where
 lo:-4≤v.low
 hi:v.high≤7
 w:v.low≤v.high∧v.high≤v.low+3
 ini:v.low≤v.init∧v.init≤v.high
 nm:v.name.size=2
theorem zx0 (i:Nat) {p:Int×Int} (hp:zgc p):vrOk (rngV i p):=by
 have h1:=Int.tmod_lt_of_pos p.1 (show (0:Int)<5 by decide);have h2:=Int.lt_tmod_of_pos p.1 (show (0:Int)<5 by decide);have h3:=Int.emod_nonneg (p.2%256/4) (show p.2%256%4+1≠0 by omega);have h4:=Int.emod_lt_of_pos (p.2%256/4) (show 0<p.2%256%4+1 by omega);refine⟨?_,?_,?_,?_,zil i⟩<;>simp only[rngV]<;>omega
theorem zn3 {l:List (Int×Int)} (h:∀p∈l,zgc p):∀v∈zdI l,vrOk v:=by
 intro v hv;simp only[zdI,List.mem_map,List.mem_range] at hv;obtain⟨i,hi,rfl⟩:=hv;have:l.getD i (0,0)=l[i]'(by omega):=by simp[show i<l.length by omega]
 rw[this];exact zx0 i (h _ (List.getElem_mem _))
theorem zf8 {ds:List Vr} {v:Vr} (hn:zaT v.name=true) (hd:ds.any (fun x=>x.name.toList==v.name.toList)=false) (h:vrOk v):checkVr ds v=none:=by
 have:=h.lo;have:=h.hi;have:=h.w;have:=h.ini;unfold checkVr;rw[if_neg (by rw[hn];simp),if_neg (by rw[hd];simp),if_neg,if_neg (by omega),if_neg (by omega)];simp only[checkVr.large,Bool.or_eq_true,decide_eq_true_eq];omega
theorem zvz {l:List (Int×Int)} (hl:l.length≤2) (h:∀p∈l,zgc p):zby (zdI l)=0:=by
 have hlen:(zdI l).length≤2:=by rw[zgZ];omega
 unfold zby;rw[if_neg (by omega)];have hok:=zn3 h;have n0:zaT (zku 0)=true:=by kernel_rfl
 have n1:zaT (zku 1)=true:=by kernel_rfl
 have n2:((zku 0).toList==(zku 1).toList)=false:=by kernel_rfl
 match l,hl with
 |[],_=>rfl
 |[a],_=>
  have e:zdI [a]=[rngV 0 a]:=rfl;rw[e] at hok ⊢;simp only[zbg];rw[zf8 n0 (by simp) (hok _ (by simp))]
 |[a,b],_=>
  have e:zdI [a,b]=[rngV 0 a,rngV 1 b]:=rfl;rw[e] at hok ⊢;simp only[zbg];rw[zf8 n0 (by simp) (hok _ (by simp))];simp only;rw[zf8 n1 ?_ (hok _ (by simp))];simp only[List.take_succ_cons,List.take_zero,List.any_cons,List.any_nil,Bool.or_false];exact n2
def leMv (x y:Mv):Prop:=¬(y.frm<x.frm∨(y.frm=x.frm∧y.ev<x.ev))
theorem zit {x y z:Mv} (h:leMv x y) (h':leMv y z):leMv x z:=by unfold leMv at *;omega
theorem zow {x y:Mv}:gtMv x y=true↔¬leMv x y:=by
 unfold gtMv leMv;rw[decide_eq_true_eq];omega
theorem zij {l:List Mv} {y:Mv} (hs:l.Pairwise leMv):∀n,n≤l.length→(∀x∈l.drop n,leMv y x)→(∀x∈l.take (posR l y n),leMv x y)∧∀x∈l.drop (posR l y n),leMv y x
 |0,_,h=>⟨by simp[posR],h⟩
 |n+1,hn,h=>by
  simp only[posR];rw[List.getElem?_eq_getElem (by omega)];simp only
  cases hg:gtMv l[n] y with
  |true=>
   rw[cond_true];refine zij hs n (by omega) fun x hx=>?_;rw[List.drop_eq_getElem_cons (by omega)] at hx;rcases List.mem_cons.1 hx with rfl|hx
   ·have:=zow.1 hg;unfold leMv at *;omega
   ·exact h x hx
  |false=>
   rw[cond_false];refine⟨fun x hx=>?_,h⟩;have hle:leMv l[n] y:=by
    apply Classical.byContradiction
    intro hc;rw[zow.2 hc] at hg;cases hg
   rw[List.take_add_one,List.getElem?_eq_getElem (by omega)] at hx;simp only[List.mem_append,Option.toList,List.mem_singleton] at hx;rcases hx with hx|rfl
   ·obtain⟨j,hj,rfl⟩:=List.mem_take_iff_getElem.1 hx;have hjn:j<n:=by omega
    exact zit (List.pairwise_iff_getElem.1 hs j n (by omega) (by omega) hjn) hle
   ·exact hle
theorem zqW {l:List Mv} {y:Mv} (hs:l.Pairwise leMv):(zjr l y).Pairwise leMv:=by
 have h:=zij (y:=y) hs l.length (Nat.le_refl _) (by simp);unfold zjr;rw[List.pairwise_append];refine⟨hs.sublist (List.take_sublist _ _),?_,?_⟩
 ·rw[List.pairwise_cons];exact⟨h.2,hs.sublist (List.drop_sublist _ _)⟩
 ·intro a ha b hb;rcases List.mem_cons.1 hb with rfl|hb
  ·exact h.1 a ha
  ·exact zit (h.1 a ha) (h.2 b hb)
theorem zyF {l:List Mv} {y x:Mv}:x∈zjr l y→x∈l∨x=y:=by
 unfold zjr;intro h;simp only[List.mem_append,List.mem_cons] at h;rcases h with h|rfl|h
 ·exact .inl (List.mem_of_mem_take h)
 ·exact .inr rfl
 ·exact .inl (List.mem_of_mem_drop h)
theorem zoh {P:Mv→Prop} {locs n:Int} {l:List Lin} (h:∀x∈l,P (mvOf locs n x)):∀i,i≤l.length→(mvsL locs n l i).Pairwise leMv∧∀y∈mvsL locs n l i,P y
 |0,_=>by simp[mvsL]
 |i+1,hi=>by
  obtain⟨h1,h2⟩:=zoh h i (by omega);rw[zhf (by omega)];refine⟨zqW h1,fun y hy=>?_⟩;rcases zyF hy with hy|rfl
  ·exact h2 y hy
  ·exact h _ (List.getElem_mem _)
structure mvGood (L n:Int) (x:Mv):Prop where
 frm:0≤x.frm∧x.frm<L
 to:0≤x.to∧x.to<L
 ev:x.ev=0∨x.ev=1∨x.ev=2
 g:zbn x.g n 2=0
 us:x.us=[]∨∃u,x.us=[u]∧0≤u.v∧u.v<n∧zbn u.x n 1=0∧exOk u.x
 gok:exOk x.g
theorem zqd {n:Int} (h:0≤n) (h2:n≤16):zbn trueE n 2=0:=znX h h2 ⟨rfl,⟨rfl,trivial⟩,⟨rfl,trivial⟩,trivial⟩ (by decide) (by decide) rfl (by decide)
theorem zxz:exOk trueE:=⟨by simp[zap],⟨Nat.zero_le _,trivial⟩,⟨Nat.zero_le _,trivial⟩,trivial⟩
theorem zsX {L n:Int} (hL:0<L) (hn:0≤n) (hn2:n≤16) {x:Lin} (hx:linOk x):mvGood L n (mvOf L n x):=by
 obtain⟨h0,h1,h2,hg,hgl,hu,hul⟩:=hx;have hb0:=zfF hu;refine⟨⟨Int.emod_nonneg _ (by omega),Int.emod_lt_of_pos _ hL⟩,⟨Int.emod_nonneg _ (by omega),Int.emod_lt_of_pos _ hL⟩,?_,?_,?_,?_⟩
 ·show x.a1%3=0∨x.a1%3=1∨x.a1%3=2;omega
 ·show zbn (zge n x.g) n 2=0;unfold zge
  split
  ·exact (zfY hn hn2 false fun b hb=>hg b (List.mem_of_mem_take hb)).1
  ·exact zqd hn hn2
 ·show zjX n x.u=[]∨_;unfold zjX
  split
  ·rename_i h;have ht:=zfY hn hn2 true (bs:=(x.u.take 12).drop 1) fun b hb=>hu b (List.mem_of_mem_take (List.mem_of_mem_drop hb));have h2:0<n:=h.2;exact .inr ⟨⟨b0 x.u%n,zhy n true ((x.u.take 12).drop 1)⟩,(by show zjX n x.u=_;unfold zjX;rw[if_pos h]),Int.emod_nonneg _ (by omega),Int.emod_lt_of_pos _ h2,ht.1,ht.2⟩
  ·exact .inl rfl
 ·show exOk (zge n x.g);unfold zge
  split
  ·exact (zfY hn hn2 false fun b hb=>hg b (List.mem_of_mem_take hb)).2
  ·exact zxz
structure made (m:Ext):Prop where
 al:m.alpha=[0,1,2]
 lo:1≤m.locs∧m.locs≤4
 ini:m.init=0
 vl:m.vars.length≤2
 v:∀v∈m.vars,vrOk v
 ml:m.moves.length≤8
 mv:∀x∈m.moves,mvGood m.locs m.vars.length x
 sorted:m.moves.Pairwise leMv
 ve:zby m.vars=0
 ma:zaM m.locs m.marked none=0
 mal:m.marked.length≤4
theorem zs1 {k:Sk} (hk:skOk k):made (zjj k):=by
 have hl:=hk.locs;have hL:1≤zdg k∧zdg k≤4:=by unfold zdg;omega
 have hp:∀p∈k.rngs.take 2,zgc p:=fun p h=>hk.r p (List.mem_of_mem_take h);have hv2:(zdI (k.rngs.take 2)).length≤2:=by rw[zgZ,List.length_take];omega
 have hall:=zoh (P:=mvGood (zdg k) (zdI (k.rngs.take 2)).length) (locs:=zdg k) (n:=(zdI (k.rngs.take 2)).length) (l:=k.lines) (fun x hx=>zsX (by omega) (by omega) (by omega) (hk.l x hx)) (min k.lines.length 8) (by omega);have hml:=zoi k.marks (zdg k);refine⟨rfl,⟨?_,?_⟩,rfl,hv2,zn3 hp,?_,hall.2,hall.1,zvz (by rw[List.length_take];omega) hp,zvX _ _,?_⟩
 ·show (1:Int)≤(zdg k:Int);omega
 ·show (zdg k:Int)≤4;omega
 ·show (mvsL _ _ _ _).length≤8;rw[zjf (by omega)];omega
 ·show (mrks _ _).length≤4;omega
theorem zyk {m:Ext} (h:made m):extOk m:=by
 refine⟨by rw[h.al];simp[zap],?_,?_,fun v hv=>?_,?_,fun x hx=>?_⟩
 ·have:=h.mal;simp only[zap];omega
 ·have:=h.vl;simp only[zap];omega
 ·have:=(h.v v hv).nm;simp only[zap];omega
 ·have:=h.ml;simp only[zap];omega
 ·have hg:=h.mv x hx;refine⟨hg.gok,?_,fun u hu=>?_⟩
  ·rcases hg.us with e|⟨u,e,_⟩<;>rw[e]<;>simp[zap]
  ·rcases hg.us with e|⟨u',e,h1⟩
   ·rw[e] at hu;simp at hu
   ·rw[e] at hu;simp only[List.mem_singleton] at hu;subst hu;exact h1.2.2.2
end Go.AI
namespace Go.AI
open Go.Proofs
theorem zel (c:UInt8) (i:Nat) (h:i≤1000):(zbE c i).size≤zap:=by
 have:=zqM c i h;simp only[zap];omega
theorem zfO (k:Sk22):(zcM k).tpls=mkT k:=by unfold zcM;split<;>rfl
theorem zhl (k:Sk22):(zcM k).comps=(mkI k).1:=by unfold zcM;split<;>rfl
theorem zin (k:Sk22):(zcM k).reqs=(mkI k).2:=by unfold zcM;split<;>rfl
theorem zhk (k:Sk22):(zcM k).evs=evs4:=by unfold zcM;split<;>rfl
theorem zqP (k:Sk22):(zcM k).name=⟨#[109]⟩:=by unfold zcM;split<;>rfl
theorem zoJ (T:List Tpl) (C:List Ins) (acc:List NLc) (w:Whr):(excA T C acc w).length≤acc.length+1:=by
 unfold excA
 by_cases h:(match acc with|[]=>false|a::_=>sB a.1 (C.getD (w.1%(C.length:Int)).toNat ziO).name)=true
 ·rcases acc with _|⟨a,r⟩
  ·cases h
  ·have h:sB a.1 (C.getD (w.1%(C.length:Int)).toNat ziO).name=true:=h;simp only[h,if_true];omega
 ·rcases acc with _|⟨a,r⟩
  ·simp
  ·have h:¬sB a.1 (C.getD (w.1%(C.length:Int)).toNat ziO).name=true:=h;simp only[h,if_false,Bool.false_eq_true,List.length_append,List.length_singleton];omega
theorem zqQ {k:Sk22}:(zcM k).excs.length≤2∧∀x∈(zcM k).excs,x.name.size≤zap∧x.locals.length≤2:=by
 unfold zcM
 split
 ·simp
 ·refine⟨by simp only[zeV,List.length_map,List.length_range];omega,fun x hx=>?_⟩;obtain⟨i,hi,rfl⟩:=List.mem_map.1 hx;have hi:=List.mem_range.1 hi;refine⟨zel 120 i (by omega),?_⟩;have h1:=zoJ (mkT k) (mkI k).1 (excA (mkT k) (mkI k).1 [] (k.excs.getD i zWhr).1) (k.excs.getD i zWhr).2;have h2:=zoJ (mkT k) (mkI k).1 [] (k.excs.getD i zWhr).1;unfold zww;simp only;simp only[List.length_nil] at h2;omega
theorem zs0 (k:Sk22):(mkI k).1.length≤3∧(mkI k).2.length≤2:=zgy _ _ _
theorem zqR {k:Sk22}:(zcM k).cons.length≤1∧∀x∈(zcM k).cons,x.name.size≤zap∧x.terms.length≤3:=by
 have hl:=(zs0 k).1;unfold zcM
 split
 ·simp
 ·simp only
  split
  ·refine⟨by simp,fun x hx=>?_⟩;rw[List.mem_singleton.1 hx];refine⟨by show (1:Nat)≤zap;decide,?_⟩;show (zcU _).length≤3;rw[zee];exact hl
  ·simp
theorem zw5 (k:Sk22):∀x∈(mkI k).1++(mkI k).2,insOk x:=by
 refine zfV (P:=insOk) _ _ _ fun i hi=>?_;have:=zhv k;refine⟨zel 105 i (by omega),?_⟩;show (ordS _ 3).1.length≤1000000;rw[zg8];decide
theorem zw4 {k:Sk22} (hk:sk22Ok k):∀t∈mkT k,tplOk t∧t.mach.moves.length≤19:=by
 intro t h;obtain⟨j,h1,h2,rfl⟩:=zsZ h;have hs:=hk.t _ (zjv (d:=zSk) h2);have hm:=zs1 hs;have hl:zdg (k.tpls.getD j zSk)≤4:=by have:=hs.locs;unfold zdg;omega
 have ht3:=zjg k;have hml:=hm.ml;refine⟨⟨zel 116 j (by omega),?_,fun s hsm=>?_,by show (3:Nat)≤1000000;decide,fun s hsm=>?_,zyk hm⟩,by show (zjj _).moves.length≤19;omega⟩
 ·show ((List.range _).map _).length≤1000000;simp only[List.length_map,List.length_range];omega
 ·obtain⟨i,hi,rfl⟩:=List.mem_map.1 hsm;have hi:=List.mem_range.1 hi;exact zel 115 i (by omega)
 ·have hsm:s∈abc3:=hsm;unfold abc3 at hsm;simp only[List.mem_cons,List.mem_nil_iff,or_false] at hsm;rcases hsm with rfl|rfl|rfl<;>(show (1:Nat)≤zap;decide)
theorem zvZ {k:Sk22} (hk:sk22Ok k):mdlOk (zcM k):=by
 have ht3:=zjg k;have hI:=zs0 k;have hex:=zqQ (k:=k);have hcn:=zqR (k:=k);refine {ev:=?_,tp:=?_,co:=?_,rq:=?_,ex:=?_,cn:=?_,nm:=?_,evn:=?_,tpk:=?_,cok:=?_,rqk:=?_,exk:=?_,cnk:=?_}
 ·rw[zhk];decide
 ·rw[zfO];omega
 ·rw[zhl];omega
 ·rw[zin];omega
 ·omega
 ·omega
 ·rw[zqP];show (1:Nat)≤zap;decide
 ·rw[zhk];intro x hx;unfold evs4 at hx;simp only[List.mem_cons,List.mem_nil_iff,or_false] at hx;rcases hx with rfl|rfl|rfl|rfl<;>(show (2:Nat)≤zap;decide)
 ·rw[zfO];exact fun t h=>(zw4 hk t h).1
 ·rw[zhl];exact fun x h=>zw5 k x (List.mem_append_left _ h)
 ·rw[zin];exact fun x h=>zw5 k x (List.mem_append_right _ h)
 ·exact fun x h=>⟨(hex.2 x h).1,by have:=(hex.2 x h).2;omega⟩
 ·exact fun x h=>⟨(hcn.2 x h).1,by have:=(hcn.2 x h).2;omega⟩
theorem zv0 {k:Sk22} (hk:sk22Ok k):∀t∈(zcM k).tpls,t.mach.moves.length≤19:=by
 rw[zfO];exact fun t h=>(zw4 hk t h).2
end Go.AI
namespace Go.AI
open Go.Proofs
set_option maxRecDepth 20000
theorem zoz (O:List Heap) (b:List ByteArray) (s:ByteArray) (hl:b.length≤1000000) (hs:s.size≤zap):zan Tryz.prog 127 [ssD (b++[s])] O (ii (nmE b s)) [] O:=by
 have w1:IntKind.i64.wrap (((b++[s]).length:Int)-1)=(b.length:Int):=by rw[List.length_append,List.length_singleton,w64 (by omega) (by omega)];omega
 have hlen:(b++[s]).length=b.length+1:=by simp
 have gs:((b++[s]).map fun s=>[strI s])[(IntKind.i64.wrap (((b++[s]).length:Int)-1)).toNat]? = some [strI s]:=by rw[w1];simp
 have eT:I.sl 1 (IntKind.i64.wrap (((b++[s]).length:Int)-1)).toNat (((b++[s]).map fun s=>[strI s]).take (IntKind.i64.wrap (((b++[s]).length:Int)-1)).toNat)=zj3 b:=by rw[w1];simp[zj3]
 have hn:=fun O=>zdy O s hs;have hc:∀O,zan Tryz.prog 39 [.i (.sl 1 (IntKind.i64.wrap (((b++[s]).length:Int)-1)).toNat (((b++[s]).map fun s=>[strI s]).take (IntKind.i64.wrap (((b++[s]).length:Int)-1)).toNat)),sD s] O (ii (nmIx b s)) [] O:=fun O=>by
  rw[eT];exact zb8 O b s hl
 unfold nmE;rw[zd3];generalize zaT s=nb at *;generalize nmIx b s=q at *;refine zaa Tk Tryz.func127 rfl Tryz.call127 Tryz.ntmps127 (Nat.le_of_ble_eq_true rfl) fun E=>?_;refine zai Tk Tryz.func127 ?_;refine zah Tk Tryz.func127 (by rw[w1,hlen];omega) ?_;refine zaq Tk Tryz.func127 (gs) ?_;refine zak Tk Tryz.func127 (hn _) rfl rfl rfl rfl rfl ?_;refine zaf Tk Tryz.func127 rfl (fun c1=>?_) (fun c1=>?_)
 ·have c1:nb=false:=by simpa using c1
  rw[if_pos c1];refine zaj Tk (r:=ii 7) rfl rfl rfl trivial rfl rfl ?_;rfl
 have c1:¬nb=false:=by simpa using c1
 rw[if_neg c1];refine zat Tk Tryz.func127 zax rfl ?_;refine zar Tk (by rw[w1,hlen];omega) ?_;refine zar Tk (by rw[w1,hlen];omega) ?_;refine zay Tk (gs) ?_;refine zaF Tk (fun _=>hc _) rfl rfl rfl ?_;refine zaA Tk Tryz.func127 (by kernel_rfl) ?_;refine zaf Tk Tryz.func127 rfl (fun c2=>?_) (fun c2=>?_)
 ·have c2:q≥0:=of_decide_eq_true c2;rw[if_pos (by simpa using c2)];refine zaj Tk (r:=ii 8) rfl rfl rfl trivial rfl rfl ?_;rfl
 have c2:¬q≥0:=of_decide_eq_false c2;rw[if_neg (by simpa using c2)];refine zaj Tk (r:=ii 0) rfl rfl rfl trivial rfl rfl ?_;rfl
theorem zfp (O:List Heap) (l:List ByteArray) (i:Nat) (hi:i<l.length) (hl:l.length≤1000000) (hs:∀s∈l,s.size≤zap) :
  zan Tryz.prog 127 [.i (.sl 1 (IntKind.i64.wrap ((i:Int)+1)).toNat ((l.map fun s=>[strI s]).take (IntKind.i64.wrap ((i:Int)+1)).toNat))] O (ii (nmE (l.take i) l[i])) [] O:=by
 have h:=zoz O (l.take i) l[i] (by rw[List.length_take];omega) (hs _ (List.getElem_mem hi));rw[←List.take_succ_eq_append_getElem hi] at h;rw[zav (n:=1000001) (by omega) (by decide),Int.toNat_natCast,←zdO (fun s=>[strI s]) 1 (by omega:i+1≤l.length)];exact h
theorem ztb (O:List Heap) (l:List ByteArray) (hl:l.length≤1000000) (hs:∀s∈l,s.size≤zap):zan Tryz.prog 128 [ssD l] O (ii (nmsE [] l)) [] O:=by
 generalize hR:nmsE [] l=R;refine zaa Tk Tryz.func128 rfl Tryz.call128 Tryz.ntmps128 (Nat.le_of_ble_eq_true rfl) fun E=>?_;refine zai Tk Tryz.func128 ?_;refine zad ?_;refine zag (fun i:Nat=>[(0,ssD l),(3,ii i)]) (fun _=>[]) (fun _=>O) 19
  (fun i=>i≤l.length∧nmsE (l.take i) (l.drop i)=R) (fun i=>l.length-i) 0 ⟨Nat.zero_le _,hR⟩ ⟨rfl,rfl,trivial⟩ rfl trivial rfl rfl ?_
 rintro i ⟨hi,hno⟩ ih;clear hR;refine zai Tk Tryz.func128 ?_;refine zaf Tk Tryz.func128 rfl (fun g1=>?_) (fun g1=>?_)
 ·have h1:i<l.length:=by simpa using g1
  have ht:l.take (i+1)=l.take i++[l[i]]:=List.take_succ_eq_append_getElem h1;rw[List.drop_eq_getElem_cons h1] at hno;simp only[nmsE,←ht] at hno;have hw:IntKind.i64.wrap ((i:Int)+1)=((i+1:Nat):Int):=zav (n:=1000001) (by omega) (by decide);have hf:=fun O=>zfp O l i h1 hl hs;generalize nmE (l.take i) l[i]=e at *;refine zah Tk Tryz.func128 (by exact⟨by rw[hw];omega,by show IntKind.i64.wrap ((i:Int)+1)≤(l.length:Int);rw[hw];omega⟩) ?_;refine zak Tk Tryz.func128 (hf _) rfl rfl rfl rfl rfl ?_;refine zaf Tk Tryz.func128 rfl (fun c1=>?_) (fun c1=>?_)
  ·have c1:e≠0:=bneT c1;rw[if_pos c1] at hno;subst hno;refine zaj Tk (r:=ii e) rfl rfl rfl trivial rfl rfl ?_;rfl
  have c1:e=0:=bneF c1;rw[if_neg (fun h=>h c1)] at hno;refine zad ?_;exact ih (i+1) _ _ ⟨h1,hno⟩ (by omega) ⟨rfl,congrArg ii hw,trivial⟩ rfl trivial rfl rfl
 ·have h1:l.length≤i:=by simpa using g1
  rw[List.drop_eq_nil_of_le h1] at hno;have hno:(0:Int)=R:=hno;subst hno;refine zaj Tk (r:=ii 0) rfl rfl rfl trivial rfl rfl ?_;rfl
theorem zqg (O:List Heap) (m:Mdl) (i:Nat) (hi:i<m.tpls.length) (hm:mdlOk m):zan Tryz.prog 50 [mdlD m,ii i] O (ii (if nmE ((m.tpls.map (·.name)).take i) m.tpls[i].name≠0 then nmE ((m.tpls.map (·.name)).take i) m.tpls[i].name else tplE m.tpls[i])) [] O:=by
 have htp:=hm.tp;have hx:=hm.tpk m.tpls[i] (List.getElem_mem hi);have hn:=fun O=>zhe O m htp;have hf:=fun O=>zfp O (m.tpls.map (·.name)) i (by rw[List.length_map];exact hi) (by rw[List.length_map];exact htp) (fun s hs=>by
  obtain⟨t,ht,rfl⟩:=List.mem_map.1 hs;exact (hm.tpk t ht).nm)
 rw[List.getElem_map] at hf;have gt:(m.tpls.map tplI)[(i:Int).toNat]? = some (tplI m.tpls[i]):=zal (f:=tplI) hi;have hw:IntKind.i64.wrap ((i:Int)+1)=((i+1:Nat):Int):=zav (n:=1000001) (by omega) (by decide);have h1:=fun O=>ztb O m.tpls[i].locs hx.ll hx.ls;have h2:=fun O=>ztb O m.tpls[i].evs hx.el hx.es;have h3:=fun O=>zjN O m.tpls[i].mach hx.mo;have hal:=hx.mo.al;have hel:=hx.el;clear hx;unfold tplE;have hNl:(m.tpls.map (·.name)).length=m.tpls.length:=List.length_map _;generalize nmE ((m.tpls.map (·.name)).take i) m.tpls[i].name=e0 at *;generalize nmsE [] m.tpls[i].locs=e1 at *;generalize nmsE [] m.tpls[i].evs=e2 at *;generalize chk m.tpls[i].mach=e3 at *;generalize m.tpls[i]=x at *;generalize m.tpls.map (·.name)=N at *;obtain⟨nm,locs,evs,⟨al,lo,ini,mk,vr,mo⟩⟩:=x;simp only at h1 h2 h3 hal hel ⊢
 refine zaa Tk Tryz.func50 rfl Tryz.call50 Tryz.ntmps50 (Nat.le_of_ble_eq_true rfl) fun E=>?_;refine zai Tk Tryz.func50 ?_;refine zah Tk Tryz.func50 (by exact⟨by omega,by show (i:Int)<(m.tpls.length:Int);omega⟩) ?_;refine zaq Tk Tryz.func50 (gt) ?_;refine zak Tk Tryz.func50 (hn _) rfl rfl rfl rfl rfl ?_;refine zah Tk Tryz.func50 (by exact⟨by rw[hw];omega,by show IntKind.i64.wrap ((i:Int)+1)≤(N.length:Int);rw[hw];omega⟩) ?_;refine zak Tk Tryz.func50 (hf _) rfl rfl rfl rfl rfl ?_;refine zaf Tk Tryz.func50 rfl (fun c0=>?_) (fun c0=>?_)
 ·have c0:e0≠0:=bneT c0;rw[if_pos c0];refine zaj Tk (r:=ii e0) rfl rfl rfl trivial rfl rfl ?_;rfl
 have c0:¬e0≠0:=fun h=>h (bneF c0);rw[if_neg c0];refine zaf Tk Tryz.func50 rfl (fun c1=>?_) (fun c1=>?_)
 ·have c1:(locs.length:Int)≠lo:=bneT c1;rw[if_pos c1];refine zaj Tk (r:=ii 4) rfl rfl rfl trivial rfl rfl ?_;rfl
 have c1:¬(locs.length:Int)≠lo:=fun h=>h (bneF c1);rw[if_neg c1];refine zak Tk Tryz.func50 (h1 _) rfl rfl rfl rfl rfl ?_;refine zaf Tk Tryz.func50 rfl (fun c2=>?_) (fun c2=>?_)
 ·have c2:e1≠0:=bneT c2;rw[if_pos c2];refine zaj Tk (r:=ii e1) rfl rfl rfl trivial rfl rfl ?_;rfl
 have c2:¬e1≠0:=fun h=>h (bneF c2);rw[if_neg c2];refine zak Tk Tryz.func50 (h2 _) rfl rfl rfl rfl rfl ?_;refine zaf Tk Tryz.func50 rfl (fun c3=>?_) (fun c3=>?_)
 ·have c3:e2≠0:=bneT c3;rw[if_pos c3];refine zaj Tk (r:=ii e2) rfl rfl rfl trivial rfl rfl ?_;rfl
 have c3:¬e2≠0:=fun h=>h (bneF c3);rw[if_neg c3];refine zaf Tk Tryz.func50 rfl (fun c4=>?_) (fun c4=>?_)
 ·have c4:(al.length:Int)≠(evs.length:Int):=bneT c4;rw[if_pos (by omega)];refine zaj Tk (r:=ii 6) rfl rfl rfl trivial rfl rfl ?_;rfl
 have c4:al.length=evs.length:=by have:(al.length:Int)=(evs.length:Int):=bneF c4;omega
 rw[if_neg (by omega)];refine zad ?_;refine zag (fun k:Nat=>[(5,.own 0 5 0 0),(9,ii k)]) (fun _=>[(5,.box (tplC ⟨nm,locs,evs,⟨al,lo,ini,mk,vr,mo⟩⟩))]) (fun _=>O) 69
  (fun k=>k≤al.length∧∀j (h:j<al.length),j<k→al[j]=(j:Int)) (fun k=>al.length-k) 0 ⟨Nat.zero_le _,fun j _ h=>absurd h (Nat.not_lt_zero _)⟩ ⟨rfl,rfl,trivial⟩ rfl ⟨rfl,trivial⟩ rfl rfl ?_
 rintro k ⟨hk,hno⟩ ih;refine zai Tk Tryz.func50 ?_;refine zaf Tk Tryz.func50 rfl (fun g1=>?_) (fun g1=>?_)
 ·have g1:k<evs.length:=by simpa using g1
  have g1:k<al.length:=by omega
  have gx:(al.map fun x=>[vi x])[(k:Int).toNat]? = some [vi al[k]]:=zal (f:=fun x=>[vi x]) g1;refine zah Tk Tryz.func50 (by exact⟨by omega,by show (k:Int)<(al.length:Int);omega⟩) ?_;refine zaq Tk Tryz.func50 (gx) ?_;refine zaf Tk Tryz.func50 rfl (fun c5=>?_) (fun c5=>?_)
  ·have c5:al[k]≠(k:Int):=bneT c5;rw[if_pos fun e=>c5 ((zi5 c4).1 e k g1)];refine zaj Tk (r:=ii 6) rfl rfl rfl trivial rfl rfl ?_;rfl
  have c5:al[k]=(k:Int):=bneF c5;refine zad ?_;refine ih (k+1) _ _ ⟨g1,fun j hj h=>?_⟩ (by omega) ⟨rfl,congrArg ii (zav (n:=zap) (by omega) (by decide)),trivial⟩ rfl ⟨rfl,trivial⟩ rfl rfl
  by_cases e:j=k
  ·subst e;exact c5
  ·exact hno j hj (by omega)
 ·have g1:evs.length≤k:=by simpa using g1
  rw[if_neg (fun h=>h ((zi5 c4).2 fun j hj=>hno j hj (by omega)))];refine zak Tk Tryz.func50 (h3 _) rfl rfl rfl rfl rfl ?_;refine zaj Tk (r:=ii e3) rfl rfl rfl trivial rfl rfl ?_;rfl
theorem ztx (l:List Ins) (s:ByteArray):hasB (l.flatMap (·.evs)) s=l.any fun x=>decide (nmIx x.evs s≥0):=by
 induction l with
 |nil=>rfl
 |cons x r ih=>
  rw[List.flatMap_cons,List.any_cons,←ih];have:decide (nmIx x.evs s≥0)=hasB x.evs s:=(zd3 x.evs s).symm;rw[this];unfold hasB;rw[List.any_append]
theorem zl5 (O:List Heap) (m:Mdl) (x:Ins) (b:List ByteArray) (rq:Bool) (hm:mdlOk m) (hx:insOk x) (hb:b.length≤1000000) :
  zan Tryz.prog 129 [mdlD m,insD x,ssD (b++[x.name]),bb rq] O (ii (if nmE b x.name≠0 then nmE b x.name else if rq=true then reqE m x else insE m x)) [] O:=by
 have hcl:=hm.co;have hce:∀c∈m.comps,c.evs.length≤1000000:=fun c hc=>(hm.cok c hc).el;have hel:=hx.el;have h1:=fun O=>zoz O b x.name hb hx.nm;have h2:=fun O=>zhe O m hm.tp;have h3:=fun O=>zb8 O (m.tpls.map (·.name)) x.tpl (by rw[List.length_map];exact hm.tp);have h4:=fun O=>zsW O m hm.ev;have h5:=fun O s=>zb8 O (m.evs.map (·.name)) s (by rw[List.length_map];exact hm.ev);obtain⟨xn,xt,xe⟩:=x;simp only at h1 h3 hel ⊢;have hRq:reqE m ⟨xn,xt,xe⟩=if insE m ⟨xn,xt,xe⟩≠0 then insE m ⟨xn,xt,xe⟩ else if xe.any (fun s=>!(m.comps.any fun c=>decide (nmIx c.evs s≥0)))=true then 9 else 0:=by
  unfold reqE;simp only[ztx]
 rw[hRq];clear hRq;unfold insE;simp only;generalize nmE b xn=e0 at *;refine zaN [16] Tk Tryz.func129 rfl Tryz.call129 Tryz.ntmps129 (Nat.le_of_ble_eq_true rfl) fun E=>?_;refine zai Tk Tryz.func129 ?_;refine zak Tk Tryz.func129 (h1 _) rfl rfl rfl rfl rfl ?_;refine zaf Tk Tryz.func129 rfl (fun c0=>?_) (fun c0=>?_)
 ·have c0:e0≠0:=bneT c0;rw[if_pos c0];refine zaj Tk (r:=ii e0) rfl rfl rfl trivial rfl rfl ?_;rfl
 have c0:¬e0≠0:=fun h=>h (bneF c0);rw[if_neg c0];clear h1;refine zat Tk Tryz.func129 zax rfl ?_;refine zaF Tk (fun _=>h2 _) rfl rfl rfl ?_;refine zaF Tk (fun _=>h3 _) rfl rfl rfl ?_;refine zaA Tk Tryz.func129 (by kernel_rfl) ?_;rcases zdG Tpl.name m.tpls xt with ⟨f1,f2⟩|⟨k,t,f1,f2,f3⟩
 ·rw[f1];simp only[ne_eq,show (9:Int)≠0 by decide,not_false_eq_true,if_true,ite_self];rw[show nmIx (m.tpls.map (·.name)) xt = -1 from f2];refine gcT Tk Tryz.func129 rfl ?_;refine zaj Tk (r:=ii 9) rfl rfl rfl trivial rfl rfl ?_;rfl
 rw[f2,f3];simp only;have hk:k<m.tpls.length:=(List.getElem?_eq_some_iff.1 f1).1;have htl:=hm.tp;have gt:(m.tpls.map tplI)[(k:Int).toNat]? = some (tplI t):=by rw[Int.toNat_natCast,List.getElem?_map,f1];rfl
 clear f1 f2 f3 h2 h3;obtain⟨tn,tl,te,⟨tal,tlo,tini,tmk,tvr,tmo⟩⟩:=t;simp only;refine zaf Tk Tryz.func129 rfl (fun h=>absurd h (by simp)) (fun _=>?_);refine zat Tk Tryz.func129 zax rfl ?_;refine zar Tk (by exact⟨by omega,by show (k:Int)<(m.tpls.length:Int);omega⟩) ?_;refine zay Tk (gt) ?_;refine zaA Tk Tryz.func129 (by kernel_rfl) ?_;refine zaf Tk Tryz.func129 rfl (fun c1=>?_) (fun c1=>?_)
 ·have c1:(xe.length:Int)≠(te.length:Int):=bneT c1;have c1:xe.length≠te.length:=by omega
  simp only[ne_eq,c1,not_false_eq_true,if_true,show ¬(4:Int)=0 by decide,ite_self];refine zaj Tk (r:=ii 4) rfl rfl rfl trivial rfl rfl ?_;rfl
 have c1:(xe.length:Int)=(te.length:Int):=bneF c1;have c1:¬xe.length≠te.length:=by omega
 rw[if_neg c1];clear gt;generalize hE:zdi m [] xe=E at *;generalize hR:(if rq=true then if E≠0 then E else if (xe.any fun s=>!m.comps.any fun c=>decide (nmIx c.evs s≥0))=true then 9 else 0 else E)=R at *;have hEq:E≠0→R=E:=fun h=>by
  rw[←hR,if_pos h]
  split<;>rfl
 apply zb7 (P:=E=0) (s6:={ σ:=[(3,bb rq),(4,.own 0 4 0 0),(5,.own 0 5 0 0)],S:=[(4,.box (mdlC m)),(5,.box [.i (strI xn),.i (strI xt),ssD xe])]::O,n:=100})
 ·intro J;refine zad ?_;refine zag (fun i:Nat=>[(3,bb rq),(4,.own 0 4 0 0),(5,.own 0 5 0 0),(11,ii i)]) (fun _=>[(4,.box (mdlC m)),(5,.box [.i (strI xn),.i (strI xt),ssD xe])]) (fun _=>O) 100
   (fun i=>i≤xe.length∧zdi m (xe.take i) (xe.drop i)=E) (fun i=>xe.length-i) 0 ⟨Nat.zero_le _,hE⟩ ⟨rfl,rfl,rfl,rfl,trivial⟩ rfl ⟨rfl,rfl,trivial⟩ rfl rfl ?_
  rintro i ⟨hi,hno⟩ ih
  skip
  refine zai Tk Tryz.func129 ?_;refine zaf Tk Tryz.func129 rfl (fun g1=>?_) (fun g1=>?_)
  ·have g1:i<xe.length:=by simpa using g1
   have gs:(xe.map fun s=>[strI s])[(i:Int).toNat]? = some [strI xe[i]]:=zal (f:=fun s=>[strI s]) g1;have ht:xe.take (i+1)=xe.take i++[xe[i]]:=List.take_succ_eq_append_getElem g1;rw[List.drop_eq_getElem_cons g1] at hno;simp only[zdi,←ht,zd3] at hno;have hi1:=fun O=>h5 O xe[i];have hi2:∀O,zan Tryz.prog 39 [.i (.sl 1 (i:Int).toNat ((xe.map fun s=>[strI s]).take (i:Int).toNat)),sD xe[i]] O (ii (nmIx (xe.take i) xe[i])) [] O:=fun O=>by
    rw[Int.toNat_natCast,←zdO (fun s=>[strI s]) 1 hi];exact zb8 O (xe.take i) xe[i] (by rw[List.length_take];omega)
   generalize nmIx (m.evs.map (·.name)) xe[i]=q1 at *;generalize nmIx (xe.take i) xe[i]=q2 at *;generalize xe[i]=s at *;refine zat Tk Tryz.func129 zax rfl ?_;refine zaF Tk (fun _=>h4 _) rfl rfl rfl ?_;refine zar Tk (by exact⟨by omega,by show (i:Int)<(xe.length:Int);omega⟩) ?_;refine zay Tk (gs) ?_;refine zaF Tk (fun _=>hi1 _) rfl rfl rfl ?_;refine zaA Tk Tryz.func129 (by kernel_rfl) ?_;refine zaf Tk Tryz.func129 rfl (fun c2=>?_) (fun c2=>?_)
   ·have c2:q1<0:=of_decide_eq_true c2;rw[if_pos (decide_eq_false (by omega))] at hno;have:=hEq (by rw[←hno];decide);rw[←hno] at this;subst this;refine zaj Tk (r:=ii 9) rfl rfl rfl trivial rfl rfl ?_;rfl
   have c2:¬q1<0:=of_decide_eq_false c2;rw[if_neg (by simp;omega)] at hno;refine zat Tk Tryz.func129 zax rfl ?_;refine zar Tk (by exact⟨by omega,by show (i:Int)≤(xe.length:Int);omega⟩) ?_;refine zar Tk (by exact⟨by omega,by show (i:Int)<(xe.length:Int);omega⟩) ?_;refine zay Tk (gs) ?_;refine zaF Tk (fun _=>hi2 _) rfl rfl rfl ?_;refine zaA Tk Tryz.func129 (by kernel_rfl) ?_;refine zaf Tk Tryz.func129 rfl (fun c3=>?_) (fun c3=>?_)
   ·have c3:q2≥0:=of_decide_eq_true c3;rw[if_pos (by simpa using c3)] at hno;have:=hEq (by rw[←hno];decide);rw[←hno] at this;subst this;refine zaj Tk (r:=ii 8) rfl rfl rfl trivial rfl rfl ?_;rfl
   have c3:¬q2≥0:=of_decide_eq_false c3;rw[if_neg (by simpa using c3)] at hno;refine zad ?_;exact ih (i+1) _ _ ⟨g1,hno⟩ (by omega) ⟨rfl,rfl,rfl,congrArg ii (zav (n:=1000001) (by omega) (by decide)),trivial⟩ rfl ⟨rfl,rfl,trivial⟩ rfl rfl
  ·have g1:xe.length≤i:=by simpa using g1
   rw[List.drop_eq_nil_of_le g1] at hno;have hno:(0:Int)=E:=hno;refine zaB ?_;exact zaK (J hno.symm) ⟨rfl,rfl,rfl,trivial⟩ rfl ⟨rfl,rfl,trivial⟩ rfl rfl
 intro hE0;subst hE0;refine zai Tk Tryz.func129 ?_;refine g_go Tk Tryz.func129 ?_;simp only[ne_eq,not_true_eq_false,if_false] at hR;refine zad ?_;refine zag (fun i:Nat=>[(3,bb rq),(4,.own 0 4 0 0),(5,.own 0 5 0 0),(12,ii i)]) (fun _=>[(4,.box (mdlC m)),(5,.box [.i (strI xn),.i (strI xt),ssD xe])]) (fun _=>O) 100
  (fun i=>i≤xe.length∧(if rq=true then if ((xe.drop i).any fun s=>!m.comps.any fun c=>decide (nmIx c.evs s≥0))=true then (9:Int) else 0 else 0)=R) (fun i=>xe.length-i) 0 ⟨Nat.zero_le _,hR⟩ ⟨rfl,rfl,rfl,rfl,trivial⟩ rfl ⟨rfl,rfl,trivial⟩ rfl rfl ?_
 rintro i ⟨hi,hno⟩ ih;clear hE hR hEq;refine zai Tk Tryz.func129 ?_;refine zaG Tk Tryz.func129 rfl (fun g1=>?_) (fun g1=>?_);rotate_left
 ·have g1:xe.length≤i:=by simpa using g1
  rw[List.drop_eq_nil_of_le g1] at hno;have hno:(0:Int)=R:=by rw[←hno];cases rq<;>rfl
  subst hno;refine gcF Tk Tryz.func129 rfl ?_;refine zaj Tk (r:=ii 0) rfl rfl rfl trivial rfl rfl ?_;rfl
 have g1:i<xe.length:=by simpa using g1
 refine zaf Tk Tryz.func129 rfl (fun g2=>?_) (fun g2=>?_);rotate_left
 ·have g2:rq=false:=g2;subst g2;have hno:(0:Int)=R:=hno;subst hno;refine zaj Tk (r:=ii 0) rfl rfl rfl trivial rfl rfl ?_;rfl
 have g2:rq=true:=g2;subst g2;rw[if_pos rfl,List.drop_eq_getElem_cons g1,List.any_cons] at hno;have gs:(xe.map fun s=>[strI s])[(i:Int).toNat]? = some [strI xe[i]]:=zal (f:=fun s=>[strI s]) g1;have hi1:ii (IntKind.i64.wrap ((i:Int)+1))=ii ((i+1:Nat):Int):=congrArg ii (zav (n:=1000001) (by omega) (by decide));generalize xe[i]=s at *;refine zad ?_;refine zag (fun j:Nat=>[(3,bb true),(4,.own 0 4 0 0),(5,.own 0 5 0 0),(12,ii i),(13,bb ((m.comps.take j).any fun c=>decide (nmIx c.evs s≥0))),(14,ii j)]) (fun _=>[(4,.box (mdlC m)),(5,.box [.i (strI xn),.i (strI xt),ssD xe])]) (fun _=>O) 100
  (fun j=>j≤m.comps.length) (fun j=>m.comps.length-j) 0 (Nat.zero_le _) ⟨rfl,rfl,rfl,rfl,rfl,rfl,trivial⟩ rfl ⟨rfl,rfl,trivial⟩ rfl rfl ?_
 intro j hj ih2;have hj:j≤m.comps.length:=hj;refine zai Tk Tryz.func129 ?_;refine zaf Tk Tryz.func129 rfl (fun g3=>?_) (fun g3=>?_)
 ·have g3:j<m.comps.length:=by simpa using g3
  have gx:(m.comps.map insI)[(j:Int).toNat]? = some (insI m.comps[j]):=zal (f:=insI) g3;have hidx:=fun O=>zb8 O m.comps[j].evs s (hce m.comps[j] (List.getElem_mem g3));have hs:((m.comps.take (j+1)).any fun x=>decide (nmIx x.evs s≥0))=(((m.comps.take j).any fun x=>decide (nmIx x.evs s≥0))||decide (nmIx m.comps[j].evs s≥0)):=by
   rw[List.take_succ_eq_append_getElem g3,List.any_append];simp
  have hj1:ii (IntKind.i64.wrap ((j:Int)+1))=ii ((j+1:Nat):Int):=congrArg ii (zav (n:=1000001) (by omega) (by decide));generalize ((m.comps.take j).any fun x=>decide (nmIx x.evs s≥0))=B at *;generalize m.comps[j]=c at *;obtain⟨cn,ct,ce⟩:=c;simp only at hidx hs;generalize nmIx ce s=q at *;refine zat Tk Tryz.func129 zax rfl ?_;refine zbU Tk (fun g4=>?_) (fun g4=>?_)
  ·have g4:B=true:=g4;subst g4;refine zaA Tk Tryz.func129 (by kernel_rfl) ?_;refine zad ?_;refine ih2 (j+1) _ _ g3 (by omega) ⟨rfl,rfl,rfl,rfl,?_,hj1,trivial⟩ rfl ⟨rfl,rfl,trivial⟩ rfl rfl;rw[hs];rfl
  ·have g4:B=false:=g4;subst g4;refine zar Tk (by exact⟨by omega,by show (j:Int)<(m.comps.length:Int);omega⟩) ?_;refine zay Tk (gx) ?_;refine zar Tk (by exact⟨by omega,by show (i:Int)<(xe.length:Int);omega⟩) ?_;refine zay Tk (gs) ?_;refine zaF Tk (fun _=>hidx _) rfl rfl rfl ?_;refine zaA Tk Tryz.func129 (by kernel_rfl) ?_;refine zad ?_;refine ih2 (j+1) _ _ g3 (by omega) ⟨rfl,rfl,rfl,rfl,?_,hj1,trivial⟩ rfl ⟨rfl,rfl,trivial⟩ rfl rfl;rw[hs];rfl
 ·have g3:m.comps.length≤j:=by simpa using g3
  rw[List.take_of_length_le g3];generalize (m.comps.any fun c=>decide (nmIx c.evs s≥0))=B at *;refine zaf Tk Tryz.func129 rfl (fun g4=>?_) (fun g4=>?_)
  ·have g4:(!B)=true:=g4;rw[g4] at hno;have hno:(9:Int)=R:=hno;subst hno;refine zaj Tk (r:=ii 9) rfl rfl rfl trivial rfl rfl ?_;rfl
  ·have g4:(!B)=false:=g4;rw[g4,Bool.false_or] at hno;refine zad ?_;exact ih (i+1) _ _ ⟨g1,by rw[if_pos rfl];exact hno⟩ (by omega) ⟨rfl,rfl,rfl,hi1,trivial⟩ rfl ⟨rfl,rfl,trivial⟩ rfl rfl
def cpE (m:Mdl) (w:Int):List ByteArray→List (ByteArray×Bool)→Int
 |_,[]=>0
 |b,p::l=>if nmIx (m.comps.map (·.name)) p.1<0 then 9 else if nmIx b p.1≥0 then 8 else if p.2=false then w else cpE m w (b++[p.1]) l
theorem zjH (O:List Heap) (m:Mdl) (w:Int) (l:List (ByteArray×Bool)) (hm:mdlOk m) (hl:l.length≤1000000) :
  zan Tryz.prog 130 [mdlD m,.i (.sl 1 l.length (l.map fun p=>[strI p.1])),.i (.sl 1 l.length (l.map fun p=>[bI p.2])),ii w] O (ii (if l.length=0 then 12 else cpE m w [] l)) [] O:=by
 have h4:=fun O=>zkt O m hm.co;have h5:=fun O s=>zb8 O (m.comps.map (·.name)) s (by rw[List.length_map];exact hm.co);generalize hR:cpE m w [] l=R;refine zaa Tk Tryz.func130 rfl Tryz.call130 Tryz.ntmps130 (Nat.le_of_ble_eq_true rfl) fun E=>?_;refine zai Tk Tryz.func130 ?_;refine zaf Tk Tryz.func130 rfl (fun c0=>?_) (fun c0=>?_)
 ·have c0:l.length=0:=by simpa using c0
  rw[if_pos c0];refine zaj Tk (r:=ii 12) rfl rfl rfl trivial rfl rfl ?_;rfl
 have c0:¬l.length=0:=by simpa using c0
 rw[if_neg c0];refine zad ?_;refine zag (fun i:Nat=>[(1,.i (.sl 1 l.length (l.map fun p=>[strI p.1]))),(2,.i (.sl 1 l.length (l.map fun p=>[bI p.2]))),(3,ii w),(4,.own 0 4 0 0),(9,ii i)]) (fun _=>[(4,.box (mdlC m))]) (fun _=>O) 42
  (fun i=>i≤l.length∧cpE m w ((l.take i).map (·.1)) (l.drop i)=R) (fun i=>l.length-i) 0 ⟨Nat.zero_le _,hR⟩ ⟨rfl,rfl,rfl,rfl,rfl,trivial⟩ rfl ⟨rfl,trivial⟩ rfl rfl ?_
 rintro i ⟨hi,hno⟩ ih;clear hR;refine zai Tk Tryz.func130 ?_;refine zaf Tk Tryz.func130 rfl (fun g1=>?_) (fun g1=>?_)
 ·have g1:i<l.length:=by simpa using g1
  have gs:(l.map fun p=>[strI p.1])[(i:Int).toNat]? = some [strI l[i].1]:=zal (f:=fun p:ByteArray×Bool=>[strI p.1]) g1;have gb:(l.map fun p=>[bI p.2])[(i:Int).toNat]? = some [bI l[i].2]:=zal (f:=fun p:ByteArray×Bool=>[bI p.2]) g1;have ht:(l.take (i+1)).map (·.1)=(l.take i).map (·.1)++[l[i].1]:=zaI (fun p:ByteArray×Bool=>p.1) g1;rw[List.drop_eq_getElem_cons g1] at hno;simp only[cpE,←ht] at hno;have hi1:=fun O=>h5 O l[i].1;have hi2:∀O,zan Tryz.prog 39 [.i (.sl 1 (i:Int).toNat ((l.map fun p=>[strI p.1]).take (i:Int).toNat)),sD l[i].1] O (ii (nmIx ((l.take i).map (·.1)) l[i].1)) [] O:=fun O=>by
   have h:=zb8 O ((l.take i).map (·.1)) l[i].1 (by rw[List.length_map,List.length_take];omega);have e:ssD ((l.take i).map (·.1))=.i (.sl 1 (i:Int).toNat ((l.map fun p=>[strI p.1]).take (i:Int).toNat)):=by
    rw[Int.toNat_natCast,←List.map_take];show D.i (.sl 1 ((l.take i).map (·.1)).length (((l.take i).map (·.1)).map fun s=>[strI s]))=_;rw[List.map_map,List.length_map,List.length_take,Nat.min_eq_left hi];rfl
   rwa [e] at h
  generalize nmIx (m.comps.map (·.name)) l[i].1=q1 at *;generalize nmIx ((l.take i).map (·.1)) l[i].1=q2 at *;generalize l[i]=p at *;obtain⟨s,r⟩:=p;simp only at hi1 hi2 hno gs gb;refine zat Tk Tryz.func130 zax rfl ?_;refine zaF Tk (fun _=>h4 _) rfl rfl rfl ?_;refine zar Tk (by exact⟨by omega,by show (i:Int)<(l.length:Int);omega⟩) ?_;refine zay Tk (gs) ?_;refine zaF Tk (fun _=>hi1 _) rfl rfl rfl ?_;refine zaA Tk Tryz.func130 (by kernel_rfl) ?_;refine zaf Tk Tryz.func130 rfl (fun c2=>?_) (fun c2=>?_)
  ·have c2:q1<0:=of_decide_eq_true c2;rw[if_pos c2] at hno;subst hno;refine zaj Tk (r:=ii 9) rfl rfl rfl trivial rfl rfl ?_;rfl
  have c2:¬q1<0:=of_decide_eq_false c2;rw[if_neg c2] at hno;refine zat Tk Tryz.func130 zax rfl ?_;refine zar Tk (by exact⟨by omega,by show (i:Int)≤(l.length:Int);omega⟩) ?_;refine zar Tk (by exact⟨by omega,by show (i:Int)<(l.length:Int);omega⟩) ?_;refine zay Tk (gs) ?_;refine zaF Tk (fun _=>hi2 _) rfl rfl rfl ?_;refine zaA Tk Tryz.func130 (by kernel_rfl) ?_;refine zaf Tk Tryz.func130 rfl (fun c3=>?_) (fun c3=>?_)
  ·have c3:q2≥0:=of_decide_eq_true c3;rw[if_pos c3] at hno;subst hno;refine zaj Tk (r:=ii 8) rfl rfl rfl trivial rfl rfl ?_;rfl
  have c3:¬q2≥0:=of_decide_eq_false c3;rw[if_neg c3] at hno;refine zah Tk Tryz.func130 (by exact⟨by omega,by show (i:Int)<(l.length:Int);omega⟩) ?_;refine zaq Tk Tryz.func130 (gb) ?_;refine zaf Tk Tryz.func130 rfl (fun c4=>?_) (fun c4=>?_)
  ·have c4:r=false:=by simpa using c4
   rw[if_pos c4] at hno;subst hno;refine zaj Tk (r:=ii w) rfl rfl rfl trivial rfl rfl ?_;rfl
  have c4:¬r=false:=by simpa using c4
  rw[if_neg c4] at hno;refine zad ?_;exact ih (i+1) _ _ ⟨g1,hno⟩ (by omega) ⟨rfl,rfl,rfl,rfl,congrArg ii (zav (n:=1000001) (by omega) (by decide)),trivial⟩ rfl ⟨rfl,trivial⟩ rfl rfl
 ·have g1:l.length≤i:=by simpa using g1
  rw[List.drop_eq_nil_of_le g1] at hno;have hno:(0:Int)=R:=hno;subst hno;refine zaj Tk (r:=ii 0) rfl rfl rfl trivial rfl rfl ?_;rfl
end Go.AI
namespace Go.AI
def zb0 (m:Mdl) (x:NLc):Bool:=match m.comps.find? (fun c=>sB c.name x.1) with
 |none=>false
 |some c=>match zbL m c with
  |none=>false
  |some t=>decide (nmIx t.locs x.2≥0)
def zbG (x:NTm):Bool:=decide (x.2≠0)&&decide (x.2 ≥ -65536)&&decide (x.2≤65536)
theorem zk0 (l:List Ins) (s:ByteArray):l.find? (fun c=>sB c.name s)=none↔nmIx (l.map (·.name)) s<0:=by
 rcases zdG Ins.name l s with ⟨h1,h2⟩|⟨k,e,h1,h2,h3⟩
 ·rw[h1,h2];simp
 ·rw[h2,h3];constructor
  ·intro h;cases h
  ·intro h;omega
theorem ztc (m:Mdl):∀(l:List NLc) (b:List ByteArray),lcsE m b l=cpE m 9 b (l.map fun x=>(x.1,zb0 m x))
 |[],_=>rfl
 |x::r,b=>by
  have ih:=ztc m r (b++[x.1]);have h1:=zk0 m.comps x.1;simp only[lcsE,List.map_cons,cpE,zb0]
  cases hf:m.comps.find? (fun c=>sB c.name x.1) with
  |none=>
   rw[hf] at h1;simp only[true_iff] at h1;rw[if_pos h1]
  |some c=>
   rw[hf] at h1;simp only[reduceCtorEq,false_iff] at h1;rw[if_neg h1];simp only;rw[zd3]
   by_cases h2:nmIx b x.1≥0
   ·rw[if_pos (by simpa using h2),if_pos h2]
   rw[if_neg (by simpa using h2),if_neg h2];have hT:zbL m c=none∨∃t,zbL m c=some t:=by
    generalize zbL m c=o
    cases o with
    |none=>exact .inl rfl
    |some t=>exact .inr ⟨t,rfl⟩
   rcases hT with ht|⟨t,ht⟩
   ·simp only[ht,if_true]
   ·simp only[ht,zd3]
    by_cases h3:nmIx t.locs x.2≥0
    ·rw[if_neg (by simpa using h3),if_neg (by simpa using h3),ih];simp only[zb0]
    ·rw[if_pos (by simpa using h3),if_pos (by simpa using h3)]
theorem zyJ (m:Mdl) (x:NEx):excE m x=if (x.locals.map fun y=>(y.1,zb0 m y)).length=0 then 12 else cpE m 9 [] (x.locals.map fun y=>(y.1,zb0 m y)):=by
 unfold excE;rw[List.length_map,ztc]
theorem zsa (m:Mdl):∀(l:List NTm) (b:List ByteArray),tmsE m b l=cpE m 2 b (l.map fun x=>(x.1,zbG x))
 |[],_=>rfl
 |x::r,b=>by
  have ih:=zsa m r (b++[x.1]);simp only[tmsE,List.map_cons,cpE,zd3]
  by_cases h1:nmIx (m.comps.map (·.name)) x.1<0
  ·rw[if_pos (by simp;omega),if_pos h1]
  rw[if_neg (by simp;omega),if_neg h1]
  by_cases h2:nmIx b x.1≥0
  ·rw[if_pos (by simpa using h2),if_pos h2]
  rw[if_neg (by simpa using h2),if_neg h2];have e:(x.2=0∨bigB x.2=true)↔zbG x=false:=by
   unfold bigB zbG;simp only[Bool.or_eq_true,decide_eq_true_eq,Bool.and_eq_false_iff,decide_eq_false_iff_not];omega
  by_cases h3:x.2=0∨bigB x.2=true
  ·rw[if_pos h3,if_pos (e.1 h3)]
  ·rw[if_neg h3,if_neg fun h=>h3 (e.2 h),ih]
end Go.AI
namespace Go.AI
open Go.Proofs
def lwAl (N evs:List ByteArray):List Int:=((List.range N.length).filter fun e=>decide (nmIx evs (N.getD e ⟨#[]⟩)≥0)).map fun e=>((e:Nat):Int)
def lwK (N evs:List ByteArray) (e:Int):Int:=nmIx evs (N.getD e.toNat ⟨#[]⟩)
def lwMv (N evs:List ByteArray) (mv:List Mv) (s e:Int):List Mv:=(mv.filter fun y=>decide (y.frm=s)&&decide (y.ev=lwK N evs e)).map fun y=>{ y with ev:=e}
def zjk (N evs:List ByteArray) (mv:List Mv) (al:List Int) (n:Nat):List Mv:=(List.range n).flatMap fun s:Nat=>al.flatMap fun e=>lwMv N evs mv (s:Int) e
def lwM (m:Mdl) (x:Ins) (t:Tpl):Ext:={ alpha:=lwAl (m.evs.map (·.name)) x.evs,locs:=t.mach.locs,init:=t.mach.init,marked:=t.mach.marked,vars:=t.mach.vars,moves:=zjk (m.evs.map (·.name)) x.evs t.mach.moves (lwAl (m.evs.map (·.name)) x.evs) t.mach.locs.toNat}
abbrev ltM (x y:Mv):Prop:=x.frm<y.frm∨x.frm=y.frm∧x.ev<y.ev
def keyM (p:Int×Int) (y:Mv):Bool:=decide (y.frm=p.1)&&decide (y.ev=p.2)
def ltP (p q:Int×Int):Prop:=p.1<q.1∨p.1=q.1∧p.2<q.2
theorem zfm {p:Int×Int} {y:Mv}:keyM p y=true↔y.frm=p.1∧y.ev=p.2:=by
 unfold keyM;rw[Bool.and_eq_true,decide_eq_true_eq,decide_eq_true_eq]
theorem zft {α β:Type} {f g:α→List β}:∀{l:List α},(∀x∈l,f x=g x)→l.flatMap f=l.flatMap g
 |[],_=>rfl
 |x::r,h=>by rw[List.flatMap_cons,List.flatMap_cons,h x (by simp),zft fun y hy=>h y (by simp[hy])]
theorem zfW (x:Mv):∀(A B:List Mv),(∀y∈A,¬ltM x y)→zcO x (A++B)=A++zcO x B
 |[],_,_=>rfl
 |y::A,B,h=>by
  have ih:=zfW x A B fun z hz=>h z (by simp[hz]);have h1:¬(x.frm<y.frm∨x.frm=y.frm∧x.ev<y.ev):=h y (by simp);simp only[List.cons_append,zcO,if_neg h1,ih]
theorem zqZ (x:Mv):∀(B:List Mv),(∀y∈B,ltM x y)→zcO x B=x::B
 |[],_=>rfl
 |y::B,h=>by
  have h1:x.frm<y.frm∨x.frm=y.frm∧x.ev<y.ev:=h y (by simp);simp only[zcO,if_pos h1]
theorem zix (x:Mv):∀(K:List (Int×Int)) (l:List Mv),K.Pairwise ltP→(x.frm,x.ev)∈K→zcO x (K.flatMap fun p=>l.filter (keyM p))=K.flatMap fun p=>(l++[x]).filter (keyM p)
 |[],_,_,h=>by simp at h
 |p::K,l,hK,h=>by
  obtain⟨h1,h2⟩:=List.pairwise_cons.1 hK;rw[List.flatMap_cons,List.flatMap_cons]
  by_cases e:(x.frm,x.ev)=p
  ·subst e;have e1:(l++[x]).filter (keyM (x.frm,x.ev))=l.filter (keyM (x.frm,x.ev))++[x]:=by simp[List.filter_append,keyM]
   have e2:(K.flatMap fun p=>(l++[x]).filter (keyM p))=K.flatMap fun p=>l.filter (keyM p):=by
    refine zft fun q hq=>?_;have h3:=h1 q hq;have h4:keyM q x=false:=by
     rw[Bool.eq_false_iff];intro h5;rw[zfm] at h5;unfold ltP at h3;simp only at h3;omega
    rw[List.filter_append,List.filter_cons_of_neg (by rw[h4];decide),List.filter_nil,List.append_nil]
   rw[e1,e2,zfW x _ _ fun y hy=>?_,zqZ x _ fun y hy=>?_]
   ·simp
   ·obtain⟨q,hq,hy⟩:=List.mem_flatMap.1 hy;have h5:=zfm.1 (List.mem_filter.1 hy).2;have h3:=h1 q hq;unfold ltP at h3;simp only at h3;unfold ltM;omega
   ·have h5:=zfm.1 (List.mem_filter.1 hy).2;unfold ltM;simp only at h5;omega
  ·have hm:(x.frm,x.ev)∈K:=by
    rcases List.mem_cons.1 h with h|h
    ·exact absurd h e
    ·exact h
   have h3:=h1 _ hm;unfold ltP at h3;simp only at h3;have h4:keyM p x=false:=by
    rw[Bool.eq_false_iff];intro h5;rw[zfm] at h5;omega
   rw[zfW x _ _ fun y hy=>?_,zix x K l h2 hm]
   ·rw[List.filter_append,List.filter_cons_of_neg (by rw[h4];decide),List.filter_nil,List.append_nil]
   ·have h5:=zfm.1 (List.mem_filter.1 hy).2;unfold ltM;omega
theorem zid {K:List (Int×Int)} (hK:K.Pairwise ltP):∀(r acc:List Mv),(∀x∈r,(x.frm,x.ev)∈K)→r.foldl (fun acc x=>zcO x acc) (K.flatMap fun p=>acc.filter (keyM p))=K.flatMap fun p=>(acc++r).filter (keyM p)
 |[],acc,_=>by simp
 |x::r,acc,h=>by
  rw[List.foldl_cons,zix x K acc hK (h x (by simp)),zid hK r (acc++[x]) fun y hy=>h y (by simp[hy]),List.append_assoc];rfl
theorem zqn {K:List (Int×Int)} (hK:K.Pairwise ltP) {l:List Mv} (h:∀x∈l,(x.frm,x.ev)∈K):zdH l=K.flatMap fun p=>l.filter (keyM p):=by
 have h1:=zid hK l [] h;have h2:(K.flatMap fun p=>([]:List Mv).filter (keyM p))=[]:=by
  induction K with
  |nil=>rfl
  |cons p K ih=>simp
 rw[h2] at h1;exact h1
theorem zfN (l:List ByteArray) (s:ByteArray):(nmIx l s = -1∧s ∉ l)∨∃k,l[k]? = some s∧nmIx l s=((k:Nat):Int):=by
 rcases zd5 (p:=fun x=>sB x s) l 0 with ⟨h1,h2⟩|⟨k,e,h1,h2,h3⟩
 ·refine .inl ⟨h2,fun hm=>?_⟩;have:=List.find?_eq_none.1 h1 s hm;exact this (zbP.2 rfl)
 ·have:=List.find?_some h2;have:=zbP.1 this;subst this;exact .inr ⟨k,h1,by unfold nmIx;rw[h3,Nat.zero_add]⟩
theorem zvW {α:Type} {l:List α} (h:l.Nodup) {i j:Nat} {s:α} (hi:l[i]? = some s) (hj:l[j]? = some s):i=j:=by
 obtain⟨hi1,hi2⟩:=List.getElem?_eq_some_iff.1 hi;obtain⟨hj1,hj2⟩:=List.getElem?_eq_some_iff.1 hj;have hp:=List.pairwise_iff_getElem.1 h;rcases Nat.lt_trichotomy i j with c|c|c
 ·exact absurd (hi2.trans hj2.symm) (hp i j hi1 hj1 c)
 ·exact c
 ·exact absurd (hj2.trans hi2.symm) (hp j i hj1 hi1 c)
theorem zjc {l:List ByteArray} (h:l.Nodup) {s:ByteArray} {k:Nat}:nmIx l s=(k:Int)↔l[k]? = some s:=by
 rcases zfN l s with ⟨h1,h2⟩|⟨j,h1,h2⟩
 ·constructor
  ·intro e;omega
  ·intro e;exact absurd (List.mem_of_getElem? e) h2
 ·constructor
  ·intro e;rw[h2] at e;have:j=k:=by omega
   rw[←this];exact h1
  ·intro e;rw[h2,zvW h h1 e]
theorem zof {l:List ByteArray} {s:ByteArray}:nmIx l s≥0↔s∈l:=by
 rcases zfN l s with ⟨h1,h2⟩|⟨j,h1,h2⟩
 ·constructor
  ·intro e;omega
  ·intro e;exact absurd e h2
 ·exact⟨fun _=>List.mem_of_getElem? h1,fun _=>by omega⟩
theorem zdA {N:List ByteArray} (h:N.Nodup) {s:ByteArray} (hs:s∈N) {k:Nat}:fndI N s=(k:Int)↔N[k]? = some s:=by
 have:=zof.2 hs;unfold fndI;rw[if_neg (by omega)];exact zjc h
theorem zdl {N:List ByteArray} {s:ByteArray} (hs:s∈N):∃k,N[k]? = some s∧fndI N s=((k:Nat):Int):=by
 rcases zfN N s with ⟨h1,h2⟩|⟨j,h1,h2⟩
 ·exact absurd hs h2
 ·refine⟨j,h1,?_⟩;unfold fndI;rw[if_neg (by omega)];exact h2
theorem zkK {m:Mdl}:∀{l b:List ByteArray},zdi m b l=0→(∀s∈l,s∈m.evs.map (·.name)∧s ∉ b)∧l.Nodup
 |[],_,_=>⟨by simp,by simp⟩
 |s::r,b,h=>by
  simp only[zdi] at h
  by_cases h1:hasB (m.evs.map (·.name)) s=false
  ·rw[if_pos h1] at h;cases h
  rw[if_neg h1] at h
  by_cases h2:hasB b s=true
  ·rw[if_pos h2] at h;cases h
  rw[if_neg h2] at h;obtain⟨h3,h4⟩:=zkK h;refine⟨fun x hx=>?_,?_⟩
  ·rcases List.mem_cons.1 hx with rfl|hx
   ·exact⟨zfo.1 (by simpa using h1),zjs h2⟩
   ·exact⟨(h3 x hx).1,fun hb=>(h3 x hx).2 (by simp[hb])⟩
  ·rw[List.nodup_cons];exact⟨fun hm=>(h3 s hm).2 (by simp),h4⟩
theorem zjm {N evs:List ByteArray} {a:Int}:a∈lwAl N evs↔∃(e:Nat) (s:ByteArray),a=(e:Int)∧N[e]? = some s∧s∈evs:=by
 unfold lwAl;simp only[List.mem_map,List.mem_filter,List.mem_range,decide_eq_true_eq,zof];constructor
 ·rintro ⟨e,⟨h1,h2⟩,rfl⟩;refine⟨e,N[e],rfl,List.getElem?_eq_getElem h1,?_⟩;rwa [List.getD_eq_getElem?_getD,List.getElem?_eq_getElem h1] at h2
 ·rintro ⟨e,s,rfl,h1,h2⟩;refine⟨e,⟨(List.getElem?_eq_some_iff.1 h1).1,?_⟩,rfl⟩;rw[List.getD_eq_getElem?_getD,h1];exact h2
theorem zs8 (N evs:List ByteArray):(lwAl N evs).Pairwise (· < ·):=by
 unfold lwAl;rw[List.pairwise_map];refine List.Pairwise.filter _ ?_;exact List.pairwise_lt_range.imp fun h=>by omega
theorem zsh {N evs:List ByteArray} (hN:N.Nodup) (he:evs.Nodup) (hs:∀s∈evs,s∈N):srtZ (evs.map fun s=>fndI N s)=lwAl N evs:=by
 have hnd:(evs.map fun s=>fndI N s).Nodup:=by
  unfold List.Nodup;rw[List.pairwise_map];refine List.Pairwise.imp_of_mem (fun {a b} ha hb hne e=>hne ?_) he;obtain⟨k,h1,h2⟩:=zdl (hs a ha);rw[h2] at e;have:=(zdA hN (hs b hb)).1 e.symm;rw[h1] at this;exact Option.some.inj this
 refine zif ?_ (zs8 N evs) fun a=>?_
 ·have h1:=zlG (evs.map fun s=>fndI N s);have h2:(srtZ (evs.map fun s=>fndI N s)).Pairwise (· ≠ ·):=(zcK _).nodup_iff.2 hnd;exact (h1.and h2).imp fun h=>by omega
 ·rw[(zcK _).mem_iff,zjm,List.mem_map];constructor
  ·rintro ⟨s,h1,rfl⟩;obtain⟨k,h2,h3⟩:=zdl (hs s h1);exact⟨k,s,h3,h2,h1⟩
  ·rintro ⟨e,s,rfl,h1,h2⟩;exact⟨s,h2,(zdA hN (hs s h2)).2 h1⟩
theorem zzH {N evs:List ByteArray} (hN:N.Nodup) (he:evs.Nodup) (hs:∀s∈evs,s∈N) {a y:Int} (ha:a∈lwAl N evs) (hy:0≤y∧y<(evs.length:Int)):(evs.map fun s=>fndI N s).getD y.toNat 0=a↔y=lwK N evs a:=by
 obtain⟨e,s,rfl,h1,h2⟩:=zjm.1 ha;have hj:y.toNat<evs.length:=by omega
 have hg:evs[y.toNat]? = some evs[y.toNat]:=List.getElem?_eq_getElem hj;have hmem:evs[y.toNat]∈evs:=List.getElem_mem hj;have e1:(evs.map fun s=>fndI N s).getD y.toNat 0=fndI N evs[y.toNat]:=by
  rw[List.getD_eq_getElem?_getD,List.getElem?_map,hg];rfl
 have e2:lwK N evs (e:Int)=nmIx evs s:=by
  unfold lwK;rw[Int.toNat_natCast,List.getD_eq_getElem?_getD,h1];rfl
 rw[e1,e2,zdA hN (hs _ hmem)];have e3:y=nmIx evs s↔nmIx evs s=((y.toNat:Nat):Int):=by
  rw[Int.toNat_of_nonneg hy.1];exact eq_comm
 rw[e3,zjc he,h1,hg];constructor
 ·intro h;exact h.symm
 ·intro h;exact h.symm
theorem zeC {α β:Type} {p q:α→Bool} {f g:α→β}:∀{l:List α},(∀x∈l,p x=q x)→(∀x∈l,p x=true→f x=g x)→(l.filter p).map f=(l.filter q).map g
 |[],_,_=>rfl
 |x::r,h1,h2=>by
  have ih:=zeC (l:=r) (fun y hy=>h1 y (by simp[hy])) fun y hy=>h2 y (by simp[hy]);have hx:=h1 x (by simp)
  by_cases c:p x=true
  ·rw[List.filter_cons_of_pos c,List.filter_cons_of_pos (by rw[←hx];exact c),List.map_cons,List.map_cons,ih,h2 x (by simp) c]
  ·rw[List.filter_cons_of_neg c,List.filter_cons_of_neg (by rw[←hx];exact c),ih]
theorem zyi {m:Mdl} {x:Ins} {t:Tpl} (h:mchOk m x t) (hi:zdi m [] x.evs=0) (hN:(m.evs.map (·.name)).Nodup):mchE m x t=lwM m x t:=by
 obtain⟨hs,he⟩:=zkK hi;have hs:∀s∈x.evs,s∈m.evs.map (·.name):=fun s h=>(hs s h).1;have hmv:=h.right.mv;have hevb:∀y∈t.mach.moves,0≤y.ev∧y.ev<(x.evs.length:Int):=by
  intro y hy;have:=(hmv y hy).ev;rw[h.alpha] at this;simp only[List.mem_map,List.mem_range] at this;obtain⟨j,hj,e⟩:=this;rw[h.len];omega
 have hloc:=h.right.locs;unfold mchE lwM;simp only;generalize m.evs.map (·.name)=N at *;have ha:=zsh hN he hs;rw[ha];have hmem:∀y∈t.mach.moves,(x.evs.map fun s=>fndI N s).getD y.ev.toNat 0∈lwAl N x.evs:=by
  intro y hy;have:=hevb y hy;rw[←ha,(zcK _).mem_iff];exact zjv (by rw[List.length_map];omega)
 have hK:((List.range t.mach.locs.toNat).flatMap fun s=>(lwAl N x.evs).map fun e=>(((s:Nat):Int),e)).Pairwise ltP:=by
  rw[List.pairwise_flatMap];refine⟨fun s _=>?_,?_⟩
  ·rw[List.pairwise_map];exact (zs8 N x.evs).imp fun h=>.inr ⟨rfl,h⟩
  ·refine List.pairwise_lt_range.imp fun {a b} h=>?_;intro p hp q hq;obtain⟨_,_,rfl⟩:=List.mem_map.1 hp;obtain⟨_,_,rfl⟩:=List.mem_map.1 hq;exact .inl (by show (a:Int)<(b:Int);omega)
 have hin:∀y∈t.mach.moves.map (fun y=>({y with ev:=(x.evs.map fun s=>fndI N s).getD y.ev.toNat 0}:Mv)),(y.frm,y.ev)∈((List.range t.mach.locs.toNat).flatMap fun s=>(lwAl N x.evs).map fun e=>(((s:Nat):Int),e)):=by
  intro z hz;obtain⟨y,hy,rfl⟩:=List.mem_map.1 hz;have hf:=(hmv y hy).frm;rw[List.mem_flatMap];refine⟨y.frm.toNat,List.mem_range.2 (by omega),List.mem_map.2 ⟨_,hmem y hy,?_⟩⟩;rw[Int.toNat_of_nonneg hf.1]
 rw[zqn hK hin];have e1:∀L:List Mv,(((List.range t.mach.locs.toNat).flatMap fun s=>(lwAl N x.evs).map fun e=>(((s:Nat):Int),e)).flatMap fun p=>L.filter (keyM p))=(List.range t.mach.locs.toNat).flatMap fun s=>(lwAl N x.evs).flatMap fun e=>L.filter (keyM (((s:Nat):Int),e)):=by
  intro L;rw[List.flatMap_assoc];refine zft fun s _=>?_;rw[List.flatMap_map]
 rw[e1];unfold zjk;congr 1;refine zft fun s _=>zft fun e hme=>?_;rw[List.filter_map];unfold lwMv;refine zeC (fun y hy=>?_) fun y hy hp=>?_
 ·have:=zzH hN he hs hme (hevb y hy);show (decide (y.frm=(s:Int))&&decide ((x.evs.map fun s=>fndI N s).getD y.ev.toNat 0=e))=_;rw[decide_eq_decide.2 this]
 ·have hp:(decide (y.frm=(s:Int))&&decide ((x.evs.map fun s=>fndI N s).getD y.ev.toNat 0=e))=true:=hp;rw[Bool.and_eq_true,decide_eq_true_eq,decide_eq_true_eq] at hp;show ({y with ev:=(x.evs.map fun s=>fndI N s).getD y.ev.toNat 0}:Mv)={ y with ev:=e};rw[hp.2]
theorem zq6:(evs4.map (·.name)).Nodup:=by
 unfold evs4;simp only[List.map_cons,List.map_nil,List.nodup_cons,List.mem_cons,List.mem_nil_iff,or_false,not_or,not_false_eq_true,List.nodup_nil,and_true,true_and];decide
end Go.AI
namespace Go.AI
open Go.Proofs
set_option maxRecDepth 20000
end Go.AI
namespace Go.AI
open Go.Proofs
theorem zeG {α:Type} {R:α→α→Prop} (hR:∀x y,R x y→R y x→False):∀{a b:List α},a.Pairwise R→b.Pairwise R→(∀x,x∈a↔x∈b)→a=b
 |[],[],_,_,_=>rfl
 |[],y::b,_,_,h=>absurd ((h y).2 (by simp)) (by simp)
 |x::a,[],_,_,h=>absurd ((h x).1 (by simp)) (by simp)
 |x::a,y::b,ha,hb,h=>by
  rw[List.pairwise_cons] at ha hb;have hxy:x=y:=by
   have h1:=(h x).1 (by simp);have h2:=(h y).2 (by simp);rcases List.mem_cons.1 h1 with e|e1
   ·exact e
   rcases List.mem_cons.1 h2 with e|e2
   ·exact e.symm
   exact (hR _ _ (hb.1 x e1) (ha.1 y e2)).elim
  subst hxy;rw[zeG hR ha.2 hb.2 fun z=>?_];have hz:=h z;simp only[List.mem_cons] at hz;constructor
  ·intro m;rcases hz.1 (.inr m) with e|e
   ·subst e;exact (hR _ _ (ha.1 z m) (ha.1 z m)).elim
   ·exact e
  ·intro m;rcases hz.2 (.inr m) with e|e
   ·subst e;exact (hR _ _ (hb.1 z m) (hb.1 z m)).elim
   ·exact e
theorem zlx {m:Mdl} (h:(mdlE m).2=0):(m.tpls.map (·.name)).Nodup∧(m.comps.map (·.name)).Nodup:=by
 obtain⟨_,_,h3,h4,_⟩:=zcG h;refine⟨?_,?_⟩
 ·unfold chkT at h3
  by_cases h2:m.tpls.length>16
  ·rw[if_pos h2] at h3;simp at h3
  rw[if_neg h2] at h3;exact (zfA (zez (fun _ _ h=>zbD h) h3).1).2
 ·unfold chkI at h4
  by_cases h2:m.comps.length=0
  ·rw[if_pos h2] at h4;simp at h4
  rw[if_neg h2] at h4
  by_cases h3:m.comps.length>8
  ·rw[if_pos h3] at h4;simp at h4
  rw[if_neg h3] at h4
  by_cases h5:m.comps.length+m.reqs.length>12
  ·rw[if_pos h5] at h4;simp at h4
  rw[if_neg h5] at h4;exact (zfA (zez (fun _ _ h=>zbD h) h4).1).2
theorem zkL {x:Chc}:∀{l:List Chc},zlu l→zlu (zdK x l)
 |[],_=>List.pairwise_singleton _ _
 |y::r,h=>by
  obtain⟨h1,h2⟩:=List.pairwise_cons.1 h;unfold zdK
  by_cases c:x.1<y.1
  ·rw[if_pos c];refine List.pairwise_cons.2 ⟨fun z hz=>?_,h⟩;rcases List.mem_cons.1 hz with rfl|hz
   ·show ¬z.1<x.1;omega
   ·have:¬z.1<y.1:=h1 z hz;show ¬z.1<x.1;omega
  ·rw[if_neg c];refine List.pairwise_cons.2 ⟨fun z hz=>?_,zkL h2⟩;rcases List.mem_cons.1 ((zfX x r).mem_iff.1 hz) with rfl|hz
   ·exact c
   ·exact h1 z hz
theorem zsj (l:List Chc):zlu (zbY l):=by
 have:∀(r acc:List Chc),zlu acc→zlu (r.foldl (fun acc x=>zdK x acc) acc):=by
  intro r
  induction r with
  |nil=>intro acc h;exact h
  |cons x r ih=>intro acc h;exact ih _ (zkL h)
 exact this l [] .nil
theorem zvr {l:List Chc} (h:(l.map (·.1)).Nodup):(zbY l).Pairwise ltCh:=by
 have h2:((zbY l).map (·.1)).Nodup:=((zcd l).map _).nodup_iff.2 h;unfold List.Nodup at h2;rw[List.pairwise_map] at h2;refine ((zsj l).and h2).imp fun {x y} hh=>?_;obtain⟨h3,h4⟩:=hh;unfold ltCh at *;omega
theorem zfU (x:Loc2):∀l,(zc7 x l).Perm (x::l)
 |[]=>.refl _
 |y::r=>by
  unfold zc7
  by_cases h:x.1<y.1
  ·rw[if_pos h]
  ·rw[if_neg h];exact ((zfU x r).cons y).trans (.swap x y r)
theorem zic (l:List Loc2):(zdQ l).Perm l:=by
 have:∀(r acc:List Loc2),(r.foldl (fun acc x=>zc7 x acc) acc).Perm (acc++r):=by
  intro r
  induction r with
  |nil=>intro acc;simp
  |cons x r ih=>
   intro acc;rw[List.foldl_cons];refine (ih _).trans ?_;refine ((zfU x acc).append_right r).trans ?_;exact List.perm_middle.symm
 exact this l []
theorem zkH {x:Loc2}:∀{l:List Loc2},zlt l→zlt (zc7 x l)
 |[],_=>List.pairwise_singleton _ _
 |y::r,h=>by
  obtain⟨h1,h2⟩:=List.pairwise_cons.1 h;unfold zc7
  by_cases c:x.1<y.1
  ·rw[if_pos c];refine List.pairwise_cons.2 ⟨fun z hz=>?_,h⟩;rcases List.mem_cons.1 hz with rfl|hz
   ·show ¬z.1<x.1;omega
   ·have:¬z.1<y.1:=h1 z hz;show ¬z.1<x.1;omega
  ·rw[if_neg c];refine List.pairwise_cons.2 ⟨fun z hz=>?_,zkH h2⟩;rcases List.mem_cons.1 ((zfU x r).mem_iff.1 hz) with rfl|hz
   ·exact c
   ·exact h1 z hz
theorem zvq {l:List Loc2} (h:(l.map (·.1)).Nodup):(zdQ l).Pairwise ltTm:=by
 have h1:zlt (zdQ l):=by
  have:∀(r acc:List Loc2),zlt acc→zlt (r.foldl (fun acc x=>zc7 x acc) acc):=by
   intro r
   induction r with
   |nil=>intro acc h;exact h
   |cons x r ih=>intro acc h;exact ih _ (zkH h)
  exact this l [] .nil
 have h2:((zdQ l).map (·.1)).Nodup:=((zic l).map _).nodup_iff.2 h;unfold List.Nodup at h2;rw[List.pairwise_map] at h2;refine (h1.and h2).imp fun {x y} hh=>?_;obtain⟨h3,h4⟩:=hh;unfold ltTm at *;omega
def addC (y:Chc) (b:List Loc2):List (List Loc2):=y.2.map fun s=>b++[(y.1,s)]
def stepT (y:Chc):List (List Loc2)→List (List Loc2)→List (List Loc2)
 |[],acc=>acc
 |b::r,acc=>if (acc++addC y b).length>33 then acc++addC y b else stepT y r (acc++addC y b)
def chsT:List Chc→List (List Loc2)→List (List Loc2)
 |[],all=>all
 |y::r,all=>chsT r (stepT y all [])
theorem zfG (y:Chc) (b:List Loc2):(addC y b).length=y.2.length:=List.length_map _
theorem zfH (y:Chc):∀all:List (List Loc2),(all.flatMap (addC y)).length=all.length*y.2.length
 |[]=>by simp
 |b::r=>by rw[List.flatMap_cons,List.length_append,zfG,zfH y r,List.length_cons,Nat.succ_mul,Nat.add_comm]
theorem zia (y:Chc):∀(all acc:List (List Loc2)),acc.length+all.length*y.2.length≤33→stepT y all acc=acc++all.flatMap (addC y)
 |[],acc,_=>by simp[stepT]
 |b::r,acc,h=>by
  rw[List.length_cons,Nat.succ_mul] at h;have hl:(acc++addC y b).length=acc.length+y.2.length:=by rw[List.length_append,zfG]
  unfold stepT;rw[if_neg (by omega),zia y r _ (by omega),List.flatMap_cons,List.append_assoc]
theorem zn0 (y:Chc):∀(all acc:List (List Loc2)),34≤(stepT y all acc).length∨(stepT y all acc).length=acc.length+all.length*y.2.length
 |[],acc=>.inr (by simp[stepT])
 |b::r,acc=>by
  have hl:(acc++addC y b).length=acc.length+y.2.length:=by rw[List.length_append,zfG]
  unfold stepT
  by_cases h:(acc++addC y b).length>33
  ·rw[if_pos h];exact .inl h
  ·rw[if_neg h];rcases zn0 y r (acc++addC y b) with h1|h1
   ·exact .inl h1
   ·refine .inr ?_;rw[h1,hl,List.length_cons,Nat.succ_mul];omega
theorem zh9 {y:Chc} (h:y.2=[]):∀all,stepT y all []=[]
 |[]=>rfl
 |b::r=>by
  have e:addC y b=[]:=by unfold addC;rw[h];rfl
  unfold stepT;rw[e,if_neg (by simp)];exact zh9 h r
theorem zoR:∀l,chsT l []=[]
 |[]=>rfl
 |y::r=>by unfold chsT;exact zoR r
theorem zli:∀{l:List Chc} {all:List (List Loc2)},(l.any fun y=>y.2.isEmpty)=true→chsT l all=[]
 |[],_,h=>by simp at h
 |y::r,all,h=>by
  rw[List.any_cons,Bool.or_eq_true] at h;unfold chsT
  by_cases c:y.2.isEmpty=true
  ·rw[zh9 (List.isEmpty_iff.1 c)];exact zoR r
  ·rcases h with h|h
   ·exact absurd h c
   ·exact zli h
theorem zlj:∀{l:List Chc} {all:List (List Loc2)},(l.any fun y=>y.2.isEmpty)=false→all.length*chsP l≤32→chsT l all=chsR l all
 |[],_,_,_=>rfl
 |y::r,all,h,h2=>by
  rw[List.any_cons,Bool.or_eq_false_iff] at h;have hp:=zfB h.2;have h2:all.length*(y.2.length*chsP r)≤32:=h2;rw[←Nat.mul_assoc] at h2;have h3:all.length*y.2.length≤all.length*y.2.length*chsP r:=Nat.le_mul_of_pos_right _ hp;have e:stepT y all []=all.flatMap (addC y):=by
   rw[zia y all [] (by simp;omega)];rfl
  unfold chsT chsR;rw[e,zlj h.2 (by rw[zfH];exact h2)];rfl
theorem zub:∀{l:List Chc} {all:List (List Loc2)},(l.any fun y=>y.2.isEmpty)=false→34≤(chsT l all).length∨(chsT l all).length=all.length*chsP l
 |[],all,_=>.inr (by simp[chsT,chsP])
 |y::r,all,h=>by
  rw[List.any_cons,Bool.or_eq_false_iff] at h;have hp:=zfB h.2;unfold chsT;rcases zub (l:=r) (all:=stepT y all []) h.2 with h1|h1
  ·exact .inl h1
  ·rcases zn0 y all [] with h2|h2
   ·refine .inl ?_;rw[h1];exact Nat.le_trans h2 (Nat.le_mul_of_pos_right _ hp)
   ·refine .inr ?_;rw[h1,h2];show (([]:List (List Loc2)).length+all.length*y.2.length)*chsP r=all.length*(y.2.length*chsP r);rw[List.length_nil,Nat.zero_add,Nat.mul_assoc]
theorem zmy:∀(l:List Chc) {n:Nat},chsN l (n:Int)≤((n*chsP l:Nat):Int)
 |[],n=>by simp[chsN,chsP]
 |y::r,n=>by
  unfold chsN;show _≤((n*(y.2.length*chsP r):Nat):Int);rw[←Nat.mul_assoc]
  by_cases h:(n:Int)*(y.2.length:Int)<1048576
  ·rw[if_pos h];have:=zmy r (n:=n*y.2.length);rwa [Int.natCast_mul] at this
  ·rw[if_neg h];have h1:=zmy r (n:=1048576);have h2:1048576≤n*y.2.length:=by
    have:((n*y.2.length:Nat):Int)=(n:Int)*(y.2.length:Int):=Int.natCast_mul _ _;omega
   have h3:=Nat.mul_le_mul_right (chsP r) h2;have h1:chsN r 1048576≤((1048576*chsP r:Nat):Int):=h1;omega
theorem zhL:∀{l:List Chc} {n:Int},(∀y∈l,y.2≠[])→1≤n→n≤1048576→chsN l n=if n*(chsP l:Int)<1048576 then n*(chsP l:Int) else 1048576
 |[],n,_,h1,h2=>by
  show n=if n*((1:Nat):Int)<1048576 then n*((1:Nat):Int) else 1048576
  rw[show n*((1:Nat):Int)=n by omega]
  split<;>omega
 |y::r,n,h,h1,h2=>by
  have hy:1≤y.2.length:=by
   have:=h y (by simp)
   cases hh:y.2 with
   |nil=>exact absurd hh this
   |cons a b=>simp
  have hr:∀z∈r,z.2≠[]:=fun z hz=>h z (by simp[hz]);have hp:1≤chsP r:=by
   clear h1 h2;refine zfB ?_;rw[List.any_eq_false];intro z hz;have:=hr z hz;simpa using this
  have hm:n*((chsP (y::r):Nat):Int)=n*(y.2.length:Int)*(chsP r:Int):=by
   show n*((y.2.length*chsP r:Nat):Int)=_;rw[Int.natCast_mul,Int.mul_assoc]
  have hge:n≤n*(y.2.length:Int):=by
   have:=Int.mul_le_mul_of_nonneg_left (show (1:Int)≤(y.2.length:Int) by omega) (show 0≤n by omega);omega
  rw[hm];unfold chsN
  by_cases c:n*(y.2.length:Int)<1048576
  ·rw[if_pos c,zhL hr (by omega) (by omega)]
  ·rw[if_neg c,zhL hr (by decide) (by decide)];have h3:=Int.mul_le_mul_of_nonneg_left (show (1:Int)≤(chsP r:Int) by omega) (show 0≤n*(y.2.length:Int) by omega);rw[if_neg (by omega),if_neg (by omega)]
def expT (x:NEx) (all:List (List Loc2)):List XEx:=match all with
 |[one]=>[⟨x.name,one⟩]
 |all=>numX x.name all 0
theorem zzG (m:Mdl) (og:List (List Sta)) (x:NEx) (most:Int) (hm:0≤most∧most≤32) :
  expX m og x most=if ((chsT (zbY (x.locals.map (chcR m og))) [[]]).length:Int)>most then ([],3) else (expT x (chsT (zbY (x.locals.map (chcR m og))) [[]]),0):=by
 unfold expX;simp only;generalize x.locals.map (chcR m og)=l;have hany:((zbY l).any fun y=>y.2.isEmpty)=(l.any fun y=>y.2.isEmpty):=by
  rw[Bool.eq_iff_iff,List.any_eq_true,List.any_eq_true];constructor
  ·rintro ⟨y,hy,e⟩;exact⟨y,(zcd l).mem_iff.1 hy,e⟩
  ·rintro ⟨y,hy,e⟩;exact⟨y,(zcd l).mem_iff.2 hy,e⟩
 by_cases c1:(l.any fun y=>y.2.isEmpty)=true
 ·rw[if_pos c1,zli (by rw[hany];exact c1),if_neg (by simp;omega)];rfl
 rw[if_neg c1];have c1:(l.any fun y=>y.2.isEmpty)=false:=Bool.eq_false_iff.2 c1;have c2:((zbY l).any fun y=>y.2.isEmpty)=false:=by rw[hany];exact c1
 have hP:chsP (zbY l)=chsP l:=zhK (zcd l)
 by_cases c3:chsN l 1>most
 ·rw[if_pos c3];have h1:=zmy l (n:=1);have h2:=zub (all:=[[]]) c2;rw[hP] at h2;have h3:((1:Nat):Int)=1:=rfl;rw[h3,Nat.one_mul] at h1;simp only[List.length_singleton,Nat.one_mul] at h2;rw[if_pos (by omega)]
 ·rw[if_neg c3];have h1:=zoU (n:=1) c1 (by decide) (by have:((1:Nat):Int)=1:=rfl;rw[this];omega);have h2:chsT (zbY l) [[]]=chsR (zbY l) [[]]:=zlj c2 (by rw[hP];simpa using h1);have h4:(chsR (zbY l) [[]]).length=chsP l:=by rw[zet,hP];simp
  have h5:(chsP l:Int)≤most:=by
   have h6:=zhL (l:=l) (n:=1) (fun y hy e=>(List.any_eq_false.1 c1 y hy) (by rw[e];rfl)) (by decide) (by decide);rw[Int.one_mul] at h6;rw[h6] at c3
   split at c3<;>omega
  rw[h2,if_neg (by rw[h4];omega)];unfold expT;generalize chsR (zbY l) [[]]=q;rcases q with _|⟨a,_|⟨b,r⟩⟩<;>rfl
def lwCh (m:Mdl) (og:List (List Sta)) (L:List NLc):List Chc:=(List.range m.comps.length).flatMap fun k=>(L.filter fun x=>sB x.1 ((m.comps.map (·.name)).getD k ⟨#[]⟩)).map fun x=>chcR m og x
theorem zyp {m:Mdl} {og:List (List Sta)} {L:List NLc} (hN:(m.comps.map (·.name)).Nodup) (hL:(L.map (·.1)).Nodup) (hin:∀x∈L,x.1∈m.comps.map (·.name)):lwCh m og L=zbY (L.map (chcR m og)):=by
 have hc1:∀x,(chcR m og x).1=fndI (m.comps.map (·.name)) x.1:=fun x=>rfl;have hnd:((L.map (chcR m og)).map (·.1)).Nodup:=by
  rw[List.map_map];unfold List.Nodup at hL ⊢;rw[List.pairwise_map] at hL ⊢;refine List.Pairwise.imp_of_mem (fun {a b} ha hb hne e=>hne ?_) hL;have e:fndI (m.comps.map (·.name)) a.1=fndI (m.comps.map (·.name)) b.1:=e;obtain⟨i,h1,h2⟩:=zdl (hin a ha);rw[h2] at e;have:=(zdA hN (hin b hb)).1 e.symm;rw[h1] at this;exact Option.some.inj this
 have hkey:∀k x,x∈L→sB x.1 ((m.comps.map (·.name)).getD k ⟨#[]⟩)=true→k<m.comps.length→(chcR m og x).1=(k:Int):=by
  intro k x hx he hk;rw[hc1,zdA hN (hin x hx)];have:=zbP.1 he;rw[this,List.getD_eq_getElem?_getD,List.getElem?_eq_getElem (by rw[List.length_map];exact hk)];rfl
 refine zeG (R:=ltCh) (fun x y h1 h2=>by unfold ltCh at h1 h2;omega) ?_ (zvr hnd) fun z=>?_
 ·unfold lwCh;rw[List.pairwise_flatMap];refine⟨fun k hk=>?_,?_⟩
  ·have hk:=List.mem_range.1 hk;rw[List.pairwise_map];have h1:L.Pairwise fun a b=>a.1≠b.1:=by
    unfold List.Nodup at hL;rwa [List.pairwise_map] at hL
   refine List.Pairwise.imp_of_mem (fun {a b} ha hb hne=>?_) (List.Pairwise.filter _ h1);have h2:=zbP.1 (List.mem_filter.1 ha).2;have h3:=zbP.1 (List.mem_filter.1 hb).2;exact absurd (h2.trans h3.symm) hne
  ·refine List.Pairwise.imp_of_mem (fun {a b} ha hb h=>?_) (List.pairwise_lt_range (n:=m.comps.length));have ha:=List.mem_range.1 ha;have hb:=List.mem_range.1 hb;intro p hp q hq;obtain⟨x,hx,rfl⟩:=List.mem_map.1 hp;obtain⟨y,hy,rfl⟩:=List.mem_map.1 hq;obtain⟨hx1,hx2⟩:=List.mem_filter.1 hx;obtain⟨hy1,hy2⟩:=List.mem_filter.1 hy;show (chcR m og x).1<(chcR m og y).1;rw[hkey a x hx1 hx2 ha,hkey b y hy1 hy2 hb];omega
 ·rw[(zcd _).mem_iff,List.mem_map];unfold lwCh;simp only[List.mem_flatMap,List.mem_map,List.mem_filter,List.mem_range];constructor
  ·rintro ⟨k,_,x,⟨h1,_⟩,rfl⟩;exact⟨x,h1,rfl⟩
  ·rintro ⟨x,hx,rfl⟩;obtain⟨k,h1,h2⟩:=zdl (hin x hx);refine⟨k,by have:=(List.getElem?_eq_some_iff.1 h1).1;rwa [List.length_map] at this,x,⟨hx,zbP.2 ?_⟩,rfl⟩;rw[List.getD_eq_getElem?_getD,h1];rfl
def lwTm (m:Mdl) (L:List NTm):List Loc2:=(List.range m.comps.length).flatMap fun k=>(L.filter fun x=>sB x.1 ((m.comps.map (·.name)).getD k ⟨#[]⟩)).map fun x=>(((k:Nat):Int),x.2)
theorem zyo {m:Mdl} {L:List NTm} (hN:(m.comps.map (·.name)).Nodup) (hL:(L.map (·.1)).Nodup) (hin:∀x∈L,x.1∈m.comps.map (·.name)):lwTm m L=zdQ (L.map fun t=>(fndI (m.comps.map (·.name)) t.1,t.2)):=by
 have hnd:((L.map fun t=>(fndI (m.comps.map (·.name)) t.1,t.2)).map (·.1)).Nodup:=by
  rw[List.map_map];unfold List.Nodup at hL ⊢;rw[List.pairwise_map] at hL ⊢;refine List.Pairwise.imp_of_mem (fun {a b} ha hb hne e=>hne ?_) hL;have e:fndI (m.comps.map (·.name)) a.1=fndI (m.comps.map (·.name)) b.1:=e;obtain⟨i,h1,h2⟩:=zdl (hin a ha);rw[h2] at e;have:=(zdA hN (hin b hb)).1 e.symm;rw[h1] at this;exact Option.some.inj this
 refine zeG (R:=ltTm) (fun x y h1 h2=>by unfold ltTm at h1 h2;omega) ?_ (zvq hnd) fun z=>?_
 ·unfold lwTm;rw[List.pairwise_flatMap];refine⟨fun k hk=>?_,?_⟩
  ·rw[List.pairwise_map];have h1:L.Pairwise fun a b=>a.1≠b.1:=by
    unfold List.Nodup at hL;rwa [List.pairwise_map] at hL
   refine List.Pairwise.imp_of_mem (fun {a b} ha hb hne=>?_) (List.Pairwise.filter _ h1);have h2:=zbP.1 (List.mem_filter.1 ha).2;have h3:=zbP.1 (List.mem_filter.1 hb).2;exact absurd (h2.trans h3.symm) hne
  ·refine List.pairwise_lt_range.imp fun {a b} h=>?_;intro p hp q hq;obtain⟨x,hx,rfl⟩:=List.mem_map.1 hp;obtain⟨y,hy,rfl⟩:=List.mem_map.1 hq;show (a:Int)<(b:Int);omega
 ·rw[(zic _).mem_iff,List.mem_map];unfold lwTm;simp only[List.mem_flatMap,List.mem_map,List.mem_filter,List.mem_range];constructor
  ·rintro ⟨k,hk,x,⟨h1,h2⟩,rfl⟩;refine⟨x,h1,?_⟩;have h3:(m.comps.map (·.name))[k]? = some x.1:=by
    rw[zbP.1 h2,List.getD_eq_getElem?_getD,List.getElem?_eq_getElem (by rw[List.length_map];exact hk)];rfl
   rw[(zdA hN (hin x h1)).2 h3]
  ·rintro ⟨x,hx,rfl⟩;obtain⟨k,h1,h2⟩:=zdl (hin x hx);refine⟨k,by have:=(List.getElem?_eq_some_iff.1 h1).1;rwa [List.length_map] at this,x,⟨hx,zbP.2 ?_⟩,?_⟩
   ·rw[List.getD_eq_getElem?_getD,h1];rfl
   ·rw[h2]
theorem zwE {m:Mdl} {x:NCn} (hN:(m.comps.map (·.name)).Nodup) (hL:(x.terms.map (·.1)).Nodup) (hin:∀t∈x.terms,t.1∈m.comps.map (·.name)):zea m x=⟨x.name,lwTm m x.terms,x.bound⟩:=by
 rw[zyo hN hL hin];rfl
end Go.AI
namespace Go.AI
open Go.Proofs
set_option maxRecDepth 20000
section
variable {c:Cx} {s:St} {k:List Item} {ops:Array Oper} {rest:List Nat} {o:Oper} {E0:Env} {H H0 H1:Heap} {O:List Heap}
theorem zke (hT:TOk c.P c.T) {j t nb nm ty es n off:Nat} {x y:Operand} {ti:TI} {ds:List D} {xs:List (List I)} {wr:Bool} (ho:ops[j]? = some o) (hg:o.guard=none) (hd:o.dst=none) (hop:o.op=.store t x y) (h1:look c.T t=some ti) (hsz:ti.size=1)
  (hx:evD s x=.own 1 nb 0 off) (hy:evD s y=.osl 1 nm) (hS:s.S=H0::H1::O) (hb:look H1 nb=some (.box ds)) (hoff:off<ds.length) (ha:look H1 nm=some (.arr ty es n xs wr)) (h:RG c ops rest {s with S:=H0::((nb,.box (zda ds off [.osl 0 nm]))::H1)::O} k):RG c ops (j::rest) s k:=by
 intro K ρ a w hi;simp only[wpOps,ho,zcq hi (show zaQ ops s o=some true by unfold zaQ;rw[hg]),if_true];refine .inl ?_;have hok:=hT _ _ h1;have hh:=hi.h;have hobb:zab s.S 1 nb=some (.box ds):=by rw[hS];simpa [zab] using hb
 have hoba:zab s.S 1 nm=some (.arr ty es n xs wr):=by rw[hS];simpa [zab] using ha
 have hshb:shape s.S 1 nb=some .box:=by simp[shape,hobb,Ob.sh]
 have hsha:shape s.S 1 nm=some (.arr es n):=by simp[shape,hoba,Ob.sh]
 have hrx:=hi.ev x;rw[hx] at hrx;have hxv:=zfT hrx hshb;have hry:=hi.ev y;rw[hy] at hry;have hyv:=zc6 hry hsha;obtain⟨cur,tyb,hg2,hr,hKn⟩:=zdX hh hobb;have hcl:cur.size=ds.length:=by have:=hr.length;simpa using this
 have hvs:(a.eval y).cells.size=ti.size:=by rw[hyv,hsz];rfl
 have hcl1:(a.eval y).cells.toList=[a.eval y]:=by rw[hyv];rfl
 have hone:∀u∈(a.eval y).cells.toList,u.oneCell'=true:=by rw[hcl1,hyv];intro u hu;rw[List.mem_singleton] at hu;subst hu;rfl
 have hrun:=zgY (P:=c.P) (w:=w) (o:=off) hok hg2 hvs (by rw[hsz,hcl];omega) hone;have hput:HInv c.E K ρ (setAt s.S 1 nb (.box (zda ds off [.osl 0 nm]))) (w.setRow (ρ 1 nb).block (cur.toList.take off++(a.eval y).cells.toList++cur.toList.drop (off+(a.eval y).cells.toList.length)).toArray):=by
  refine hh.put hobb rfl trivial trivial (by simp) (fun b hb=>setRow_other _ _ _ _ hb) (zeJ _ _ _) (fun o' x' hx'=>by rw[hKn] at hx';cases hx') ⟨_,tyb,setRow_heap _ _ _ _ _ _ hg2,?_,hKn⟩;refine zie off hr ?_;rw[hcl1];refine .cons ?_ .nil;rw[hyv];exact RepD.osl (K:=K) (ρ:=fun d n=>ρ (1+d) n) (sh:=fun d n=>shape s.S (1+d) n) (dep:=0) (nm:=nm) hsha
 have hexec:(execOp a.eval o).run c.P w=.ok .skip (w.setRow (ρ 1 nb).block (cur.toList.take off++(a.eval y).cells.toList++cur.toList.drop (off+(a.eval y).cells.toList.length)).toArray):=by
  simp only[execOp,hop,hxv,hrun,Sem.run_bind,Result.andThen_ok,Sem.run_pure]
 generalize w.setRow (ρ 1 nb).block (cur.toList.take off++(a.eval y).cells.toList++cur.toList.drop (off+(a.eval y).cells.toList.length)).toArray=w1 at hput hexec;have hI:=zyE hi hput (zbv hobb rfl);have hSe:setAt s.S 1 nb (.box (zda ds off [.osl 0 nm]))=H0::((nb,.box (zda ds off [.osl 0 nm]))::H1)::O:=by rw[hS];rfl
 rw[hSe] at hI;have hput':a.put o.dst undef=a:=by rw[hd];rfl
 simp only[Oper.wp,hexec,Oper.upon];have:=h K ρ a w1 hI
 first|exact this|(rw[hput'];exact this)
theorem zl9 (hT:TOk c.P c.T) (hfn:c.P.funcs[c.f]? = some c.fn) {i j t nb nm ts ty es n off:Nat} {px py:Operand} {ti1:TI} {ds:List D} {xs:List (List I)} {wr:Bool} {o2:Oper}
  (ho:ops[i]? = some o) (hg:o.guard=none) (hd:o.dst=some t) (hn:Nat.ble (t+1) s.n=true) (hex:exec c.T s o=.val (.own 1 nb 0 off))
  (ho2:ops[j]? = some o2) (hg2:o2.guard=none) (hd2:o2.dst=none) (hop2:o2.op=.store ts px py) (h12:look c.T ts=some ti1) (hsz2:ti1.size=1)
  (hx2:evD (s.set t (.own 1 nb 0 off)) px=.own 1 nb 0 off) (hy2:evD (s.set t (.own 1 nb 0 off)) py=.osl 1 nm) (hS:s.S=H0::H1::O) (hlb:look H1 nb=some (.box ds)) (hoff:off<ds.length) (ha:look H1 nm=some (.arr ty es n xs wr))
  (h:GM c (run c.T c.stop 1000 (.inRegion ops rest::k) {σ:=(t,.own 1 nb 0 off)::s.σ,S:=H0::((nb,.box (zda ds off [.osl 0 nm]))::H1)::O,n:=s.n})):GM c (.pause ops i (j::rest) o s k):=by
 refine⟨zvC ho (by unfold zaQ;rw[hg]) (zbH hT ?_)⟩;rw[hex];simp only[Does,hd];refine⟨Nat.le_of_ble_eq_true hn,?_⟩;exact zke hT ho2 hg2 hd2 hop2 h12 hsz2 hx2 hy2 hS hlb hoff ha (za4 hT hfn 1000 (.inRegion ops rest::k) _ h.h)
theorem ztC (hT:TOk c.P c.T) (hfn:c.P.funcs[c.f]? = some c.fn) {i t t1 ty nm n m:Nat} {cl:Call} {x y:Operand} {ti1 ti2:TI} {xs ys:List (List I)} (hb:(n+m)*ti2.bytes≤140737488355328∧n+m≤9223372036854775807)
  (ho:ops[i]? = some o) (hg:o.guard=none) (hd:o.dst=some t) (hop:o.op=.call cl) (hc1:cl.callee=.builtin .append) (hc2:cl.args = #[x,y]) (hc3:cl.argTypes = #[t1,t1])
  (h1:look c.T t1=some ti1) (hk1:ti1.k=.slice ty) (h2:look c.T ty=some ti2) (hx:evD s x=.osl 1 nm) (hy:evD s y=.i (.sl ti2.size m ys)) (hS:s.S=H0::H1::O) (hl:look H1 nm=some (.arr ty ti2.size n xs true)) (hn:Nat.ble (t+1) s.n=true)
  (h:∀E',Moved c.E E' nm→GM {c with E:=E' } (run c.T c.stop 1000 (.inRegion ops rest::k) {σ:=(t,.osl 1 nm)::zrb nm s.σ,S:=zgq nm H0::((nm,.arr ty ti2.size (n+m) (xs++ys) true)::zbA nm H1)::O,n:=s.n})):GM c (.pause ops i rest o s k):=
 ztB hT hfn hb ho hg hd hop hc1 hc2 hc3 h1 hk1 h2 hx hy hS hl hn fun E' hM=>za4 (c:={ c with E:=E' }) hT hfn 1000 (.inRegion ops rest::k) _ (h E' hM).h
end
def znS (g:Nat) (tab:Obj) (P:Program) (f:FuncId) (args:List D) (O:List Heap) (nm:Nat) (res:D) (Hr:Heap) (O':List Heap):Prop:=
 ∀E K ρ w vs,HInv E K ρ O w→TabQ g tab O ρ w→RepDL K ρ (shape O) vs args→Exec P f vs.toArray w (zjT (.of K ρ w) nm res Hr O')
section
variable {P:Program} {T:TT} {f:FuncId} {fn:Func} {code:Code}
theorem zlq {g:Nat} {tab:Obj} (nm:Nat) (stop:List Nat) (hT:TOk P T) (hf:P.funcs[f]? = some fn) (hb:fn.body=some code) (hcall:∀args w,(callFunc f args).run P w=.ok (.enter f args) w) {args:List D} {O O':List Heap} {res:D} {Hr:Heap} {n:Nat}
  (hn:fn.ntmps=n) (hlen:args.length≤n)
  (h:∀E,TabE g tab E O→Rch {P:=P,T:=T,E:=E,f:=f,fn:=fn,post:=zjT E nm res Hr O',stop:=stop} [.code code] {σ:=argσ 0 (D.shifts 1 args),S:=[]::O,n:=n}):znS g tab P f args O nm res Hr O':=by
 intro E K ρ w vs hw htab hrep;refine .inl ⟨hcall _ _,fun cs=>?_⟩
 let ρ1:Nat→Nat→Loc:=fun d n=>match d with
  |0=>⟨0,0,none⟩
  |d+1=>ρ d n
 have hI:HInv (.of K ρ w) K ρ1 ([]::O) w:=by
  refine⟨hw.holds,?_,?_,Nat.le_refl _,fun _ _ _=>rfl,?_,fun d=>rfl,K.le_refl,fun _ _ _ h=>.inl h,⟨rfl,rfl,rfl⟩⟩
  ·intro d nm ob e
   cases d with
   |zero=>simp[zab,look] at e
   |succ d=>
    have e':zab O d nm=some ob:=by simpa [zab] using e
    have:=hw.own _ _ _ e';have e1:(fun d' n=>ρ1 (d+1+d') n)=fun d' n=>ρ (d+d') n:=by
     funext d' n;rw[show d+1+d'=(d+d')+1 by omega]
    rw[e1];simpa using this
  ·intro d nm ob d' nm' ob' e e' b b' hbe
   cases d with
   |zero=>simp[zab,look] at e
   |succ d=>
    cases d' with
    |zero=>simp[zab,look] at e'
    |succ d'=>
     have:=hw.inj d nm ob d' nm' ob' (by simpa [zab] using e) (by simpa [zab] using e') b b' hbe;exact⟨by omega,this.2⟩
  ·intro nm ob e _;simp[zab,look] at e
 have hvl:=hrep.length
 let b:Frame:={ (default:Frame) with fn:=f,kind:=.normal}
 have henter:Frame.enter P f vs.toArray .normal=b.at {tmps:=vs.toArray++Array.replicate (fn.ntmps-vs.toArray.size) undef,defers:=[]} [.code code]:=by
  simp[Frame.enter,Frame.at,hf,hb,b]
 have hinv:Inv (.of K ρ w) K ρ1 {σ:=argσ 0 (D.shifts 1 args),S:=[]::O,n:=n} {tmps:=vs.toArray++Array.replicate (fn.ntmps-vs.toArray.size) undef,defers:=[]} w:=by
  refine⟨hI,rfl,by simp;omega,fun t d e=>?_⟩;rw[zfk] at e;simp only[Nat.zero_le,if_true,Nat.sub_zero] at e;have hsh:RepDL K ρ1 (shape ([]::O)) vs (D.shifts 1 args):=by
   refine RepDL.shift (ρ:=ρ1) (sh:=shape ([]::O)) 1 ?_;have e1:(fun d n=>ρ1 (1+d) n)=ρ:=by funext d n;rw[Nat.add_comm]
   have e2:(fun d n=>shape ([]::O) (1+d) n)=shape O:=by
    funext d n;rw[Nat.add_comm];simp[shape,zab]
   rw[e1,e2];exact hrep
  obtain⟨y,hy,hr⟩:=hsh.get e;have:(vs.toArray++Array.replicate (fn.ntmps-vs.toArray.size) undef).getD t undef=y:=by
   have hlt:t<vs.length:=(List.getElem?_eq_some_iff.1 hy).1;simp only[Array.getD_eq_getD_getElem?];rw[Array.getElem?_append_left (by simpa using hlt)];simp[hy]
  rw[this];exact hr
 obtain⟨v,w',fr,hp,hst,hfr,hlv⟩:=h (.of K ρ w) ⟨htab,(Array.getElem?_eq_some_iff.1 htab.1).1⟩ K ρ1 _ w b cs hinv rfl rfl;rw[←henter] at hst;exact⟨.returned v,w',fr,⟨v,rfl,hp⟩,hst,hfr,hlv⟩
end
theorem zqh {g:Nat} {tab:Obj} {E0 E:Env} {nm es n:Nat} {O O':List Heap} (h:TabE g tab E0 O) (hM:Moved E0 E nm) (h0:shape O 0 nm=some (.arr es n)) (h1:∃es' n',shape O' 0 nm=some (.arr es' n')) (hsh:∀d n,(d≠0∨n≠nm)→shape O' d n=shape O d n):TabE g tab E O':=by
 obtain⟨⟨a1,a2⟩,a3⟩:=h;have hlt:g<E0.w0.heap.size:=(Array.getElem?_eq_some_iff.1 a1).1;have hne:(E0.ρ0 0 nm).base≠none→(E0.ρ0 0 nm).block≠g:=fun hb=>a2 0 nm _ h0 hb;refine⟨⟨by rw[hM.w0];exact a1,fun d k x hx hb=>?_⟩,hM.pr g a3 fun hb=>(hne hb).symm⟩
 by_cases hd:d≠0∨k≠nm
 ·rw[hM.ρ d k hd] at hb ⊢;rw[hsh d k hd] at hx;exact a2 d k x hx hb
 ·have hd0:d=0:=Classical.byContradiction fun e=>hd (.inl e);have hk0:k=nm:=Classical.byContradiction fun e=>hd (.inr e);subst hd0;subst hk0;obtain⟨es',n',h1⟩:=h1;rw[h1] at hx
  cases hx
  have hb:(E.ρ0 0 k).base≠none:=hb;rcases hM.blk hb with h2|⟨h2,h3⟩
  ·omega
  ·rw[h3];exact hne h2
section
variable {c:Cx} {s:St} {k:List Item} {ops:Array Oper} {rest:List Nat} {o:Oper} {E0:Env} {H:Heap} {O:List Heap}
theorem zmp {g:Nat} {tab:Obj} {O0:List Heap} (htab:TabE g tab c.E O0) (hOs:shape O=shape O0) {f:FuncId} {args:List D} {res:D} {H':Heap} {O':List Heap} {t nm ty es n:Nat} {xs:List (List I)} {wr:Bool} (hspec:znS g tab c.P f (D.imms (zgp s.S) args) s.S nm res [] (H'::O')) (ht:o.dst=some t) (hn:t<s.n) (hS:s.S=H::O)
  (hl:look H nm=some (.arr ty es n xs wr)) (hl':∃ty' es' n' xs' wr',look H' nm=some (.arr ty' es' n' xs' wr')) (hsh:∀d n,(d≠0∨n≠nm)→shape (H'::O') d n=shape (H::O) d n) :
  Wp c o s f args {σ:=(t,res.down)::zhq nm s.σ,S:=H'::O',n:=s.n}:=by
 intro K ρ a w hi ⟨vs,hrun,hrep⟩ next Qe hnext
 have hh:=hi.h;have hrep':=RepDL.imm hh hrep;rw[hS] at hspec hh hrep';have hob:zab (H::O) 0 nm=some (.arr ty es n xs wr):=by simpa [zab] using hl
 have fin:∀v w',zjT (.of K ρ w) nm res [] (H'::O') v w' → next (a.put o.dst v) w':=by
  rintro v w' ⟨E',hM,K',ρ',h',hr⟩
  let ρ2:Nat→Nat→Loc:=fun d n=>ρ' (d+1) n
  have hout:∀d n,ρ2 d n=E'.ρ0 d n:=fun d n=>by show ρ' (d+1) n=_;rw[h'.outer]
  have hρ:∀d n,(d≠0∨n≠nm)→ρ2 d n=ρ d n:=fun d n hd=>by rw[hout,hM.ρ d n hd];rfl
  have hup:∀d n x,zab (H'::O') d n=some x→zab ([]::H'::O') (d+1) n=some x:=fun d n x e=>by simpa [zab] using e
  have hold:∀d n ob,(d≠0∨n≠nm)→zab (H'::O') d n=some ob→∃o0,zab (H::O) d n=some o0∧ob.sh=o0.sh:=by
   intro d n ob hd e;have:=hsh d n hd;simp only[shape,e,Option.map_some] at this
   cases ho:zab (H::O) d n with
   |none=>simp[ho] at this
   |some o0=>simp only[ho,Option.map_some,Option.some.injEq] at this;exact⟨o0,rfl,this⟩
  have hold':∀d n o0,(d≠0∨n≠nm)→zab (H::O) d n=some o0→∃ob,zab (H'::O') d n=some ob∧ob.sh=o0.sh:=by
   intro d n o0 hd e;have:=hsh d n hd;simp only[shape,e,Option.map_some] at this
   cases ho:zab (H'::O') d n with
   |none=>simp[ho] at this
   |some ob=>simp only[ho,Option.map_some,Option.some.injEq] at this;exact⟨ob,rfl,this⟩
  have hlt:∀b,c.E.pr b→b<w.heap.size:=fun b hb=>Nat.lt_of_lt_of_le (c.E.lt b hb) hh.size;have hloc0:∀b,c.E.pr b→(ρ 0 nm).base≠none→b≠(ρ 0 nm).block:=fun b hb hne hbe=>hh.loc nm _ hob hne (hbe ▸ hb);have hpr:∀b,c.E.pr b→E'.pr b:=fun b hb=>hM.pr b (hlt b hb) (hloc0 b hb);have hloc:∀n x,zab (H'::O') 0 n=some x→zaC (ρ2 0 n) x→∀b,c.E.pr b→(ρ2 0 n).block≠b:=by
   intro n x e hb b hp hbe
   by_cases hn:n=nm
   ·subst hn;have hbs:(ρ2 0 n).base≠none:=by
     obtain⟨ty',es',n',xs',wr',h2⟩:=hl';have:x=.arr ty' es' n' xs' wr':=by
      have e2:look H' n=some x:=by simpa [zab] using e
      rw[h2] at e2;exact (Option.some.inj e2).symm
     subst this;exact hb
    rw[hout] at hbs hbe;rcases hM.blk hbs with h1|⟨h1,h2⟩
    ·have:=hlt b hp;have h1:w.heap.size≤_:=h1;omega
    ·exact hloc0 b hp h1 (by rw[←hbe,h2];rfl)
   ·obtain⟨o0,e0,hs0⟩:=hold 0 n x (.inr hn) e;rw[hρ _ _ (.inr hn)] at hb hbe;exact hh.loc n o0 e0 ((zbJ hs0).1 hb) (hbe ▸ hp)
  have hI:HInv c.E K' ρ2 (H'::O') w':=by
   refine⟨h'.holds,fun d n x e=>?_,fun d n x d' n' x' e e' b b' hbe=>?_,?_,fun b hb hno=>?_,fun n x e hb hp=>hloc n x e hb _ hp rfl,fun d=>?_,?_,fun b o x e=>?_,?_⟩
   ·have h1:=h'.own _ _ _ (hup d n x e);have e1:(fun d' n=>ρ' (d+1+d') n)=fun d' n=>ρ2 (d+d') n:=by funext d' n;show _=ρ' (d+d'+1) n;rw[show d+1+d'=d+d'+1 by omega]
    rw[e1] at h1;simpa using h1
   ·have h1:=h'.inj _ _ _ _ _ _ (hup d n x e) (hup d' n' x' e') b b' hbe;exact⟨by omega,h1.2⟩
   ·have:=hh.size;have h2:=h'.size;rw[hM.w0] at h2;have h2:w.heap.size≤w'.heap.size:=h2;omega
   ·have h1:w'.heap[b]? = E'.w0.heap[b]?:=by
     refine h'.old b (hpr b hb) fun d n x e hbk=>?_;have e':zab (H'::O') d n=some x:=by simpa [zab] using e
     cases d with
     |zero=>exact hloc n x e' hbk b hb
     |succ d=>exact hno d n x e' hbk
    rw[h1,hM.w0];show w.heap[b]? = _;refine hh.old b hb fun d n x e hbk=>?_;obtain⟨ob,eb,hsb⟩:=hold' (d+1) n x (.inl (by omega)) e;have e2:ρ2 (d+1) n=ρ (d+1) n:=hρ _ _ (.inl (by omega));have:=hno d n ob eb (by rw[e2];exact (zbJ hsb).2 hbk);rwa [e2] at this
   ·funext n;rw[hρ _ _ (.inl (by omega)),hh.outer]
   ·refine Kn.le_trans hh.Kle ?_;have:=h'.Kle;rw[hM.K0] at this;exact this
   ·rcases h'.Knew b o x e with h1|h1
    ·rw[hM.K0] at h1;exact hh.Knew b o x h1
    ·exact .inr fun hp=>h1 (hpr b hp)
   ·have h1:=h'.rest;rw[hM.w0] at h1;obtain⟨a1,a2,a3⟩:=h1;obtain⟨b1,b2,b3⟩:=hh.rest;exact⟨a1.trans b1,a2.trans b2,a3.trans b3⟩
  have hle:K.le K':=by
   have:=h'.Kle;rw[hM.K0] at this;exact this
  have hbut:But nm ρ ρ2 (shape (H::O)) (shape (H'::O')):=fun d n x hd e=>⟨by rw[hsh d n hd];exact e,hρ d n hd⟩;have hdn:Dn ρ' ρ2 (shape ([]::H'::O')) (shape (H'::O')):=by
   refine⟨fun n x e=>?_,fun d n x e=>⟨by simpa [shape,zab] using e,rfl⟩⟩;simp[shape,zab,look] at e
  refine hnext _ _ K' ρ2 ?_;rw[ht];refine⟨hI,hi.defers,by simp[Act.put];exact hi.size,fun t' d' e'=>?_⟩;rw[zcB (by rw[hi.size];exact hn)];simp only[zac] at e'
  split at e'
  ·rename_i e2;simp only[Option.some.injEq] at e';subst e';rw[if_pos e2];exact hr.down hdn
  ·rename_i e2;rw[if_neg e2];rw[zdf] at e'
   cases hls:look s.σ t' with
   |none=>simp[hls] at e'
   |some d0=>
    simp only[hls,Option.map_some,Option.some.injEq] at e';subst e';have hr:=hi.slots _ _ hls;rw[hS] at hr;exact (hr.kill hbut).stays ⟨hle,fun _ _ _ e=>e,fun _ _ _ _=>rfl⟩
 rcases hspec c.E K ρ w vs hh (zlF htab hOs hh) hrep' with ⟨h1,h2⟩|⟨v,w',h1,h2⟩
 ·rw[h1] at hrun;simp only[Oper.wp,hrun,Oper.upon];refine h2.mono ?_;rintro e w' ⟨v,rfl,hR⟩;exact fin v w' hR
 ·rw[h1] at hrun;simp only[Oper.wp,hrun,Oper.upon];exact fin v w' h2
end
end Go.AI
