/- The layer of abstract runs, part 30. -/
import Derived.Test.YtnojpbbaohoadaaGreatDoorGnuZC
import Derived.KernelRfl
set_option linter.unusedSimpArgs false
set_option linter.unusedVariables false
set_option linter.all false
set_option maxHeartbeats 4000000
namespace Go.AI
open Go.Proofs
set_option maxRecDepth 20000
theorem zyU (O:List Heap) (l:List Evt) (hl:l.length≤1000000):zan Tryz.prog 54 [.i (za1 l)] O (.i (za1 l)) [] O:=by
 refine zaa Tk Tryz.func54 rfl Tryz.call54 Tryz.ntmps54 (Nat.le_of_ble_eq_true rfl) fun E=>?_;refine zai Tk Tryz.func54 ?_;refine zoy Tk Tryz.func54 rfl rfl fun b hb=>?_;refine zaf Tk Tryz.func54 rfl (fun h1=>?_) (fun h1=>?_)
 ·have hl0:l=[]:=List.eq_nil_of_length_eq_zero (hb h1);subst hl0;refine zaD Tk (r:=.i (.v (.slice none 0 0))) rfl rfl rfl trivial rfl rfl ?_;exact zcy zbd
 ·refine zah Tk Tryz.func54 (by exact⟨by show (0+l.length)*32≤140737488355328;omega,by show 0+l.length≤9223372036854775807;omega⟩) ?_;refine za3 (zc9 (l:=[(2,.osl 0 7)]) (Hv:=[(7,.arr 101 5 (0+l.length) ([]++l.map evtI) true)]) ⟨rfl,trivial⟩ rfl ⟨rfl,trivial⟩ rfl rfl) ?_;rw[Nat.zero_add,List.nil_append];refine za3 (zao 7 rfl rfl) ?_;refine zaj Tk (r:=.i (za1 l)) rfl rfl rfl trivial rfl rfl ?_;rfl
abbrev zkm (l:List Itm):Ob:=.arr 76 5 l.length (l.map itmI) true
abbrev za5 (l:List Itm):I:=.sl 5 l.length (l.map itmI)
abbrev zvT (l:List (List Sta)):Ob:=.arr 62 1 l.length (l.map fun s=>[I.sl 2 s.length (s.map staI)]) true
abbrev zlQ (l:List XCn):Ob:=.arr 158 3 l.length (l.map xcnI) true
abbrev zdq:List D:=[.i (.v (.slice none 0 0)),.i (.v (.slice none 0 0)),.i (.v (.slice none 0 0)),.i (.v (.slice none 0 0)),.i (.v (.slice none 0 0))]
abbrev zrg (r:Cel×Plc×Int):D:=.tup [celD r.1,.agg [ii r.2.1.1,ii r.2.1.2],ii r.2.2]
theorem zmx {a b c:Int}:CoD (.tup [.agg zdq,.agg [ii a,ii b],ii c]) (zrg (zCel,(a,b),c)):=by
 repeat' (first|refine zbT ?_|refine zbB ?_|refine zcy ?_|refine CoDL.cons ?_ ?_|exact CoDL.nil|exact zbd|refine zcz ?_|refine CoLL.cons ?_ ?_|exact CoLL.nil|refine CoL.cons ?_ ?_|exact CoL.nil|exact CoI.refl _|exact CoL.refl _|exact CoLL.refl _|exact CoDL.refl _|exact CoD.refl _)
def exAp (A:List Itm) (G:List (List Sta)):Except (Nat×Int) (List Itm×List (List Sta))→Except (Nat×Int) (List Itm×List (List Sta))
 |.error e=>.error e
 |.ok (a,o)=>.ok (A++a,G++o)
theorem zgE (R:Except (Nat×Int) (List Itm×List (List Sta))):exAp [] [] R=R:=by
 cases R with
 |error e=>rfl
 |ok p=>rfl
theorem zgF (A:List Itm) (G:List (List Sta)) (x:Itm) (s:List Sta) (R:Except (Nat×Int) (List Itm×List (List Sta))):exAp A G (match R with
  |.error e=>.error e
  |.ok (a,o)=>.ok (x::a,s::o))=exAp (A++[x]) (G++[s]) R:=by
 cases R with
 |error e=>rfl
 |ok p=>simp[exAp]
def celK (m:Mdl) (A B:List Itm) (og:List (List Sta)):Cel×Plc×Int:=match zdm m og m.excs 0 [] [] with
 |.error (i,e)=>(zCel,(5,(i:Int)),e)
 |.ok out=>(⟨m.evs,A,B,out,m.cons.map (zea m)⟩,(0,0),0)
theorem zk2 {m:Mdl} {og:List (List Sta)}:∀{l:List NEx} {i:Nat} {seen:List ByteArray} {out:List XEx} {j:Nat} {e:Int},zdm m og l i seen out=.error (j,e)→e≠0
 |[],_,_,_,_,_,h=>by cases h
 |x::r,i,seen,out,j,e,h=>by
  simp only[zdm] at h
  by_cases h1:(expX m og x (32-(out.length:Int))).2≠0
  ·rw[if_pos h1] at h;cases h;exact h1
  rw[if_neg h1] at h
  by_cases h2:(expX m og x (32-(out.length:Int))).1.any (fun y=>decide (y.name.size>32))=true
  ·rw[if_pos h2] at h;cases h;decide
  rw[if_neg h2] at h
  cases h3:dupX seen (expX m og x (32-(out.length:Int))).1 with
  |error u=>rw[h3] at h;cases h;decide
  |ok s=>rw[h3] at h;exact zk2 h
theorem zwO (m:Mdl) (A B:List Itm) (og:List (List Sta)):celK m A B og=if (excX m og).2.2≠0 then (zCel,(excX m og).2) else (⟨m.evs,A,B,(excX m og).1,m.cons.map (zea m)⟩,(0,0),0):=by
 unfold celK excX
 cases h:zdm m og m.excs 0 [] [] with
 |error p=>
  obtain⟨j,e⟩:=p;have he:=zk2 h;simp only;rw[if_pos he]
 |ok out=>rfl
set_option maxHeartbeats 8000000 in
theorem zxq {g:Nat} (hg:ze2 g) {ty:TypeId} {fr:Nat×Nat} (O:List Heap) (m:Mdl) (hm:mdlOk m) (hmv:∀t∈m.tpls,t.mach.moves.length≤19) :
  zbb g (ptab ty fr) Tryz.prog 16 [mdlD m] O (zrg (celR m)) [] O:=by
 have h14:=fun O=>zvd O m hm;have hMU:(mdlE m).2=0→∀x,x∈m.comps∨x∈m.reqs→(∀O,zan Tryz.prog 55 [mdlD m,insD x] O (extD (mchR m x)) [] O)∧∀O,zbb g (ptab ty fr) Tryz.prog 32 [extD (mchR m x)] O (unfD (mchR m x).alpha (zbz (mchR m x))) [] O:=fun hv x hx=>by
  obtain⟨t,ht,he,_⟩:=ze5 hmv hv hx;have hxl:=zhs hm hx;rw[he];exact⟨fun O=>zkw O m x t hm hxl ht,fun O=>zoW hg O _ (zlW hm hxl ht)⟩
 have hEx:(mdlE m).2=0→∀og:List (List Sta),og.length=m.comps.length→(∀s∈og,s.length≤100000)→∀O,zbb g (ptab ty fr) Tryz.prog 56 [mdlD m,.i (zeM og)] O (excD (excX m og)) [] O:=fun hv og h1 h2 O=>by
  obtain⟨e1,e2⟩:=zyI hm hv h1 h2;exact zk3 hg O m og hm.toszOk e1 e2
 have hCn:=fun hv=>zt4 (m:=m) hv;have hIl:=fun hv=>zgG (m:=m) (zcG hv).2.2.2.1;have hevl:=hm.ev;have hf1:=fun O s=>zeB O m 3 s hm.toszOk;rw[show namK m 3=m.comps.map (·.name) from rfl] at hf1;have hr0:∀i,zcD m [] i=.ok ([],[]):=fun _=>rfl;have hrs:∀x r i,zcD m (x::r) i=match zbz (mchR m x) with
  |.error e=>.error (i,e)
  |.ok U=>match zcD m r (i+1) with
   |.error e=>.error e
   |.ok (a,o)=>.ok (⟨x.name,⟨(mchR m x).alpha,U.sts.length,U.mkl,U.eds⟩⟩::a,U.sts::o):=fun _ _ _=>rfl
 generalize hR:celR m=R;have hR:(if (mdlE m).2≠0 then (zCel,mdlE m) else match zcD m m.comps 0 with
  |.error (i,e)=>(zCel,(3,(i:Int)),e)
  |.ok (a,og)=>match zcD m m.reqs 0 with
   |.error (i,e)=>(zCel,(4,(i:Int)),e)
   |.ok (b,_)=>celK m a b og)=R:=hR
 generalize hE0:mdlE m=E0 at *;obtain⟨⟨q1,q2⟩,q3⟩:=E0;simp only at hR hMU hEx hCn hIl;generalize hRA:zcD m m.comps 0=RA at hR;generalize hRB:zcD m m.reqs 0=RB at hR;generalize hiR:zcD m=iR at *;clear hiR hE0;refine zaZ [36] Tk Tryz.func16 rfl Tryz.call16 Tryz.ntmps16 (Nat.le_of_ble_eq_true rfl) fun E hE=>?_;refine zai Tk Tryz.func16 ?_;refine zak Tk Tryz.func16 (h14 _) rfl rfl rfl rfl rfl ?_;refine zaf Tk Tryz.func16 rfl (fun c1=>?_) (fun c1=>?_)
 ·have c1:q3≠0:=bneT c1;rw[if_pos c1] at hR;subst hR;refine zat Tk Tryz.func16 zax rfl ?_;refine zcv Tk rfl rfl rfl ?_;refine zcv Tk rfl rfl rfl ?_;refine zaA Tk Tryz.func16 (by kernel_rfl) ?_;refine zaD Tk (r:=.tup [.agg zdq,.agg [ii q1,ii q2],ii q3]) rfl rfl rfl trivial rfl rfl ?_;exact zmx
 have c1:q3=0:=bneF c1;rw[if_neg (fun h=>h c1)] at hR;have hMU:=hMU c1;have hEx:=hEx c1;obtain⟨hcn1,hcn2⟩:=hCn c1;obtain⟨hcl,hcl0,hql⟩:=hIl c1;have h54:=fun O=>zyU O m.evs hevl;clear hCn hIl;refine zak Tk Tryz.func16 (h54 _) rfl rfl rfl rfl rfl ?_;refine g_wk (zaE 2 68 76 5 (pre:=[.i (za1 m.evs)]) (post:=[.i (.v (.slice none 0 0)),.i (.v (.slice none 0 0)),.i (.v (.slice none 0 0))]) rfl rfl rfl) ?_;refine g_wk (zbk 7 72 62 1 rfl rfl rfl) ?_;refine zad ?_;refine zag (fun x:Nat×List Itm×List (List Sta)=>[(1,.own 0 1 0 0),(2,.own 0 2 0 0),(3,.own 0 3 0 0),(7,.osl 0 72),(40,.i (zbF m.comps)),(41,ii m.comps.length),(42,ii x.1)])
  (fun x=>[(1,.box (mdlC m)),(2,.box [.i (za1 m.evs),.osl 0 68,.i (.v (.slice none 0 0)),.i (.v (.slice none 0 0)),.i (.v (.slice none 0 0))]),(3,plcN),(68,zkm x.2.1),(72,zvT x.2.2)]) (fun _=>O) 168
  (fun x=>x.1≤m.comps.length∧x.2.1.length=x.1∧x.2.2.length=x.1∧(∀s∈x.2.2,s.length≤100000)∧exAp x.2.1 x.2.2 (iR (m.comps.drop x.1) x.1)=RA) (fun x=>m.comps.length-x.1) (0,[],[]) ⟨Nat.zero_le _,rfl,rfl,by simp,by rw[zgE];exact hRA⟩ ⟨rfl,rfl,rfl,rfl,rfl,rfl,rfl,trivial⟩ rfl ⟨rfl,rfl,rfl,rfl,rfl,trivial⟩ rfl rfl ?_
 clear hRA;rintro ⟨i,A,G⟩ ⟨hi,hA,hG,hGs,hno⟩ ih;simp only at hi hA hG hGs hno;refine zai Tk Tryz.func16 ?_;refine zaf Tk Tryz.func16 rfl (fun g1=>?_) (fun g1=>?_)
 ·have g1:i<m.comps.length:=by simpa using g1
  have gs:(m.comps.map insI)[(i:Int).toNat]? = some (insI m.comps[i]):=zal (f:=insI) g1;obtain⟨hM,hU⟩:=hMU m.comps[i] (.inl (List.getElem_mem g1));have hj1:ii (IntKind.i64.wrap ((i:Int)+1))=ii ((i+1:Nat):Int):=congrArg ii (zav (n:=1000001) (by omega) (by decide));rw[List.drop_eq_getElem_cons g1,hrs] at hno;generalize m.comps[i]=x at *;generalize mchR m x=X at *;obtain⟨xn,xt,xe⟩:=x;simp only at hno
  cases hu:zbz X with
  |error e=>
   have he:=zdr hu;have hU2:∀O,zbb g (ptab ty fr) Tryz.prog 32 [extD X] O (.tup [autD ⟨[],0,[],[]⟩,zgm [],ii e]) [] O:=fun O=>by have:=hU O;rw[hu] at this;exact this
   rw[hu] at hno;have hno:Except.error (i,e)=RA:=hno;subst hno;simp only at hR;subst hR;refine zah Tk Tryz.func16 (by exact⟨by omega,by show (i:Int)<(m.comps.length:Int);omega⟩) ?_;refine zaq Tk Tryz.func16 (gs) ?_;refine zak Tk Tryz.func16 (hM _) rfl rfl rfl rfl rfl ?_;refine zba Tk Tryz.func16 hE (hU2 _) rfl rfl rfl rfl rfl rfl ?_;refine zaf Tk Tryz.func16 rfl (fun _=>?_) (fun h=>absurd h (by simpa using he));refine zaD Tk (r:=.tup [.agg zdq,.agg [ii 3,ii i],ii e]) rfl rfl rfl trivial rfl rfl ?_;exact zmx
  |ok U=>
   have hsl:=zgP hu;have hU2:∀O,zbb g (ptab ty fr) Tryz.prog 32 [extD X] O (.tup [autD ⟨X.alpha,U.sts.length,U.mkl,U.eds⟩,zgm U.sts,ii 0]) [] O:=fun O=>by have:=hU O;rw[hu] at this;exact this
   rw[hu] at hno;simp only at hno;rw[zgF] at hno;clear hU;refine zah Tk Tryz.func16 (by exact⟨by omega,by show (i:Int)<(m.comps.length:Int);omega⟩) ?_;refine zaq Tk Tryz.func16 (gs) ?_;refine zak Tk Tryz.func16 (hM _) rfl rfl rfl rfl rfl ?_;refine zba Tk Tryz.func16 hE (hU2 _) rfl rfl rfl rfl rfl rfl ?_;refine gcF Tk Tryz.func16 rfl ?_;refine zah Tk Tryz.func16 (by exact⟨by show (A.length+1)*96≤140737488355328;omega,by show A.length+1≤9223372036854775807;omega⟩) ?_;refine zah Tk Tryz.func16 (by exact⟨by show (G.length+1)*24≤140737488355328;omega,by show G.length+1≤9223372036854775807;omega⟩) ?_;refine zad ?_;refine ih (i+1,A++[⟨xn,⟨X.alpha,U.sts.length,U.mkl,U.eds⟩⟩],G++[U.sts]) _ _ ⟨g1,by simp[hA],by simp[hG],fun s hs=>?_,hno⟩ (by simp only;omega) ⟨rfl,rfl,rfl,rfl,rfl,rfl,hj1,trivial⟩ rfl ⟨rfl,rfl,rfl,?_,?_,trivial⟩ rfl rfl
   ·rcases List.mem_append.1 hs with hs|hs
    ·exact hGs s hs
    ·rw[List.mem_singleton] at hs;subst hs;omega
   ·show some (Ob.arr 76 5 (A.length+1) (A.map itmI++[itmI ⟨xn,⟨X.alpha,U.sts.length,U.mkl,U.eds⟩⟩]) true)=_;simp[zkm]
   ·show some (Ob.arr 62 1 (G.length+1) ((G.map fun s=>[I.sl 2 s.length (s.map staI)])++[[I.sl 2 U.sts.length (U.sts.map staI)]]) true)=_;simp[zvT]
 have g1:m.comps.length≤i:=by simpa using g1
 rw[List.drop_eq_nil_of_le g1,hr0] at hno;have hno:Except.ok (A++[],G++[])=RA:=hno;rw[List.append_nil,List.append_nil] at hno;subst hno;simp only at hR;have hEx:=hEx G (by omega) hGs;clear ih;refine g_wk (zao 68 rfl rfl) ?_;refine g_wk (zao 72 rfl rfl) ?_;refine g_wk (zaY rfl) ?_;refine g_wk (zaE 2 104 76 5 (pre:=[.i (za1 m.evs),.i (za5 A)]) (post:=[.i (.v (.slice none 0 0)),.i (.v (.slice none 0 0))]) rfl rfl rfl) ?_;refine zad ?_;refine zag (fun x:Nat×List Itm×List (List Sta)=>[(1,.own 0 1 0 0),(2,.own 0 2 0 0),(3,.own 0 3 0 0),(7,.i (zeM G)),(76,.i (zbF m.reqs)),(77,ii m.reqs.length),(78,ii x.1)])
  (fun x=>[(1,.box (mdlC m)),(2,.box [.i (za1 m.evs),.i (za5 A),.osl 0 104,.i (.v (.slice none 0 0)),.i (.v (.slice none 0 0))]),(3,plcN),(104,zkm x.2.1)]) (fun _=>O) 168
  (fun x=>x.1≤m.reqs.length∧x.2.1.length=x.1∧exAp x.2.1 x.2.2 (iR (m.reqs.drop x.1) x.1)=RB) (fun x=>m.reqs.length-x.1) (0,[],[]) ⟨Nat.zero_le _,rfl,by rw[zgE];exact hRB⟩ ⟨rfl,rfl,rfl,rfl,rfl,rfl,rfl,trivial⟩ rfl ⟨rfl,rfl,rfl,rfl,trivial⟩ rfl rfl ?_
 clear hRB;rintro ⟨i,B,G2⟩ ⟨hi,hB,hno⟩ ih;simp only at hi hB hno;refine zai Tk Tryz.func16 ?_;refine zaf Tk Tryz.func16 rfl (fun g2=>?_) (fun g2=>?_)
 ·have g2:i<m.reqs.length:=by simpa using g2
  have gs:(m.reqs.map insI)[(i:Int).toNat]? = some (insI m.reqs[i]):=zal (f:=insI) g2;obtain⟨hM,hU⟩:=hMU m.reqs[i] (.inr (List.getElem_mem g2));have hj1:ii (IntKind.i64.wrap ((i:Int)+1))=ii ((i+1:Nat):Int):=congrArg ii (zav (n:=1000001) (by omega) (by decide));rw[List.drop_eq_getElem_cons g2,hrs] at hno;generalize m.reqs[i]=x at *;generalize mchR m x=X at *;obtain⟨xn,xt,xe⟩:=x;simp only at hno
  cases hu:zbz X with
  |error e=>
   have he:=zdr hu;have hU2:∀O,zbb g (ptab ty fr) Tryz.prog 32 [extD X] O (.tup [autD ⟨[],0,[],[]⟩,zgm [],ii e]) [] O:=fun O=>by have:=hU O;rw[hu] at this;exact this
   rw[hu] at hno;have hno:Except.error (i,e)=RB:=hno;subst hno;simp only at hR;subst hR;refine zah Tk Tryz.func16 (by exact⟨by omega,by show (i:Int)<(m.reqs.length:Int);omega⟩) ?_;refine zaq Tk Tryz.func16 (gs) ?_;refine zak Tk Tryz.func16 (hM _) rfl rfl rfl rfl rfl ?_;refine zba Tk Tryz.func16 hE (hU2 _) rfl rfl rfl rfl rfl rfl ?_;refine zaf Tk Tryz.func16 rfl (fun _=>?_) (fun h=>absurd h (by simpa using he));refine zaD Tk (r:=.tup [.agg zdq,.agg [ii 4,ii i],ii e]) rfl rfl rfl trivial rfl rfl ?_;exact zmx
  |ok U=>
   have hU2:∀O,zbb g (ptab ty fr) Tryz.prog 32 [extD X] O (.tup [autD ⟨X.alpha,U.sts.length,U.mkl,U.eds⟩,zgm U.sts,ii 0]) [] O:=fun O=>by have:=hU O;rw[hu] at this;exact this
   rw[hu] at hno;simp only at hno;rw[zgF] at hno;clear hU;refine zah Tk Tryz.func16 (by exact⟨by omega,by show (i:Int)<(m.reqs.length:Int);omega⟩) ?_;refine zaq Tk Tryz.func16 (gs) ?_;refine zak Tk Tryz.func16 (hM _) rfl rfl rfl rfl rfl ?_;refine zba Tk Tryz.func16 hE (hU2 _) rfl rfl rfl rfl rfl rfl ?_;refine gcF Tk Tryz.func16 rfl ?_;refine zah Tk Tryz.func16 (by exact⟨by show (B.length+1)*96≤140737488355328;omega,by show B.length+1≤9223372036854775807;omega⟩) ?_;refine zad ?_;refine ih (i+1,B++[⟨xn,⟨X.alpha,U.sts.length,U.mkl,U.eds⟩⟩],G2++[U.sts]) _ _ ⟨g2,by simp[hB],hno⟩ (by simp only;omega) ⟨rfl,rfl,rfl,rfl,rfl,rfl,hj1,trivial⟩ rfl ⟨rfl,rfl,rfl,?_,trivial⟩ rfl rfl;show some (Ob.arr 76 5 (B.length+1) (B.map itmI++[itmI ⟨xn,⟨X.alpha,U.sts.length,U.mkl,U.eds⟩⟩]) true)=_;simp[zkm]
 have g2:m.reqs.length≤i:=by simpa using g2
 rw[List.drop_eq_nil_of_le g2,hr0] at hno;have hno:Except.ok (B++[],G2++[])=RB:=hno;rw[List.append_nil,List.append_nil] at hno;subst hno;simp only at hR;rw[zwO] at hR;clear ih hMU;generalize excX m G=rx at *;obtain⟨xs,⟨p1,p2⟩,e⟩:=rx;simp only at hR hEx;refine zba Tk Tryz.func16 hE (hEx _) rfl rfl rfl rfl rfl rfl ?_;refine zaf Tk Tryz.func16 rfl (fun c2=>?_) (fun c2=>?_)
 ·have c2:e≠0:=bneT c2;rw[if_pos c2] at hR;subst hR;refine zat Tk Tryz.func16 zax rfl ?_;refine zcv Tk rfl rfl rfl ?_;refine zcv Tk rfl rfl rfl ?_;refine zaA Tk Tryz.func16 (by kernel_rfl) ?_;refine zaD Tk (r:=.tup [.agg zdq,.agg [ii p1,ii p2],ii e]) rfl rfl rfl trivial rfl rfl ?_;exact zmx
 have c2:e=0:=bneF c2;rw[if_neg (fun h=>h c2)] at hR;subst c2;refine g_wk (zao 104 rfl rfl) ?_;refine g_wk (zaY rfl) ?_;refine g_wk (zaE 2 163 158 3 (pre:=[.i (za1 m.evs),.i (za5 A),.i (za5 B),.i (zcp xs)]) (post:=[]) rfl rfl rfl) ?_;refine zad ?_;refine zag (fun i:Nat=>[(1,.own 0 1 0 0),(2,.own 0 2 0 0),(3,.own 0 3 0 0),(121,.i (zkr m.cons)),(122,ii m.cons.length),(123,ii i)])
  (fun i=>[(1,.box (mdlC m)),(2,.box [.i (za1 m.evs),.i (za5 A),.i (za5 B),.i (zcp xs),.osl 0 163]),(3,.box [ii p1,ii p2]),(163,zlQ ((m.cons.take i).map (zea m)))]) (fun _=>O) 168
  (fun i=>i≤m.cons.length) (fun i=>m.cons.length-i) 0 (Nat.zero_le _) ⟨rfl,rfl,rfl,rfl,rfl,rfl,trivial⟩ rfl ⟨rfl,rfl,rfl,rfl,trivial⟩ rfl rfl ?_
 intro i hi ih;have hi:i≤m.cons.length:=hi;refine zai Tk Tryz.func16 ?_;refine zaf Tk Tryz.func16 rfl (fun g3=>?_) (fun g3=>?_)
 ·have g3:i<m.cons.length:=by simpa using g3
  have gs:(m.cons.map ncnI)[(i:Int).toNat]? = some (ncnI m.cons[i]):=zal (f:=ncnI) g3;have ht:=zaI (zea m) g3;have hcl3:((m.cons.take i).map (zea m)).length≤32:=by rw[List.length_map,List.length_take];omega
  have htl:=hcn2 m.cons[i] (List.getElem_mem g3);have hj1:ii (IntKind.i64.wrap ((i:Int)+1))=ii ((i+1:Nat):Int):=congrArg ii (zav (n:=1000001) (by omega) (by decide));generalize (m.cons.take i).map (zea m)=L at *;generalize m.cons[i]=x at *;obtain⟨xn,ts,bd⟩:=x;simp only at htl;have hcr:zea m ⟨xn,ts,bd⟩=⟨xn,zdQ (ts.map fun t=>(fndI (m.comps.map (·.name)) t.1,t.2)),bd⟩:=rfl;rw[hcr] at ht;clear hcr;refine zah Tk Tryz.func16 (by exact⟨by omega,by show (i:Int)<(m.cons.length:Int);omega⟩) ?_;refine zaq Tk Tryz.func16 (gs) ?_;refine g_wk (zaE 20 153 160 2 (pre:=[sD xn]) (post:=[ii bd]) rfl rfl rfl) ?_;refine zad ?_;refine zag (fun j:Nat=>[(1,.own 0 1 0 0),(2,.own 0 2 0 0),(3,.own 0 3 0 0),(20,.own 0 20 0 0),(121,.i (zkr m.cons)),(122,ii m.cons.length),(123,ii i),(133,.i (zya ts)),(134,ii ts.length),(135,ii j)])
   (fun j=>[(1,.box (mdlC m)),(2,.box [.i (za1 m.evs),.i (za5 A),.i (za5 B),.i (zcp xs),.osl 0 163]),(3,.box [ii p1,ii p2]),(163,zlQ L),(20,.box [sD xn,.osl 0 153,ii bd]),(153,olTm ((ts.take j).map fun t=>(fndI (m.comps.map (·.name)) t.1,t.2)))]) (fun _=>O) 168
   (fun j=>j≤ts.length) (fun j=>ts.length-j) 0 (Nat.zero_le _) ⟨rfl,rfl,rfl,rfl,rfl,rfl,rfl,rfl,rfl,rfl,trivial⟩ rfl ⟨rfl,rfl,rfl,rfl,rfl,rfl,trivial⟩ rfl rfl ?_
  intro j hj ih2;have hj:j≤ts.length:=hj;refine zai Tk Tryz.func16 ?_;refine zaf Tk Tryz.func16 rfl (fun g4=>?_) (fun g4=>?_)
  ·have g4:j<ts.length:=by simpa using g4
   have gt:(ts.map ntmI)[(j:Int).toNat]? = some (ntmI ts[j]):=zal (f:=ntmI) g4;have ht2:=zaI (fun t:NTm=>(fndI (m.comps.map (·.name)) t.1,t.2)) g4;have hl2:((ts.take j).map fun t=>(fndI (m.comps.map (·.name)) t.1,t.2)).length≤12:=by rw[List.length_map,List.length_take];omega
   have hf2:=fun O=>hf1 O ts[j].1;have hq:fndI (m.comps.map (·.name)) ts[j].1=fnd0 (nmIx (m.comps.map (·.name)) ts[j].1):=rfl;have hk1:ii (IntKind.i64.wrap ((j:Int)+1))=ii ((j+1:Nat):Int):=congrArg ii (zav (n:=1000001) (by omega) (by decide));rw[hq] at ht2;clear hq;generalize ((ts.take j).map fun t=>(fndI (m.comps.map (·.name)) t.1,t.2))=T at *;generalize nmIx (m.comps.map (·.name)) ts[j].1=q at *;generalize ts[j]=y at *;obtain⟨yn,yf⟩:=y;simp only at hf2 ht2;refine zah Tk Tryz.func16 (by exact⟨by omega,by show (j:Int)<(ts.length:Int);omega⟩) ?_;refine zaq Tk Tryz.func16 (gt) ?_;refine zak Tk Tryz.func16 (hf2 _) rfl rfl rfl rfl rfl ?_;refine zah Tk Tryz.func16 (by exact⟨by show (T.length+1)*16≤140737488355328;omega,by show T.length+1≤9223372036854775807;omega⟩) ?_;refine zad ?_
   refine ih2 (j+1) _ _ g4 (by omega) ⟨rfl,rfl,rfl,rfl,rfl,rfl,rfl,rfl,rfl,hk1,trivial⟩ rfl ⟨rfl,rfl,rfl,rfl,rfl,?_,trivial⟩ rfl rfl;rw[ht2];show some (Ob.arr 160 2 (T.length+1) (T.map zbq++[zbq (fnd0 q,yf)]) true)=_;simp[olTm]
  ·have g4:ts.length≤j:=by simpa using g4
   rw[List.take_of_length_le g4];have hl2:(ts.map fun t=>(fndI (m.comps.map (·.name)) t.1,t.2)).length≤12:=by rw[List.length_map];exact htl
   generalize (ts.map fun t=>(fndI (m.comps.map (·.name)) t.1,t.2))=T at *;have h57:=fun O d ho=>zy7 O d 153 T hl2 ho;refine zak Tk Tryz.func16 (h57 _ 0 rfl) rfl rfl rfl (zbe (ob:=olTm T) rfl (by simp[Ob.sh,zgS])) rfl ?_;refine zaB ?_;refine zas (zao 153 rfl rfl) ?_;refine zas (zaY rfl) ?_;refine zai Tk Tryz.func16 ?_;refine g_go Tk Tryz.func16 ?_;refine zah Tk Tryz.func16 (by exact⟨by show (L.length+1)*48≤140737488355328;omega,by show L.length+1≤9223372036854775807;omega⟩) ?_;refine zad ?_;refine ih (i+1) _ _ g3 (by omega) ⟨rfl,rfl,rfl,rfl,rfl,hj1,trivial⟩ rfl ⟨rfl,rfl,rfl,?_,trivial⟩ rfl rfl;rw[ht];show some (Ob.arr 158 3 (L.length+1) (L.map xcnI++[xcnI ⟨xn,zdQ T,bd⟩]) true)=_;simp[zlQ]
 ·have g3:m.cons.length≤i:=by simpa using g3
  rw[List.take_of_length_le g3];subst hR;refine za3 (zao 163 rfl rfl) ?_;refine za3 (zaY rfl) ?_;refine zaj Tk (r:=zrg (⟨m.evs,A,B,xs,m.cons.map (zea m)⟩,(0,0),0)) rfl rfl rfl trivial rfl rfl ?_;rfl
theorem zyj {m:Mdl} {p:Plc} (hm:mdlOk m) (hmv:∀t∈m.tpls,t.mach.moves.length≤19) (h:(mchA m p).2=0):∃x t,(mdlE m).2=0∧zdd m p=.ok x∧(mchA m p).1=mchR m x∧mchOk m x t∧mchR m x=mchE m x t∧extOk (mchR m x)∧(t.locs.length:Int)=t.mach.locs∧nmsE [] t.locs=0:=by
 unfold mchA at h ⊢
 by_cases h1:(mdlE m).2≠0
 ·rw[if_pos h1] at h;exact absurd h h1
 rw[if_neg h1] at h ⊢;have h1:(mdlE m).2=0:=Classical.byContradiction h1
 cases hp:zdd m p with
 |error e=>rw[hp] at h;exact absurd h (zfM hp)
 |ok x=>
  obtain⟨t,a1,a2,a3,a4,_⟩:=ze5 hmv h1 (zfL hp);exact⟨x,t,h1,rfl,rfl,a1,a2,by rw[a2];exact zlW hm (zhs hm (zfL hp)) a1,a3,a4⟩
theorem zkp:∀{l b:List ByteArray},nmsE b l=0→∀s∈l,s.size≤32
 |[],_,_,s,hs=>by simp at hs
 |x::r,b,h,s,hs=>by
  simp only[nmsE] at h
  by_cases h1:nmE b x≠0
  ·rw[if_pos h1] at h;exact absurd h h1
  rw[if_neg h1] at h;rcases List.mem_cons.1 hs with rfl|hs
  ·exact zfg (zw1 (Classical.byContradiction h1)).1
  ·exact zkp h s hs
theorem zhN {all:List Vr}:∀{l:List Vr} {i:Nat},zbg all l i=0→∀v∈l,v.name.size≤32
 |[],_,_,v,hv=>by simp at hv
 |x::r,i,h,v,hv=>by
  simp only[zbg] at h
  split at h
  ·rename_i e he;subst h;unfold checkVr at he
   split at he;· cases he
   split at he;· cases he
   split at he;· cases he
   split at he;· cases he
   split at he<;>cases he
  ·rename_i he;rcases List.mem_cons.1 hv with rfl|hv
   ·unfold checkVr at he
    split at he;· cases he
    rename_i h1;exact zfg (by simpa using h1)
   ·exact zhN h v hv
theorem zxu {l:List Vr} (h:zby l=0):∀v∈l,v.name.size≤32:=by
 unfold zby at h
 split at h
 ·cases h
 ·exact zhN h
abbrev stgD (s:ByteArray) (e:Int):D:=.tup [.i (.v (.string s)),ii e]
theorem zy1 {g:Nat} (hg:ze2 g) {ty:TypeId} {fr:Nat×Nat} (O:List Heap) (m:Mdl) (p:Plc) (s:Sta) (hm:mdlOk m) (hmv:∀t∈m.tpls,t.mach.moves.length≤19) :
  zbb g (ptab ty fr) Tryz.prog 20 [mdlD m,.agg [ii p.1,ii p.2],staD s] O (stgD (labR m p s).1 (labR m p s).2) [] O:=by
 have h18:=fun O=>zva O m p hm hmv;have hk:=fun h=>zyj (p:=p) hm hmv h;have h61:=fun O=>ziw O m p hm.toszOk;have hf:=fun O nm=>zeB O m 2 nm hm.toszOk;rw[show namK m 2=m.tpls.map (·.name) from rfl] at hf;generalize hR:labR m p s=R;have hR:(if (mchA m p).2≠0 then ((⟨#[]⟩:ByteArray),(mchA m p).2) else match zdd m p with
  |.error e=>(⟨#[]⟩,e)
  |.ok x=>if ckS (mchR m x) s≠0 then (⟨#[]⟩,ckS (mchR m x) s) else match zbL m x with
   |none=>(⟨#[]⟩,0)
   |some t=>(labT (mchR m x).vars s.vals (t.locs.getD s.loc.toNat ⟨#[]⟩),0))=R:=by
  rw[←hR];unfold labR mchA
  by_cases h1:(mdlE m).2≠0
  ·rw[if_pos h1,if_pos h1,if_pos h1]
  ·rw[if_neg h1,if_neg h1]
   cases hp:zdd m p with
   |error e=>simp only;rw[if_pos (zfM hp)]
   |ok x=>simp only;rw[if_neg (by decide)];rfl
 generalize hAA:mchA m p=A at *;obtain⟨X,e⟩:=A;obtain⟨a,b⟩:=p;obtain⟨sl,sv⟩:=s;simp only at h18 hk hR h61;refine zaZ [] Tk Tryz.func20 rfl Tryz.call20 Tryz.ntmps20 (Nat.le_of_ble_eq_true rfl) fun E hE=>?_;refine zai Tk Tryz.func20 ?_;refine zak Tk Tryz.func20 (h18 _) rfl rfl rfl rfl rfl ?_;refine zaf Tk Tryz.func20 rfl (fun c1=>?_) (fun c1=>?_)
 ·have c1:e≠0:=bneT c1;rw[if_pos c1] at hR;subst hR;refine zaj Tk (r:=stgD ⟨#[]⟩ e) rfl rfl rfl trivial rfl rfl ?_;rfl
 have c1:e=0:=bneF c1;rw[if_neg (fun h=>h c1)] at hR;obtain⟨x,t,_,hp,hX,hmo,hme,hok,hlo,hnm⟩:=hk c1;rw[hp] at hR;simp only at hR;have hck:=@zlh (mchR m x) ⟨sl,sv⟩;have h34:=fun O=>zgg O (mchR m x) ⟨sl,sv⟩ hok;rw[←hX] at hR hck h34;rw[show zhZ m (a,b)=(x,0) from by unfold zhZ;rw[hp]] at h61;have htp:=hmo.tp;rw[htp] at hR;simp only at hR;have hXv:X.vars=t.mach.vars:=by rw[hX,hme];rfl
 have hXl:X.locs=t.mach.locs:=by rw[hX,hme];rfl
 have hvr:=hmo.right.vars;have hv16:t.mach.vars.length≤16:=by
  have:=hmo.right.vars;unfold zby at this
  by_cases hc:t.mach.vars.length>16
  ·rw[if_pos hc] at this;cases this
  ·omega
 unfold zbL at htp;rcases zdG Tpl.name m.tpls x.tpl with ⟨h1,_⟩|⟨k,t',h1,h2,h3⟩
 ·rw[h1] at htp;cases htp
 rw[h2] at htp
 cases htp
 have hf2:=fun O=>hf O x.tpl;rw[h3,zfs] at hf2;have hkl:k<m.tpls.length:=(List.getElem?_eq_some_iff.1 h1).1;have gt:(m.tpls.map tplI)[(k:Int).toNat]? = some (tplI t):=by rw[Int.toNat_natCast,List.getElem?_map,h1];rfl
 rw[←hXl] at hlo;rw[←hXv] at hvr hv16;clear h2 h3 hf hmo hme hok hXv hXl hp h18 hk hAA;generalize hC:ckS X ⟨sl,sv⟩=C at *;refine zak Tk Tryz.func20 (h34 _) rfl rfl rfl rfl rfl ?_;refine zaf Tk Tryz.func20 rfl (fun c2=>?_) (fun c2=>?_)
 ·have c2:C≠0:=bneT c2;rw[if_pos c2] at hR;subst hR;refine zaj Tk (r:=stgD ⟨#[]⟩ C) rfl rfl rfl trivial rfl rfl ?_;rfl
 have c2:C=0:=bneF c2;rw[if_neg (fun h=>h c2)] at hR;obtain⟨_,k2,k3,k4,k5⟩:=hck c2;simp only at k2 k3 k4 k5;have hsl:sl.toNat<t.locs.length:=by omega
 have gl:(t.locs.map fun s=>[strI s])[sl.toNat]? = some [strI (t.locs.getD sl.toNat ⟨#[]⟩)]:=by
  rw[List.getElem?_map,List.getD_eq_getElem?_getD,List.getElem?_eq_getElem hsl];rfl
 have hs0:(t.locs.getD sl.toNat ⟨#[]⟩).size≤32:=by
  rw[List.getD_eq_getElem?_getD,List.getElem?_eq_getElem hsl];exact zkp hnm _ (List.getElem_mem hsl)
 generalize t.locs.getD sl.toNat ⟨#[]⟩=s0 at *;have hvn:=zxu hvr;have hvb:∀v∈sv,-65536≤v∧v≤65536:=by
  intro v hv;obtain⟨i,hi,rfl⟩:=List.getElem_of_mem hv;have:=(within_iff.1 k3).2 i (by omega) hi;have hb:=zlw hvr X.vars[i] (List.getElem_mem (by omega));omega
 obtain⟨xn,xt,xe⟩:=x;simp only at hf2;refine zak Tk Tryz.func20 (h61 _) rfl rfl rfl rfl rfl ?_;refine zak Tk Tryz.func20 (hf2 _) rfl rfl rfl rfl rfl ?_;refine zat Tk Tryz.func20 zax rfl ?_;refine zar Tk (by exact⟨by omega,by show (k:Int)<(m.tpls.length:Int);omega⟩) ?_;refine zay Tk (gt) ?_;refine zar Tk (by exact⟨k4,by show sl<(t.locs.length:Int);omega⟩) ?_;refine zay Tk (gl) ?_;refine zaA Tk Tryz.func20 (by kernel_rfl) ?_;generalize hT:labT X.vars sv s0=T at hR;subst hR;refine zad ?_;refine zag (fun x:Nat×ByteArray=>[(5,.own 0 5 0 0),(15,sD x.2),(57,vrs X.vars),(58,ii X.vars.length),(59,ii x.1)])
  (fun _=>[(5,.box [ii sl,ints sv])]) (fun _=>O) 79
  (fun x=>x.1≤X.vars.length∧x.2.size≤100+100*x.1∧labT (X.vars.drop x.1) (sv.drop x.1) x.2=T) (fun x=>X.vars.length-x.1) (0,s0) ⟨Nat.zero_le _,by simp only;omega,hT⟩ ⟨rfl,rfl,rfl,rfl,rfl,trivial⟩ rfl ⟨rfl,trivial⟩ rfl rfl ?_
 clear hT;rintro ⟨i,acc⟩ ⟨hi,has,hno⟩ ih;simp only at hi has hno;refine zai Tk Tryz.func20 ?_;refine zaf Tk Tryz.func20 rfl (fun g1=>?_) (fun g1=>?_)
 ·have g1:i<X.vars.length:=by simpa using g1
  have g1':i<sv.length:=by omega
  have gv:(X.vars.map vrI)[(i:Int).toNat]? = some (vrI X.vars[i]):=zal (f:=vrI) g1;have gn:(sv.map fun x=>[vi x])[(i:Int).toNat]? = some [vi sv[i]]:=zal (f:=fun x=>[vi x]) g1';have hvi:=hvn X.vars[i] (List.getElem_mem g1);have hni:=hvb sv[i] (List.getElem_mem g1');rw[List.drop_eq_getElem_cons g1,List.drop_eq_getElem_cons g1'] at hno;simp only[labT] at hno;have hit:=fun O=>zkF hg (ty:=ty) (fr:=fr) O sv[i] (by omega) (by omega);have hsz:=zcH (n:=sv[i]) (by omega) (by omega);have hj1:ii (IntKind.i64.wrap ((i:Int)+1))=ii ((i+1:Nat):Int):=congrArg ii (zav (n:=1000001) (by omega) (by decide));generalize X.vars[i]=v at *;generalize zcN sv[i]=tx at *;generalize sv[i]=n at *;obtain⟨vn,vlo,vhi,vin⟩:=v;simp only at hno hvi;have hs1:((⟨#[32]⟩:ByteArray)++vn).size=1+vn.size:=ByteArray.size_append
  have hs2:((⟨#[32]⟩:ByteArray)++vn++⟨#[61]⟩).size=1+vn.size+1:=by rw[ByteArray.size_append,hs1];rfl
  have hs3:((⟨#[32]⟩:ByteArray)++vn++⟨#[61]⟩++tx).size=1+vn.size+1+tx.size:=by rw[ByteArray.size_append,hs2]
  refine zah Tk Tryz.func20 (by exact⟨by omega,by show (i:Int)<(X.vars.length:Int);omega⟩) ?_;refine zaq Tk Tryz.func20 (gv) ?_;refine zat Tk Tryz.func20 zax rfl ?_;refine zar Tk (by show 1+vn.size≤9223372036854775807;omega) ?_;refine zar Tk (by show ((⟨#[32]⟩:ByteArray)++vn).size+1≤9223372036854775807;rw[hs1];omega) ?_;refine zar Tk (by exact⟨by omega,by show (i:Int)<(sv.length:Int);omega⟩) ?_;refine zay Tk (gn) ?_;refine zdR Tk hE (hit _) rfl rfl rfl rfl ?_;refine zar Tk (by show ((⟨#[32]⟩:ByteArray)++vn++⟨#[61]⟩).size+tx.size≤9223372036854775807;rw[hs2];omega) ?_;refine zar Tk (by show acc.size+((⟨#[32]⟩:ByteArray)++vn++⟨#[61]⟩++tx).size≤9223372036854775807;rw[hs3];omega) ?_;refine zaA Tk Tryz.func20 (by kernel_rfl) ?_;refine zad ?_
  exact ih (i+1,acc++(⟨#[32]⟩++vn++⟨#[61]⟩++tx)) _ _ ⟨g1,by simp only;rw[ByteArray.size_append,hs3];omega,hno⟩ (by simp only;omega) ⟨rfl,rfl,rfl,rfl,hj1,trivial⟩ rfl ⟨rfl,trivial⟩ rfl rfl
 ·have g1:X.vars.length≤i:=by simpa using g1
  rw[List.drop_eq_nil_of_le g1] at hno;have hno:acc=T:=by rw[←hno];simp[labT]
  subst hno;refine zaj Tk (r:=stgD acc 0) rfl rfl rfl trivial rfl rfl ?_;rfl
end Go.AI
namespace Go.AI
def valB:Value→Value→Bool
 |.string a,.string b=>a.data.toList==b.data.toList
 |.int k a,.int k' b=>decide (k=k')&&a==b
 |.bool a,.bool b=>a==b
 |.slice none 0 0,.slice none 0 0=>true
 |_,_=>false
theorem zxw:∀{x y:Value},valB x y=true→x=y:=by
 intro x y h;unfold valB at h
 split at h
 ·rw[beq_iff_eq] at h;exact congrArg Value.string (ByteArray.ext (Array.ext' h))
 ·simp only[Bool.and_eq_true,decide_eq_true_eq,beq_iff_eq] at h;rw[h.1,h.2]
 ·rw[beq_iff_eq] at h;rw[h]
 ·rfl
 ·cases h
mutual
def coIB:I→I→Bool
 |.v x,.v y=>valB x y
 |.v (.slice none 0 0),.sl _ 0 []=>true
 |.sl es n xs,.sl es' n' ys=>es==es'&&(n==n'&&zrd xs ys)
 |_,_=>false
def coLB:List I→List I→Bool
 |[],[]=>true
 |x::xs,y::ys=>coIB x y&&coLB xs ys
 |_,_=>false
def zrd:List (List I)→List (List I)→Bool
 |[],[]=>true
 |x::xs,y::ys=>coLB x y&&zrd xs ys
 |_,_=>false
end
mutual
theorem zmw:∀{x y:I},coIB x y=true→CoI x y
 |.v x,.v y,h=>by
  simp only[coIB] at h;rw[zxw h];exact CoI.refl _
 |.v x,.sl es n ys,h=>by
  unfold coIB at h
  split at h
  ·rename_i e1 e2;cases e2
  ·rename_i e1 e2;cases e1;cases e2;exact zbd
  ·rename_i e1 e2;cases e1
  ·cases h
 |.sl es n xs,.sl es' n' ys,h=>by
  simp only[coIB,Bool.and_eq_true,beq_iff_eq] at h;obtain⟨rfl,rfl,h⟩:=h;exact zcz (zoN h)
 |.v x,.ptr _ _ _ _,h=>by simp[coIB] at h
 |.sl _ _ _,.v _,h=>by simp[coIB] at h
 |.sl _ _ _,.ptr _ _ _ _,h=>by simp[coIB] at h
 |.ptr _ _ _ _,_,h=>by simp[coIB] at h
theorem zt6:∀{x y:List I},coLB x y=true→CoL x y
 |[],[],_=>.nil
 |x::xs,y::ys,h=>by
  simp only[coLB,Bool.and_eq_true] at h;exact .cons (zmw h.1) (zt6 h.2)
 |[],_::_,h=>by simp[coLB] at h
 |_::_,[],h=>by simp[coLB] at h
theorem zoN:∀{x y:List (List I)},zrd x y=true→CoLL x y
 |[],[],_=>.nil
 |x::xs,y::ys,h=>by
  simp only[zrd,Bool.and_eq_true] at h;exact .cons (zt6 h.1) (zoN h.2)
 |[],_::_,h=>by simp[zrd] at h
 |_::_,[],h=>by simp[zrd] at h
end
def coDB:List D→List D→Bool
 |[],[]=>true
 |.i x::xs,.i y::ys=>coIB x y&&coDB xs ys
 |.osl a b::xs,.osl c d::ys=>a==c&&(b==d&&coDB xs ys)
 |_,_=>false
theorem zhI:∀{x y:List D},coDB x y=true→CoDL x y
 |[],[],_=>.nil
 |.i x::xs,.i y::ys,h=>by
  simp only[coDB,Bool.and_eq_true] at h;exact .cons (zcy (zmw h.1)) (zhI h.2)
 |.osl a b::xs,.osl c d::ys,h=>by
  simp only[coDB,Bool.and_eq_true,beq_iff_eq] at h;obtain⟨rfl,rfl,h⟩:=h;exact .cons (CoD.refl _) (zhI h)
 |x::xs,y::ys,h=>by
  unfold coDB at h
  split at h
  ·rename_i e1 e2;cases e1
  ·rename_i e1 e2
   cases e1;cases e2
   simp only[Bool.and_eq_true] at h;exact .cons (zcy (zmw h.1)) (zhI h.2)
  ·rename_i e1 e2
   cases e1;cases e2
   simp only[Bool.and_eq_true,beq_iff_eq] at h;obtain⟨rfl,rfl,h⟩:=h;exact .cons (CoD.refl _) (zhI h)
  ·cases h
 |[],_::_,h=>by simp[coDB] at h
 |_::_,[],h=>by simp[coDB] at h
theorem zwF {x y:List D} (h:coDB x y=true):CoD (.agg x) (.agg y):=zbB (zhI h)
end Go.AI
namespace Go.AI
open Go.Proofs
set_option maxRecDepth 20000
mutual
def nilJ:I→I
 |.sl es n xs=>match xs with
  |[]=>.v (.slice none 0 0)
  |x::r=>.sl es n (nilL x::zzm r)
 |d=>d
def nilL:List I→List I
 |[]=>[]
 |x::r=>nilJ x::nilL r
def zzm:List (List I)→List (List I)
 |[]=>[]
 |x::r=>nilL x::zzm r
end
def nilD:D→D
 |.i x=>.i (nilJ x)
 |d=>d
theorem zvx:CoD (.agg ((mdlC shopM).map nilD)) (mdlD shopM):=zwF (by kernel_rfl)
set_option maxHeartbeats 8000000 in
theorem zzd (O:List Heap):zan Tryz.prog 26 [] O (mdlD shopM) [] O:=by
 refine zaa Tk Tryz.func26 rfl Tryz.call26 Tryz.ntmps26 (Nat.le_of_ble_eq_true rfl) fun E=>?_;refine zai Tk Tryz.func26 ?_;refine zaD Tk (r:=.agg ((mdlC shopM).map nilD)) rfl rfl rfl trivial (by kernel_rfl) rfl ?_;exact zvx
theorem ztY (O:List Heap) (es:List Edg) (he:es.length≤zap):zan Tryz.prog 115 [edgs es,edgs es] O (bb true) [] O:=by
 refine zaa Tk Tryz.func115 rfl Tryz.call115 Tryz.ntmps115 (Nat.le_of_ble_eq_true rfl) fun E=>?_;refine zai Tk Tryz.func115 ?_;refine zaf Tk Tryz.func115 rfl (fun g1=>?_) (fun g1=>?_)
 ·exact absurd rfl (bneT g1)
 refine zad ?_;refine zag (fun i:Nat=>[(0,edgs es),(1,edgs es),(12,ii es.length),(13,ii i)]) (fun _=>[]) (fun _=>O) 26
  (fun i=>i≤es.length) (fun i=>es.length-i) 0 (Nat.zero_le _) ⟨rfl,rfl,rfl,rfl,trivial⟩ rfl trivial rfl rfl ?_
 rintro i hi ih;refine zai Tk Tryz.func115 ?_;refine zaf Tk Tryz.func115 rfl (fun g3=>?_) (fun g3=>?_)
 ·have h3:i<es.length:=by simpa using g3
  have ge:(es.map edgI)[(i:Int).toNat]? = some (edgI es[i]):=zal h3;generalize es[i]=e at *;refine zat Tk Tryz.func115 zax rfl ?_;refine zar Tk (by exact⟨by omega,by show (i:Int)<(es.length:Int);omega⟩) ?_;refine zay Tk (ge) ?_;refine zar Tk (by exact⟨by omega,by show (i:Int)<(es.length:Int);omega⟩) ?_;refine zay Tk (ge) ?_;refine zaA Tk Tryz.func115 (by kernel_rfl) ?_;refine zaf Tk Tryz.func115 rfl (fun g4=>?_) (fun g4=>?_)
  ·simp at g4
  ·refine zad ?_;exact ih (i+1) _ _ h3 (by omega) ⟨rfl,rfl,rfl,congrArg ii (zav h3 he),trivial⟩ rfl trivial rfl rfl
 ·refine zaj Tk (r:=bb true) rfl rfl rfl trivial rfl rfl ?_;rfl
theorem zk8 (O:List Heap) (a:Aut) (ha:a.alpha.length≤zap) (hm:a.marked.length≤zap) (he:a.edges.length≤zap):zan Tryz.prog 42 [autD a,autD a] O (bb true) [] O:=by
 obtain⟨al,n,mk,es⟩:=a;simp only at ha hm he;have h1:∀O,zan Tryz.prog 67 [ints al,ints al] O (bb true) [] O:=fun O=>by
  have h:=ztZ O al al ha;rwa [decide_eq_true rfl] at h
 have h2:∀O,zan Tryz.prog 67 [ints mk,ints mk] O (bb true) [] O:=fun O=>by
  have h:=ztZ O mk mk hm;rwa [decide_eq_true rfl] at h
 have h3:=fun O=>ztY O es he;refine zaa Tk Tryz.func42 rfl Tryz.call42 Tryz.ntmps42 (Nat.le_of_ble_eq_true rfl) fun E=>?_;refine zai Tk Tryz.func42 ?_;refine zaG Tk Tryz.func42 rfl (fun c1=>?_) (fun c1=>?_);rotate_left
 ·exact absurd rfl (beqF c1)
 refine zak Tk Tryz.func42 (h1 _) rfl rfl rfl rfl rfl ?_;refine gkT Tk Tryz.func42 rfl ?_;refine zak Tk Tryz.func42 (h2 _) rfl rfl rfl rfl rfl ?_;refine gkT Tk Tryz.func42 rfl ?_;refine zak Tk Tryz.func42 (h3 _) rfl rfl rfl rfl rfl ?_;refine zaj Tk (r:=bb true) rfl rfl rfl trivial rfl rfl ?_;rfl
theorem zy2:exOk yesX:=by simp[yesX,exOk,zk5,zap]
theorem zv1:extOk zs3:=by
 refine⟨by decide,by decide,by decide,by simp[zs3],by decide,?_⟩;intro x hx;simp only[zs3,List.mem_cons,List.not_mem_nil,or_false] at hx;rcases hx with rfl|rfl<;>exact⟨zy2,by decide,by simp⟩
theorem zwQ:extOk zwR:=by
 refine⟨by decide,by decide,by decide,?_,by decide,?_⟩
 ·intro v hv;simp only[zwR,List.mem_cons,List.not_mem_nil,or_false] at hv;subst hv;decide
 ·intro x hx;simp only[zwR,List.mem_cons,List.not_mem_nil,or_false] at hx;subst hx;refine⟨by simp[exOk,zk5,zap],by decide,?_⟩;intro u hu;simp only[List.mem_cons,List.not_mem_nil,or_false] at hu;subst hu;simp[exOk,zk5,zap]
theorem zxA:tplOk tplX:=⟨by decide,by decide,by
  intro s hs;simp only[tplX,List.mem_cons,List.not_mem_nil,or_false] at hs;rcases hs with rfl|rfl<;>decide,by decide,by
  intro s hs;simp only[tplX,List.mem_cons,List.not_mem_nil,or_false] at hs;rcases hs with rfl|rfl<;>decide,zv1⟩
theorem zgV:∀t∈shopM.tpls,tplOk t∧t.mach.moves.length≤19:=by
 intro t ht;simp only[shopM,List.mem_cons,List.not_mem_nil,or_false] at ht;rcases ht with rfl|rfl
 ·exact⟨zxA,by decide⟩
 ·refine⟨⟨by decide,by decide,?_,by decide,?_,zwQ⟩,by decide⟩
  ·intro s hs;simp only[List.mem_cons,List.not_mem_nil,or_false] at hs;subst hs;decide
  ·intro s hs;simp only[List.mem_cons,List.not_mem_nil,or_false] at hs;subst hs;decide
theorem zxP:szOk shopM:=⟨by decide,by decide,by decide,by decide,by decide,by decide⟩
theorem zvw:∀x∈shopM.evs,x.name.size≤zap:=by
 intro x hx;simp only[shopM,List.mem_cons,List.not_mem_nil,or_false] at hx;rcases hx with rfl|rfl<;>decide
theorem zqs:∀x∈shopM.comps,insOk x:=by
 intro x hx;simp only[shopM,List.mem_cons,List.not_mem_nil,or_false] at hx;rcases hx with rfl|rfl<;>exact⟨by decide,by decide⟩
theorem zsv:∀x∈shopM.excs,x.name.size≤zap∧x.locals.length≤1000000:=by
 intro x hx;simp only[shopM,List.mem_cons,List.not_mem_nil,or_false] at hx;subst hx;exact⟨by decide,by decide⟩
theorem zsu:mdlOk shopM:={ toszOk:=zxP,nm:=by decide,evn:=zvw,tpk:=fun t ht=>(zgV t ht).1,cok:=zqs,rqk:=fun x hx=>(by cases hx),exk:=zsv,cnk:=fun x hx=>(by cases hx)}
theorem zyx {g:Nat} (hg:ze2 g) {ty:TypeId} {fr:Nat×Nat} (O:List Heap):zbb g (ptab ty fr) Tryz.prog 11 [] O (bb true) [] O:=by
 have hs:=fun O=>zzd O;have hC:=fun O=>zxq hg (ty:=ty) (fr:=fr) O shopM zsu fun t ht=>(zgV t ht).2;rw[zsw] at hC;have hL:=fun O=>zy1 hg (ty:=ty) (fr:=fr) O shopM (3,1) ⟨0,[2]⟩ zsu fun t ht=>(zgV t ht).2;rw[zqr] at hL;have hEq:=fun O=>zk8 O ⟨[0,1],2,[0],[(0,1,1),(1,0,0)]⟩ (by decide) (by decide) (by decide);refine zaZ [] Tk Tryz.func11 rfl Tryz.call11 Tryz.ntmps11 (Nat.le_of_ble_eq_true rfl) fun E hE=>?_;refine zai Tk Tryz.func11 ?_;refine zak Tk Tryz.func11 (hs _) rfl rfl rfl rfl rfl ?_;refine zba Tk Tryz.func11 hE (hC _) rfl rfl rfl rfl rfl rfl ?_
 repeat (first|refine gcT Tk Tryz.func11 rfl ?_|refine gkT Tk Tryz.func11 rfl ?_|refine skT Tk ?_|refine gcF Tk Tryz.func11 rfl ?_|refine gkF Tk Tryz.func11 rfl ?_|refine skF Tk ?_)
 refine zah Tk Tryz.func11 (by decide) ?_;refine zaq Tk Tryz.func11 (rfl) ?_;refine zak Tk Tryz.func11 (hs _) rfl rfl rfl rfl rfl ?_;refine zba Tk Tryz.func11 hE (hL _) rfl rfl rfl rfl rfl rfl ?_;refine zah Tk Tryz.func11 (by decide) ?_;refine zaq Tk Tryz.func11 (rfl) ?_;refine zak Tk Tryz.func11 (hEq _) rfl rfl rfl rfl rfl ?_;refine gkT Tk Tryz.func11 rfl ?_;refine zah Tk Tryz.func11 (by decide) ?_;refine zaq Tk Tryz.func11 (rfl) ?_;refine gkT Tk Tryz.func11 rfl ?_;refine zaG Tk Tryz.func11 rfl (fun _=>?_) (fun h=>absurd h (by rw[zaV];decide));refine gkT Tk Tryz.func11 rfl ?_;refine zah Tk Tryz.func11 (by decide) ?_;refine zaq Tk Tryz.func11 (rfl) ?_;refine gkT Tk Tryz.func11 rfl ?_;refine zah Tk Tryz.func11 (by decide) ?_;refine zaq Tk Tryz.func11 (rfl) ?_;refine gkT Tk Tryz.func11 rfl ?_;refine zaG Tk Tryz.func11 rfl (fun _=>?_) (fun h=>absurd h (by rw[zaV];decide))
 refine zaj Tk (r:=bb true) rfl rfl rfl trivial rfl rfl ?_;rfl
abbrev zx6 (l:List Tpl):Ob:=.arr 87 9 l.length (l.map tplI) true
abbrev zi8 (l:List NEx):Ob:=.arr 91 2 l.length (l.map nexI) true
theorem zqM (c:UInt8) (i:Nat) (h:i≤1000):(zbE c i).size≤22:=by
 unfold zbE;rw[ByteArray.size_append];have:=zcH (n:=(i:Int)) (by omega) (by omega);show 1+_≤_;omega
abbrev zcS (l:List Ins):Ob:=.arr 107 3 l.length (l.map insI) true
abbrev zvU (l:List NLc):Ob:=.arr 103 2 l.length (l.map nlcI) true
abbrev zx9 (l:List NTm):Ob:=.arr 93 2 l.length (l.map ntmI) true
abbrev ze3:List D:=[.i (strI ⟨#[]⟩),.i (.v (.slice none 0 0)),.i (.v (.slice none 0 0)),.i (.v (.slice none 0 0)),.i (.v (.slice none 0 0)),.i (.v (.slice none 0 0)),.i (.v (.slice none 0 0))]
theorem zqe {l:List Sk} {i:Nat} (h:i<l.length):zfI l (i+1)=zfI l i++[zr9 i l[i]]:=by
 unfold zfI;rw[List.range_succ,List.map_append];simp[h]
theorem ztm {nt:Nat} {l:List Use22} {i:Nat} (h:i<l.length):insN nt l (i+1)=zqX nt (insN nt l i) i l[i]:=by simp[insN,h]
theorem zxF (l:List ByteArray) (j:Nat) (hjl:j<l.length):D.i (.sl 1 (0+(j:Int).toNat+(l.length-((j+1:Nat):Int).toNat)) ([]++(l.map fun s=>[strI s]).take (j:Int).toNat++(l.map fun s=>[strI s]).drop ((j+1:Nat):Int).toNat))=ssD (l.take j++l.drop (j+1)):=by
 rw[Int.toNat_natCast,Int.toNat_natCast,List.nil_append,←List.map_take,←List.map_drop,←List.map_append];have:0+j+(l.length-(j+1))=(l.take j++l.drop (j+1)).length:=by rw[List.length_append,List.length_take,List.length_drop];omega
 rw[this]
theorem zg8 (o:Int):∀k,(ordS o k).1.length=k
 |0=>rfl
 |k+1=>by simp only[ordS,List.length_append,List.length_singleton,zg8 o k]
theorem zv7 (nt:Nat) (l:List Use22) (i:Nat):∀x∈(insN nt l i).1++(insN nt l i).2,x.evs.length=3:=zot (P:=fun x=>x.evs.length=3) nt l (fun _=>zg8 _ 3) i
theorem zq4 {T:List Tpl} {C:List Ins} {l:List (Whr×Whr)} {i:Nat} (h:i<l.length):zeV T C l (i+1)=zeV T C l i++[zww T C i l[i]]:=by
 unfold zeV;rw[List.range_succ,List.map_append];simp[h]
theorem ztP (T:List Tpl) (C:List Ins) (l:List (Whr×Whr)) (i:Nat):(zeV T C l i).length=i:=by simp[zeV]
theorem ztQ {T:List Tpl} {C R:List Ins} (hT:∀t∈T,1≤t.locs.length∧t.locs.length≤1000) (htpl:∀x∈C++R,∃t∈T,T.find? (fun t=>sB t.name x.tpl)=some t) (hC:0<C.length∧C.length≤3) {wc wl:Int} (hw:zhT (wc,wl)) :
  ∃(c:Ins) (t:Tpl) (s:ByteArray),(C.map insI)[((IntKind.i64.wrap wc).tmod (C.length:Int)).toNat]? = some (insI c)∧(0≤(IntKind.i64.wrap wc).tmod (C.length:Int)∧(IntKind.i64.wrap wc).tmod (C.length:Int)<(C.length:Int))∧T.find? (fun t=>sB t.name c.tpl)=some t∧1≤t.locs.length ∧
   (t.locs.map fun s=>[strI s])[((IntKind.i64.wrap wl).tmod (t.locs.length:Int)).toNat]? = some [strI s]∧(0≤(IntKind.i64.wrap wl).tmod (t.locs.length:Int)∧(IntKind.i64.wrap wl).tmod (t.locs.length:Int)<(t.locs.length:Int)) ∧
   ∀acc,excA T C acc (wc,wl)=if (match acc with|[]=>false|a::_=>sB a.1 c.name)=true then acc else acc++[(c.name,s)]:=by
 obtain⟨h1,h2⟩:=hw;simp only at h1 h2;have w1:IntKind.i64.wrap wc=wc:=w64 (by omega) (by omega);have w2:IntKind.i64.wrap wl=wl:=w64 (by omega) (by omega);have m1:=Int.emod_nonneg wc (show (C.length:Int)≠0 by omega);have m2:=Int.emod_lt_of_pos wc (show 0<(C.length:Int) by omega);rw[w1,w2,Int.tmod_eq_emod_of_nonneg h1.1];obtain⟨j,hj⟩:∃j:Nat,(j:Int)=wc%(C.length:Int):=⟨(wc%(C.length:Int)).toNat,by omega⟩;have hjl:j<C.length:=by omega
 have hgd:C.getD j ziO=C[j]:=by simp[hjl]
 obtain⟨t,ht,hf⟩:=htpl C[j] (List.mem_append_left _ (List.getElem_mem hjl));obtain⟨hl1,hl2⟩:=hT t ht;have n1:=Int.emod_nonneg wl (show (t.locs.length:Int)≠0 by omega);have n2:=Int.emod_lt_of_pos wl (show 0<(t.locs.length:Int) by omega);obtain⟨q,hq⟩:∃q:Nat,(q:Int)=wl%(t.locs.length:Int):=⟨(wl%(t.locs.length:Int)).toNat,by omega⟩;have hql:q<t.locs.length:=by omega
 have htf:znY T C[j]=t:=by unfold znY;rw[hf];rfl
 refine⟨C[j],t,t.locs[q],?_,by omega,hf,hl1,?_,by rw[Int.tmod_eq_emod_of_nonneg h2.1];omega,fun acc=>?_⟩
 ·rw[←hj];exact zal (f:=insI) hjl
 ·rw[Int.tmod_eq_emod_of_nonneg h2.1,←hq];exact zal (f:=fun s=>[strI s]) hql
 ·unfold excA;simp only;rw[←hj,Int.toNat_natCast,hgd,htf,←hq,Int.toNat_natCast];rcases acc with _|⟨a,r⟩<;>simp[hql]
theorem zee (C:List Ins):(zcU C).length=C.length:=by simp[zcU]
theorem zlD {C:List Ins} {r:Nat} (h:r<C.length):(zcU C).take (r+1)=(zcU C).take r++[(C[C.length-1-r].name,1+((C.length-1-r:Nat):Int))]:=by
 have hl:=zee C;rw[List.take_succ_eq_append_getElem (by omega)];congr 2;unfold zcU;rw[List.getElem_reverse];simp only[List.getElem_map,List.length_map,List.length_range,List.getElem_range];rw[List.getD_eq_getElem?_getD,List.getElem?_eq_getElem (by omega)];rfl
theorem zr8 (l:List Sk) (i:Nat):(zfI l i).length=i:=by simp[zfI]
theorem zzq {g:Nat} (hg:ze2 g) {ty:TypeId} {fr:Nat×Nat} (O:List Heap) (k:Sk22) (hk:sk22Ok k):zbb g (ptab ty fr) Tryz.prog 13 [zxO k] O (mdlD (zcM k)) [] O:=by
  have hio:∀n:Nat,n≤1000→∀O,zbb g (ptab ty fr) Tryz.prog 27 [ii (n:Int)] O (.i (.v (.string (zcN (n:Int))))) [] O:=fun n hn O=>zkF hg (ty:=ty) (fr:=fr) O (n:Int) (by omega) (by omega);have hsz:∀n:Nat,n≤1000→(zcN (n:Int)).size≤21:=fun n hn=>by
    have:=zcH (n:=(n:Int)) (by omega) (by omega);omega
  generalize hR:zcM k=R;unfold zcM at hR;have hMT:mkT k=zfI k.tpls (min k.tpls.length 3):=rfl;have hTl:=zjg k;have hMI:mkI k=insN (mkT k).length k.ins (zfn k):=rfl;have hIC:=zhv k;have htpl:=zyf k hk;have hTloc:∀t∈mkT k,1≤t.locs.length∧t.locs.length≤1000:=fun t h=>by
    obtain⟨j,_,hj,rfl⟩:=zsZ h;have h1:=(hk.t _ (zjv (d:=zSk) hj)).locs;show 1≤((List.range _).map _).length∧((List.range _).map _).length≤1000;simp only[List.length_map,List.length_range];unfold zdg;omega
  have hICe:zfn k=if (mkT k).length=0 then 0 else min k.ins.length 5:=rfl
  obtain⟨htl,ht,hil,huse,hel,he,hb⟩:=hk;obtain⟨kt,ki,kx,kb⟩:=k;simp only at htl ht hil huse hel he hb hMT hTl hMI hIC hICe hR;generalize zfn ⟨kt,ki,kx,kb⟩=IC at *;generalize mkT ⟨kt,ki,kx,kb⟩=T at *;generalize mkI ⟨kt,ki,kx,kb⟩=CR at *;refine zaZ [12,29,44,51,11,25,43,27,200161,50] Tk Tryz.func13 rfl Tryz.call13 Tryz.ntmps13 (Nat.le_of_ble_eq_true rfl) fun E hE=>?_;refine zai Tk Tryz.func13 ?_
  apply zb7 (P:=True) (s6:={ σ:=[(1,.own 0 1 0 0),(2,.own 0 2 0 0),(3,.own 0 3 0 0)],S:=[(1,.box (zeI ⟨kt,ki,kx,kb⟩)),(2,.box ze3),(3,.box [.i (strI ⟨#[109]⟩),.i (za1 evs4),.i (zcI T),.i (.v (.slice none 0 0)),.i (.v (.slice none 0 0)),.i (.v (.slice none 0 0)),.i (.v (.slice none 0 0))])]::O,n:=295})
  · intro J
    refine g_wk (zaE 3 69 87 9 (pre:=[.i (strI ⟨#[109]⟩),.i (za1 evs4)]) (post:=[.i (.v (.slice none 0 0)),.i (.v (.slice none 0 0)),.i (.v (.slice none 0 0)),.i (.v (.slice none 0 0))]) rfl rfl rfl) ?_;refine zad ?_;refine zag (fun i:Nat=>[(1,.own 0 1 0 0),(2,.own 0 2 0 0),(3,.own 0 3 0 0),(4,ii i)])
      (fun i=>[(1,.box (zeI ⟨kt,ki,kx,kb⟩)),(2,.box ze3),(3,.box [.i (strI ⟨#[109]⟩),.i (za1 evs4),.osl 0 69,.i (.v (.slice none 0 0)),.i (.v (.slice none 0 0)),.i (.v (.slice none 0 0)),.i (.v (.slice none 0 0))]),(69,zx6 (zfI kt i))]) (fun _=>O) 295
      (fun i=>i≤min kt.length 3) (fun i=>min kt.length 3-i) 0 (Nat.zero_le _) ⟨rfl,rfl,rfl,rfl,trivial⟩ rfl ⟨rfl,rfl,rfl,rfl,trivial⟩ rfl rfl ?_
    intro i hi ih;have hi:i≤min kt.length 3:=hi;have hend:i=min kt.length 3→zfI kt i=T:=fun e=>by rw[e,hMT]
    have hTN:=zr8 kt i;refine zai Tk Tryz.func13 ?_;refine zaG Tk Tryz.func13 rfl (fun c1=>?_) (fun c1=>?_)
    · have c1:i<kt.length:=by simpa using c1
      refine zaf Tk Tryz.func13 rfl (fun c2=>?_) (fun c2=>?_)
      · have c2:i<3:=by have:(i:Int)<3:=of_decide_eq_true c2;omega
        have gs:(kt.map skI)[(i:Int).toNat]? = some (skI kt[i]):=zal (f:=skI) c1;have hmk:=fun O=>zzp O kt[i] (ht kt[i] (List.getElem_mem c1));have hsucc:=zqe c1;unfold zr9 at hsucc;have hX:(zjj kt[i]).locs=(zdg kt[i]:Int):=rfl;have hLb:zdg kt[i]≤4:=by have:=(ht kt[i] (List.getElem_mem c1)).locs;unfold zdg;omega
        have hit:=hio i (by omega);have hsi:=hsz i (by omega);have hj1:ii (IntKind.i64.wrap ((i:Int)+1))=ii ((i+1:Nat):Int):=congrArg ii (zav (n:=1000001) (by omega) (by decide));generalize zjj kt[i]=X at *;generalize zdg kt[i]=L at *;generalize kt[i]=y at *;generalize zfI kt i=A at *;clear J hend;obtain⟨al,lo,ini,mk,vr,mo⟩:=X;simp only at hX;subst hX;refine zah Tk Tryz.func13 (by exact⟨by omega,by show (i:Int)<(kt.length:Int);omega⟩) ?_;refine zaq Tk Tryz.func13 (gs) ?_;refine zak Tk Tryz.func13 (hmk _) rfl rfl rfl rfl rfl ?_;refine zat Tk Tryz.func13 zax rfl ?_;refine zdR Tk hE (hit _) rfl rfl rfl rfl ?_;refine zar Tk (by show 1+(zcN (i:Int)).size≤9223372036854775807;omega) ?_;refine zcv Tk rfl rfl rfl ?_;refine zaA Tk Tryz.func13 (by kernel_rfl) ?_
        refine g_wk (zaE 6 63 9 1 (pre:=[.i (strI (zbE 116 i))]) (post:=[ssD abc3,ints al,ii L,ii ini,ints mk,vrs vr,mvs mo]) rfl rfl rfl) ?_;refine zad ?_;refine zag (fun s:Nat=>[(1,.own 0 1 0 0),(2,.own 0 2 0 0),(3,.own 0 3 0 0),(4,ii i),(5,.own 0 5 0 0),(6,.own 0 6 0 0),(7,ii s)])
          (fun s=>[(1,.box (zeI ⟨kt,ki,kx,kb⟩)),(2,.box ze3),(3,.box [.i (strI ⟨#[109]⟩),.i (za1 evs4),.osl 0 69,.i (.v (.slice none 0 0)),.i (.v (.slice none 0 0)),.i (.v (.slice none 0 0)),.i (.v (.slice none 0 0))]),(69,zx6 A),
            (5,.box [ints al,ii L,ii ini,ints mk,vrs vr,mvs mo]),(6,.box [.i (strI (zbE 116 i)),.osl 0 63,ssD abc3,ints al,ii L,ii ini,ints mk,vrs vr,mvs mo]),(63,oss ((List.range s).map (zbE 115)))]) (fun _=>O) 295
          (fun s=>s≤L) (fun s=>L-s) 0 (Nat.zero_le _) ⟨rfl,rfl,rfl,rfl,rfl,rfl,rfl,trivial⟩ rfl ⟨rfl,rfl,rfl,rfl,rfl,rfl,rfl,trivial⟩ rfl rfl ?_
        intro s hs ih2;have hs:s≤L:=hs;refine zai Tk Tryz.func13 ?_;refine zaf Tk Tryz.func13 rfl (fun c3=>?_) (fun c3=>?_)
        · have c3:s<L:=by simpa using c3
          have hit2:=hio s (by omega);have hsi2:=hsz s (by omega);have hs2:(List.range (s+1)).map (zbE 115)=(List.range s).map (zbE 115)++[zbE 115 s]:=by rw[List.range_succ,List.map_append];rfl
          have hll:((List.range s).map (zbE 115)).length=s:=by simp
          have hj2:ii (IntKind.i64.wrap ((s:Int)+1))=ii ((s+1:Nat):Int):=congrArg ii (zav (n:=1000001) (by omega) (by decide));generalize (List.range s).map (zbE 115)=Q at *;refine zat Tk Tryz.func13 zax rfl ?_;refine zdR Tk hE (hit2 _) rfl rfl rfl rfl ?_;refine zar Tk (by show 1+(zcN (s:Int)).size≤9223372036854775807;omega) ?_;refine zd8 Tk Tryz.func13 ([6,7,8]) (by kernel_rfl) (by kernel_rfl) ?_;refine zah Tk Tryz.func13 (by exact⟨by show (Q.length+1)*16≤140737488355328;omega,by show Q.length+1≤9223372036854775807;omega⟩) ?_;refine zad ?_;refine ih2 (s+1) _ _ c3 (by omega) ⟨rfl,rfl,rfl,rfl,rfl,rfl,hj2,trivial⟩ rfl ⟨rfl,rfl,rfl,rfl,rfl,rfl,?_,trivial⟩ rfl rfl;rw[hs2];exact congrArg some (za8 Q (zbE 115 s))
        · have c3:L≤s:=by simpa using c3
          have c3:s=L:=by omega
          rw[c3];refine zaB ?_;refine zas (zao 63 rfl rfl) ?_;refine zas (zaY rfl) ?_;refine zai Tk Tryz.func13 ?_;refine g_go Tk Tryz.func13 ?_;refine zah Tk Tryz.func13 (by exact⟨by show (A.length+1)*176≤140737488355328;omega,by show A.length+1≤9223372036854775807;omega⟩) ?_;refine zad ?_;refine ih (i+1) _ _ (by show i+1≤_;omega) (by omega) ⟨rfl,rfl,rfl,hj1,trivial⟩ rfl ⟨rfl,rfl,rfl,?_,trivial⟩ rfl rfl;rw[hsucc];show some (Ob.arr 87 9 (A.length+1) (A.map tplI++[tplI ⟨zbE 116 i,(List.range L).map (zbE 115),abc3,⟨al,L,ini,mk,vr,mo⟩⟩]) true)=_;simp[zx6]
      · have c2:¬i<3:=by have:¬(i:Int)<3:=of_decide_eq_false c2;omega
        rw[hend (by omega)];refine zaB ?_;refine zas (zao 69 rfl rfl) ?_;refine zas (zaY rfl) ?_;exact zaK (J trivial) ⟨rfl,rfl,rfl,trivial⟩ rfl ⟨rfl,rfl,rfl,trivial⟩ rfl rfl
    · have c1:kt.length≤i:=by simpa using c1
      rw[hend (by omega)];refine gcF Tk Tryz.func13 rfl ?_;refine zaB ?_;refine zas (zao 69 rfl rfl) ?_;refine zas (zaY rfl) ?_;exact zaK (J trivial) ⟨rfl,rfl,rfl,trivial⟩ rfl ⟨rfl,rfl,rfl,trivial⟩ rfl rfl
  intro _;have hTb:T.length≤3:=by omega
  clear hMT hTl ht htl;refine zai Tk Tryz.func13 ?_;refine g_go Tk Tryz.func13 ?_
  apply zb7 (P:=True) (s6:={ σ:=[(1,.own 0 1 0 0),(2,.own 0 2 0 0),(3,.own 0 3 0 0)],S:=[(1,.box (zeI ⟨kt,ki,kx,kb⟩)),(2,.box ze3),(3,.box [.i (strI ⟨#[109]⟩),.i (za1 evs4),.i (zcI T),.i (zbF CR.1),.i (zbF CR.2),.i (.v (.slice none 0 0)),.i (.v (.slice none 0 0))])]::O,n:=295})
  · intro J
    refine g_wk (zaE 3 155 107 3 (pre:=[.i (strI ⟨#[109]⟩),.i (za1 evs4),.i (zcI T)]) (post:=[.i (.v (.slice none 0 0)),.i (.v (.slice none 0 0)),.i (.v (.slice none 0 0))]) rfl rfl rfl) ?_;refine g_wk (zaE 3 172 107 3 (pre:=[.i (strI ⟨#[109]⟩),.i (za1 evs4),.i (zcI T),.osl 0 155]) (post:=[.i (.v (.slice none 0 0)),.i (.v (.slice none 0 0))]) rfl rfl rfl) ?_;refine zad ?_;refine zag (fun i:Nat=>[(1,.own 0 1 0 0),(2,.own 0 2 0 0),(3,.own 0 3 0 0),(8,ii i)])
      (fun i=>[(1,.box (zeI ⟨kt,ki,kx,kb⟩)),(2,.box ze3),(3,.box [.i (strI ⟨#[109]⟩),.i (za1 evs4),.i (zcI T),.osl 0 155,.osl 0 172,.i (.v (.slice none 0 0)),.i (.v (.slice none 0 0))]),(155,zcS (insN T.length ki i).1),(172,zcS (insN T.length ki i).2)]) (fun _=>O) 295
      (fun i=>i≤IC) (fun i=>IC-i) 0 (Nat.zero_le _) ⟨rfl,rfl,rfl,rfl,trivial⟩ rfl ⟨rfl,rfl,rfl,rfl,rfl,trivial⟩ rfl rfl ?_
    intro i hi ih;have hi:i≤IC:=hi;have hend:i=IC→insN T.length ki i=CR:=fun e=>by rw[e,hMI]
    have hlen:=zgy T.length ki i;refine zai Tk Tryz.func13 ?_;refine zaG Tk Tryz.func13 rfl (fun c1=>?_) (fun c1=>?_);rotate_left
    · have c1:ki.length≤i:=by simpa using c1
      rw[hend (by omega)];refine gkF Tk Tryz.func13 rfl ?_;refine gcF Tk Tryz.func13 rfl ?_;refine zaB ?_;refine zas (zao 155 rfl rfl) ?_;refine zas (zaY rfl) ?_;refine zas (zao 172 rfl rfl) ?_;refine zas (zaY rfl) ?_;exact zaK (J trivial) ⟨rfl,rfl,rfl,trivial⟩ rfl ⟨rfl,rfl,rfl,trivial⟩ rfl rfl
    have c1:i<ki.length:=by simpa using c1
    refine zaG Tk Tryz.func13 rfl (fun c2=>?_) (fun c2=>?_);rotate_left
    · have c2:¬i<5:=by have:¬(i:Int)<5:=of_decide_eq_false c2;omega
      rw[hend (by omega)];refine gcF Tk Tryz.func13 rfl ?_;refine zaB ?_;refine zas (zao 155 rfl rfl) ?_;refine zas (zaY rfl) ?_;refine zas (zao 172 rfl rfl) ?_;refine zas (zaY rfl) ?_;exact zaK (J trivial) ⟨rfl,rfl,rfl,trivial⟩ rfl ⟨rfl,rfl,rfl,trivial⟩ rfl rfl
    have c2:i<5:=by have:(i:Int)<5:=of_decide_eq_true c2;omega
    refine zaf Tk Tryz.func13 rfl (fun c3=>?_) (fun c3=>?_);rotate_left
    · have c3:T.length=0:=by simpa using c3
      rw[if_pos c3] at hICe;rw[hend (by omega)];refine zaB ?_;refine zas (zao 155 rfl rfl) ?_;refine zas (zaY rfl) ?_;refine zas (zao 172 rfl rfl) ?_;refine zas (zaY rfl) ?_;exact zaK (J trivial) ⟨rfl,rfl,rfl,trivial⟩ rfl ⟨rfl,rfl,rfl,trivial⟩ rfl rfl
    have c3:0<T.length:=by simpa using c3
    rw[if_neg (by omega)] at hICe;clear J hend;have gs:(ki.map useI)[(i:Int).toNat]? = some (useI ki[i]):=zal (f:=useI) c1;have hu:=huse ki[i] (List.getElem_mem c1);have hsucc:=ztm (nt:=T.length) c1;have hit:=hio i (by omega);have hsi:=hsz i (by omega);have hj1:ii (IntKind.i64.wrap ((i:Int)+1))=ii ((i+1:Nat):Int):=congrArg ii (zav (n:=1000001) (by omega) (by decide));generalize ki[i]=u at *;obtain⟨ut,uo,ur⟩:=u;simp only at hu;obtain⟨q,hq⟩:∃q:Nat,q=(ut%(T.length:Int)).toNat:=⟨_,rfl⟩;have hq1:=Int.emod_nonneg ut (show (T.length:Int)≠0 by omega);have hq2:=Int.emod_lt_of_pos ut (show 0<(T.length:Int) by omega);have hw:(IntKind.i64.wrap ut).tmod (T.length:Int)=(q:Int):=by
      rw[w64 (by omega) (by omega),Int.tmod_eq_emod_of_nonneg hu.1.1];omega
    have hit2:∀O,zbb g (ptab ty fr) Tryz.prog 27 [ii ((IntKind.i64.wrap ut).tmod (T.length:Int))] O (.i (.v (.string (zcN (q:Int))))) [] O:=by
      rw[hw];exact hio q (by omega)
    have hsq:=hsz q (by omega);unfold zqX zkJ at hsucc;simp only[←hq] at hsucc;have hxe:∀x∈(insN T.length ki i).1,x.evs.length≤1000000:=fun x hx=>by
      rw[zv7 T.length ki i x (List.mem_append_left _ hx)];decide
    generalize insN T.length ki i=CRi at *;refine zah Tk Tryz.func13 (by exact⟨by omega,by show (i:Int)<(ki.length:Int);omega⟩) ?_;refine zaq Tk Tryz.func13 (gs) ?_;refine zat Tk Tryz.func13 zax rfl ?_;refine zdR Tk hE (hit _) rfl rfl rfl rfl ?_;refine zar Tk (by show 1+(zcN (i:Int)).size≤9223372036854775807;omega) ?_;refine zar Tk (by show (T.length:Int)≠0;omega) ?_;refine zdR Tk hE (hit2 _) rfl rfl rfl rfl ?_;refine zar Tk (by show 1+(zcN (q:Int)).size≤9223372036854775807;omega) ?_;refine zcv Tk rfl rfl rfl ?_;refine zaA Tk Tryz.func13 (by kernel_rfl) ?_;clear hit hit2 hio;have hwo:IntKind.i64.wrap uo=uo:=w64 (by omega) (by omega);generalize hev:(ordS uo 3).1=ev at *;refine g_wk (zao 106 rfl rfl) ?_;refine g_wk (zaE 10 123 9 1 (pre:=[.i (strI (zbE 105 i)),.i (strI (zbE 116 q))]) (post:=[]) rfl rfl rfl) ?_;refine zad ?_
    refine zag (fun k:Nat=>[(1,.own 0 1 0 0),(2,.own 0 2 0 0),(3,.own 0 3 0 0),(8,ii i),(9,.own 0 9 0 0),(10,.own 0 10 0 0),(11,ssD (ordS uo k).2.1),(12,ii (ordS uo k).2.2),(13,ii (4-(k:Int)))])
      (fun k=>[(1,.box (zeI ⟨kt,ki,kx,kb⟩)),(2,.box ze3),(3,.box [.i (strI ⟨#[109]⟩),.i (za1 evs4),.i (zcI T),.osl 0 155,.osl 0 172,.i (.v (.slice none 0 0)),.i (.v (.slice none 0 0))]),(155,zcS CRi.1),(172,zcS CRi.2),
        (9,.box [.i (u8J ut),.i (u8J uo),.i (bI ur)]),(10,.box [.i (strI (zbE 105 i)),.i (strI (zbE 116 q)),.osl 0 123]),(123,oss (ordS uo k).1)]) (fun _=>O) 295
      (fun k=>k≤3) (fun k=>3-k) 0 (Nat.zero_le _) ⟨rfl,rfl,rfl,rfl,rfl,rfl,rfl,congrArg ii hwo,rfl,trivial⟩ rfl ⟨rfl,rfl,rfl,rfl,rfl,rfl,rfl,rfl,trivial⟩ rfl rfl ?_
    intro k hk ih2;have hk:k≤3:=hk;have hol:=zi7 uo hu.2 k hk;refine zai Tk Tryz.func13 ?_;refine zaf Tk Tryz.func13 rfl (fun c4=>?_) (fun c4=>?_)
    · have c4:k<3:=by have:(4:Int)-k>1:=of_decide_eq_true c4;omega
      have hS1:(ordS uo (k+1)).1=(ordS uo k).1++[(ordS uo k).2.1.getD ((ordS uo k).2.2%(4-(k:Int))).toNat ⟨#[]⟩]:=rfl;have hS2:(ordS uo (k+1)).2.1=(ordS uo k).2.1.take ((ordS uo k).2.2%(4-(k:Int))).toNat++(ordS uo k).2.1.drop (((ordS uo k).2.2%(4-(k:Int))).toNat+1):=rfl;have hS3:(ordS uo (k+1)).2.2=(ordS uo k).2.2/(4-(k:Int)):=rfl;generalize ordS uo k=W at *;obtain⟨out,l,a⟩:=W;simp only at hol hS1 hS2 hS3;obtain⟨o1,o2,o3,o4⟩:=hol;have hm1:=Int.emod_nonneg a (show 4-(k:Int)≠0 by omega);have hm2:=Int.emod_lt_of_pos a (show 0<4-(k:Int) by omega);have htm:a.tmod (4-(k:Int))=a%(4-(k:Int)):=Int.tmod_eq_emod_of_nonneg o3;obtain⟨j,hj⟩:∃j:Nat,(j:Int)=a%(4-(k:Int)):=⟨(a%(4-(k:Int))).toNat,by omega⟩;rw[←hj,Int.toNat_natCast] at hS1 hS2;have htj:a.tmod (4-(k:Int))=(j:Int):=by rw[htm,hj]
      have hjl:j<l.length:=by omega
      have gl:(l.map fun s=>[strI s])[(a.tmod (4-(k:Int))).toNat]? = some [strI (l.getD j ⟨#[]⟩)]:=by
        rw[htj,Int.toNat_natCast,List.getElem?_map,List.getD_eq_getElem?_getD,List.getElem?_eq_getElem hjl];rfl
      refine zat Tk Tryz.func13 zax rfl ?_;refine zar Tk (by show 4-(k:Int)≠0;omega) ?_;refine zar Tk (by exact⟨by show (0:Int)≤a.tmod (4-(k:Int));omega,by show a.tmod (4-(k:Int))<(l.length:Int);omega⟩) ?_;refine zay Tk (gl) ?_;refine zd8 Tk Tryz.func13 ([9,10,11]) (by kernel_rfl) (by kernel_rfl) ?_;refine zah Tk Tryz.func13 (by exact⟨by show (out.length+1)*16≤140737488355328;omega,by show out.length+1≤9223372036854775807;omega⟩) ?_;have hfr:=zxF l j;have hwj:IntKind.i64.wrap ((a.tmod (4-(k:Int)))+1)=((j+1:Nat):Int):=by rw[htj,w64 (by omega) (by omega)];omega
      have hdv:IntKind.i64.wrap (a.tdiv (4-(k:Int)))=a/(4-(k:Int)):=by
        rw[Int.tdiv_eq_ediv_of_nonneg o3];have h7:=Int.ediv_nonneg o3 (show 0≤4-(k:Int) by omega);have h8:=Int.ediv_le_self (4-(k:Int)) o3;exact w64 (by omega) (by omega)
      have hk1:IntKind.i64.wrap (4-(k:Int)-1)=4-((k+1:Nat):Int):=by rw[w64 (by omega) (by omega)];omega
      refine zat Tk Tryz.func13 zax rfl ?_;refine zar Tk (by show 4-(k:Int)≠0;omega) ?_;refine zar Tk (by exact⟨by show (0:Int)≤a.tmod (4-(k:Int));omega,by show a.tmod (4-(k:Int))≤(l.length:Int);omega⟩) ?_;refine zvy Tk ?_;refine zeD Tk (by exact⟨by show (0+(a.tmod (4-(k:Int))).toNat)*16≤140737488355328;omega,by show 0+(a.tmod (4-(k:Int))).toNat≤9223372036854775807;omega⟩) ?_;refine zmq Tk (p:=⟨[(131,.osl 0 131),(125,.dead)],[(131,.arr 9 1 (0+(a.tmod (4-(k:Int))).toNat) ([]++(l.map fun s=>[strI s]).take (a.tmod (4-(k:Int))).toNat) true)],some 125⟩) rfl rfl rfl ?_;refine zeD Tk (by show 4-(k:Int)≠0;omega) ?_;refine zeD Tk (by exact⟨by show (0:Int)≤IntKind.i64.wrap ((a.tmod (4-(k:Int)))+1);omega,by show IntKind.i64.wrap ((a.tmod (4-(k:Int)))+1)≤(l.length:Int);omega⟩) ?_
      refine zeD Tk (by exact⟨by show (0+(a.tmod (4-(k:Int))).toNat+(l.length-(IntKind.i64.wrap ((a.tmod (4-(k:Int)))+1)).toNat))*16≤140737488355328;omega,by show 0+(a.tmod (4-(k:Int))).toNat+(l.length-(IntKind.i64.wrap ((a.tmod (4-(k:Int)))+1)).toNat)≤9223372036854775807;omega⟩) ?_;refine zmq Tk (p:=⟨[(138,.osl 0 138),(131,.dead)],[(138,.arr 9 1 (0+(a.tmod (4-(k:Int))).toNat+(l.length-(IntKind.i64.wrap ((a.tmod (4-(k:Int)))+1)).toNat)) ([]++(l.map fun s=>[strI s]).take (a.tmod (4-(k:Int))).toNat++(l.map fun s=>[strI s]).drop (IntKind.i64.wrap ((a.tmod (4-(k:Int)))+1)).toNat) true)],some 131⟩) rfl rfl rfl ?_;refine zla Tk Tryz.func13 (by kernel_rfl) (GM.h ?_);refine zah Tk Tryz.func13 (by show 4-(k:Int)≠0;omega) ?_;refine zad ?_;refine zas (zao 138 rfl rfl) ?_
      refine ih2 (k+1) _ _ (by show k+1≤3;omega) (by omega) ⟨rfl,rfl,rfl,rfl,rfl,rfl,?_,?_,congrArg ii hk1,trivial⟩ rfl ⟨rfl,rfl,rfl,rfl,rfl,rfl,rfl,?_,trivial⟩ rfl rfl
      · show D.i (.sl 1 (0+(a.tmod (4-(k:Int))).toNat+(l.length-(IntKind.i64.wrap ((a.tmod (4-(k:Int)))+1)).toNat)) ([]++(l.map fun s=>[strI s]).take (a.tmod (4-(k:Int))).toNat++(l.map fun s=>[strI s]).drop (IntKind.i64.wrap ((a.tmod (4-(k:Int)))+1)).toNat))=ssD (ordS uo (k+1)).2.1
        rw[hS2,←hfr hjl,hwj,htj]
      · show ii (IntKind.i64.wrap (a.tdiv (4-(k:Int))))=ii (ordS uo (k+1)).2.2
        rw[hS3,hdv]
      · show some (Ob.arr 9 1 (out.length+1) (out.map (fun s=>[strI s])++[[strI (l.getD j ⟨#[]⟩)]]) true)=some (oss (ordS uo (k+1)).1)
        rw[hS1];exact congrArg some (za8 out _)
    · have c4:¬k<3:=by have:¬(4:Int)-k>1:=of_decide_eq_false c4;omega
      have hk3:k=3:=by omega
      subst hk3;rw[hev];refine zaB ?_;refine zas (zao 123 rfl rfl) ?_;refine zas (zaY rfl) ?_;refine zai Tk Tryz.func13 ?_;refine g_go Tk Tryz.func13 ?_;have hev3:ev.length=3:=by rw[←hev];exact (zi7 uo hu.2 3 (by decide)).1
      have hcov:=fun O=>zwC O CRi.1 ev (by omega) (by omega) hxe;clear ih2 hol hev
      apply zb7 (P:=¬(ur=false∧CRi.1.length<3)) (s6:={ σ:=[(1,.own 0 1 0 0),(2,.own 0 2 0 0),(3,.own 0 3 0 0),(8,ii i),(10,.own 0 10 0 0)],S:=[(1,.box (zeI ⟨kt,ki,kx,kb⟩)),(2,.box ze3),(3,.box [.i (strI ⟨#[109]⟩),.i (za1 evs4),.i (zcI T),.osl 0 155,.osl 0 172,.i (.v (.slice none 0 0)),.i (.v (.slice none 0 0))]),(155,zcS CRi.1),(172,zcS CRi.2),(10,.box [.i (strI (zbE 105 i)),.i (strI (zbE 116 q)),ssD ev])]::O,n:=295})
      · intro J
        refine zaG Tk Tryz.func13 rfl (fun d1=>?_) (fun d1=>?_)
        · have d1:ur=false:=by simpa using d1
          refine zaf Tk Tryz.func13 rfl (fun d2=>?_) (fun d2=>?_)
          · have d2:CRi.1.length<3:=by have:(CRi.1.length:Int)<3:=of_decide_eq_true d2;omega
            rw[if_pos ⟨d1,d2⟩] at hsucc;refine zah Tk Tryz.func13 (by exact⟨by show (CRi.1.length+1)*56≤140737488355328;omega,by show CRi.1.length+1≤9223372036854775807;omega⟩) ?_;refine zad ?_;refine ih (i+1) _ _ (by show i+1≤IC;omega) (by omega) ⟨rfl,rfl,rfl,hj1,trivial⟩ rfl ⟨rfl,rfl,rfl,?_,?_,trivial⟩ rfl rfl
            · show some (Ob.arr 107 3 (CRi.1.length+1) (CRi.1.map insI++[insI ⟨zbE 105 i,zbE 116 q,ev⟩]) true)=some (zcS (insN T.length ki (i+1)).1)
              rw[hsucc];simp[zcS]
            · show some (zcS CRi.2)=some (zcS (insN T.length ki (i+1)).2)
              rw[hsucc]
          · have d2:¬CRi.1.length<3:=by have:¬(CRi.1.length:Int)<3:=of_decide_eq_false d2;omega
            refine zaB ?_;exact zaK (J fun h=>d2 h.2) ⟨rfl,rfl,rfl,rfl,rfl,trivial⟩ rfl ⟨rfl,rfl,rfl,rfl,rfl,rfl,trivial⟩ rfl rfl
        · have d1:ur=true:=by simpa using d1
          refine gcF Tk Tryz.func13 rfl ?_;refine zaB ?_;exact zaK (J fun h=>by rw[d1] at h;cases h.1) ⟨rfl,rfl,rfl,rfl,rfl,trivial⟩ rfl ⟨rfl,rfl,rfl,rfl,rfl,rfl,trivial⟩ rfl rfl
      intro hP;rw[if_neg hP] at hsucc;refine zai Tk Tryz.func13 ?_;refine g_go Tk Tryz.func13 ?_;refine zb1 Tk Tryz.func13 rfl rfl rfl rfl (zbu (hcov []) (zex _) (.osl (.i .nil)) rfl (show 161<295 by decide) rfl rfl) ?_;generalize covB CRi.1 ev=cb at *;refine zaG Tk Tryz.func13 rfl (fun d1=>?_) (fun d1=>?_)
      · have d1:cb=true:=d1
        refine zaf Tk Tryz.func13 rfl (fun d2=>?_) (fun d2=>?_)
        · have d2:CRi.2.length<2:=by have:(CRi.2.length:Int)<2:=of_decide_eq_true d2;omega
          rw[if_pos ⟨d1,d2⟩] at hsucc;refine zah Tk Tryz.func13 (by exact⟨by show (CRi.2.length+1)*56≤140737488355328;omega,by show CRi.2.length+1≤9223372036854775807;omega⟩) ?_;refine zad ?_;refine ih (i+1) _ _ (by show i+1≤IC;omega) (by omega) ⟨rfl,rfl,rfl,hj1,trivial⟩ rfl ⟨rfl,rfl,rfl,?_,?_,trivial⟩ rfl rfl
          · show some (zcS CRi.1)=some (zcS (insN T.length ki (i+1)).1)
            rw[hsucc]
          · show some (Ob.arr 107 3 (CRi.2.length+1) (CRi.2.map insI++[insI ⟨zbE 105 i,zbE 116 q,ev⟩]) true)=some (zcS (insN T.length ki (i+1)).2)
            rw[hsucc];simp[zcS]
        · have d2:¬CRi.2.length<2:=by have:¬(CRi.2.length:Int)<2:=of_decide_eq_false d2;omega
          rw[if_neg (fun h=>d2 h.2)] at hsucc;refine zad ?_;refine ih (i+1) _ _ (by show i+1≤IC;omega) (by omega) ⟨rfl,rfl,rfl,hj1,trivial⟩ rfl ⟨rfl,rfl,rfl,?_,?_,trivial⟩ rfl rfl
          · show some (zcS CRi.1)=some (zcS (insN T.length ki (i+1)).1)
            rw[hsucc]
          · show some (zcS CRi.2)=some (zcS (insN T.length ki (i+1)).2)
            rw[hsucc]
      · have d1:cb=false:=d1
        rw[if_neg (fun h=>by rw[d1] at h;cases h.1)] at hsucc;refine gcF Tk Tryz.func13 rfl ?_;refine zad ?_;refine ih (i+1) _ _ (by show i+1≤IC;omega) (by omega) ⟨rfl,rfl,rfl,hj1,trivial⟩ rfl ⟨rfl,rfl,rfl,?_,?_,trivial⟩ rfl rfl
        · show some (zcS CRi.1)=some (zcS (insN T.length ki (i+1)).1)
          rw[hsucc]
        · show some (zcS CRi.2)=some (zcS (insN T.length ki (i+1)).2)
          rw[hsucc]
  intro _;have hCl:=zgy T.length ki IC;rw[←hMI] at hCl;clear hMI hIC hICe huse hil;obtain⟨C,Q⟩:=CR;simp only at hCl hR htpl;refine zai Tk Tryz.func13 ?_;refine g_go Tk Tryz.func13 ?_;refine zaf Tk Tryz.func13 rfl (fun z1=>?_) (fun z1=>?_)
  · have z1:C.length=0:=by simpa using z1
    rw[if_pos z1] at hR;subst hR;refine zaD Tk (r:=.agg [.i (strI ⟨#[109]⟩),.i (za1 evs4),.i (zcI T),.i (zbF C),.i (zbF Q),.i (.v (.slice none 0 0)),.i (.v (.slice none 0 0))]) rfl rfl rfl trivial rfl rfl ?_
    repeat' (first|refine zbT ?_|refine zbB ?_|refine zcy ?_|refine CoDL.cons ?_ ?_|exact CoDL.nil|exact zbd|refine zcz ?_|refine CoLL.cons ?_ ?_|exact CoLL.nil|refine CoL.cons ?_ ?_|exact CoL.nil|exact CoI.refl _|exact CoL.refl _|exact CoLL.refl _|exact CoDL.refl _|exact CoD.refl _)
  have z1:¬C.length=0:=by simpa using z1
  rw[if_neg z1] at hR;have hCb:0<C.length∧C.length≤3:=by omega
  apply zb7 (P:=True) (s6:={ σ:=[(1,.own 0 1 0 0),(2,.own 0 2 0 0),(3,.own 0 3 0 0)],S:=[(1,.box (zeI ⟨kt,ki,kx,kb⟩)),(2,.box ze3),(3,.box [.i (strI ⟨#[109]⟩),.i (za1 evs4),.i (zcI T),.i (zbF C),.i (zbF Q),.i (zjd (zeV T C kx (min kx.length 2))),.i (.v (.slice none 0 0))])]::O,n:=295})
  · intro J
    refine g_wk (zaE 3 256 91 2 (pre:=[.i (strI ⟨#[109]⟩),.i (za1 evs4),.i (zcI T),.i (zbF C),.i (zbF Q)]) (post:=[.i (.v (.slice none 0 0))]) rfl rfl rfl) ?_;refine zad ?_;refine zag (fun i:Nat=>[(1,.own 0 1 0 0),(2,.own 0 2 0 0),(3,.own 0 3 0 0),(14,ii i)])
      (fun i=>[(1,.box (zeI ⟨kt,ki,kx,kb⟩)),(2,.box ze3),(3,.box [.i (strI ⟨#[109]⟩),.i (za1 evs4),.i (zcI T),.i (zbF C),.i (zbF Q),.osl 0 256,.i (.v (.slice none 0 0))]),(256,zi8 (zeV T C kx i))]) (fun _=>O) 295
      (fun i=>i≤min kx.length 2) (fun i=>min kx.length 2-i) 0 (Nat.zero_le _) ⟨rfl,rfl,rfl,rfl,trivial⟩ rfl ⟨rfl,rfl,rfl,rfl,trivial⟩ rfl rfl ?_
    intro i hi ih;have hi:i≤min kx.length 2:=hi;have hend:i=min kx.length 2→zeV T C kx i=zeV T C kx (min kx.length 2):=fun e=>by rw[e]
    have hlen:=ztP T C kx i;refine zai Tk Tryz.func13 ?_;refine zaG Tk Tryz.func13 rfl (fun c1=>?_) (fun c1=>?_);rotate_left
    · have c1:kx.length≤i:=by simpa using c1
      rw[hend (by omega)];refine gcF Tk Tryz.func13 rfl ?_;refine zaB ?_;refine zas (zao 256 rfl rfl) ?_;refine zas (zaY rfl) ?_;exact zaK (J trivial) ⟨rfl,rfl,rfl,trivial⟩ rfl ⟨rfl,rfl,rfl,trivial⟩ rfl rfl
    have c1:i<kx.length:=by simpa using c1
    refine zaf Tk Tryz.func13 rfl (fun c2=>?_) (fun c2=>?_);rotate_left
    · have c2:¬i<2:=by have:¬(i:Int)<2:=of_decide_eq_false c2;omega
      rw[hend (by omega)];refine zaB ?_;refine zas (zao 256 rfl rfl) ?_;refine zas (zaY rfl) ?_;exact zaK (J trivial) ⟨rfl,rfl,rfl,trivial⟩ rfl ⟨rfl,rfl,rfl,trivial⟩ rfl rfl
    have c2:i<2:=by have:(i:Int)<2:=of_decide_eq_true c2;omega
    clear J hend;have gs:(kx.map whrI)[(i:Int).toNat]? = some (whrI kx[i]):=zal (f:=whrI) c1;have hwo:=he kx[i] (List.getElem_mem c1);have hsucc:=zq4 (T:=T) (C:=C) c1;unfold zww at hsucc;have hit:=hio i (by omega);have hsi:=hsz i (by omega);have hj1:ii (IntKind.i64.wrap ((i:Int)+1))=ii ((i+1:Nat):Int):=congrArg ii (zav (n:=1000001) (by omega) (by decide));generalize kx[i]=w at *;obtain⟨⟨wc,wl⟩,⟨vc,vl⟩⟩:=w;simp only at hwo hsucc;obtain⟨x,t,s,g1,g2,g3,g4,g5,g6,g7⟩:=ztQ hTloc htpl hCb hwo.1;obtain⟨x',t',s',f1,f2,f3,f4,f5,f6,f7⟩:=ztQ hTloc htpl hCb hwo.2;rw[g7 []] at hsucc;simp only[Bool.false_eq_true,if_false,List.nil_append] at hsucc;rw[f7] at hsucc;simp only at hsucc;have hto:=fun O=>ze8 O ⟨⟨#[109]⟩,evs4,T,C,Q,[],[]⟩ 0 256 x t (by show T.length≤1000000;omega) g3
    have hto':=fun O=>ze8 O ⟨⟨#[109]⟩,evs4,T,C,Q,[],[]⟩ 0 256 x' t' (by show T.length≤1000000;omega) f3;clear g7 f7 g3 f3;generalize zeV T C kx i=A at *;obtain⟨xn,xt,xe⟩:=x;obtain⟨yn,yt,ye⟩:=x';obtain⟨tn,tl,te,⟨tal,tlo,tini,tmk,tvr,tmo⟩⟩:=t;obtain⟨un,ul,ue,⟨ual,ulo,uini,umk,uvr,umo⟩⟩:=t';simp only at hsucc g4 g5 g6 f4 f5 f6;refine zba Tk Tryz.func13 hE (hit _) rfl rfl rfl rfl rfl rfl ?_;refine zah Tk Tryz.func13 (by show 1+(zcN (i:Int)).size≤9223372036854775807;omega) ?_;refine g_wk (zaE 15 250 103 2 (pre:=[.i (strI (zbE 120 i))]) (post:=[]) rfl rfl rfl) ?_;refine zad ?_
    refine zas (zc9 (l:=[(1,.own 0 1 0 0),(2,.own 0 2 0 0),(3,.own 0 3 0 0),(14,ii i),(15,.own 0 15 0 0),(16,ii 0)]) (Hv:=[(1,.box (zeI ⟨kt,ki,kx,kb⟩)),(2,.box ze3),(3,.box [.i (strI ⟨#[109]⟩),.i (za1 evs4),.i (zcI T),.i (zbF C),.i (zbF Q),.osl 0 256,.i (.v (.slice none 0 0))]),(256,zi8 A),(15,.box [.i (strI (zbE 120 i)),.osl 0 250]),(250,zvU [])]) ⟨rfl,rfl,rfl,rfl,rfl,rfl,trivial⟩ rfl ⟨rfl,rfl,rfl,rfl,rfl,rfl,trivial⟩ rfl rfl) ?_;refine zai Tk Tryz.func13 ?_;refine gcT Tk Tryz.func13 rfl ?_;refine zah Tk Tryz.func13 (by exact⟨by omega,by show (i:Int)<(kx.length:Int);omega⟩) ?_;refine zah Tk Tryz.func13 (by decide) ?_;refine zaq Tk Tryz.func13 (gs) ?_;refine zat Tk Tryz.func13 zax rfl ?_;refine zar Tk (by show (C.length:Int)≠0;omega) ?_;refine zar Tk (by exact g2) ?_;refine zay Tk (g1) ?_;refine zcv Tk rfl rfl rfl ?_;refine zaA Tk Tryz.func13 (by kernel_rfl) ?_
    refine zat Tk Tryz.func13 zax rfl ?_;refine skF Tk ?_;refine zaA Tk Tryz.func13 (by kernel_rfl) ?_;refine gcF Tk Tryz.func13 rfl ?_;refine zak Tk Tryz.func13 (hto _) rfl rfl rfl rfl rfl ?_;refine zat Tk Tryz.func13 zax rfl ?_;refine zar Tk (by show (tl.length:Int)≠0;omega) ?_;refine zar Tk (by exact g6) ?_;refine zay Tk (g5) ?_;refine zd8 Tk Tryz.func13 ([17,18,19]) (by kernel_rfl) (by kernel_rfl) ?_;refine zah Tk Tryz.func13 (by decide) ?_;refine zad ?_
    refine zas (zc9 (l:=[(1,.own 0 1 0 0),(2,.own 0 2 0 0),(3,.own 0 3 0 0),(14,ii i),(15,.own 0 15 0 0),(16,ii 1)]) (Hv:=[(1,.box (zeI ⟨kt,ki,kx,kb⟩)),(2,.box ze3),(3,.box [.i (strI ⟨#[109]⟩),.i (za1 evs4),.i (zcI T),.i (zbF C),.i (zbF Q),.osl 0 256,.i (.v (.slice none 0 0))]),(256,zi8 A),(15,.box [.i (strI (zbE 120 i)),.osl 0 250]),(250,zvU [(xn,s)])]) ⟨rfl,rfl,rfl,rfl,rfl,rfl,trivial⟩ rfl ⟨rfl,rfl,rfl,rfl,rfl,rfl,trivial⟩ rfl rfl) ?_;refine zai Tk Tryz.func13 ?_;refine gcT Tk Tryz.func13 rfl ?_;refine zah Tk Tryz.func13 (by exact⟨by omega,by show (i:Int)<(kx.length:Int);omega⟩) ?_;refine zah Tk Tryz.func13 (by decide) ?_;refine zaq Tk Tryz.func13 (gs) ?_;refine zat Tk Tryz.func13 zax rfl ?_;refine zar Tk (by show (C.length:Int)≠0;omega) ?_;refine zar Tk (by exact f2) ?_;refine zay Tk (f1) ?_;refine zcv Tk rfl rfl rfl ?_
    refine zaA Tk Tryz.func13 (by kernel_rfl) ?_;refine zat Tk Tryz.func13 zax rfl ?_;refine skT Tk ?_;refine zar Tk (by exact⟨Int.le_refl _,Int.zero_lt_one⟩) ?_;refine zay Tk (rfl) ?_;refine zaA Tk Tryz.func13 (by kernel_rfl) ?_;refine zaf Tk Tryz.func13 rfl (fun e1=>?_) (fun e1=>?_)
    · have e1:(xn.toList==yn.toList)=true:=e1
      rw[zaV] at e1;rw[if_pos e1] at hsucc;refine zad ?_;refine zas (zc9 (l:=[(1,.own 0 1 0 0),(2,.own 0 2 0 0),(3,.own 0 3 0 0),(14,ii i),(15,.own 0 15 0 0),(16,ii 2)]) (Hv:=[(1,.box (zeI ⟨kt,ki,kx,kb⟩)),(2,.box ze3),(3,.box [.i (strI ⟨#[109]⟩),.i (za1 evs4),.i (zcI T),.i (zbF C),.i (zbF Q),.osl 0 256,.i (.v (.slice none 0 0))]),(256,zi8 A),(15,.box [.i (strI (zbE 120 i)),.osl 0 250]),(250,zvU [(xn,s)])]) ⟨rfl,rfl,rfl,rfl,rfl,rfl,trivial⟩ rfl ⟨rfl,rfl,rfl,rfl,rfl,rfl,trivial⟩ rfl rfl) ?_;refine zai Tk Tryz.func13 ?_;refine gcF Tk Tryz.func13 rfl ?_;refine zaB ?_;refine zas (zao 250 rfl rfl) ?_;refine zas (zaY rfl) ?_;refine zai Tk Tryz.func13 ?_;refine g_go Tk Tryz.func13 ?_;refine zah Tk Tryz.func13 (by exact⟨by show (A.length+1)*40≤140737488355328;omega,by show A.length+1≤9223372036854775807;omega⟩) ?_;refine zad ?_
      refine ih (i+1) _ _ (by show i+1≤_;omega) (by omega) ⟨rfl,rfl,rfl,hj1,trivial⟩ rfl ⟨rfl,rfl,rfl,?_,trivial⟩ rfl rfl;show some (Ob.arr 91 2 (A.length+1) (A.map nexI++[nexI ⟨zbE 120 i,[(xn,s)]⟩]) true)=some (zi8 (zeV T C kx (i+1)));rw[hsucc];simp[zi8]
    · have e1:(xn.toList==yn.toList)=false:=e1
      rw[zaV] at e1;rw[if_neg (zhd e1)] at hsucc;refine zak Tk Tryz.func13 (hto' _) rfl rfl rfl rfl rfl ?_;refine zat Tk Tryz.func13 zax rfl ?_;refine zar Tk (by show (ul.length:Int)≠0;omega) ?_;refine zar Tk (by exact f6) ?_;refine zay Tk (f5) ?_;refine zd8 Tk Tryz.func13 ([17,18,19]) (by kernel_rfl) (by kernel_rfl) ?_;refine zah Tk Tryz.func13 (by exact⟨by show (1+1)*32≤140737488355328;decide,by show 1+1≤9223372036854775807;decide⟩) ?_;refine zad ?_
      refine zas (zc9 (l:=[(1,.own 0 1 0 0),(2,.own 0 2 0 0),(3,.own 0 3 0 0),(14,ii i),(15,.own 0 15 0 0),(16,ii 2)]) (Hv:=[(1,.box (zeI ⟨kt,ki,kx,kb⟩)),(2,.box ze3),(3,.box [.i (strI ⟨#[109]⟩),.i (za1 evs4),.i (zcI T),.i (zbF C),.i (zbF Q),.osl 0 256,.i (.v (.slice none 0 0))]),(256,zi8 A),(15,.box [.i (strI (zbE 120 i)),.osl 0 250]),(250,zvU [(xn,s),(yn,s')])]) ⟨rfl,rfl,rfl,rfl,rfl,rfl,trivial⟩ rfl ⟨rfl,rfl,rfl,rfl,rfl,rfl,trivial⟩ rfl rfl) ?_;refine zai Tk Tryz.func13 ?_;refine gcF Tk Tryz.func13 rfl ?_;refine zaB ?_;refine zas (zao 250 rfl rfl) ?_;refine zas (zaY rfl) ?_;refine zai Tk Tryz.func13 ?_;refine g_go Tk Tryz.func13 ?_;refine zah Tk Tryz.func13 (by exact⟨by show (A.length+1)*40≤140737488355328;omega,by show A.length+1≤9223372036854775807;omega⟩) ?_;refine zad ?_
      refine ih (i+1) _ _ (by show i+1≤_;omega) (by omega) ⟨rfl,rfl,rfl,hj1,trivial⟩ rfl ⟨rfl,rfl,rfl,?_,trivial⟩ rfl rfl;show some (Ob.arr 91 2 (A.length+1) (A.map nexI++[nexI ⟨zbE 120 i,[(xn,s),(yn,s')]⟩]) true)=some (zi8 (zeV T C kx (i+1)));rw[hsucc];simp[zi8]
  intro _;clear hTloc htpl he hel hsz hio;generalize zeV T C kx (min kx.length 2)=X at *;refine zai Tk Tryz.func13 ?_;refine g_go Tk Tryz.func13 ?_;refine zaf Tk Tryz.func13 rfl (fun b1=>?_) (fun b1=>?_);rotate_left
  · have b1:¬kb>0:=by simpa using b1
    rw[if_neg b1] at hR;subst hR;refine zaB ?_;refine zai Tk Tryz.func13 ?_;refine g_go Tk Tryz.func13 ?_;refine zaD Tk (r:=.agg [.i (strI ⟨#[109]⟩),.i (za1 evs4),.i (zcI T),.i (zbF C),.i (zbF Q),.i (zjd X),.i (.v (.slice none 0 0))]) rfl rfl rfl trivial rfl rfl ?_
    repeat' (first|refine zbT ?_|refine zbB ?_|refine zcy ?_|refine CoDL.cons ?_ ?_|exact CoDL.nil|exact zbd|refine zcz ?_|refine CoLL.cons ?_ ?_|exact CoLL.nil|refine CoL.cons ?_ ?_|exact CoL.nil|exact CoI.refl _|exact CoL.refl _|exact CoLL.refl _|exact CoDL.refl _|exact CoD.refl _)
  have b1:kb>0:=by simpa using b1
  rw[if_pos b1] at hR;unfold zzL at hR;have hkb:IntKind.i64.wrap (kb.tmod 5)=kb%5:=by rw[Int.tmod_eq_emod_of_nonneg (by omega),w64 (by omega) (by omega)]
  have hn1:IntKind.i64.wrap ((C.length:Int)-1)=(C.length:Int)-1:=w64 (by omega) (by omega);refine zah Tk Tryz.func13 (by decide) ?_;refine g_wk (zaE 20 286 93 2 (pre:=[.i (strI ⟨#[99]⟩)]) (post:=[ii (IntKind.i64.wrap (kb.tmod 5))]) rfl rfl rfl) ?_;refine zad ?_;refine zag (fun r:Nat=>[(1,.own 0 1 0 0),(2,.own 0 2 0 0),(3,.own 0 3 0 0),(20,.own 0 20 0 0),(21,ii ((C.length:Int)-1-r))])
    (fun r=>[(1,.box (zeI ⟨kt,ki,kx,kb⟩)),(2,.box ze3),(3,.box [.i (strI ⟨#[109]⟩),.i (za1 evs4),.i (zcI T),.i (zbF C),.i (zbF Q),.i (zjd X),.i (.v (.slice none 0 0))]),(20,.box [.i (strI ⟨#[99]⟩),.osl 0 286,ii (IntKind.i64.wrap (kb.tmod 5))]),(286,zx9 ((zcU C).take r))]) (fun _=>O) 295
    (fun r=>r≤C.length) (fun r=>C.length-r) 0 (Nat.zero_le _) ⟨rfl,rfl,rfl,rfl,by rw[show (C.length:Int)-1-((0:Nat):Int)=(C.length:Int)-1 by omega];exact congrArg ii hn1,trivial⟩ rfl ⟨rfl,rfl,rfl,rfl,rfl,trivial⟩ rfl rfl ?_
  intro r hr ih;have hr:r≤C.length:=hr;refine zai Tk Tryz.func13 ?_;refine zaf Tk Tryz.func13 rfl (fun c1=>?_) (fun c1=>?_)
  · have c1:(C.length:Int)-1-r≥0:=of_decide_eq_true c1
    have c1:r<C.length:=by omega
    have gs:(C.map insI)[((C.length:Int)-1-r).toNat]? = some (insI C[C.length-1-r]):=by
      rw[show ((C.length:Int)-1-r)=((C.length-1-r:Nat):Int) by omega];exact zal (f:=insI) (by omega)
    have ht:=zlD c1;have hll:((zcU C).take r).length≤3:=by
      rw[List.length_take,zee];omega
    have hw1:IntKind.i64.wrap (1+((C.length:Int)-1-r))=1+((C.length-1-r:Nat):Int):=by rw[w64 (by omega) (by omega)];omega
    have hw2:ii (IntKind.i64.wrap ((C.length:Int)-1-r-1))=ii ((C.length:Int)-1-((r+1:Nat):Int)):=by
      rw[w64 (by omega) (by omega),show (C.length:Int)-1-r-1=(C.length:Int)-1-((r+1:Nat):Int) by omega]
    generalize (zcU C).take r=A at *;generalize C[C.length-1-r]=x at *;obtain⟨xn,xt,xe⟩:=x;simp only at ht;refine zat Tk Tryz.func13 zax rfl ?_;refine zar Tk (by exact⟨by omega,by show (C.length:Int)-1-r<(C.length:Int);omega⟩) ?_;refine zay Tk (gs) ?_;refine zd8 Tk Tryz.func13 ([12,13,14]) (by kernel_rfl) (by kernel_rfl) ?_;refine zah Tk Tryz.func13 (by exact⟨by show (A.length+1)*24≤140737488355328;omega,by show A.length+1≤9223372036854775807;omega⟩) ?_;refine zad ?_;refine ih (r+1) _ _ c1 (by omega) ⟨rfl,rfl,rfl,rfl,hw2,trivial⟩ rfl ⟨rfl,rfl,rfl,rfl,?_,trivial⟩ rfl rfl;show some (Ob.arr 93 2 (A.length+1) (A.map ntmI++[ntmI (xn,IntKind.i64.wrap (1+((C.length:Int)-1-r)))]) true)=some (zx9 ((zcU C).take (r+1)));rw[ht,hw1];simp[zx9]
  · have c1:¬(C.length:Int)-1-r≥0:=of_decide_eq_false c1
    have hrC:(zcU C).take r=zcU C:=List.take_of_length_le (by rw[zee];omega);rw[hrC];refine zaB ?_;refine zas (zao 286 rfl rfl) ?_;refine zas (zaY rfl) ?_;refine zas (zaE 3 292 96 3 (pre:=[.i (strI ⟨#[109]⟩),.i (za1 evs4),.i (zcI T),.i (zbF C),.i (zbF Q),.i (zjd X)]) (post:=[]) rfl rfl rfl) ?_;refine zai Tk Tryz.func13 ?_;refine g_go Tk Tryz.func13 ?_;refine zah Tk Tryz.func13 (by decide) ?_;refine zaB ?_;refine zas (zao 292 rfl rfl) ?_;refine zas (zaY rfl) ?_;refine zai Tk Tryz.func13 ?_;refine g_go Tk Tryz.func13 ?_;refine zaj Tk (r:=mdlD ⟨⟨#[109]⟩,evs4,T,C,Q,X,[⟨⟨#[99]⟩,zcU C,IntKind.i64.wrap (kb.tmod 5)⟩]⟩) rfl rfl rfl trivial rfl rfl ?_;rw[hkb];exact congrArg mdlD hR
mutual
def esz:Ex→Nat
 |.mk _ _ _ args=>1+eszs args
def eszs:List Ex→Nat
 |[]=>0
 |e::r=>esz e+eszs r
end
mutual
def edep:Ex→Nat
 |.mk _ _ _ args=>1+zmn args
def zmn:List Ex→Nat
 |[]=>0
 |e::r=>max (edep e) (zmn r)
end
mutual
theorem zoA:∀(x:Ex) (n:Int) (lvl c:Nat),wfE n x→c+esz x≤64→lvl+edep x≤9→zcx x n lvl c=(0,((c+esz x:Nat):Int))
 |.mk op v ix args,n,lvl,c,hw,hc,hl=>by
  simp only[esz] at hc ⊢;simp only[edep] at hl;simp only[wfE] at hw;simp only[zcx];rw[if_neg (by omega),if_neg (by rw[hw.1];simp)];have:=zkU args n (lvl+1) (c+1) hw.2 (by omega) (by omega);rw[show ((lvl:Int)+1)=((lvl+1:Nat):Int) by omega,show ((c:Int)+1)=((c+1:Nat):Int) by omega,this];rw[show c+(1+eszs args)=c+1+eszs args by omega]
theorem zkU:∀(l:List Ex) (n:Int) (lvl c:Nat),wfEs n l→c+eszs l≤64→lvl+zmn l≤9→zcZ l n lvl c=(0,((c+eszs l:Nat):Int))
 |[],n,lvl,c,_,_,_=>rfl
 |e::r,n,lvl,c,hw,hc,hl=>by
  simp only[eszs] at hc ⊢;simp only[zmn] at hl;simp only[wfEs] at hw;simp only[zcZ];have h1:=zoA e n lvl c hw.1 (by omega) (by omega);rw[h1];simp only[ne_eq,not_true_eq_false,if_false];rw[zkU r n lvl (c+esz e) hw.2 (by omega) (by omega)];rw[show c+(esz e+eszs r)=c+esz e+eszs r by omega]
end
mutual
theorem ztT:∀(x:Ex) (n:Int),wfE n x→exOk x
 |.mk op v ix args,n,h=>by
  simp only[wfE] at h;obtain⟨_,h2,_⟩:=zb9 h.1;have:=zgH op;exact⟨by simp only[zap];omega,zoK args n h.2⟩
theorem zoK:∀(l:List Ex) (n:Int),wfEs n l→zk5 l
 |[],_,_=>trivial
 |e::r,n,h=>by
  simp only[wfEs] at h;exact⟨ztT e n h.1,zoK r n h.2⟩
end
theorem znX {x:Ex} {n k:Int} (hn:0≤n) (hn2:n≤16) (hw:wfE n x) (hs:esz x≤64) (hd:edep x≤8) (hk:zbh x=k) (hk0:k≠0):zbn x n k=0:=by
 have h1:=zoA x n 1 0 hw (by omega) (by omega);have h2:zcc x n=(k,0):=by
  unfold zcc;have h1':zcx x n 1 0=(0,((0+esz x:Nat):Int)):=h1;rw[if_neg (by omega),h1'];rw[if_neg (by simp),if_neg (by rw[hk];exact hk0),hk]
 unfold zbn;rw[h2,if_neg (by simp)]
theorem fh2 {op n:Int} (h:op=2∨op=3∨op=4∨op=6∨op=7∨op=8∨op=9∨op=11∨op=12):zaX op 0 0 2 n=0:=by
 rcases h with rfl|rfl|rfl|rfl|rfl|rfl|rfl|rfl|rfl<;>rfl
theorem fh1 {op n:Int} (h:op=5∨op=10):zaX op 0 0 1 n=0:=by
 rcases h with rfl|rfl<;>rfl
theorem fh3 {n:Int}:zaX 13 0 0 3 n=0:=rfl
structure grown (vars:Int) (lv:Nat) (t:Bool) (k:Nat) (r:Ex×List Int×Nat):Prop where
 wf:wfE vars r.1
 kind:zbh r.1=tyOf t
 dep:edep r.1≤lv+2
 cnt:k<r.2.2
 sz:esz r.1+3*min k 12≤3*min r.2.2 12+(if 12≤k then 3 else if r.2.2≤12 then 0 else 6*lv+3)
theorem ziU (t:Bool):tyOf t≠0:=by cases t<;>decide
theorem zz3 {op:Int} {a:Ex} {t:Bool} {ka:Int} (ha:zbh a=ka) (h0:ka≠0) (hk:zb3 op [ka]=tyOf t):zbh (.mk op 0 0 [a])=tyOf t:=by
 simp only[zbh,za7,ha,if_neg h0,Option.map_some];exact hk
theorem zz2 {op:Int} {a b:Ex} {t:Bool} {ka:Int} (ha:zbh a=ka) (hb:zbh b=ka) (h0:ka≠0) (hk:zb3 op [ka,ka]=tyOf t):zbh (.mk op 0 0 [a,b])=tyOf t:=by
 simp only[zbh,za7,ha,hb,if_neg h0,Option.map_some];exact hk
theorem zz1 {a b c:Ex} {t:Bool} (ha:zbh a=2) (hb:zbh b=tyOf t) (hc:zbh c=tyOf t):zbh (.mk 13 0 0 [a,b,c])=tyOf t:=by
 simp only[zbh,za7,ha,hb,hc,if_neg (ziU t),Option.map_some]
 cases t<;>rfl
theorem zep {vars b:Int} (hv:0≤vars) (hb:bytG b):wfE vars (zgo vars b)∧zbh (zgo vars b)=1∧edep (zgo vars b)=1∧esz (zgo vars b)=1:=by
 have:=hb.h0;have:=hb.h1;unfold zgo
 split
 ·rename_i h;have h1:=Int.emod_nonneg (b/8) (show vars≠0 by omega);have h2:=Int.emod_lt_of_pos (b/8) h.2;refine⟨⟨?_,trivial⟩,rfl,rfl,rfl⟩;show zaX 1 0 (b/8%vars) 0 vars=0;unfold zaX;rw[if_neg (by decide),if_neg (by decide),if_neg (by simp),if_neg (by omega)]
 ·refine⟨⟨?_,trivial⟩,rfl,rfl,rfl⟩;show zaX 0 (b/8-8) 0 0 vars=0;unfold zaX;rw[if_neg (by decide),if_neg (by decide),if_neg (by simp),if_neg (by omega)]
theorem zlB {vars:Int} (t:Bool):wfE vars (zgb t)∧zbh (zgb t)=2∧edep (zgb t)=2∧esz (zgb t)=3:=by
 cases t
 ·exact⟨⟨rfl,⟨rfl,trivial⟩,⟨rfl,trivial⟩,trivial⟩,rfl,rfl,rfl⟩
 ·exact⟨⟨rfl,⟨rfl,trivial⟩,⟨rfl,trivial⟩,trivial⟩,rfl,rfl,rfl⟩
theorem zkQ {vars:Int} {lv:Nat} {bs:List Int} {k:Nat} (h:12≤k):zam vars lv true bs k=(zgo vars (b0 bs),bs.tail,k+1):=by
 cases lv with
 |zero=>simp only[zam]
 |succ lv=>simp only[zam];rw[if_pos (by omega)]
theorem zwi {vars:Int} (hv:0≤vars):∀(lv:Nat) (t:Bool) (bs:List Int) (k:Nat),zcA bs→grown vars lv t k (zam vars lv t bs k):=by
 intro lv
 induction lv with
 |zero=>
  intro t bs k hb;have hby:bytG (b0 bs):=⟨(zfF hb).1,(zfF hb).2⟩
  cases t with
  |true=>
   obtain⟨a,b,c,d⟩:=zep hv hby;simp only[zam];exact⟨a,b,by simp only;omega,by simp only;omega,by simp only;split<;>(try split)<;>omega⟩
  |false=>
   obtain⟨a,b,c,d⟩:=zlB (vars:=vars) (decide (b0 bs%2=0));simp only[zam];exact⟨a,b,by simp only;omega,by simp only;omega,by simp only;split<;>(try split)<;>omega⟩
 |succ lv ih=>
  intro t bs k hb;have hby:bytG (b0 bs):=⟨(zfF hb).1,(zfF hb).2⟩;have hbt:=zcn hb;have ok:=zjt vars lv;have q3:b0 bs/8%3=0∨b0 bs/8%3=1∨b0 bs/8%3=2:=by omega
  have q4:b0 bs/8%4=0∨b0 bs/8%4=1∨b0 bs/8%4=2∨b0 bs/8%4=3:=by omega
  have q2:b0 bs/8%2=0∨b0 bs/8%2=1:=by omega
  have one:∀(t2:Bool) (op:Int),op=5∨op=10→k<12→zb3 op [tyOf t2]=tyOf t→grown vars (lv+1) t k (.mk op 0 0 [(zam vars lv t2 bs.tail (k+1)).1],(zam vars lv t2 bs.tail (k+1)).2):=by
   intro t2 op hop hk hkind;have h1:=ih t2 bs.tail (k+1) hbt;have hsz:=h1.sz;have hcn:=h1.cnt;have hdp:=h1.dep;refine⟨⟨fh1 hop,h1.wf,trivial⟩,zz3 h1.kind (ziU _) hkind,?_,by simp only;omega,?_⟩
   ·simp only[edep,zmn];omega
   ·simp only[esz,eszs]
    split at hsz<;>(try split at hsz)<;>split<;>(try split)<;>omega
  have two:∀(t2:Bool) (op:Int),(op=2∨op=3∨op=4∨op=6∨op=7∨op=8∨op=9∨op=11∨op=12)→(12≤k→t2=true)→zb3 op [tyOf t2,tyOf t2]=tyOf t→grown vars (lv+1) t k (.mk op 0 0 [(zam vars lv t2 bs.tail (k+1)).1,(zam vars lv t2 (zam vars lv t2 bs.tail (k+1)).2.1 (zam vars lv t2 bs.tail (k+1)).2.2).1],(zam vars lv t2 (zam vars lv t2 bs.tail (k+1)).2.1 (zam vars lv t2 bs.tail (k+1)).2.2).2):=by
   intro t2 op hop hk hkind;have h1:=ih t2 bs.tail (k+1) hbt;have o1:=ok t2 bs.tail (k+1) hbt;have l1:12≤k→esz (zam vars lv t2 bs.tail (k+1)).1=1:=fun h=>by
    rw[hk h,zkQ (by omega)];exact (zep hv ⟨(zfF hbt).1,(zfF hbt).2⟩).2.2.2
   generalize zam vars lv t2 bs.tail (k+1)=A at *;have hcn:=h1.cnt;have h2:=ih t2 A.2.1 A.2.2 o1.b;have l2:12≤k→esz (zam vars lv t2 A.2.1 A.2.2).1=1:=fun h=>by
    rw[hk h,zkQ (by omega)];exact (zep hv ⟨(zfF o1.b).1,(zfF o1.b).2⟩).2.2.2
   generalize zam vars lv t2 A.2.1 A.2.2=B at *;have hsz:=h1.sz;have hdp:=h1.dep;have hsz2:=h2.sz;have hcn2:=h2.cnt;have hdp2:=h2.dep;refine⟨⟨fh2 hop,h1.wf,h2.wf,trivial⟩,zz2 h1.kind h2.kind (ziU _) hkind,?_,by simp only;omega,?_⟩
   ·simp only[edep,zmn];omega
   ·simp only[esz,eszs]
    by_cases hk12:12≤k
    ·rw[l1 hk12,l2 hk12,if_pos hk12];omega
    ·rw[if_neg hk12]
     split at hsz<;>(try split at hsz)<;>split at hsz2<;>(try split at hsz2)<;>split<;>omega
  have three:∀(t2:Bool),t2=t→k<12→grown vars (lv+1) t k (.mk 13 0 0 [(zam vars lv false bs.tail (k+1)).1,(zam vars lv t2 (zam vars lv false bs.tail (k+1)).2.1 (zam vars lv false bs.tail (k+1)).2.2).1,
    (zam vars lv t2 (zam vars lv t2 (zam vars lv false bs.tail (k+1)).2.1 (zam vars lv false bs.tail (k+1)).2.2).2.1 (zam vars lv t2 (zam vars lv false bs.tail (k+1)).2.1 (zam vars lv false bs.tail (k+1)).2.2).2.2).1],
    (zam vars lv t2 (zam vars lv t2 (zam vars lv false bs.tail (k+1)).2.1 (zam vars lv false bs.tail (k+1)).2.2).2.1 (zam vars lv t2 (zam vars lv false bs.tail (k+1)).2.1 (zam vars lv false bs.tail (k+1)).2.2).2.2).2):=by
   intro t2 e hk12;subst e;have h1:=ih false bs.tail (k+1) hbt;have o1:=ok false bs.tail (k+1) hbt;generalize zam vars lv false bs.tail (k+1)=A at *;have h2:=ih t2 A.2.1 A.2.2 o1.b;have o2:=ok t2 A.2.1 A.2.2 o1.b;generalize zam vars lv t2 A.2.1 A.2.2=B at *;have h3:=ih t2 B.2.1 B.2.2 o2.b;generalize zam vars lv t2 B.2.1 B.2.2=C at *;have hsz:=h1.sz;have hcn:=h1.cnt;have hdp:=h1.dep;have hsz2:=h2.sz;have hcn2:=h2.cnt;have hdp2:=h2.dep;have hsz3:=h3.sz;have hcn3:=h3.cnt;have hdp3:=h3.dep;refine⟨⟨fh3,h1.wf,h2.wf,h3.wf,trivial⟩,zz1 h1.kind h2.kind h3.kind,?_,by simp only;omega,?_⟩
   ·simp only[edep,zmn];omega
   ·simp only[esz,eszs];rw[if_neg (by omega)]
    split at hsz<;>(try split at hsz)<;>split at hsz2<;>(try split at hsz2)<;>split at hsz3<;>(try split at hsz3)<;>split<;>omega
  cases t with
  |true=>
   simp only[zam]
   split
   ·rename_i h;obtain⟨a,b,c,d⟩:=zep hv hby;exact⟨a,b,by simp only;omega,by simp only;omega,by simp only;split<;>(try split)<;>omega⟩
   ·rename_i h
    split
    ·exact one true 5 (.inl rfl) (by omega) rfl
    split
    ·exact three true rfl (by omega)
    ·refine two true _ (by omega) (fun _=>rfl) ?_;rcases q3 with q|q|q<;>rw[q]<;>rfl
  |false=>
   simp only[zam]
   split
   ·refine two true _ (by omega) (fun _=>rfl) ?_;rcases q4 with q|q|q|q<;>rw[q]<;>rfl
   ·rename_i h
    split
    ·exact one false 10 (.inr rfl) (by omega) rfl
    split
    ·exact three false rfl (by omega)
    ·refine two false _ (by omega) (by omega) ?_;rcases q2 with q|q<;>rw[q]<;>rfl
theorem zfY {vars:Int} (hv:0≤vars) (hv2:vars≤16) (t:Bool) {bs:List Int} (hb:zcA bs):zbn (zhy vars t bs) vars (tyOf t)=0∧exOk (zhy vars t bs):=by
 have h:=zwi hv 4 t (bs.take 60) 0 fun b hm=>hb b (List.mem_of_mem_take hm);have hs:=h.sz;have hd:=h.dep;unfold zhy;refine⟨znX hv hv2 h.wf ?_ (by omega) h.kind (ziU t),ztT _ _ h.wf⟩;rw[if_neg (by omega)] at hs
 split at hs<;>omega
end Go.AI
