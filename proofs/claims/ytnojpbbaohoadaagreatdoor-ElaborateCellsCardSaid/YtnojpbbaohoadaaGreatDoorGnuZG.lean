/- The layer of abstract runs, part 33. -/
import Derived.Test.YtnojpbbaohoadaaGreatDoorGnuZF
import Derived.Test.YtnojpbbaohoadaaGreatDoorRows
import Derived.KernelRfl
import Derived.JoinedOf
import Derived.SevenTiedAt
set_option linter.unusedSimpArgs false
set_option linter.unusedVariables false
set_option linter.all false
set_option maxHeartbeats 4000000
namespace Go.AI
open Go.Proofs
set_option maxRecDepth 20000
theorem zt1:∀{l:List XEx} {seen s:List ByteArray},dupX seen l=.ok s→s=seen++l.map (·.name)
 |[],seen,s,h=>by simp only[dupX,Except.ok.injEq] at h;simp[h]
 |y::r,seen,s,h=>by
  simp only[dupX] at h
  by_cases c:hasB seen y.name=true
  ·rw[if_pos c] at h;cases h
  ·rw[if_neg c] at h;rw[zt1 h,List.append_assoc];rfl
theorem zwv {m:Mdl} {og:List (List Sta)} {x:NEx} {r:List NEx} {i:Nat} {out:List XEx} (hol:out.length≤32) (hl:lwCh m og x.locals=zbY (x.locals.map (chcR m og))) :
  zdm m og (x::r) i (out.map (·.name)) out=if (expO out (expT x (chsT (lwCh m og x.locals) [[]]))).2≠0 then .error (i,(expO out (expT x (chsT (lwCh m og x.locals) [[]]))).2) else zdm m og r (i+1) ((out++expT x (chsT (lwCh m og x.locals) [[]])).map (·.name)) (out++expT x (chsT (lwCh m og x.locals) [[]])):=by
 have h1:=zzG m og x (32-(out.length:Int)) (by omega);rw[←hl] at h1;have h2:=zwt out (expT x (chsT (lwCh m og x.locals) [[]]));have h3:=zoG x (chsT (lwCh m og x.locals) [[]]);simp only[zdm];rw[h1]
 by_cases c1:((chsT (lwCh m og x.locals) [[]]).length:Int)>32-(out.length:Int)
 ·rw[if_pos c1];rw[if_pos (by rw[h3];omega)] at h2;rw[h2,if_pos (show (3:Int)≠0 by decide),if_pos (show (3:Int)≠0 by decide)]
 rw[if_neg c1];rw[if_neg (by rw[h3];omega)] at h2;simp only;rw[if_neg (show ¬(0:Int)≠0 by decide)];generalize expT x (chsT (lwCh m og x.locals) [[]])=new at *
 by_cases c2:(new.any fun y=>decide (y.name.size>32))=true
 ·rw[if_pos c2];rw[if_pos c2] at h2;rw[h2,if_pos (show (7:Int)≠0 by decide)]
 rw[if_neg c2];rw[if_neg c2] at h2
 cases hd:dupX (out.map (·.name)) new with
 |error u=>
  rw[hd] at h2;simp only at h2;rw[h2,if_pos (show (8:Int)≠0 by decide)]
 |ok s=>
  rw[hd] at h2;simp only at h2;rw[h2,if_neg (show ¬(0:Int)≠0 by decide),zt1 hd,List.map_append]
theorem zws {out new:List XEx} (h:(expO out new).2=0):out.length+new.length≤32:=by
 unfold expO at h
 by_cases c1:(out.length:Int)+(new.length:Int)>32
 ·rw[if_pos c1] at h;cases h
 ·omega
theorem zzC {EV CO RQ CN:D} {out out2:List XEx} {R:Heap} {O:List Heap}:∀d n,(d≠0∨n≠61)→shape (hcE EV CO RQ CN out2 R::O) d n=shape (hcE EV CO RQ CN out R::O) d n:=by
 intro d n hd
 cases d with
 |succ d=>rfl
 |zero=>
  have hm:n≠61:=by rcases hd with h|h;exact absurd rfl h;exact h
  simp only[shape,zab,List.getElem?_cons_zero,zac]
  by_cases h5:5=n
  ·rw[if_pos h5,if_pos h5]
  ·rw[if_neg h5,if_neg h5,if_neg (Ne.symm hm),if_neg (Ne.symm hm)]
def zkx (m:Mdl) (L:List NTm) (k:Nat):List Loc2:=(List.range k).flatMap fun k=>(L.filter fun x=>sB x.1 ((m.comps.map (·.name)).getD k ⟨#[]⟩)).map fun x=>(((k:Nat):Int),x.2)
theorem zs4 (m:Mdl) (L:List NTm) (k:Nat):zkx m L (k+1)=zkx m L k++(L.filter fun x=>sB x.1 ((m.comps.map (·.name)).getD k ⟨#[]⟩)).map fun x=>(((k:Nat):Int),x.2):=by
 unfold zkx;rw[List.range_succ,List.flatMap_append];simp
theorem zs5 (m:Mdl) {L:List NTm} (h:L.length≤12) (k:Nat):(zkx m L k).length≤k*12:=by
 have:=ziE (f:=fun k=>(L.filter fun x=>sB x.1 ((m.comps.map (·.name)).getD k ⟨#[]⟩)).map fun x=>((((k:Nat):Int),x.2):Loc2)) (k:=12) (l:=List.range k) fun k' _=>by
  rw[List.length_map];exact Nat.le_trans (List.length_filter_le _ _) h
 rwa [List.length_range] at this
set_option maxHeartbeats 8000000 in
theorem zzN {g:Nat} (hg:ze2 g) {ty:TypeId} {fr:Nat×Nat} (O:List Heap) (m:Mdl) (hm:mdlOk m) (hmv:∀t∈m.tpls,t.mach.moves.length≤19) (hv:(mdlE m).2=0) (hevn:(m.evs.map (·.name)).Nodup) :
  zbb g (ptab ty fr) Tryz.prog 28 [mdlD m] O (zrg (celR m)) [] O:=by
 have hMU:∀x,x∈m.comps∨x∈m.reqs→(∀O,zan Tryz.prog 30 [mdlD m,insD x] O (extD (mchR m x)) [] O)∧∀O,zbb g (ptab ty fr) Tryz.prog 32 [extD (mchR m x)] O (unfD (mchR m x).alpha (zbz (mchR m x))) [] O:=fun x hx=>by
  obtain⟨t,ht,he,_,_,hie⟩:=ze5 hmv hv hx;have hxl:=zhs hm hx;rw[he];refine⟨fun O=>?_,fun O=>zoW hg O _ (zlW hm hxl ht)⟩;rw[zyi ht hie hevn];exact zs2 O m x t hm hxl ht
 obtain⟨hndT,hndC⟩:=zlx hv;obtain⟨_,_,hcT,hcI,hcC,_⟩:=zcG hv;obtain⟨c1,c2,c3,c4⟩:=zf7 hcC;obtain⟨hcl,hcl0,hql⟩:=zgG hcI;have htp:∀c∈m.comps,∃t,zbL m c=some t:=fun c hc=>by
  obtain⟨t,h1,_⟩:=zgz (zjL hcI c hc);exact⟨t,h1⟩
 have hxk:∀x∈m.excs,∀og:List (List Sta),og.length=m.comps.length→(∀s∈og,s.length≤4096)→expOk m og x:=fun x hx og h1 h2=>by
  have hn:=zfg ((zfA c2).1 x hx).1;have he:=zc1 c2 x hx;unfold excE at he
  by_cases h6:x.locals.length=0
  ·rw[if_pos h6] at he;cases he
  rw[if_neg h6] at he;obtain⟨e1,e2⟩:=zlX he;have hin:∀y∈x.locals,y.1∈m.comps.map (·.name):=fun y hy=>by
   obtain⟨_,c,t,h7,_⟩:=e1 y hy;exact zk1 h7
  refine⟨hcl,hndC,h1,h2,?_,e2,hin,htp,by omega⟩;have:=zem (m:=m.comps.map (·.name)) e2 fun s hs=>by
   obtain⟨y,hy,rfl⟩:=List.mem_map.1 hs;exact hin y hy
  rw[List.length_map,List.length_map] at this;omega
 have hck:∀x∈m.cons,x.terms.length≤12∧zea m x=⟨x.name,lwTm m x.terms,x.bound⟩:=fun x hx=>by
  have he:=zc1 c4 x hx;unfold conE at he
  by_cases h6:x.terms.length=0
  ·rw[if_pos h6] at he;cases he
  rw[if_neg h6] at he
  by_cases h7:tmsE m [] x.terms≠0
  ·rw[if_pos h7] at he;exact absurd he h7
  obtain⟨e1,e2⟩:=zlC (Classical.byContradiction h7);exact⟨(zt4 hv).2 x hx,zwE hndC e2 fun t ht=>(e1 t ht).2⟩
 have hevl:=hm.ev;have hr0:∀i,zcD m [] i=.ok ([],[]):=fun _=>rfl;have hrs:∀x r i,zcD m (x::r) i=match zbz (mchR m x) with
  |.error e=>.error (i,e)
  |.ok U=>match zcD m r (i+1) with
   |.error e=>.error e
   |.ok (a,o)=>.ok (⟨x.name,⟨(mchR m x).alpha,U.sts.length,U.mkl,U.eds⟩⟩::a,U.sts::o):=fun _ _ _=>rfl
 have hgc:=fun O k x h=>zxb O m k x h;have hgr:=fun O k x h=>zxa O m 4 k x (by decide) h;generalize hR:celR m=R;have hR:(match zcD m m.comps 0 with
  |.error (i,e)=>(zCel,(3,(i:Int)),e)
  |.ok (a,og)=>match zcD m m.reqs 0 with
   |.error (i,e)=>(zCel,(4,(i:Int)),e)
   |.ok (b,_)=>celK m a b og)=R:=by
  rw[←hR];unfold celR;rw[if_neg (fun h=>h hv)];rfl
 generalize hRA:zcD m m.comps 0=RA at hR;generalize hRB:zcD m m.reqs 0=RB at hR;generalize hiR:zcD m=iR at *;clear hiR c1 c2 c3 c4 hcT hcI hcC;have w1:IntKind.i64.wrap ((m.comps.length:Int)+(m.reqs.length:Int))=(m.comps.length:Int)+(m.reqs.length:Int):=w64 (by omega) (by omega);refine zaZ [17,23,36,38,200099] Tk Tryz.func28 rfl Tryz.call28 Tryz.ntmps28 (Nat.le_of_ble_eq_true rfl) fun E hE=>?_;refine zai Tk Tryz.func28 ?_;refine g_wk (zaE 5 74 76 5 (pre:=[.i (za1 m.evs)]) (post:=[.i (.v (.slice none 0 0)),.i (.v (.slice none 0 0)),.i (.v (.slice none 0 0))]) rfl rfl rfl) ?_;refine g_wk (zaE 5 87 76 5 (pre:=[.i (za1 m.evs),.osl 0 74]) (post:=[.i (.v (.slice none 0 0)),.i (.v (.slice none 0 0))]) rfl rfl rfl) ?_;refine g_wk (zbk 6 79 62 1 rfl rfl rfl) ?_;refine zad ?_
 refine zag (fun x:Nat×(List Itm×List (List Sta))×(List Itm×List (List Sta))=>[(1,.own 0 1 0 0),(2,.own 0 2 0 0),(3,.own 0 3 0 0),(5,.own 0 5 0 0),(6,.osl 0 79),(7,ii x.1)])
  (fun x=>[(1,.box (mdlC m)),(2,.box zdq),(3,plcN),(5,.box [.i (za1 m.evs),.osl 0 74,.osl 0 87,.i (.v (.slice none 0 0)),.i (.v (.slice none 0 0))]),(74,zkm x.2.1.1),(79,zvT x.2.1.2),(87,zkm x.2.2.1)]) (fun _=>O) 160
  (fun x=>x.1≤m.comps.length+m.reqs.length∧x.2.1.1.length=min x.1 m.comps.length∧x.2.1.2.length=min x.1 m.comps.length∧x.2.2.1.length=x.1-m.comps.length∧(∀s∈x.2.1.2,s.length≤4096)∧exAp x.2.1.1 x.2.1.2 (iR (m.comps.drop x.1) x.1)=RA∧exAp x.2.2.1 x.2.2.2 (iR (m.reqs.drop (x.1-m.comps.length)) (x.1-m.comps.length))=RB) (fun x=>m.comps.length+m.reqs.length-x.1) (0,([],[]),([],[])) ⟨Nat.zero_le _,(Nat.zero_min _).symm,(Nat.zero_min _).symm,(Nat.zero_sub _).symm,by simp,by rw[zgE];exact hRA,by rw[zgE,Nat.zero_sub];exact hRB⟩ ⟨rfl,rfl,rfl,rfl,rfl,rfl,trivial⟩ rfl ⟨rfl,rfl,rfl,rfl,rfl,rfl,rfl,trivial⟩ rfl rfl ?_
 clear hRA hRB;rintro ⟨i,⟨A,G⟩,⟨B,G2⟩⟩ ⟨hi,hA,hG,hB,hGs,hnoA,hnoB⟩ ih;simp only at hi hA hG hB hGs hnoA hnoB;refine zai Tk Tryz.func28 ?_;refine zaf Tk Tryz.func28 rfl (fun g1=>?_) (fun g1=>?_)
 ·have g1:(i:Int)<IntKind.i64.wrap ((m.comps.length:Int)+(m.reqs.length:Int)):=of_decide_eq_true g1;rw[w1] at g1;have hj1:ii (IntKind.i64.wrap ((i:Int)+1))=ii ((i+1:Nat):Int):=congrArg ii (zav (n:=1000001) (by omega) (by decide));refine zaf Tk Tryz.func28 rfl (fun g2=>?_) (fun g2=>?_)
  ·have g2:m.comps.length≤i:=by simpa using g2
   have g3:i-m.comps.length<m.reqs.length:=by omega
   have w3:IntKind.i64.wrap ((i:Int)-(m.comps.length:Int))=((i-m.comps.length:Nat):Int):=by rw[w64 (by omega) (by omega)];omega
   rw[List.drop_eq_nil_of_le g2,hr0] at hnoA;have hnoA:Except.ok (A++[],G++[])=RA:=hnoA;rw[List.append_nil,List.append_nil] at hnoA;obtain⟨hM,hU⟩:=hMU m.reqs[i-m.comps.length] (.inr (List.getElem_mem g3));have hgt:=fun O=>hgr O _ _ (List.getElem?_eq_getElem g3);rw[←w3] at hgt;rw[List.drop_eq_getElem_cons g3,hrs] at hnoB;generalize m.reqs[i-m.comps.length]=x at *;generalize mchR m x=X at *;obtain⟨xn,xt,xe⟩:=x;simp only at hnoB
   cases hu:zbz X with
   |error e=>
    have he:=zdr hu;have hU2:∀O,zbb g (ptab ty fr) Tryz.prog 32 [extD X] O (.tup [autD ⟨[],0,[],[]⟩,zgm [],ii e]) [] O:=fun O=>by have:=hU O;rw[hu] at this;exact this
    rw[hu] at hnoB;have hnoB:Except.error (i-m.comps.length,e)=RB:=hnoB;subst hnoA;subst hnoB;simp only at hR;subst hR;refine zak Tk Tryz.func28 (hgt _) rfl rfl rfl rfl rfl ?_;refine zak Tk Tryz.func28 (hM _) rfl rfl rfl rfl rfl ?_;refine zba Tk Tryz.func28 hE (hU2 _) rfl rfl rfl rfl rfl rfl ?_;refine zaf Tk Tryz.func28 rfl (fun _=>?_) (fun h=>absurd h (by simpa using he));refine zat Tk Tryz.func28 zax rfl ?_;refine zcv Tk rfl rfl rfl ?_;refine zcv Tk rfl rfl rfl ?_;refine zaA Tk Tryz.func28 (by kernel_rfl) ?_;refine zaD Tk (r:=.tup [.agg zdq,.agg [ii 4,ii (IntKind.i64.wrap ((i:Int)-(m.comps.length:Int)))],ii e]) rfl rfl rfl trivial rfl rfl ?_;rw[w3];exact zmx
   |ok U=>
    have hU2:∀O,zbb g (ptab ty fr) Tryz.prog 32 [extD X] O (.tup [autD ⟨X.alpha,U.sts.length,U.mkl,U.eds⟩,zgm U.sts,ii 0]) [] O:=fun O=>by have:=hU O;rw[hu] at this;exact this
    rw[hu] at hnoB;simp only at hnoB;have hnoB:exAp (B++[⟨xn,⟨X.alpha,U.sts.length,U.mkl,U.eds⟩⟩]) (G2++[U.sts]) (iR (m.reqs.drop (i-m.comps.length+1)) (i-m.comps.length+1))=RB:=(zgF B G2 _ _ _).symm.trans hnoB;clear hU;refine zak Tk Tryz.func28 (hgt _) rfl rfl rfl rfl rfl ?_;refine zak Tk Tryz.func28 (hM _) rfl rfl rfl rfl rfl ?_;refine zba Tk Tryz.func28 hE (hU2 _) rfl rfl rfl rfl rfl rfl ?_;refine gcF Tk Tryz.func28 rfl ?_;refine gcF Tk Tryz.func28 rfl ?_;refine zah Tk Tryz.func28 (by exact⟨by show (B.length+1)*96≤140737488355328;omega,by show B.length+1≤9223372036854775807;omega⟩) ?_;refine zad ?_
    refine ih (i+1,(A,G),(B++[⟨xn,⟨X.alpha,U.sts.length,U.mkl,U.eds⟩⟩],G2++[U.sts])) _ _ ⟨by simp only;omega,by simp only;omega,by simp only;omega,by simp only[List.length_append,List.length_singleton];omega,hGs,?_,?_⟩ (by simp only;omega) ⟨rfl,rfl,rfl,rfl,rfl,hj1,trivial⟩ rfl ⟨rfl,rfl,rfl,rfl,rfl,rfl,?_,trivial⟩ rfl rfl
    ·simp only;rw[List.drop_eq_nil_of_le (by omega),hr0];show Except.ok (A++[],G++[])=RA;rw[List.append_nil,List.append_nil];exact hnoA
    ·simp only;rw[show i+1-m.comps.length=i-m.comps.length+1 by omega];exact hnoB
    ·show some (Ob.arr 76 5 (B.length+1) (B.map itmI++[itmI ⟨xn,⟨X.alpha,U.sts.length,U.mkl,U.eds⟩⟩]) true)=_;simp[zkm]
  ·have g2:i<m.comps.length:=by simpa using g2
   have hB0:i-m.comps.length=0:=by omega
   have hB1:i+1-m.comps.length=0:=by omega
   obtain⟨hM,hU⟩:=hMU m.comps[i] (.inl (List.getElem_mem g2));have hgt:=fun O=>hgc O _ _ (List.getElem?_eq_getElem g2);rw[List.drop_eq_getElem_cons g2,hrs] at hnoA;generalize m.comps[i]=x at *;generalize mchR m x=X at *;obtain⟨xn,xt,xe⟩:=x;simp only at hnoA
   cases hu:zbz X with
   |error e=>
    have he:=zdr hu;have hU2:∀O,zbb g (ptab ty fr) Tryz.prog 32 [extD X] O (.tup [autD ⟨[],0,[],[]⟩,zgm [],ii e]) [] O:=fun O=>by have:=hU O;rw[hu] at this;exact this
    rw[hu] at hnoA;have hnoA:Except.error (i,e)=RA:=hnoA;subst hnoA;simp only at hR;subst hR;refine zak Tk Tryz.func28 (hgt _) rfl rfl rfl rfl rfl ?_;refine zak Tk Tryz.func28 (hM _) rfl rfl rfl rfl rfl ?_;refine zba Tk Tryz.func28 hE (hU2 _) rfl rfl rfl rfl rfl rfl ?_;refine zaf Tk Tryz.func28 rfl (fun _=>?_) (fun h=>absurd h (by simpa using he));refine zat Tk Tryz.func28 zax rfl ?_;refine zcv Tk rfl rfl rfl ?_;refine zcv Tk rfl rfl rfl ?_;refine zaA Tk Tryz.func28 (by kernel_rfl) ?_;refine zaD Tk (r:=.tup [.agg zdq,.agg [ii 3,ii i],ii e]) rfl rfl rfl trivial rfl rfl ?_;exact zmx
   |ok U=>
    have hsl:=zgP hu;have hU2:∀O,zbb g (ptab ty fr) Tryz.prog 32 [extD X] O (.tup [autD ⟨X.alpha,U.sts.length,U.mkl,U.eds⟩,zgm U.sts,ii 0]) [] O:=fun O=>by have:=hU O;rw[hu] at this;exact this
    rw[hu] at hnoA;simp only at hnoA;have hnoA:exAp (A++[⟨xn,⟨X.alpha,U.sts.length,U.mkl,U.eds⟩⟩]) (G++[U.sts]) (iR (m.comps.drop (i+1)) (i+1))=RA:=(zgF A G _ _ _).symm.trans hnoA;clear hU;refine zak Tk Tryz.func28 (hgt _) rfl rfl rfl rfl rfl ?_;refine zak Tk Tryz.func28 (hM _) rfl rfl rfl rfl rfl ?_;refine zba Tk Tryz.func28 hE (hU2 _) rfl rfl rfl rfl rfl rfl ?_
    repeat (first|refine gcT Tk Tryz.func28 rfl ?_|refine gkT Tk Tryz.func28 rfl ?_|refine skT Tk ?_|refine gcF Tk Tryz.func28 rfl ?_|refine gkF Tk Tryz.func28 rfl ?_|refine skF Tk ?_)
    refine zah Tk Tryz.func28 (by exact⟨by show (A.length+1)*96≤140737488355328;omega,by show A.length+1≤9223372036854775807;omega⟩) ?_;refine zah Tk Tryz.func28 (by exact⟨by show (G.length+1)*24≤140737488355328;omega,by show G.length+1≤9223372036854775807;omega⟩) ?_;refine zad ?_;refine ih (i+1,(A++[⟨xn,⟨X.alpha,U.sts.length,U.mkl,U.eds⟩⟩],G++[U.sts]),(B,G2)) _ _ ⟨by simp only;omega,by simp only[List.length_append,List.length_singleton];omega,by simp only[List.length_append,List.length_singleton];omega,by simp only;omega,fun s hs=>?_,hnoA,?_⟩ (by simp only;omega) ⟨rfl,rfl,rfl,rfl,rfl,hj1,trivial⟩ rfl ⟨rfl,rfl,rfl,rfl,?_,?_,rfl,trivial⟩ rfl rfl
    ·rcases List.mem_append.1 hs with hs|hs
     ·exact hGs s hs
     ·rw[List.mem_singleton] at hs;subst hs;omega
    ·simp only;rw[hB1];rw[hB0] at hnoB;exact hnoB
    ·show some (Ob.arr 76 5 (A.length+1) (A.map itmI++[itmI ⟨xn,⟨X.alpha,U.sts.length,U.mkl,U.eds⟩⟩]) true)=_;simp[zkm]
    ·show some (Ob.arr 62 1 (G.length+1) ((G.map fun s=>[I.sl 2 s.length (s.map staI)])++[[I.sl 2 U.sts.length (U.sts.map staI)]]) true)=_;simp[zvT]
 have g1:¬(i:Int)<IntKind.i64.wrap ((m.comps.length:Int)+(m.reqs.length:Int)):=of_decide_eq_false g1;rw[w1] at g1;rw[List.drop_eq_nil_of_le (by omega),hr0] at hnoA hnoB;have hnoA:Except.ok (A++[],G++[])=RA:=hnoA;have hnoB:Except.ok (B++[],G2++[])=RB:=hnoB;rw[List.append_nil,List.append_nil] at hnoA hnoB;subst hnoA;subst hnoB;simp only at hR;have hGl:G.length=m.comps.length:=by omega
 have hxk2:=fun x hx=>hxk x hx G hGl hGs;unfold celK at hR;clear ih g1 hi hA hG hB hMU hr0 hrs hgc hgr hxk;refine zaB ?_;refine zas (zao 74 rfl rfl) ?_;refine zas (zao 79 rfl rfl) ?_;refine zas (zao 87 rfl rfl) ?_;refine zas (zaY rfl) ?_;refine zas (zaE 5 61 126 2 (pre:=[.i (za1 m.evs),.i (za5 A),.i (za5 B)]) (post:=[.i (.v (.slice none 0 0))]) rfl rfl rfl) ?_;refine zai Tk Tryz.func28 ?_;refine g_go Tk Tryz.func28 ?_;generalize hRX:zdm m G m.excs 0 [] []=RX at *;refine zad ?_;refine zag (fun x:Nat×List XEx=>[(1,.own 0 1 0 0),(2,.own 0 2 0 0),(3,.own 0 3 0 0),(5,.own 0 5 0 0),(6,.i (zeM G)),(13,ii x.1)])
  (fun x=>[(5,celO (.i (za1 m.evs)) (.i (za5 A)) (.i (za5 B)) (.i (.v (.slice none 0 0)))),(61,zg6 x.2),(1,.box (mdlC m)),(2,.box zdq),(3,plcN)]) (fun _=>O) 160
  (fun x=>x.1≤m.excs.length∧x.2.length≤32∧zdm m G (m.excs.drop x.1) x.1 (x.2.map (·.name)) x.2=RX) (fun x=>m.excs.length-x.1) (0,[]) ⟨Nat.zero_le _,Nat.zero_le _,hRX⟩ ⟨rfl,rfl,rfl,rfl,rfl,rfl,trivial⟩ rfl ⟨rfl,rfl,rfl,rfl,rfl,trivial⟩ rfl rfl ?_
 clear hRX;rintro ⟨i,out⟩ ⟨hi,hol,hno⟩ ih;simp only at hi hol hno;refine zai Tk Tryz.func28 ?_;refine zaf Tk Tryz.func28 rfl (fun g2=>?_) (fun g2=>?_)
 ·have g2:i<m.excs.length:=by simpa using g2
  have hj1:ii (IntKind.i64.wrap ((i:Int)+1))=ii ((i+1:Nat):Int):=congrArg ii (zav (n:=1000001) (by have:=hm.ex;omega) (by decide));have hxo:=hxk2 m.excs[i] (List.getElem_mem g2);have hgx:m.excs[i]? = some m.excs[i]:=List.getElem?_eq_getElem g2;rw[List.drop_eq_getElem_cons g2,zwv hol (zyp hxo.nd hxo.nl hxo.li)] at hno;have h78:=zwp hg (ty:=ty) (fr:=fr) O [(1,.box (mdlC m)),(2,.box zdq),(3,plcN)] (za1 m.evs) (za5 A) (za5 B) (.v (.slice none 0 0)) m G i m.excs[i] out rfl hm hgx hxo hol;have hok2:=zyH (out:=out) (new:=expT m.excs[i] (chsT (lwCh m G m.excs[i].locals) [[]]));have hln2:=zws (out:=out) (new:=expT m.excs[i] (chsT (lwCh m G m.excs[i].locals) [[]]));generalize expT m.excs[i] (chsT (lwCh m G m.excs[i].locals) [[]])=new at *;generalize expO out new=EE at *;obtain⟨out2,e2⟩:=EE;simp only at h78 hno hok2 hln2
  refine ziA (zc9 (l:=[(1,.own 0 1 0 0),(2,.own 0 2 0 0),(3,.own 0 3 0 0),(5,.own 0 5 0 0),(6,.i (zeM G)),(13,ii i),(96,mdlD m),(97,.i (zeM G)),(98,ii i)]) (Hv:=[(5,celO (.i (za1 m.evs)) (.i (za5 A)) (.i (za5 B)) (.i (.v (.slice none 0 0)))),(61,zg6 out),(1,.box (mdlC m)),(2,.box zdq),(3,plcN)]) ⟨rfl,rfl,rfl,rfl,rfl,rfl,rfl,rfl,rfl,trivial⟩ rfl ⟨rfl,rfl,rfl,rfl,rfl,trivial⟩ rfl rfl) ?_;refine zb1 Tk Tryz.func28 rfl rfl rfl rfl (zmp hE rfl h78 rfl (show 99<160 by decide) rfl rfl ⟨_,_,_,_,_,rfl⟩ zzC) ?_;refine zaf Tk Tryz.func28 rfl (fun c5=>?_) (fun c5=>?_)
  ·have c5:e2≠0:=bneT c5;rw[if_pos c5] at hno;subst hno;simp only at hR;subst hR;refine zaD Tk (r:=.tup [.agg zdq,.agg [ii 5,ii i],ii e2]) rfl rfl rfl trivial rfl rfl ?_;exact zmx
  have c5:e2=0:=bneF c5;rw[if_neg (fun h=>h c5)] at hno;have hok2:=hok2 c5;subst hok2;refine zad ?_;exact ih (i+1,out++new) _ _ ⟨g2,by simp only[List.length_append];exact hln2 c5,hno⟩ (by simp only;omega) ⟨rfl,rfl,rfl,rfl,rfl,hj1,trivial⟩ rfl ⟨rfl,rfl,rfl,rfl,rfl,trivial⟩ rfl rfl
 have g2:m.excs.length≤i:=by simpa using g2
 rw[List.drop_eq_nil_of_le g2] at hno;have hno:Except.ok out=RX:=hno;subst hno;simp only at hR;clear ih g2 hi hxk2;refine zaB ?_;refine zas (zao 61 rfl rfl) ?_;refine zas (zaY rfl) ?_;refine zas (zaE 5 155 158 3 (pre:=[.i (za1 m.evs),.i (za5 A),.i (za5 B),.i (zcp out)]) (post:=[]) rfl rfl rfl) ?_;refine zai Tk Tryz.func28 ?_;refine g_go Tk Tryz.func28 ?_;refine zad ?_;refine zag (fun c:Nat=>[(1,.own 0 1 0 0),(2,.own 0 2 0 0),(3,.own 0 3 0 0),(5,.own 0 5 0 0),(107,.i (zkr m.cons)),(108,ii m.cons.length),(109,ii c)])
  (fun c=>[(5,.box [.i (za1 m.evs),.i (za5 A),.i (za5 B),.i (zcp out),.osl 0 155]),(155,zlQ ((m.cons.take c).map (zea m))),(1,.box (mdlC m)),(2,.box zdq),(3,plcN)]) (fun _=>O) 160
  (fun c=>c≤m.cons.length) (fun c=>m.cons.length-c) 0 (Nat.zero_le _) ⟨rfl,rfl,rfl,rfl,rfl,rfl,rfl,trivial⟩ rfl ⟨rfl,rfl,rfl,rfl,rfl,trivial⟩ rfl rfl ?_
 intro c hc ih;have hc:c≤m.cons.length:=hc;have hcnl:=hm.cn;refine zai Tk Tryz.func28 ?_;refine zaf Tk Tryz.func28 rfl (fun g3=>?_) (fun g3=>?_);rotate_left
 ·have g3:m.cons.length≤c:=by simpa using g3
  rw[List.take_of_length_le g3];refine zaB ?_;refine zas (zao 155 rfl rfl) ?_;refine zas (zaY rfl) ?_;refine zai Tk Tryz.func28 ?_;refine g_go Tk Tryz.func28 ?_;refine zaj Tk (r:=zrg (⟨m.evs,A,B,out,m.cons.map (zea m)⟩,(0,0),0)) rfl rfl rfl trivial rfl rfl ?_;exact congrArg zrg hR
 have g3:c<m.cons.length:=by simpa using g3
 have gx:(m.cons.map ncnI)[(c:Int).toNat]? = some (ncnI m.cons[c]):=zal (f:=ncnI) g3;have hc1:ii (IntKind.i64.wrap ((c:Int)+1))=ii ((c+1:Nat):Int):=congrArg ii (zav (n:=1000001) (by omega) (by decide));have hts:=zaI (zea m) g3;obtain⟨htl,hcr⟩:=hck m.cons[c] (List.getElem_mem g3);rw[hcr] at hts;have hYl:((m.cons.take c).map (zea m)).length≤1000000:=by rw[List.length_map,List.length_take];omega
 clear hcr;generalize (m.cons.take c).map (zea m)=Y at *;generalize m.cons[c]=x at *;obtain⟨xn,L,bd⟩:=x;simp only at htl hts;have hP0:lwTm m L=zkx m L m.comps.length:=rfl;rw[hP0] at hts;have hPs:=zs4 m L;have hPl:=zs5 m htl;have hnm:∀k (hk:k<m.comps.length),(m.comps.map (·.name)).getD k ⟨#[]⟩=m.comps[k].name:=fun k hk=>by
  rw[List.getD_eq_getElem?_getD,List.getElem?_map,List.getElem?_eq_getElem hk];rfl
 refine zah Tk Tryz.func28 (by exact⟨by omega,by show (c:Int)<(m.cons.length:Int);omega⟩) ?_;refine zaq Tk Tryz.func28 (gx) ?_;refine g_wk (zaE 17 148 160 2 (pre:=[.i (strI xn)]) (post:=[ii bd]) rfl rfl rfl) ?_;refine zad ?_;refine zag (fun k:Nat=>[(1,.own 0 1 0 0),(2,.own 0 2 0 0),(3,.own 0 3 0 0),(5,.own 0 5 0 0),(16,.own 0 16 0 0),(17,.own 0 17 0 0),(18,ii k),(107,.i (zkr m.cons)),(108,ii m.cons.length),(109,ii c)])
  (fun k=>[(5,.box [.i (za1 m.evs),.i (za5 A),.i (za5 B),.i (zcp out),.osl 0 155]),(155,zlQ Y),(1,.box (mdlC m)),(2,.box zdq),(3,plcN),(16,.box [.i (strI xn),.i (.sl 2 L.length (L.map ntmI)),ii bd]),(17,.box [.i (strI xn),.osl 0 148,ii bd]),(148,olTm (zkx m L k))]) (fun _=>O) 160
  (fun k=>k≤m.comps.length) (fun k=>m.comps.length-k) 0 (Nat.zero_le _) ⟨rfl,rfl,rfl,rfl,rfl,rfl,rfl,rfl,rfl,rfl,trivial⟩ rfl ⟨rfl,rfl,rfl,rfl,rfl,rfl,rfl,rfl,trivial⟩ rfl rfl ?_
 intro k hk ih2;have hk:k≤m.comps.length:=hk;have hPlk:=hPl k;refine zai Tk Tryz.func28 ?_;refine zaf Tk Tryz.func28 rfl (fun g4=>?_) (fun g4=>?_);rotate_left
 ·have g4:m.comps.length≤k:=by simpa using g4
  have e4:k=m.comps.length:=by omega
  subst e4;generalize zkx m L m.comps.length=T at *;refine zaB ?_;refine zas (zao 148 rfl rfl) ?_;refine zas (zaY rfl) ?_;refine zai Tk Tryz.func28 ?_;refine g_go Tk Tryz.func28 ?_;refine zah Tk Tryz.func28 (by exact⟨by show (Y.length+1)*48≤140737488355328;omega,by show Y.length+1≤9223372036854775807;omega⟩) ?_;refine zad ?_;refine ih (c+1) _ _ g3 (by omega) ⟨rfl,rfl,rfl,rfl,rfl,rfl,hc1,trivial⟩ rfl ⟨rfl,?_,rfl,rfl,rfl,trivial⟩ rfl rfl;rw[hts];show some (Ob.arr 158 3 (Y.length+1) (Y.map xcnI++[xcnI ⟨xn,T,bd⟩]) true)=_;simp[zlQ]
 have g4:k<m.comps.length:=by simpa using g4
 have gc:(m.comps.map insI)[(k:Int).toNat]? = some (insI m.comps[k]):=zal (f:=insI) g4;have hk1:ii (IntKind.i64.wrap ((k:Int)+1))=ii ((k+1:Nat):Int):=congrArg ii (zav (n:=1000001) (by omega) (by decide));have hsk:=hPs k;rw[hnm k g4] at hsk;generalize zkx m L k=T at *;generalize m.comps[k]=cc at *;obtain⟨cn,ct,ce⟩:=cc;simp only at hsk;refine zad ?_;refine zag (fun j:Nat=>[(1,.own 0 1 0 0),(2,.own 0 2 0 0),(3,.own 0 3 0 0),(5,.own 0 5 0 0),(16,.own 0 16 0 0),(17,.own 0 17 0 0),(18,ii k),(107,.i (zkr m.cons)),(108,ii m.cons.length),(109,ii c),(126,.i (.sl 2 L.length (L.map ntmI))),(127,ii L.length),(128,ii j)])
  (fun j=>[(5,.box [.i (za1 m.evs),.i (za5 A),.i (za5 B),.i (zcp out),.osl 0 155]),(155,zlQ Y),(1,.box (mdlC m)),(2,.box zdq),(3,plcN),(16,.box [.i (strI xn),.i (.sl 2 L.length (L.map ntmI)),ii bd]),(17,.box [.i (strI xn),.osl 0 148,ii bd]),(148,olTm (T++((L.take j).filter fun x=>sB x.1 cn).map fun x=>((k:Int),x.2)))]) (fun _=>O) 160
  (fun j=>j≤L.length) (fun j=>L.length-j) 0 (Nat.zero_le _) ⟨rfl,rfl,rfl,rfl,rfl,rfl,rfl,rfl,rfl,rfl,rfl,rfl,rfl,trivial⟩ rfl ⟨rfl,rfl,rfl,rfl,rfl,rfl,rfl,congrArg (fun l=>some (olTm l)) (show T=T++((L.take 0).filter fun x=>sB x.1 cn).map fun x=>((k:Int),x.2) by simp),trivial⟩ rfl rfl ?_
 intro j hj ih3;have hj:j≤L.length:=hj;refine zai Tk Tryz.func28 ?_;refine zaf Tk Tryz.func28 rfl (fun g5=>?_) (fun g5=>?_);rotate_left
 ·have g5:L.length≤j:=by simpa using g5
  rw[List.take_of_length_le g5,←hsk];refine zad ?_;exact ih2 (k+1) _ _ g4 (by omega) ⟨rfl,rfl,rfl,rfl,rfl,rfl,hk1,rfl,rfl,rfl,trivial⟩ rfl ⟨rfl,rfl,rfl,rfl,rfl,rfl,rfl,rfl,trivial⟩ rfl rfl
 have g5:j<L.length:=by simpa using g5
 have gy:(L.map ntmI)[(j:Int).toNat]? = some (ntmI L[j]):=zal (f:=ntmI) g5;have hj1:ii (IntKind.i64.wrap ((j:Int)+1))=ii ((j+1:Nat):Int):=congrArg ii (zav (n:=1000001) (by omega) (by decide));have hfs:=zoE (fun x:NTm=>sB x.1 cn) (fun x=>(((k:Int),x.2):Loc2)) g5;have hTl:(T++((L.take j).filter fun x=>sB x.1 cn).map fun x=>(((k:Int),x.2):Loc2)).length≤200:=by
  rw[List.length_append,List.length_map];have:=List.length_filter_le (fun x:NTm=>sB x.1 cn) (L.take j);rw[List.length_take] at this;omega
 generalize hZ:T++((L.take j).filter fun x=>sB x.1 cn).map (fun x=>(((k:Int),x.2):Loc2))=Z at *;have hZs:T++((L.take (j+1)).filter fun x=>sB x.1 cn).map (fun x=>(((k:Int),x.2):Loc2))=Z++if sB L[j].1 cn=true then [((k:Int),L[j].2)] else []:=by rw[hfs,←List.append_assoc,hZ]
 generalize L[j]=y at *;obtain⟨yc,yf⟩:=y;simp only at hZs;refine zah Tk Tryz.func28 (by exact⟨by omega,by show (j:Int)<(L.length:Int);omega⟩) ?_;refine zaq Tk Tryz.func28 (gy) ?_;refine zat Tk Tryz.func28 zax rfl ?_;refine zar Tk (by exact⟨by omega,by show (k:Int)<(m.comps.length:Int);omega⟩) ?_;refine zay Tk (gc) ?_;refine zaA Tk Tryz.func28 (by kernel_rfl) ?_;refine zaf Tk Tryz.func28 rfl (fun c6=>?_) (fun c6=>?_)
 ·have c6:(yc.toList==cn.toList)=true:=c6;rw[zaV] at c6;rw[if_pos c6] at hZs;refine zah Tk Tryz.func28 (by exact⟨by show (Z.length+1)*16≤140737488355328;omega,by show Z.length+1≤9223372036854775807;omega⟩) ?_;refine zad ?_;refine ih3 (j+1) _ _ g5 (by omega) ⟨rfl,rfl,rfl,rfl,rfl,rfl,rfl,rfl,rfl,rfl,rfl,rfl,hj1,trivial⟩ rfl ⟨rfl,rfl,rfl,rfl,rfl,rfl,rfl,?_,trivial⟩ rfl rfl;rw[hZs];show some (Ob.arr 160 2 (Z.length+1) (Z.map zbq++[zbq ((k:Int),yf)]) true)=_;simp[olTm]
 ·have c6:(yc.toList==cn.toList)=false:=c6;rw[zaV] at c6;rw[if_neg (by rw[c6];decide),List.append_nil] at hZs;refine zad ?_;refine ih3 (j+1) _ _ g5 (by omega) ⟨rfl,rfl,rfl,rfl,rfl,rfl,rfl,rfl,rfl,rfl,rfl,rfl,hj1,trivial⟩ rfl ⟨rfl,rfl,rfl,rfl,rfl,rfl,rfl,?_,trivial⟩ rfl rfl;rw[hZs];rfl
structure itmOk (x:Itm):Prop where
 al:x.aut.alpha.length≤zap
 ma:x.aut.marked.length≤zap
 ed:x.aut.edges.length≤zap
structure celOk (c:Cel):Prop where
 ev:c.evs.length≤zap
 co:c.comps.length≤zap
 cok:∀x∈c.comps,itmOk x
 rq:c.reqs.length≤zap
 rok:∀x∈c.reqs,itmOk x
 ex:c.excs.length≤zap
 xok:∀x∈c.excs,x.locals.length≤zap
 cn:c.cons.length≤zap
 nok:∀x∈c.cons,x.terms.length≤zap
theorem zgX (O:List Heap) (l:List Itm) (hl:l.length≤zap) (hx:∀x∈l,itmOk x):zan Tryz.prog 66 [.i (za5 l),.i (za5 l)] O (bb true) [] O:=by
 refine zaa Tk Tryz.func66 rfl Tryz.call66 Tryz.ntmps66 (Nat.le_of_ble_eq_true rfl) fun E=>?_;refine zai Tk Tryz.func66 ?_;refine zaf Tk Tryz.func66 rfl (fun h=>absurd h (by simp)) (fun _=>?_);refine zad ?_;refine zag (fun i:Nat=>[(0,.i (za5 l)),(1,.i (za5 l)),(5,ii i)]) (fun _=>[]) (fun _=>O) 42
  (fun i=>i≤l.length) (fun i=>l.length-i) 0 (Nat.zero_le _) ⟨rfl,rfl,rfl,trivial⟩ rfl trivial rfl rfl ?_
 intro i hi ih;have hi:i≤l.length:=hi;refine zai Tk Tryz.func66 ?_;refine zaf Tk Tryz.func66 rfl (fun g1=>?_) (fun g1=>?_);rotate_left
 ·refine zaj Tk (r:=bb true) rfl rfl rfl trivial rfl rfl ?_;rfl
 have g1:i<l.length:=by simpa using g1
 have gx:(l.map itmI)[(i:Int).toNat]? = some (itmI l[i]):=zal (f:=itmI) g1;obtain⟨h1,h2,h3⟩:=hx _ (List.getElem_mem g1);generalize l[i]=x at *;have heq:=fun O=>zk8 O x.aut h1 h2 h3;obtain⟨xn,al,n,mk,es⟩:=x;simp only at heq;refine zat Tk Tryz.func66 zax rfl ?_;refine zar Tk (by exact⟨by omega,by show (i:Int)<(l.length:Int);omega⟩) ?_;refine zay Tk (gx) ?_;refine zar Tk (by exact⟨by omega,by show (i:Int)<(l.length:Int);omega⟩) ?_;refine zay Tk (gx) ?_;refine zbU Tk (fun h=>absurd h (by simp)) (fun _=>?_);refine zar Tk (by exact⟨by omega,by show (i:Int)<(l.length:Int);omega⟩) ?_;refine zay Tk (gx) ?_;refine zar Tk (by exact⟨by omega,by show (i:Int)<(l.length:Int);omega⟩) ?_;refine zay Tk (gx) ?_;refine zaF Tk (fun _=>heq _) rfl rfl rfl ?_;refine zaA Tk Tryz.func66 (by kernel_rfl) ?_;refine gcF Tk Tryz.func66 rfl ?_;refine zad ?_
 exact ih (i+1) _ _ g1 (by omega) ⟨rfl,rfl,congrArg ii (zav (n:=zap) (by omega) (by decide)),trivial⟩ rfl trivial rfl rfl
theorem zqw (O:List Heap) (c:Cel) (hc:celOk c):zan Tryz.prog 21 [celD c,celD c] O (bb true) [] O:=by
 have h1:=fun O=>zgX O c.comps hc.co hc.cok;have h2:=fun O=>zgX O c.reqs hc.rq hc.rok;have hev:=hc.ev;have hex:=hc.ex;have hxo:=hc.xok;have hcn:=hc.cn;have hno:=hc.nok;clear hc;obtain⟨ev,co,rq,ex,cn⟩:=c;simp only at h1 h2 hev hex hxo hcn hno;show zan Tryz.prog 21 [.agg [.i (za1 ev),.i (za5 co),.i (za5 rq),.i (zcp ex),.i (.sl 3 cn.length (cn.map xcnI))],.agg [.i (za1 ev),.i (za5 co),.i (za5 rq),.i (zcp ex),.i (.sl 3 cn.length (cn.map xcnI))]] O (bb true) [] O;refine zaa Tk Tryz.func21 rfl Tryz.call21 Tryz.ntmps21 (Nat.le_of_ble_eq_true rfl) fun E=>?_;refine zai Tk Tryz.func21 ?_;refine zaG Tk Tryz.func21 rfl (fun h=>absurd h (by simp)) (fun _=>?_);refine zaG Tk Tryz.func21 rfl (fun h=>absurd h (by simp)) (fun _=>?_);refine zaG Tk Tryz.func21 rfl (fun h=>absurd h (by simp)) (fun _=>?_);refine zaG Tk Tryz.func21 rfl (fun h=>absurd h (by simp)) (fun _=>?_)
 refine zaf Tk Tryz.func21 rfl (fun h=>absurd h (by simp)) (fun _=>?_);generalize hB:[D.i (za1 ev),.i (za5 co),.i (za5 rq),.i (zcp ex),.i (.sl 3 cn.length (cn.map xcnI))]=B;subst hB;refine zad ?_;refine zag (fun i:Nat=>[(2,.own 0 2 0 0),(3,.own 0 3 0 0),(5,ii i)]) (fun _=>[(2,.box [.i (za1 ev),.i (za5 co),.i (za5 rq),.i (zcp ex),.i (.sl 3 cn.length (cn.map xcnI))]),(3,.box [.i (za1 ev),.i (za5 co),.i (za5 rq),.i (zcp ex),.i (.sl 3 cn.length (cn.map xcnI))])]) (fun _=>O) 192
  (fun i=>i≤ev.length) (fun i=>ev.length-i) 0 (Nat.zero_le _) ⟨rfl,rfl,rfl,trivial⟩ rfl ⟨rfl,rfl,trivial⟩ rfl rfl ?_
 intro i hi ih;have hi:i≤ev.length:=hi;refine zai Tk Tryz.func21 ?_;refine zaf Tk Tryz.func21 rfl (fun g1=>?_) (fun g1=>?_)
 ·have g1:i<ev.length:=by simpa using g1
  have gv:(ev.map evtI)[(i:Int).toNat]? = some (evtI ev[i]):=zal (f:=evtI) g1;generalize ev[i]=y at *;obtain⟨yn,y1,y2,y3,y4⟩:=y;refine zat Tk Tryz.func21 zax rfl ?_;refine zar Tk (by exact⟨by omega,by show (i:Int)<(ev.length:Int);omega⟩) ?_;refine zay Tk (gv) ?_;refine zar Tk (by exact⟨by omega,by show (i:Int)<(ev.length:Int);omega⟩) ?_;refine zay Tk (gv) ?_;refine zaA Tk Tryz.func21 (by kernel_rfl) ?_;refine zaf Tk Tryz.func21 rfl (fun h=>absurd h (by simp)) (fun _=>?_);refine zad ?_;exact ih (i+1) _ _ g1 (by omega) ⟨rfl,rfl,congrArg ii (zav (n:=zap) (by omega) (by decide)),trivial⟩ rfl ⟨rfl,rfl,trivial⟩ rfl rfl
 clear ih hi g1;refine zad ?_;refine zag (fun i:Nat=>[(2,.own 0 2 0 0),(3,.own 0 3 0 0),(6,ii i)]) (fun _=>[(2,.box [.i (za1 ev),.i (za5 co),.i (za5 rq),.i (zcp ex),.i (.sl 3 cn.length (cn.map xcnI))]),(3,.box [.i (za1 ev),.i (za5 co),.i (za5 rq),.i (zcp ex),.i (.sl 3 cn.length (cn.map xcnI))])]) (fun _=>O) 192
  (fun i=>i≤ex.length) (fun i=>ex.length-i) 0 (Nat.zero_le _) ⟨rfl,rfl,rfl,trivial⟩ rfl ⟨rfl,rfl,trivial⟩ rfl rfl ?_
 intro i hi ih;have hi:i≤ex.length:=hi;refine zai Tk Tryz.func21 ?_;refine zaf Tk Tryz.func21 rfl (fun g1=>?_) (fun g1=>?_)
 ·have g1:i<ex.length:=by simpa using g1
  have gm:(ex.map xexI)[(i:Int).toNat]? = some (xexI ex[i]):=zal (f:=xexI) g1;have hul:=hxo _ (List.getElem_mem g1);have hi1:ii (IntKind.i64.wrap ((i:Int)+1))=ii ((i+1:Nat):Int):=congrArg ii (zav (n:=zap) (by omega) (by decide));generalize ex[i]=y at *;obtain⟨yn,us⟩:=y;simp only at hul;refine zat Tk Tryz.func21 zax rfl ?_;refine zar Tk (by exact⟨by omega,by show (i:Int)<(ex.length:Int);omega⟩) ?_;refine zay Tk (gm) ?_;refine zar Tk (by exact⟨by omega,by show (i:Int)<(ex.length:Int);omega⟩) ?_;refine zay Tk (gm) ?_;refine zcv Tk rfl rfl rfl ?_;refine zcv Tk rfl rfl rfl ?_;refine zaA Tk Tryz.func21 (by kernel_rfl) ?_;refine zaG Tk Tryz.func21 rfl (fun h=>absurd h (by simp)) (fun _=>?_);refine zaf Tk Tryz.func21 rfl (fun h=>absurd h (by simp)) (fun _=>?_);refine zad ?_
  refine zag (fun j:Nat=>[(2,.own 0 2 0 0),(3,.own 0 3 0 0),(6,ii i),(7,.own 0 7 0 0),(8,.own 0 8 0 0),(9,ii j)]) (fun _=>[(2,.box [.i (za1 ev),.i (za5 co),.i (za5 rq),.i (zcp ex),.i (.sl 3 cn.length (cn.map xcnI))]),(3,.box [.i (za1 ev),.i (za5 co),.i (za5 rq),.i (zcp ex),.i (.sl 3 cn.length (cn.map xcnI))]),(7,.box [.i (strI yn),.i (.sl 2 us.length (us.map zbq))]),(8,.box [.i (strI yn),.i (.sl 2 us.length (us.map zbq))])]) (fun _=>O) 192
   (fun j=>j≤us.length) (fun j=>us.length-j) 0 (Nat.zero_le _) ⟨rfl,rfl,rfl,rfl,rfl,rfl,trivial⟩ rfl ⟨rfl,rfl,rfl,rfl,trivial⟩ rfl rfl ?_
  intro j hj ih2;have hj:j≤us.length:=hj;refine zai Tk Tryz.func21 ?_;refine zaf Tk Tryz.func21 rfl (fun g3=>?_) (fun g3=>?_);rotate_left
  ·refine zad ?_;exact ih (i+1) _ _ g1 (by omega) ⟨rfl,rfl,hi1,trivial⟩ rfl ⟨rfl,rfl,trivial⟩ rfl rfl
  have g3:j<us.length:=by simpa using g3
  have gu:(us.map zbq)[(j:Int).toNat]? = some (zbq us[j]):=zal (f:=zbq) g3;generalize us[j]=u at *;obtain⟨u1,u2⟩:=u;refine zat Tk Tryz.func21 zax rfl ?_;refine zar Tk (by exact⟨by omega,by show (j:Int)<(us.length:Int);omega⟩) ?_;refine zay Tk (gu) ?_;refine zar Tk (by exact⟨by omega,by show (j:Int)<(us.length:Int);omega⟩) ?_;refine zay Tk (gu) ?_;refine zaA Tk Tryz.func21 (by kernel_rfl) ?_;refine zaf Tk Tryz.func21 rfl (fun h=>absurd h (by simp)) (fun _=>?_);refine zad ?_;exact ih2 (j+1) _ _ g3 (by omega) ⟨rfl,rfl,rfl,rfl,rfl,congrArg ii (zav (n:=zap) (by omega) (by decide)),trivial⟩ rfl ⟨rfl,rfl,rfl,rfl,trivial⟩ rfl rfl
 clear ih hi g1;refine zad ?_;refine zag (fun i:Nat=>[(2,.own 0 2 0 0),(3,.own 0 3 0 0),(10,ii i)]) (fun _=>[(2,.box [.i (za1 ev),.i (za5 co),.i (za5 rq),.i (zcp ex),.i (.sl 3 cn.length (cn.map xcnI))]),(3,.box [.i (za1 ev),.i (za5 co),.i (za5 rq),.i (zcp ex),.i (.sl 3 cn.length (cn.map xcnI))])]) (fun _=>O) 192
  (fun i=>i≤cn.length) (fun i=>cn.length-i) 0 (Nat.zero_le _) ⟨rfl,rfl,rfl,trivial⟩ rfl ⟨rfl,rfl,trivial⟩ rfl rfl ?_
 intro i hi ih;have hi:i≤cn.length:=hi;refine zai Tk Tryz.func21 ?_;refine zaf Tk Tryz.func21 rfl (fun g1=>?_) (fun g1=>?_)
 ·have g1:i<cn.length:=by simpa using g1
  have gm:(cn.map xcnI)[(i:Int).toNat]? = some (xcnI cn[i]):=zal (f:=xcnI) g1;have hul:=hno _ (List.getElem_mem g1);have hi1:ii (IntKind.i64.wrap ((i:Int)+1))=ii ((i+1:Nat):Int):=congrArg ii (zav (n:=zap) (by omega) (by decide));generalize cn[i]=y at *;obtain⟨yn,us,yb⟩:=y;simp only at hul;refine zat Tk Tryz.func21 zax rfl ?_;refine zar Tk (by exact⟨by omega,by show (i:Int)<(cn.length:Int);omega⟩) ?_;refine zay Tk (gm) ?_;refine zar Tk (by exact⟨by omega,by show (i:Int)<(cn.length:Int);omega⟩) ?_;refine zay Tk (gm) ?_;refine zcv Tk rfl rfl rfl ?_;refine zcv Tk rfl rfl rfl ?_;refine zaA Tk Tryz.func21 (by kernel_rfl) ?_;refine zaG Tk Tryz.func21 rfl (fun h=>absurd h (by simp)) (fun _=>?_);refine zaG Tk Tryz.func21 rfl (fun h=>absurd h (by simp)) (fun _=>?_);refine zaf Tk Tryz.func21 rfl (fun h=>absurd h (by simp)) (fun _=>?_);refine zad ?_
  refine zag (fun j:Nat=>[(2,.own 0 2 0 0),(3,.own 0 3 0 0),(10,ii i),(11,.own 0 11 0 0),(12,.own 0 12 0 0),(13,ii j)]) (fun _=>[(2,.box [.i (za1 ev),.i (za5 co),.i (za5 rq),.i (zcp ex),.i (.sl 3 cn.length (cn.map xcnI))]),(3,.box [.i (za1 ev),.i (za5 co),.i (za5 rq),.i (zcp ex),.i (.sl 3 cn.length (cn.map xcnI))]),(11,.box [.i (strI yn),.i (.sl 2 us.length (us.map zbq)),ii yb]),(12,.box [.i (strI yn),.i (.sl 2 us.length (us.map zbq)),ii yb])]) (fun _=>O) 192
   (fun j=>j≤us.length) (fun j=>us.length-j) 0 (Nat.zero_le _) ⟨rfl,rfl,rfl,rfl,rfl,rfl,trivial⟩ rfl ⟨rfl,rfl,rfl,rfl,trivial⟩ rfl rfl ?_
  intro j hj ih2;have hj:j≤us.length:=hj;refine zai Tk Tryz.func21 ?_;refine zaf Tk Tryz.func21 rfl (fun g3=>?_) (fun g3=>?_);rotate_left
  ·refine zad ?_;exact ih (i+1) _ _ g1 (by omega) ⟨rfl,rfl,hi1,trivial⟩ rfl ⟨rfl,rfl,trivial⟩ rfl rfl
  have g3:j<us.length:=by simpa using g3
  have gu:(us.map zbq)[(j:Int).toNat]? = some (zbq us[j]):=zal (f:=zbq) g3;generalize us[j]=u at *;obtain⟨u1,u2⟩:=u;refine zat Tk Tryz.func21 zax rfl ?_;refine zar Tk (by exact⟨by omega,by show (j:Int)<(us.length:Int);omega⟩) ?_;refine zay Tk (gu) ?_;refine zar Tk (by exact⟨by omega,by show (j:Int)<(us.length:Int);omega⟩) ?_;refine zay Tk (gu) ?_;refine zaA Tk Tryz.func21 (by kernel_rfl) ?_;refine zaf Tk Tryz.func21 rfl (fun h=>absurd h (by simp)) (fun _=>?_);refine zad ?_;exact ih2 (j+1) _ _ g3 (by omega) ⟨rfl,rfl,rfl,rfl,rfl,congrArg ii (zav (n:=zap) (by omega) (by decide)),trivial⟩ rfl ⟨rfl,rfl,rfl,rfl,trivial⟩ rfl rfl
 refine zak Tk Tryz.func21 (h1 _) rfl rfl rfl rfl rfl ?_;refine gkT Tk Tryz.func21 rfl ?_;refine zak Tk Tryz.func21 (h2 _) rfl rfl rfl rfl rfl ?_;refine zaj Tk (r:=bb true) rfl rfl rfl trivial rfl rfl ?_;rfl
theorem zka (O:List Heap):zan Tryz.prog 66 [.i (za5 []),.i (.v (.slice none 0 0))] O (bb true) [] O:=by
 refine zaa Tk Tryz.func66 rfl Tryz.call66 Tryz.ntmps66 (Nat.le_of_ble_eq_true rfl) fun E=>?_;refine zai Tk Tryz.func66 ?_;refine gcF Tk Tryz.func66 rfl ?_;refine zad ?_;refine zag (fun _:Nat=>[(0,.i (za5 [])),(1,.i (.v (.slice none 0 0))),(5,ii 0)]) (fun _=>[]) (fun _=>O) 42 (fun _=>True) (fun _=>0) 0 trivial ⟨rfl,rfl,rfl,trivial⟩ rfl trivial rfl rfl ?_;intro _ _ ih;clear ih;refine zai Tk Tryz.func66 ?_;refine gcF Tk Tryz.func66 rfl ?_;refine zaj Tk (r:=bb true) rfl rfl rfl trivial rfl rfl ?_;rfl
theorem zlK (O:List Heap):zan Tryz.prog 21 [celD zCel,.agg zdq] O (bb true) [] O:=by
 have h1:=fun O=>zka O;refine zaa Tk Tryz.func21 rfl Tryz.call21 Tryz.ntmps21 (Nat.le_of_ble_eq_true rfl) fun E=>?_;refine zai Tk Tryz.func21 ?_
 repeat (first|refine gcT Tk Tryz.func21 rfl ?_|refine gkT Tk Tryz.func21 rfl ?_|refine skT Tk ?_|refine gcF Tk Tryz.func21 rfl ?_|refine gkF Tk Tryz.func21 rfl ?_|refine skF Tk ?_)
 refine zad ?_;refine zag (fun _:Nat=>[(2,.own 0 2 0 0),(3,.own 0 3 0 0),(5,ii 0)]) (fun _=>[(2,.box (celC zCel)),(3,.box zdq)]) (fun _=>O) 192 (fun _=>True) (fun _=>0) 0 trivial ⟨rfl,rfl,rfl,trivial⟩ rfl ⟨rfl,rfl,trivial⟩ rfl rfl ?_;intro _ _ ih;clear ih;refine zai Tk Tryz.func21 ?_;refine gcF Tk Tryz.func21 rfl ?_;refine zad ?_;refine zag (fun _:Nat=>[(2,.own 0 2 0 0),(3,.own 0 3 0 0),(6,ii 0)]) (fun _=>[(2,.box (celC zCel)),(3,.box zdq)]) (fun _=>O) 192 (fun _=>True) (fun _=>0) 0 trivial ⟨rfl,rfl,rfl,trivial⟩ rfl ⟨rfl,rfl,trivial⟩ rfl rfl ?_;intro _ _ ih;clear ih;refine zai Tk Tryz.func21 ?_;refine gcF Tk Tryz.func21 rfl ?_;refine zad ?_;refine zag (fun _:Nat=>[(2,.own 0 2 0 0),(3,.own 0 3 0 0),(10,ii 0)]) (fun _=>[(2,.box (celC zCel)),(3,.box zdq)]) (fun _=>O) 192 (fun _=>True) (fun _=>0) 0 trivial ⟨rfl,rfl,rfl,trivial⟩ rfl ⟨rfl,rfl,trivial⟩ rfl rfl ?_
 intro _ _ ih;clear ih;refine zai Tk Tryz.func21 ?_;refine gcF Tk Tryz.func21 rfl ?_;refine zak Tk Tryz.func21 (h1 _) rfl rfl rfl rfl rfl ?_;refine gkT Tk Tryz.func21 rfl ?_;refine zak Tk Tryz.func21 (h1 _) rfl rfl rfl rfl rfl ?_;refine zaj Tk (r:=bb true) rfl rfl rfl trivial rfl rfl ?_;rfl
section
variable {σ:Type} {eq:σ→σ→Bool} {step:σ→Int→σ×Bool×Int} {mkd:σ→Bool}
theorem zp8 {lim:Bool} {i:Nat} {s:σ} {ev:Int} {U V:Unf σ} (h:zdL eq lim step i s ev U=.ok V):V.eds.length≤U.eds.length+1∧V.mkl=U.mkl:=by
 unfold zdL at h
 by_cases h1:(step s ev).2.2≠0
 ·rw[if_pos h1] at h;cases h
 rw[if_neg h1] at h
 by_cases h2:(step s ev).2.1=false
 ·rw[if_pos h2] at h;cases h;exact⟨by omega,rfl⟩
 rw[if_neg h2] at h
 by_cases h3:U.sts.findIdx (eq (step s ev).1)<U.sts.length
 ·rw[if_pos h3] at h;cases h;exact⟨by simp,rfl⟩
 rw[if_neg h3] at h
 by_cases h4:lim=true∧U.sts.length=4096
 ·rw[if_pos h4] at h;cases h
 rw[if_neg h4] at h;cases h;exact⟨by simp,rfl⟩
theorem zgL {lim:Bool} {i:Nat} {s:σ} {V:Unf σ}:∀{l:List Int} {U:Unf σ},zbo eq lim step i s l U=.ok V→V.eds.length≤U.eds.length+l.length∧V.mkl=U.mkl
 |[],U,h=>by cases h;exact⟨by simp,rfl⟩
 |ev::r,U,h=>by
  simp only[zbo] at h
  cases hv:zdL eq lim step i s ev U with
  |error e'=>rw[hv] at h;cases h
  |ok U'=>
   rw[hv] at h;obtain⟨h1,h2⟩:=zgL h;obtain⟨h3,h4⟩:=zp8 hv;exact⟨by rw[List.length_cons];omega,h2.trans h4⟩
theorem zjY {lim:Bool} {alpha:List Int} {V:Unf σ}:∀{f i:Nat} {U:Unf σ},ze7 eq lim step mkd alpha f i U=.ok V→V.eds.length≤U.eds.length+f*alpha.length∧V.mkl.length≤U.mkl.length+f
 |0,_,U,h=>by cases h;exact⟨by simp,by simp⟩
 |f+1,i,U,h=>by
  simp only[ze7] at h
  cases hg:U.sts[i]? with
  |none=>rw[hg] at h;cases h;exact⟨Nat.le_add_right _ _,Nat.le_add_right _ _⟩
  |some s=>
   rw[hg] at h;simp only at h
   cases hv:zbo eq lim step i s alpha (ze6 mkd i s U) with
   |error e'=>rw[hv] at h;cases h
   |ok U'=>
    rw[hv] at h;obtain⟨h1,h2⟩:=zjY h;obtain⟨h3,h4⟩:=zgL hv;rw[(zgQ mkd i s U).2] at h3;have h5:(ze6 mkd i s U).mkl.length≤U.mkl.length+1:=by unfold ze6;split<;>simp
    rw[Nat.succ_mul];rw[h4] at h2;exact⟨by omega,by omega⟩
end
theorem zly {m:Ext} {U:Unf Sta} (h:zbz m=.ok U):U.eds.length≤4097*m.alpha.length∧U.mkl.length≤4097:=by
 unfold zbz at h
 by_cases h1:chk m≠0
 ·rw[if_pos h1] at h;cases h
 ·rw[if_neg h1] at h;have:=zjY h;simpa [unf0] using this
theorem zyh {m:Mdl} (hm:mdlOk m) {x:Ins} (hx:x∈m.comps∨x∈m.reqs):(mchR m x).alpha.length≤1000000:=by
 unfold mchR
 cases zbL m x with
 |none=>exact Nat.zero_le _
 |some t=>
  show (srtZ _).length≤_;rw[(zcK _).length_eq,List.length_map];exact zhs hm hx
theorem zjp {m:Mdl} (hm:mdlOk m):∀{l:List Ins} {i:Nat} {a:List Itm} {o:List (List Sta)},(∀x∈l,x∈m.comps∨x∈m.reqs)→zcD m l i=.ok (a,o)→a.length=l.length∧∀x∈a,itmOk x
 |[],i,a,o,_,h=>by cases h;exact⟨rfl,by simp⟩
 |x::r,i,a,o,hx,h=>by
  simp only[zcD] at h
  cases hu:zbz (mchR m x) with
  |error e=>rw[hu] at h;cases h
  |ok U=>
   rw[hu] at h;simp only at h
   cases hr:zcD m r (i+1) with
   |error e=>rw[hr] at h;cases h
   |ok p=>
    obtain⟨a2,o2⟩:=p;rw[hr] at h
    cases h
    obtain⟨h1,h2⟩:=zjp hm (fun y hy=>hx y (by simp[hy])) hr;obtain⟨h3,h4⟩:=zly hu;have h5:=zyh hm (hx x (by simp));refine⟨by simp[h1],fun y hy=>?_⟩;rcases List.mem_cons.1 hy with rfl|hy
    ·exact⟨by show (mchR m x).alpha.length≤zap;simp only[zap];omega,by show U.mkl.length≤zap;simp only[zap];omega,by show U.eds.length≤zap;simp only[zap];omega⟩
    ·exact h2 y hy
theorem zod {nm:ByteArray}:∀{l:List (List Loc2)} {i:Nat} {y:XEx},y∈numX nm l i→y.locals∈l
 |[],_,_,h=>by cases h
 |b::r,i,y,h=>by
  simp only[numX] at h;rcases List.mem_cons.1 h with rfl|h
  ·simp
  ·exact List.mem_cons_of_mem _ (zod h)
theorem zwq {m:Mdl} {og:List (List Sta)} {x:NEx} {most:Int} {y:XEx} (h:y∈(expX m og x most).1):y.locals.length≤x.locals.length:=by
 unfold expX at h;simp only at h
 by_cases h1:((x.locals.map (chcR m og)).any fun y=>y.2.isEmpty)=true
 ·rw[if_pos h1] at h;cases h
 rw[if_neg h1] at h
 by_cases h2:chsN (x.locals.map (chcR m og)) 1>most
 ·rw[if_pos h2] at h;cases h
 rw[if_neg h2] at h;have hb:=zjJ (zbY (x.locals.map (chcR m og))) (all:=[[]]) (k:=0) (by simp);rw[zfc,List.length_map,Nat.zero_add] at hb;generalize chsR (zbY (x.locals.map (chcR m og))) [[]]=all at *
 split at h
 ·rename_i one;simp only[List.mem_singleton] at h;subst h;exact hb _ (by simp)
 ·exact hb _ (zod h)
theorem zoI {m:Mdl} {og:List (List Sta)}:∀{l:List NEx} {i:Nat} {seen:List ByteArray} {out r:List XEx},zdm m og l i seen out=.ok r→(∀x∈l,x.locals.length≤zap)→out.length≤40*i→(∀y∈out,y.locals.length≤zap)→r.length≤40*(i+l.length)∧∀y∈r,y.locals.length≤zap
 |[],i,seen,out,r,h,_,h1,h2=>by cases h;exact⟨h1,h2⟩
 |x::l,i,seen,out,r,h,hx,h1,h2=>by
  simp only[zdm] at h;have hl:=zoF m og x (32-(out.length:Int)) (by omega);have hm:∀y∈(expX m og x (32-(out.length:Int))).1,y.locals.length≤zap:=fun y hy=>Nat.le_trans (zwq hy) (hx x (by simp))
  by_cases c1:(expX m og x (32-(out.length:Int))).2≠0
  ·rw[if_pos c1] at h;cases h
  rw[if_neg c1] at h
  by_cases c2:((expX m og x (32-(out.length:Int))).1.any fun y=>decide (y.name.size>32))=true
  ·rw[if_pos c2] at h;cases h
  rw[if_neg c2] at h;generalize (expX m og x (32-(out.length:Int))).1=E at *
  cases hd:dupX seen E with
  |error e=>rw[hd] at h;cases h
  |ok s=>
   rw[hd] at h;have:=zoI h (fun y hy=>hx y (by simp[hy])) (by rw[List.length_append];omega) (fun y hy=>by
    rcases List.mem_append.1 hy with hy|hy
    ·exact h2 y hy
    ·exact hm y hy)
   refine⟨?_,this.2⟩;rw[List.length_cons];have:=this.1;omega
theorem zd4:∀(l acc:List Loc2),(l.foldl (fun acc x=>zc7 x acc) acc).length=acc.length+l.length
 |[],acc=>rfl
 |x::r,acc=>by
  rw[List.foldl_cons,zd4 r,zhu,List.length_cons];omega
theorem zt5 (m:Mdl) (x:NCn):(zea m x).terms.length=x.terms.length:=by
 show (List.foldl (fun acc x=>zc7 x acc) [] (x.terms.map fun t=>((fndI (m.comps.map (·.name)) t.1,t.2):Loc2))).length=_;rw[zd4,List.length_map];exact Nat.zero_add _
theorem ziP:celOk zCel:=⟨Nat.zero_le _,Nat.zero_le _,by simp[zCel],Nat.zero_le _,by simp[zCel],Nat.zero_le _,by simp[zCel],Nat.zero_le _,by simp[zCel]⟩
theorem zrf {m:Mdl} (hm:mdlOk m):celOk (celR m).1:=by
 unfold celR
 by_cases h:(mdlE m).2≠0
 ·rw[if_pos h];exact ziP
 rw[if_neg h]
 cases h1:zcD m m.comps 0 with
 |error p=>exact ziP
 |ok p=>
  obtain⟨a,og⟩:=p;simp only
  cases h2:zcD m m.reqs 0 with
  |error p=>exact ziP
  |ok p=>
   obtain⟨b,og2⟩:=p;simp only
   cases h3:zdm m og m.excs 0 [] [] with
   |error p=>exact ziP
   |ok out=>
    simp only;obtain⟨e1,e2⟩:=zjp hm (fun x hx=>.inl hx) h1;obtain⟨e3,e4⟩:=zjp hm (fun x hx=>.inr hx) h2;obtain⟨e5,e6⟩:=zoI h3 (fun x hx=>by have:=(hm.exk x hx).2;simp only[zap];omega) (Nat.zero_le _) (by simp);have s1:=hm.ev;have s2:=hm.co;have s3:=hm.rq;have s4:=hm.ex;have s5:=hm.cn;refine⟨by simp only[zap];omega,by simp only[zap];omega,e2,by simp only[zap];omega,e4,by simp only[zap];omega,e6,by simp only[zap,List.length_map];omega,fun x hx=>?_⟩;obtain⟨y,hy,rfl⟩:=List.mem_map.1 hx;rw[zt5];have:=(hm.cnk y hy).2;simp only[zap];omega
theorem zzM {g:Nat} (hg:ze2 g) {ty:TypeId} {fr:Nat×Nat} (O:List Heap) (k:Sk22) (hk:sk22Ok k) :
  zbb g (ptab ty fr) Tryz.prog 6 [zxO k] O (bb true) [] O:=by
 have hkn:=fun O=>zyx hg (ty:=ty) (fr:=fr) O;have hmk:=fun O=>zzq hg (ty:=ty) (fr:=fr) O k hk;have hm:=zvZ hk;have hmv:=zv0 hk;have hev:((zcM k).evs.map (·.name)).Nodup:=by rw[zhk];exact zq6
 clear hk;generalize zcM k=m at *;have h15:=fun O=>zyW O m hm;have h16:=fun O=>zxq hg (ty:=ty) (fr:=fr) O m hm hmv;have h28:=fun h O=>zzN hg (ty:=ty) (fr:=fr) O m hm hmv h hev;have h21:=fun O=>zqw O (celR m).1 (zrf hm);have h21z:=fun O=>zlK O;have hz:(mdlE m).2≠0→celR m=(zCel,mdlE m):=fun h=>by unfold celR;rw[if_pos h]
 generalize celR m=C at *;generalize mdlE m=E at *;obtain⟨c,⟨p1,p2⟩,e⟩:=C;obtain⟨⟨q1,q2⟩,f⟩:=E;simp only at hz h28 h21
 by_cases hf:f≠0
 ·have hz:=hz hf
  cases hz
  clear h28 h21;have h15:∀O,zan Tryz.prog 15 [mdlD m] O (.tup [.agg [ii p1,ii p2],ii e]) [] O:=h15;have h16:∀O,zbb g (ptab ty fr) Tryz.prog 16 [mdlD m] O (.tup [celD zCel,.agg [ii p1,ii p2],ii e]) [] O:=h16;refine zaZ [] Tk Tryz.func6 rfl Tryz.call6 Tryz.ntmps6 (Nat.le_of_ble_eq_true rfl) fun E hE=>?_;refine zai Tk Tryz.func6 ?_;refine zba Tk Tryz.func6 hE (hkn _) rfl rfl rfl rfl rfl rfl ?_;refine gcF Tk Tryz.func6 rfl ?_;refine zba Tk Tryz.func6 hE (hmk _) rfl rfl rfl rfl rfl rfl ?_;refine zba Tk Tryz.func6 hE (h16 _) rfl rfl rfl rfl rfl rfl ?_;refine zak Tk Tryz.func6 (h15 _) rfl rfl rfl rfl rfl ?_;refine zaf Tk Tryz.func6 rfl (fun _=>?_) (fun h=>absurd h (by simpa using hf));refine zak Tk Tryz.func6 (h21z _) rfl rfl rfl rfl rfl ?_;refine gkT Tk Tryz.func6 rfl ?_;refine zaG Tk Tryz.func6 rfl (fun _=>?_) (fun h=>absurd h (by simp))
  refine zaj Tk (r:=bb (e==e)) rfl rfl rfl trivial rfl rfl ?_;simp
 have hf:f=0:=Classical.byContradiction hf;subst hf;have h28:=h28 rfl;clear hz h21z;have h15:∀O,zan Tryz.prog 15 [mdlD m] O (.tup [.agg [ii q1,ii q2],ii 0]) [] O:=h15;have h16:∀O,zbb g (ptab ty fr) Tryz.prog 16 [mdlD m] O (.tup [celD c,.agg [ii p1,ii p2],ii e]) [] O:=h16;have h28:∀O,zbb g (ptab ty fr) Tryz.prog 28 [mdlD m] O (.tup [celD c,.agg [ii p1,ii p2],ii e]) [] O:=h28;refine zaZ [] Tk Tryz.func6 rfl Tryz.call6 Tryz.ntmps6 (Nat.le_of_ble_eq_true rfl) fun E hE=>?_;refine zai Tk Tryz.func6 ?_;refine zba Tk Tryz.func6 hE (hkn _) rfl rfl rfl rfl rfl rfl ?_;refine gcF Tk Tryz.func6 rfl ?_;refine zba Tk Tryz.func6 hE (hmk _) rfl rfl rfl rfl rfl rfl ?_;refine zba Tk Tryz.func6 hE (h16 _) rfl rfl rfl rfl rfl rfl ?_;refine zak Tk Tryz.func6 (h15 _) rfl rfl rfl rfl rfl ?_;refine gcF Tk Tryz.func6 rfl ?_;refine zba Tk Tryz.func6 hE (h28 _) rfl rfl rfl rfl rfl rfl ?_
 refine zak Tk Tryz.func6 (h21 _) rfl rfl rfl rfl rfl ?_;refine gkT Tk Tryz.func6 rfl ?_;refine zaG Tk Tryz.func6 rfl (fun _=>?_) (fun h=>absurd h (by simp));refine zaj Tk (r:=bb (e==e)) rfl rfl rfl trivial rfl rfl ?_;simp
end Go.AI
namespace Go.Proofs.YtnojpbbaohoadaaGreatDoor
set_option maxRecDepth 100000
theorem zdn:laidOutB Tryz.prog=true:=by kernel_rfl
theorem zf3:mapsRowed Tryz.prog=true:=by kernel_rfl
theorem zfz:(Rows.elaborateCellsRow.inPlace==Tryz.prog.inPlace 6)=true:=by kernel_rfl
theorem zfy:(Rows.elaborateCellsRow.unfollowed==Tryz.prog.unfollowed 6)=true:=by kernel_rfl
theorem zfx:(Rows.elaborateCellsRow.recurses==Tryz.prog.recurses 6)=true:=by kernel_rfl
theorem zfw:(Rows.elaborateCellsRow.named==Tryz.prog.varsNamed 6)=true:=by kernel_rfl
theorem zd7:joinedFacts Tryz.prog 6 Tryz.f6 Rows.elaborateCellsSpec Rows.elaborateCellsRow=true:=by
 simp only[joinedFacts,Bool.and_eq_true]
 repeat' refine And.intro ?_ ?_
 ·kernel_rfl
 ·exact zdn
 ·exact zf3
 ·kernel_rfl
 ·kernel_rfl
 ·kernel_rfl
 ·kernel_rfl
 ·kernel_rfl
 ·kernel_rfl
 ·exact zfz
 ·exact zfy
 ·exact zfx
 ·exact zfw
 ·kernel_rfl
 ·kernel_rfl
 ·kernel_rfl
 ·kernel_rfl
 ·kernel_rfl
 ·kernel_rfl
 ·kernel_rfl
 ·kernel_rfl
 ·kernel_rfl
 ·kernel_rfl
 ·kernel_rfl
 ·kernel_rfl
 ·kernel_rfl
 ·kernel_rfl
 ·kernel_rfl
 ·kernel_rfl
 ·kernel_rfl
 ·kernel_rfl
 ·kernel_rfl
theorem zeY : Tryz.prog.mainIs = some (true, "9aa124d96d2f2fea36404c3e6649a1942013d744947b2e2ae648d5b84282eb38".toList) := by kernel_rfl
theorem zev:false=Tryz.prog.looks []:=by kernel_rfl
theorem zeZ:false=Rows.elaborateCellsRow.goesBy Tryz.prog:=by kernel_rfl
end Go.Proofs.YtnojpbbaohoadaaGreatDoor
