/- The layer of abstract runs, part 31. -/
import Derived.Test.YtlcekmemdnjjbaaGreatDoorCorZD
set_option linter.unusedSimpArgs false
set_option linter.unusedVariables false
set_option linter.all false

set_option maxHeartbeats 4000000
namespace Go.AI
open Go.Proofs
set_option maxRecDepth 20000
section
variable {a:Aut} {on:List Int} {frm:List Fd} {n:Nat}
theorem RGd.perm {l m:List Fd} (h:RGd a on frm l) (hp:m.Perm l):RGd a on frm m:=
 ⟨fun y hy=>h.snd y (hp.mem_iff.1 hy),((hp.map (·.1)).nodup_iff).2 h.nd,fun x hx=>let ⟨y,hy,h1⟩:=h.cov x hx;⟨y,hp.mem_iff.2 hy,h1⟩⟩
theorem zo2 {l m:List Fd} (hp:m.Perm l):sumR m=sumR l:=by
 induction hp with
 | nil=>rfl
 | cons x _ ih=>simp only[sumR,ih]
 | swap x y l=>simp only[sumR];omega
 | trans _ _ h1 h2=>rw[h1,h2]
theorem RGd.rks (hdet:∀ s t w,RP a on frm s w→RP a on frm t w→s=t) (ho:fdOk a n frm) {l:List Fd} (h:RGd a on frm l):l.Pairwise fun x y=>rk x.2≠rk y.2:=by
 have hnd:=h.nd
 unfold List.Nodup at hnd
 rw[List.pairwise_map] at hnd
 refine hnd.imp_of_mem fun {x y} hx hy hne e=>hne ?_
 have px:=h.snd x hx
 have py:=h.snd y hy
 have hw:=zpt (px.ok ho).2 (py.ok ho).2 e
 rw[hw] at px
 exact hdet _ _ _ px py
theorem zqB:∀ {l:List Fd},(l.Pairwise fun x y=>rk x.2≠rk y.2)→∃ m:List Fd,Srt m∧m.Perm l
 | [],_=>⟨[],.nil,List.Perm.refl _⟩
 | x::l,h=>by
  rw[List.pairwise_cons] at h
  obtain⟨m,h1,h2⟩:=zqB h.2
  have key:∀ m:List Fd,Srt m→(∀ y∈m,rk x.2≠rk y.2)→∃ k:List Fd,Srt k∧k.Perm (x::m):=by
   intro m
   induction m with
   | nil=>intro _ _;exact⟨[x],List.pairwise_singleton _ _,List.Perm.refl _⟩
   | cons y m ih=>
    intro hs hn
    have hs:=List.pairwise_cons.1 hs
    have hxy:=hn y (by simp)
    by_cases hc:rk x.2<rk y.2
    ·refine⟨x::y::m,List.pairwise_cons.2 ⟨fun z hz=>?_,List.pairwise_cons.2 hs⟩,List.Perm.refl _⟩
     rcases List.mem_cons.1 hz with rfl | hz
     ·exact hc
     ·have:=hs.1 z hz;omega
    ·obtain⟨k,hk1,hk2⟩:=ih hs.2 fun z hz=>hn z (by simp[hz])
     refine⟨y::k,List.pairwise_cons.2 ⟨fun z hz=>?_,hk1⟩,(hk2.cons y).trans (List.Perm.swap _ _ _)⟩
     rcases List.mem_cons.1 (hk2.mem_iff.1 hz) with rfl | hz
     ·omega
     ·exact hs.1 z hz
  obtain⟨k,hk1,hk2⟩:=key m h1 fun y hy=>h.1 y (h2.mem_iff.1 hy)
  exact⟨k,hk1,hk2.trans (h2.cons x)⟩
theorem zeW {α:Type} {p:α→Bool}:∀ {l:List α} {i:Nat},zax p l i<0→∀ y∈l,p y=false
 | [],_,_,y,hy=>by cases hy
 | x::l,i,h,y,hy=>by
  simp only[zax] at h
  by_cases c:p x=true
  ·rw[if_pos c] at h;omega
  ·rw[if_neg c] at h
   rcases List.mem_cons.1 hy with rfl | hy
   ·simpa using c
   ·exact zeW h y hy
theorem zc9 {α:Type} {p:α→Bool}:∀ {l:List α} {i:Nat},¬ zax p l i<0→∃ (k:Nat) (h:k<l.length),zax p l i=((i+k:Nat):Int)∧p l[k]=true
 | [],_,h=>absurd (by simp only[zax];omega) h
 | x::l,i,h=>by
  simp only[zax] at h ⊢
  by_cases c:p x=true
  ·rw[if_pos c];exact⟨0,by simp,by simp,c⟩
  ·rw[if_neg c] at h ⊢
   obtain⟨k,hk,h1,h2⟩:=zc9 (i:=i+1) h
   exact⟨k+1,by simp;omega,by rw[h1];congr 1;omega,by simpa using h2⟩
end
theorem zvP {c:Cx} {ops:Array Oper} {i:Nat} {rest:List Nat} {o:Oper} {s s':St} {k:List Item} (hw:Wk c s s') (h:GM c (.pause ops i rest o s' k)):GM c (.pause ops i rest o s k):=
 ⟨fun K ρ a w hi=>let ⟨_,_,h1⟩:=hw K ρ a w hi;h.h _ _ a w h1⟩
abbrev psD (st:Bool) (k:Nat):D:=bif st then .psl 62 k else .psl 61 k
abbrev opS (st:Bool) (old:List Fd):Option (List Fd):=bif st then some old else none
set_option maxHeartbeats 16000000 in
theorem zug (O:List Heap) (a:Aut) (n B:Nat) (frm:List Fd) (on:List Int) (hn:n≤12) (hB:B≤500000) (hal:a.alpha.length≤1000000) (hes:a.edges.length≤1000000) (hon:on.length≤1000000) (ho:fdOk a n frm) (hfl:∀ x∈frm,x.2.length≤B) (hfn:(frm.map (·.1)).Nodup)
  (hdet:∀ s t w,RP a on frm s w→RP a on frm t w→s=t):zan Tryz.prog 96 [autD a,fdsD frm,ints on] O (fdsD (rchF a on frm)) [] O:=by
 have hg0:RGd a on frm frm:=⟨fun y hy=>RP.base hy,hfn,fun x hx=>⟨x,hx,rfl,Nat.le_refl _⟩⟩
 have h0:=hg0.few ho
 have c1:=fun O=>zqU O frm (by omega)
 have c2:=fun O l hl hw hin hnd ho=>zt7 O 0 61 l hl hw hin hnd ho
 have hst:=fun O s e=>zhk O a s e hes
 have hct:=fun O e=>za3 O on e (by simp only[zas];omega)
 have hcl:=fun O l hl=>zmJ O l hl
 have hcm:=fun O a b ha hb=>zmI O a b ha hb
 have hix:=fun O (l:List Fd) (t:Int) (hl:l.length≤1000000) (h1:zaa O 0 61=some (ofds l)) (h2:zaa O 0 13=some (.box [ii t]))=>zp9 O l 144 0 61 0 13 (fun x=>x.1==t) hl h1 fun x _=>zwl ([]::O) x t 1 13 (zaD h2)
 obtain⟨al,st0,mk,es⟩:=a
 simp only at hal hes hst
 refine zau [7,13,200061] Tk Tryz.func96 rfl Tryz.call96 Tryz.ntmps96 (Nat.le_of_ble_eq_true rfl) fun E=>?_
 refine zae Tk Tryz.func96 ?_
 refine zaf Tk Tryz.func96 (c1 _) rfl rfl rfl rfl rfl ?_
 refine zac ?_
 refine zaq (zcg 6 62 178 2 rfl rfl rfl) ?_
 refine zaq (zcV 208 61 rfl rfl rfl) ?_
 refine zah (fun x:List Fd × List Fd=>[(2,ints on),(3,.own 0 3 0 0),(7,.osl 0 61)]) (fun x=>[(3,.box [ints al,ii st0,ints mk,edgs es]),(61,ofds x.1),(62,ofds x.2)]) (fun _=>O) 80
  (fun x=>RGd ⟨al,st0,mk,es⟩ on frm x.1∧∀ y∈x.1,y.2.length≤B+x.1.length) (fun x=>meas n B x.1) (frm,[]) ⟨hg0,fun y hy=>by have:=hfl y hy;omega⟩ ⟨rfl,rfl,rfl,trivial⟩ rfl ⟨rfl,rfl,rfl,trivial⟩ rfl rfl ?_
 rintro ⟨l1,junk⟩ ⟨hg1,hlen1⟩ ih
 simp only at hg1 hlen1
 have hf1:=hg1.few ho
 have hnd1:=hg1.rks hdet ho
 have hw1:∀ x∈l1,x.2.length≤1000000:=fun x hx=>by have:=hlen1 x hx;omega
 have hin1:∀ x∈l1,inW x.2:=fun x hx=>((hg1.snd x hx).ok ho).2
 have hsl:=zj8 hnd1
 obtain⟨m,hm1,hm2⟩:=zqB hnd1
 obtain⟨-,hsrt,hprm⟩:=zeI hm1 hm2
 have cs:=fun O ho=>c2 O l1 (by omega) hw1 hin1 hnd1 ho
 have hmeas:meas n B (srtF l1)=meas n B l1:=by unfold meas;rw[hsl,zo2 hprm]
 have hg:RGd ⟨al,st0,mk,es⟩ on frm (srtF l1):=hg1.perm hprm
 have hlen:∀ y∈srtF l1,y.2.length≤B+(srtF l1).length:=fun y hy=>by rw[hsl];exact hlen1 y (hprm.mem_iff.1 hy)
 refine zae Tk Tryz.func96 ?_
 refine zaf Tk Tryz.func96 (cs _ rfl) rfl rfl rfl (zbn (ob:=ofds l1) rfl (by simp[Ob.sh,hsl])) rfl ?_
 rw[← hmeas] at ih
 clear hsl hprm hmeas cs hw1 hin1 hnd1 hlen1 hg1 hm1 hm2 m
 generalize srtF l1=l0 at *
 have hf0:=hg.few ho
 refine zac ?_
 refine zaq (zva 20 61 rfl rfl rfl) ?_
 have hps0:Pss ⟨al,st0,mk,es⟩ on frm n B l0 l0 none false:=⟨hg,hlen,Nat.le_refl _,fun _ e=>(by cases e),fun _=>⟨rfl,rfl⟩,fun e=>(by cases e)⟩
 refine zah (fun y:List Fd × List Fd × Bool × Bool × Nat=>[(2,ints on),(3,.own 0 3 0 0),(7,.osl 0 61),(8,bb y.2.2.2.1),(20,psD y.2.2.1 l0.length),(21,ii l0.length),(22,ii y.2.2.2.2)])
  (fun y=>[(3,.box [ints al,ii st0,ints mk,edgs es]),(61,ofds y.1),(62,ofds y.2.1)]) (fun _=>O) 80
  (fun y=>y.2.2.2.2≤l0.length∧Pss ⟨al,st0,mk,es⟩ on frm n B l0 y.1 (opS y.2.2.1 y.2.1) y.2.2.2.1∧(y.2.2.2.1=false→∀ i',i' < y.2.2.2.2→∀ z,l0[i']? = some z→∀ e∈al,clE ⟨al,st0,mk,es⟩ on l0 z e))
  (fun y=>l0.length - y.2.2.2.2) (l0,junk,false,false,0) ⟨Nat.zero_le _,hps0,fun _ i' h=>absurd h (Nat.not_lt_zero _)⟩ ⟨rfl,rfl,rfl,rfl,rfl,rfl,rfl,trivial⟩ rfl ⟨rfl,rfl,rfl,trivial⟩ rfl rfl ?_
 clear hps0
 rintro ⟨l,old,st,ch,i⟩ ⟨hi,hps,hdn⟩ ih2
 simp only at hi hps hdn
 refine zae Tk Tryz.func96 ?_
 refine zai Tk Tryz.func96 rfl (fun g1=>?_) (fun g1=>?_)
 ·have h3:i<l0.length:=by simpa using g1
  clear g1
  have hi1:ii (IntKind.i64.wrap ((i:Int)+1))=ii ((i+1:Nat):Int):=congrArg ii (zaC (n:=1000001) (by omega) (by decide))
  obtain⟨x,hx1,hx2,hx3⟩:∃ x:Fd,(bif st then old else l)[i]? = some x∧(RP ⟨al,st0,mk,es⟩ on frm x.1 x.2∧x.2.length≤B+l.length)∧(ch=false→l0[i]? = some x):=by
   have hil:i<(bif st then old else l).length:=by
    cases st with
    | false=>have:=hps.k;simp only[cond_false];omega
    | true=>have:=(hps.alo old rfl).1;simp only[cond_true];omega
   refine⟨_,List.getElem?_eq_getElem hil,hps.at ?_,fun hc=>?_⟩
   ·have:=List.getElem_mem hil
    cases st <;> exact this
   ·obtain⟨e1,e2⟩:=hps.same hc
    subst e1
    cases st with
    | true=>cases e2
    | false=>simp
  have gx:((bif st then old else l).map fdI)[((i:Nat):Int).toNat]? = some (fdI x):=by
   rw[List.getElem?_map]
   show ((bif st then old else l)[i]?).map fdI=_
   rw[hx1];rfl
  obtain⟨xs,xw⟩:=x
  obtain⟨hxp,hxl⟩:=hx2
  simp only at hxp hxl
  have hxin:=(hxp.ok ho).2
  apply zcj (P:=True) (s6:={ σ:=[(2,ints on),(3,.own 0 3 0 0),(7,.osl 0 61),(8,bb ch),(20,psD st l0.length),(21,ii l0.length),(22,ii i),(10,.own 0 10 0 0)],S:=[(3,.box [ints al,ii st0,ints mk,edgs es]),(61,ofds l),(62,ofds old),(10,.box [ii xs,ints xw])]::O,n:=80 })
  ·intro J
   cases st with
   | false=>
    refine zag Tk Tryz.func96 (by exact⟨by omega,by show (i:Int)<(l0.length:Int);omega⟩) ?_
    refine zap Tk Tryz.func96 (gx) ?_
    refine zay ?_
    refine zaE (J trivial) ⟨rfl,rfl,rfl,rfl,rfl,rfl,rfl,rfl,trivial⟩ rfl ⟨rfl,rfl,rfl,rfl,trivial⟩ rfl rfl
   | true=>
    refine zag Tk Tryz.func96 (by exact⟨by omega,by show (i:Int)<(l0.length:Int);omega⟩) ?_
    refine zap Tk Tryz.func96 (gx) ?_
    refine zay ?_
    refine zaE (J trivial) ⟨rfl,rfl,rfl,rfl,rfl,rfl,rfl,rfl,trivial⟩ rfl ⟨rfl,rfl,rfl,rfl,trivial⟩ rfl rfl
  intro _
  refine zae Tk Tryz.func96 ?_
  refine g_go Tk Tryz.func96 ?_
  refine zac ?_
  refine zah (fun z:List Fd × List Fd × Bool × Bool × Nat=>[(2,ints on),(3,.own 0 3 0 0),(7,.osl 0 61),(8,bb z.2.2.2.1),(20,psD z.2.2.1 l0.length),(21,ii l0.length),(22,ii i),(10,.own 0 10 0 0),(27,ints al),(28,ii al.length),(29,ii z.2.2.2.2)])
   (fun z=>[(3,.box [ints al,ii st0,ints mk,edgs es]),(61,ofds z.1),(62,ofds z.2.1),(10,.box [ii xs,ints xw])]) (fun _=>O) 80
   (fun z=>z.2.2.2.2≤al.length∧Pss ⟨al,st0,mk,es⟩ on frm n B l0 z.1 (opS z.2.2.1 z.2.1) z.2.2.2.1∧xw.length≤B+z.1.length∧(z.2.2.2.1=false→ch=false∧∀ e∈al.take z.2.2.2.2,clE ⟨al,st0,mk,es⟩ on l0 (xs,xw) e))
   (fun z=>al.length - z.2.2.2.2) (l,old,st,ch,0) ⟨Nat.zero_le _,hps,hxl,fun h=>⟨h,by simp⟩⟩ ⟨rfl,rfl,rfl,rfl,rfl,rfl,rfl,rfl,rfl,rfl,rfl,trivial⟩ rfl ⟨rfl,rfl,rfl,rfl,trivial⟩ (by cases st <;> rfl) rfl ?_
  rintro ⟨l',old',st',ch',j⟩ ⟨hj,hps',hxl',hdn'⟩ ih3
  simp only at hj hps' hxl' hdn'
  cases st' with
  | false=>
   have hfw:=hps'.g.few ho
   refine zae Tk Tryz.func96 ?_
   refine zai Tk Tryz.func96 rfl (fun g2=>?_) (fun g2=>?_)
   ·have h4:j<al.length:=by simpa using g2
    clear g2
    have hj1:ii (IntKind.i64.wrap ((j:Int)+1))=ii ((j+1:Nat):Int):=congrArg ii (zaC (n:=1000001) (by omega) (by decide))
    have ga:(al.map fun x=>[vi x])[(j:Int).toNat]? = some [vi al[j]]:=zaj (f:=fun x=>[vi x]) h4
    have htk:al.take (j+1)=al.take j++[al[j]]:=List.take_succ_eq_append_getElem h4
    have he:al[j]∈al:=List.getElem_mem h4
    have hein:=ho.al _ he
    have hstep:(ch' = false→clE ⟨al,st0,mk,es⟩ on l0 (xs,xw) al[j])→ch' = false→ch=false∧∀ e∈al.take (j+1),clE ⟨al,st0,mk,es⟩ on l0 (xs,xw) e:=fun hq hc=>by
     refine⟨(hdn' hc).1,fun e' he'=>?_⟩
     rw[htk] at he'
     rcases List.mem_append.1 he' with he' | he'
     ·exact (hdn' hc).2 e' he'
     ·rw[List.mem_singleton] at he'
      subst he';exact hq hc
    generalize al[j]=e at *
    have d2:=fun O=>hst O xs e
    have d3:=fun O=>hct O e
    have hcl1:=fun O=>hcl O xw (by omega)
    have hwin:inW (xw++[e]):=fun z hz=>by
     rcases List.mem_append.1 hz with hz | hz
     ·exact hxin z hz
     ·rw[List.mem_singleton] at hz;subst hz;exact hein
    obtain⟨t,ht⟩:∃ t,t=stp3 es xs e:=⟨_,rfl⟩
    rw[← ht] at d2
    refine zag Tk Tryz.func96 (by exact⟨by omega,by show (j:Int)<(al.length:Int);omega⟩) ?_
    refine zap Tk Tryz.func96 (ga) ?_
    refine zaf Tk Tryz.func96 (d2 _) rfl rfl rfl rfl rfl ?_
    refine zaW Tk Tryz.func96 rfl (fun k1=>?_) (fun k1=>?_)
    ·have k1:t<0:=of_decide_eq_true k1
     refine gcT Tk Tryz.func96 rfl ?_
     refine zac ?_
     refine ih3 (l',old',false,ch',j+1) _ _ ⟨h4,hps',hxl',hstep fun _ _ h=>by simp only at h;omega⟩ (by simp only;omega) ⟨rfl,rfl,rfl,rfl,rfl,rfl,rfl,rfl,rfl,rfl,hj1,trivial⟩ rfl ⟨rfl,rfl,rfl,rfl,trivial⟩ rfl rfl
    have k1:¬ t<0:=of_decide_eq_false k1
    refine zaf Tk Tryz.func96 (d3 _) rfl rfl rfl rfl rfl ?_
    refine zai Tk Tryz.func96 rfl (fun k2=>?_) (fun k2=>?_)
    ·have k2:e∈on:=of_decide_eq_true k2
     refine zac ?_
     refine ih3 (l',old',false,ch',j+1) _ _ ⟨h4,hps',hxl',hstep fun _ h=>absurd k2 h⟩ (by simp only;omega) ⟨rfl,rfl,rfl,rfl,rfl,rfl,rfl,rfl,rfl,rfl,hj1,trivial⟩ rfl ⟨rfl,rfl,rfl,rfl,trivial⟩ rfl rfl
    have k2:e ∉ on:=of_decide_eq_false k2
    refine zaf Tk Tryz.func96 (hcl1 _) rfl rfl rfl rfl rfl ?_
    refine zag Tk Tryz.func96 (by exact⟨by show (xw.length+1) * 8≤140737488355328;omega,by show xw.length+1≤9223372036854775807;omega⟩) ?_
    refine zay ?_
    refine zaq (zao 50 rfl rfl) ?_
    refine zaq (zeb rfl) ?_
    have ew:I.sl 1 (xw.length+1) (xw.map (fun x=>[vi x])++[[vi e]])=zbE (xw++[e]):=by simp
    refine zaE (l:=[(2,ints on),(3,.own 0 3 0 0),(7,.osl 0 61),(8,bb ch'),(20,psD false l0.length),(21,ii l0.length),(22,ii i),(10,.own 0 10 0 0),(27,ints al),(28,ii al.length),(29,ii j),(12,ii e),(13,.own 0 13 0 0),(14,ints (xw++[e]))]) (Hv:=[(3,.box [ints al,ii st0,ints mk,edgs es]),(61,ofds l'),(62,ofds old'),(10,.box [ii xs,ints xw]),(13,.box [ii t])]) ?_ ⟨rfl,rfl,rfl,rfl,rfl,rfl,rfl,rfl,rfl,rfl,rfl,rfl,rfl,congrArg D.i ew,trivial⟩ rfl ⟨rfl,rfl,rfl,rfl,rfl,trivial⟩ rfl rfl
    generalize hww:xw++[e]=ww at *
    refine zae Tk Tryz.func96 ?_
    refine g_go Tk Tryz.func96 ?_
    refine zaf Tk Tryz.func96 (hix _ l' t (by omega) rfl rfl) rfl rfl rfl rfl rfl ?_
    refine zai Tk Tryz.func96 rfl (fun k3=>?_) (fun k3=>?_)
    ·have k3:zax (fun x:Fd=>x.1==t) l' 0<0:=of_decide_eq_true k3
     have hno:∀ y∈l',y.1≠t:=fun y hy h=>by
      have:=zeW k3 y hy
      simp[h] at this
     have happ:=fun al' hal=>hps'.app (al':=al') ho hal hxp hxl' he k2 (by show 0≤stp3 es xs e;omega) (fun y hy=>by show y.1≠stp3 es xs e;rw[← ht];exact hno y hy)
     rw[hww] at happ
     have happ':∀ al',(al' = opS false old' ∨ al' = some l')→Pss ⟨al,st0,mk,es⟩ on frm n B l0 (l' ++ [(t,ww)]) al' true∧l'.length<n:=fun al' hal=>by rw[ht];exact happ al' hal
     have hofd:Ob.arr 178 2 (l'.length+1) (l'.map fdI++[fdI (t,ww)]) true=ofds (l' ++ [(t,ww)]):=by simp
     have hxl2:xw.length≤B+(l' ++ [(t,ww)]).length:=by rw[List.length_append];omega
     refine zvP (zcV 62 64 rfl rfl rfl) ?_
     refine zvP (zcV 61 62 rfl rfl rfl) ?_
     refine zuM Tk Tryz.func96 (ta:=20) (kk:=l0.length) (nm:=62) (n:=l'.length) (m:=1) (xs:=l'.map fdI) (ys:=[fdI (t,ww)]) ⟨by show (l'.length+1) * 32≤140737488355328;omega,by omega⟩ rfl rfl rfl rfl rfl rfl rfl rfl rfl rfl rfl rfl rfl rfl rfl rfl rfl rfl ?_ ?_
     ·have hq:=(happ' none (.inl rfl)).1
      refine zac ?_
      refine zaq (zcV 64 62 rfl rfl rfl) ?_
      refine ih3 (l' ++ [(t,ww)],old',false,true,j+1) _ _ ⟨h4,hq,hxl2,fun h=>by cases h⟩ (by simp only;omega) ⟨rfl,rfl,rfl,rfl,rfl,rfl,rfl,rfl,rfl,rfl,hj1,trivial⟩ rfl ⟨rfl,congrArg some hofd,rfl,rfl,trivial⟩ rfl rfl
     ·have hq:=(happ' (some l') (.inr rfl)).1
      refine zac ?_
      refine ih3 (l' ++ [(t,ww)],l',true,true,j+1) _ _ ⟨h4,hq,hxl2,fun h=>by cases h⟩ (by simp only;omega) ⟨rfl,rfl,rfl,rfl,rfl,rfl,rfl,rfl,rfl,rfl,hj1,trivial⟩ rfl ⟨rfl,congrArg some hofd,rfl,rfl,trivial⟩ rfl rfl
    ·have k3:¬ zax (fun x:Fd=>x.1==t) l' 0<0:=of_decide_eq_false k3
     obtain⟨k,hk,hkx,hkt⟩:=zc9 k3
     rw[Nat.zero_add] at hkx
     have hkt:l'[k].1=t:=by simpa using hkt
     have gk:(l'.map fdI)[(((k:Nat):Int)).toNat]? = some (fdI l'[k]):=zaj hk
     have hkp:=hps'.g.snd _ (List.getElem_mem hk)
     have hkl:=hps'.len _ (List.getElem_mem hk)
     have hupd:=fun hr=>hps'.upd ho hxp he k2 (by show 0≤stp3 es xs e;omega) hk (by rw[hkt];exact ht) hr
     have hset:∀ z:Fd,(l'.map fdI).set k (fdI z)=(l'.set k z).map fdI:=fun z=>List.map_set.symm
     have hmem:=List.getElem_mem hk
     rw[hww] at hupd
     have hcm1:=fun O=>hcm O ww l'[k].2 (by rw[← hww,List.length_append,List.length_singleton];omega) (by omega)
     have hlt:=zey hwin (hkp.ok ho).2
     generalize hlk:l'[k]=y at *
     obtain⟨ys,yw⟩:=y
     simp only at hkt hcm1 hlt hupd hkl
     generalize cmpW ww yw=cw at *
     generalize zax (fun x:Fd=>x.1==t) l' 0=fx at *
     subst hkx
     refine zag Tk Tryz.func96 (by exact⟨by omega,by show ((k:Nat):Int)<(l'.length:Int);omega⟩) ?_
     refine zap Tk Tryz.func96 (gk) ?_
     refine zaf Tk Tryz.func96 (hcm1 _) rfl rfl rfl rfl rfl ?_
     refine zai Tk Tryz.func96 rfl (fun k4=>?_) (fun k4=>?_)
     ·have k4:cw<0:=of_decide_eq_true k4
      have hq:=hupd (hlt.1 k4)
      refine zag Tk Tryz.func96 (by exact⟨by omega,by show ((k:Nat):Int)<(l'.length:Int);omega⟩) ?_
      refine zap Tk Tryz.func96 (gk) ?_
      refine zac ?_
      refine ih3 (l'.set k (ys,ww),old',false,true,j+1) _ _ ⟨h4,hq,by rw[List.length_set];exact hxl',fun h=>by cases h⟩ (by simp only;omega) ⟨rfl,rfl,rfl,rfl,rfl,rfl,rfl,rfl,rfl,rfl,hj1,trivial⟩ rfl ⟨rfl,?_,rfl,rfl,trivial⟩ rfl rfl
      show some (Ob.arr 178 2 l'.length ((l'.map fdI).set k (fdI (ys,ww))) true)=some (Ob.arr 178 2 (l'.set k (ys,ww)).length ((l'.set k (ys,ww)).map fdI) true)
      rw[hset,List.length_set]
     ·have k4:¬ cw<0:=of_decide_eq_false k4
      have hle:rk yw≤rk ww:=by
       rcases Nat.lt_or_ge (rk ww) (rk yw) with h | h
       ·exact absurd (hlt.2 h) k4
       ·exact h
      refine zac ?_
      refine ih3 (l',old',false,ch',j+1) _ _ ⟨h4,hps',hxl',hstep fun hc _ _=>⟨(ys,yw),?_,?_,?_⟩⟩ (by simp only;omega) ⟨rfl,rfl,rfl,rfl,rfl,rfl,rfl,rfl,rfl,rfl,hj1,trivial⟩ rfl ⟨rfl,rfl,rfl,rfl,trivial⟩ rfl rfl
      ·rw[← (hps'.same hc).1];exact hmem
      ·rw[← ht];exact hkt
      ·simp only
       rw[hww]
       exact hle
   ·have h4:al.length≤j:=by simpa using g2
    rw[List.take_of_length_le h4] at hdn'
    refine zac ?_
    refine ih2 (l',old',false,ch',i+1) _ _ ⟨h3,hps',fun hc i' hi' z hz e he=>?_⟩ (by simp only;omega) ⟨rfl,rfl,rfl,rfl,rfl,rfl,hi1,trivial⟩ rfl ⟨rfl,rfl,rfl,trivial⟩ rfl rfl
    have hi':i' < i+1:=hi'
    obtain⟨hc0,hcl0⟩:=hdn' hc
    by_cases hlt:i' < i
    ·exact hdn hc0 i' hlt z hz e he
    ·obtain rfl:i' = i:=by omega
     rw[hx3 hc0] at hz
     obtain rfl:=Option.some.inj hz
     exact hcl0 e he
  | true=>
   have hfw:=hps'.g.few ho
   refine zae Tk Tryz.func96 ?_
   refine zai Tk Tryz.func96 rfl (fun g2=>?_) (fun g2=>?_)
   ·have h4:j<al.length:=by simpa using g2
    clear g2
    have hj1:ii (IntKind.i64.wrap ((j:Int)+1))=ii ((j+1:Nat):Int):=congrArg ii (zaC (n:=1000001) (by omega) (by decide))
    have ga:(al.map fun x=>[vi x])[(j:Int).toNat]? = some [vi al[j]]:=zaj (f:=fun x=>[vi x]) h4
    have htk:al.take (j+1)=al.take j++[al[j]]:=List.take_succ_eq_append_getElem h4
    have he:al[j]∈al:=List.getElem_mem h4
    have hein:=ho.al _ he
    have hstep:(ch' = false→clE ⟨al,st0,mk,es⟩ on l0 (xs,xw) al[j])→ch' = false→ch=false∧∀ e∈al.take (j+1),clE ⟨al,st0,mk,es⟩ on l0 (xs,xw) e:=fun hq hc=>by
     refine⟨(hdn' hc).1,fun e' he'=>?_⟩
     rw[htk] at he'
     rcases List.mem_append.1 he' with he' | he'
     ·exact (hdn' hc).2 e' he'
     ·rw[List.mem_singleton] at he'
      subst he';exact hq hc
    generalize al[j]=e at *
    have d2:=fun O=>hst O xs e
    have d3:=fun O=>hct O e
    have hcl1:=fun O=>hcl O xw (by omega)
    have hwin:inW (xw++[e]):=fun z hz=>by
     rcases List.mem_append.1 hz with hz | hz
     ·exact hxin z hz
     ·rw[List.mem_singleton] at hz;subst hz;exact hein
    obtain⟨t,ht⟩:∃ t,t=stp3 es xs e:=⟨_,rfl⟩
    rw[← ht] at d2
    refine zag Tk Tryz.func96 (by exact⟨by omega,by show (j:Int)<(al.length:Int);omega⟩) ?_
    refine zap Tk Tryz.func96 (ga) ?_
    refine zaf Tk Tryz.func96 (d2 _) rfl rfl rfl rfl rfl ?_
    refine zaW Tk Tryz.func96 rfl (fun k1=>?_) (fun k1=>?_)
    ·have k1:t<0:=of_decide_eq_true k1
     refine gcT Tk Tryz.func96 rfl ?_
     refine zac ?_
     refine ih3 (l',old',true,ch',j+1) _ _ ⟨h4,hps',hxl',hstep fun _ _ h=>by simp only at h;omega⟩ (by simp only;omega) ⟨rfl,rfl,rfl,rfl,rfl,rfl,rfl,rfl,rfl,rfl,hj1,trivial⟩ rfl ⟨rfl,rfl,rfl,rfl,trivial⟩ rfl rfl
    have k1:¬ t<0:=of_decide_eq_false k1
    refine zaf Tk Tryz.func96 (d3 _) rfl rfl rfl rfl rfl ?_
    refine zai Tk Tryz.func96 rfl (fun k2=>?_) (fun k2=>?_)
    ·have k2:e∈on:=of_decide_eq_true k2
     refine zac ?_
     refine ih3 (l',old',true,ch',j+1) _ _ ⟨h4,hps',hxl',hstep fun _ h=>absurd k2 h⟩ (by simp only;omega) ⟨rfl,rfl,rfl,rfl,rfl,rfl,rfl,rfl,rfl,rfl,hj1,trivial⟩ rfl ⟨rfl,rfl,rfl,rfl,trivial⟩ rfl rfl
    have k2:e ∉ on:=of_decide_eq_false k2
    refine zaf Tk Tryz.func96 (hcl1 _) rfl rfl rfl rfl rfl ?_
    refine zag Tk Tryz.func96 (by exact⟨by show (xw.length+1) * 8≤140737488355328;omega,by show xw.length+1≤9223372036854775807;omega⟩) ?_
    refine zay ?_
    refine zaq (zao 50 rfl rfl) ?_
    refine zaq (zeb rfl) ?_
    have ew:I.sl 1 (xw.length+1) (xw.map (fun x=>[vi x])++[[vi e]])=zbE (xw++[e]):=by simp
    refine zaE (l:=[(2,ints on),(3,.own 0 3 0 0),(7,.osl 0 61),(8,bb ch'),(20,psD true l0.length),(21,ii l0.length),(22,ii i),(10,.own 0 10 0 0),(27,ints al),(28,ii al.length),(29,ii j),(12,ii e),(13,.own 0 13 0 0),(14,ints (xw++[e]))]) (Hv:=[(3,.box [ints al,ii st0,ints mk,edgs es]),(61,ofds l'),(62,ofds old'),(10,.box [ii xs,ints xw]),(13,.box [ii t])]) ?_ ⟨rfl,rfl,rfl,rfl,rfl,rfl,rfl,rfl,rfl,rfl,rfl,rfl,rfl,congrArg D.i ew,trivial⟩ rfl ⟨rfl,rfl,rfl,rfl,rfl,trivial⟩ rfl rfl
    generalize hww:xw++[e]=ww at *
    refine zae Tk Tryz.func96 ?_
    refine g_go Tk Tryz.func96 ?_
    refine zaf Tk Tryz.func96 (hix _ l' t (by omega) rfl rfl) rfl rfl rfl rfl rfl ?_
    refine zai Tk Tryz.func96 rfl (fun k3=>?_) (fun k3=>?_)
    ·have k3:zax (fun x:Fd=>x.1==t) l' 0<0:=of_decide_eq_true k3
     have hno:∀ y∈l',y.1≠t:=fun y hy h=>by
      have:=zeW k3 y hy
      simp[h] at this
     have happ:=fun al' hal=>hps'.app (al':=al') ho hal hxp hxl' he k2 (by show 0≤stp3 es xs e;omega) (fun y hy=>by show y.1≠stp3 es xs e;rw[← ht];exact hno y hy)
     rw[hww] at happ
     have happ':∀ al',(al' = opS true old' ∨ al' = some l')→Pss ⟨al,st0,mk,es⟩ on frm n B l0 (l' ++ [(t,ww)]) al' true∧l'.length<n:=fun al' hal=>by rw[ht];exact happ al' hal
     have hofd:Ob.arr 178 2 (l'.length+1) (l'.map fdI++[fdI (t,ww)]) true=ofds (l' ++ [(t,ww)]):=by simp
     have hxl2:xw.length≤B+(l' ++ [(t,ww)]).length:=by rw[List.length_append];omega
     have hq:=(happ' (some old') (.inl rfl)).1
     refine ziA Tk Tryz.func96 rfl rfl (Wk.refl) ?_
     refine zag Tk Tryz.func96 (by exact⟨by show (l'.length+1) * 32≤140737488355328;omega,by show l'.length+1≤9223372036854775807;omega⟩) ?_
     refine zac ?_
     refine ih3 (l' ++ [(t,ww)],old',true,true,j+1) _ _ ⟨h4,hq,hxl2,fun h=>by cases h⟩ (by simp only;omega) ⟨rfl,rfl,rfl,rfl,rfl,rfl,rfl,rfl,rfl,rfl,hj1,trivial⟩ rfl ⟨rfl,congrArg some hofd,rfl,rfl,trivial⟩ rfl rfl
    ·have k3:¬ zax (fun x:Fd=>x.1==t) l' 0<0:=of_decide_eq_false k3
     obtain⟨k,hk,hkx,hkt⟩:=zc9 k3
     rw[Nat.zero_add] at hkx
     have hkt:l'[k].1=t:=by simpa using hkt
     have gk:(l'.map fdI)[(((k:Nat):Int)).toNat]? = some (fdI l'[k]):=zaj hk
     have hkp:=hps'.g.snd _ (List.getElem_mem hk)
     have hkl:=hps'.len _ (List.getElem_mem hk)
     have hupd:=fun hr=>hps'.upd ho hxp he k2 (by show 0≤stp3 es xs e;omega) hk (by rw[hkt];exact ht) hr
     have hset:∀ z:Fd,(l'.map fdI).set k (fdI z)=(l'.set k z).map fdI:=fun z=>List.map_set.symm
     have hmem:=List.getElem_mem hk
     rw[hww] at hupd
     have hcm1:=fun O=>hcm O ww l'[k].2 (by rw[← hww,List.length_append,List.length_singleton];omega) (by omega)
     have hlt:=zey hwin (hkp.ok ho).2
     generalize hlk:l'[k]=y at *
     obtain⟨ys,yw⟩:=y
     simp only at hkt hcm1 hlt hupd hkl
     generalize cmpW ww yw=cw at *
     generalize zax (fun x:Fd=>x.1==t) l' 0=fx at *
     subst hkx
     refine zag Tk Tryz.func96 (by exact⟨by omega,by show ((k:Nat):Int)<(l'.length:Int);omega⟩) ?_
     refine zap Tk Tryz.func96 (gk) ?_
     refine zaf Tk Tryz.func96 (hcm1 _) rfl rfl rfl rfl rfl ?_
     refine zai Tk Tryz.func96 rfl (fun k4=>?_) (fun k4=>?_)
     ·have k4:cw<0:=of_decide_eq_true k4
      have hq:=hupd (hlt.1 k4)
      refine zag Tk Tryz.func96 (by exact⟨by omega,by show ((k:Nat):Int)<(l'.length:Int);omega⟩) ?_
      refine zap Tk Tryz.func96 (gk) ?_
      refine zac ?_
      refine ih3 (l'.set k (ys,ww),old',true,true,j+1) _ _ ⟨h4,hq,by rw[List.length_set];exact hxl',fun h=>by cases h⟩ (by simp only;omega) ⟨rfl,rfl,rfl,rfl,rfl,rfl,rfl,rfl,rfl,rfl,hj1,trivial⟩ rfl ⟨rfl,?_,rfl,rfl,trivial⟩ rfl rfl
      show some (Ob.arr 178 2 l'.length ((l'.map fdI).set k (fdI (ys,ww))) true)=some (Ob.arr 178 2 (l'.set k (ys,ww)).length ((l'.set k (ys,ww)).map fdI) true)
      rw[hset,List.length_set]
     ·have k4:¬ cw<0:=of_decide_eq_false k4
      have hle:rk yw≤rk ww:=by
       rcases Nat.lt_or_ge (rk ww) (rk yw) with h | h
       ·exact absurd (hlt.2 h) k4
       ·exact h
      refine zac ?_
      refine ih3 (l',old',true,ch',j+1) _ _ ⟨h4,hps',hxl',hstep fun hc _ _=>⟨(ys,yw),?_,?_,?_⟩⟩ (by simp only;omega) ⟨rfl,rfl,rfl,rfl,rfl,rfl,rfl,rfl,rfl,rfl,hj1,trivial⟩ rfl ⟨rfl,rfl,rfl,rfl,trivial⟩ rfl rfl
      ·rw[← (hps'.same hc).1];exact hmem
      ·rw[← ht];exact hkt
      ·simp only
       rw[hww]
       exact hle
   ·have h4:al.length≤j:=by simpa using g2
    rw[List.take_of_length_le h4] at hdn'
    refine zac ?_
    refine ih2 (l',old',true,ch',i+1) _ _ ⟨h3,hps',fun hc i' hi' z hz e he=>?_⟩ (by simp only;omega) ⟨rfl,rfl,rfl,rfl,rfl,rfl,hi1,trivial⟩ rfl ⟨rfl,rfl,rfl,trivial⟩ rfl rfl
    have hi':i' < i+1:=hi'
    obtain⟨hc0,hcl0⟩:=hdn' hc
    by_cases hlt:i' < i
    ·exact hdn hc0 i' hlt z hz e he
    ·obtain rfl:i' = i:=by omega
     rw[hx3 hc0] at hz
     obtain rfl:=Option.some.inj hz
     exact hcl0 e he
 ·have h3:l0.length≤i:=by simpa using g1
  cases ch with
  | false=>
   obtain⟨e1,-⟩:=hps.same rfl
   subst e1
   have hq:RQ ⟨al,st0,mk,es⟩ on frm l:=hg.q hsrt fun z hz e he=>by
    obtain⟨i',hi',rfl⟩:=List.mem_iff_getElem.1 hz
    exact hdn rfl i' (by omega) _ (List.getElem?_eq_getElem hi') e he
   rw[← zpD ho hq]
   refine gcT Tk Tryz.func96 rfl ?_
   refine zcG (zao 61 rfl rfl) ?_
   refine zak Tk (r:=fdsD l) rfl rfl rfl trivial rfl rfl ?_
   rfl
  | true=>
   refine gcF Tk Tryz.func96 rfl ?_
   refine zac ?_
   have hlt:=hps.less rfl
   refine ih (l,old) _ _ ⟨hps.g,hps.len⟩ (by simpa using hlt) ⟨rfl,rfl,rfl,trivial⟩ rfl ⟨rfl,rfl,rfl,trivial⟩ rfl rfl
end Go.AI


namespace Go.AI
open Go.Proofs
set_option maxRecDepth 20000
theorem filt_pos {f:Int→Bool} {l:List Int}:0<(l.filter f).length ↔ ∃ s∈l,f s=true:=by
 rw[List.length_pos_iff_exists_mem]
 exact⟨fun ⟨s,h⟩=>⟨s,(List.mem_filter.1 h).1,(List.mem_filter.1 h).2⟩,fun ⟨s,h1,h2⟩=>⟨s,List.mem_filter.2 ⟨h1,h2⟩⟩⟩
end Go.AI


namespace Go.AI
set_option maxRecDepth 20000
section
variable {a:Aut} {n:Nat} {on on1:List Int} {V V1:Unf (List Int)}
theorem zmr {on:List Int} {ev:Int}:lowP on [] false ev=true ↔ ev ∉ on:=by simp[lowP]
end
theorem zmD {x:Sys} (hx:gSys x) (hV:(lpV x).length≤4095) (hn:(lpR x).2.length≤11) (h0:(lpR x).2.length≠0):∃ V,prjU (lpR x).1 (lpR x).2.length x.ob V∧(esR x).2=V.sts:=by
 obtain⟨V,hU⟩:=zvr (lp_g hx hV).1 (by omega) hn x.ob
 exact⟨V,hU,by unfold esR;rw[if_neg h0,hU.hV]⟩
theorem zmE {x:Sys} (h0:(lpR x).2.length=0):(esR x).2=[]:=by unfold esR;rw[if_pos h0]
end Go.AI


namespace Go.AI
set_option maxRecDepth 20000
theorem zdx {es:List Edg} {e:Int}:∀ {w:List Int} {s:Int},0≤runI es s w→runI es s (w++[e])=if stp3 es (runI es s w) e<0 then -1 else stp3 es (runI es s w) e
 | [],s,_=>rfl
 | x::w,s,h=>by
  by_cases c:stp3 es s x<0
  ·rw[runI,if_pos c] at h;omega
  ·have e1:runI es s (x::w)=runI es (stp3 es s x) w:=by rw[runI,if_neg c]
   have e2:runI es s (x::(w++[e]))=runI es (stp3 es s x) (w++[e]):=by rw[runI,if_neg c]
   rw[e1] at h
   rw[List.cons_append,e2,e1]
   exact zdx h
structure vdF (a:Aut) (n:Nat) (l:List Fd):Prop where
 nd:(l.map (·.1)).Nodup
 run:∀ x∈l,runI a.edges 0 x.2=x.1
 rng:∀ x∈l,0≤x.1∧x.1<(n:Int)
 wrd:∀ x∈l,inW x.2
theorem ztn {P:List Int→Prop}:∀ (m:Nat) (w:List Int),P w→rk w≤m→∃ w,P w∧∀ w',P w' → rk w≤rk w'
 | m,w,hp,hm=>by
  by_cases h:∃ w',P w' ∧ rk w' < rk w
  ·obtain⟨w',h1,h2⟩:=h
   cases m with
   | zero=>omega
   | succ m=>exact ztn m w' h1 (by omega)
  ·exact⟨w,hp,fun w' hw=>Nat.le_of_not_lt fun hlt=>h ⟨w',hw,hlt⟩⟩
section
variable {a:Aut} {on:List Int} {frm:List Fd} {n:Nat}
theorem vdF.ok (h:gAut a n) (hv:vdF a n frm):fdOk a n frm:=⟨(zam (zaA h.c).1).2.1,h.to,hv.rng,hv.wrd⟩
theorem RP.run (h:gAut a n) (hv:vdF a n frm) {s:Int} {w:List Int} (hp:RP a on frm s w):runI a.edges 0 w=s:=by
 induction hp with
 | base hx=>exact hv.run _ hx
 | @step s e w hp he ho ht ih=>
  have:=(hp.ok (hv.ok h)).1
  rw[zdx (by rw[ih];omega),ih,if_neg (by omega)]
theorem vdF.det (h:gAut a n) (hv:vdF a n frm):∀ s t w,RP a on frm s w→RP a on frm t w→s=t:=fun s t w h1 h2=>(h1.run h hv).symm.trans (h2.run h hv)
theorem zte (h:gAut a n) (hv:vdF a n frm):∀ k,k≤n→∃ l:List Fd,(∀ y∈l,RP a on frm y.1 y.2∧y.1<(k:Int))∧(l.map (·.1)).Nodup∧∀ t w,RP a on frm t w→t<(k:Int)→∃ y∈l,y.1=t∧rk y.2≤rk w
 | 0,_=>⟨[],by simp,by simp,fun t w hp ht=>by have:=(hp.ok (hv.ok h)).1;omega⟩
 | k+1,hk=>by
  obtain⟨l,h1,h2,h3⟩:=zte h hv k (by omega)
  by_cases hc:∃ w,RP a on frm (k:Int) w
  ·obtain⟨w0,hw0⟩:=hc
   obtain⟨w,hw,hmin⟩:=ztn (P:=fun w=>RP a on frm (k:Int) w) _ w0 hw0 (Nat.le_refl _)
   refine⟨l++[((k:Int),w)],fun y hy=>?_,?_,fun t v hp ht=>?_⟩
   ·rcases List.mem_append.1 hy with hy | hy
    ·exact⟨(h1 y hy).1,by have:=(h1 y hy).2;omega⟩
    ·rw[List.mem_singleton] at hy
     subst hy
     exact⟨hw,by simp only;omega⟩
   ·rw[List.map_append,List.nodup_append]
    refine⟨h2,by simp,fun x hx y hy=>?_⟩
    obtain⟨z,hz,rfl⟩:=List.mem_map.1 hx
    simp only[List.map_cons,List.map_nil,List.mem_singleton] at hy
    subst hy
    have:=(h1 z hz).2
    show z.1≠(k:Int)
    omega
   ·by_cases htk:t=(k:Int)
    ·subst htk
     exact⟨((k:Int),w),by simp,rfl,hmin v hp⟩
    ·obtain⟨y,hy,h4⟩:=h3 t v hp (by omega)
     exact⟨y,by simp[hy],h4⟩
  ·refine⟨l,fun y hy=>⟨(h1 y hy).1,by have:=(h1 y hy).2;omega⟩,h2,fun t v hp ht=>?_⟩
   by_cases htk:t=(k:Int)
   ·subst htk;exact absurd ⟨v,hp⟩ hc
   ·exact h3 t v hp (by omega)
theorem zed (h:gAut a n) (hv:vdF a n frm):RQ a on frm (rchF a on frm):=by
 obtain⟨l,h1,h2,h3⟩:=zte (on:=on) h hv n (Nat.le_refl _)
 have hlow:∀ t w,RP a on frm t w→∃ y∈l,y.1=t∧rk y.2≤rk w:=fun t w hp=>h3 t w hp (hp.ok (hv.ok h)).1.2
 have hg:RGd a on frm l:=⟨fun y hy=>(h1 y hy).1,h2,fun x hx=>hlow _ _ (RP.base hx)⟩
 obtain⟨m,hm1,hm2⟩:=zqB (hg.rks (hv.det h) (hv.ok h))
 have hq:RQ a on frm m:=⟨fun y hy=>hg.snd y (hm2.mem_iff.1 hy),(hg.perm hm2).nd,fun t w hp=>let ⟨y,hy,e⟩:=hlow t w hp;⟨y,hm2.mem_iff.2 hy,e⟩,hm1⟩
 rwa [← zpD (hv.ok h) hq]
theorem zic (h:gAut a n) (hv:vdF a n frm):vdF a n (rchF a on frm):=by
 have hq:=zed (on:=on) h hv
 exact⟨hq.nd,fun x hx=>(hq.snd x hx).run h hv,fun x hx=>((hq.snd x hx).ok (hv.ok h)).1,fun x hx=>((hq.snd x hx).ok (hv.ok h)).2⟩
theorem zd0 (h:gAut a n) (hv:vdF a n frm):zbs ((rchF a on frm).map (·.1))=clo a.edges (lowP on [] false) n (frm.map (·.1)):=by
 have hq:=zed (on:=on) h hv
 have hvd:=zic (on:=on) h hv
 rw[zej (n:=n) hq.nd fun x hx=>by
  obtain⟨y,hy,rfl⟩:=List.mem_map.1 hx
  exact hvd.rng y hy]
 unfold clo
 refine zcZ fun x hx0 hxn=>?_
 clear hx0 hxn
 rw[zc8 h.to]
 constructor
 ·intro hx
  obtain⟨y,hy,rfl⟩:=List.mem_map.1 hx
  have:∀ s w,RP a on frm s w→Rc a.edges (lowP on [] false) (frm.map (·.1)) s:=by
   intro s w hp
   induction hp with
   | base hx=>exact .base (List.mem_map.2 ⟨_,hx,rfl⟩)
   | @step s e w hp he ho ht ih=>
    obtain⟨z,hz,e1,e2,e3⟩:=zcY ht
    rw[← e3]
    exact .step (by rw[e1];exact ih) hz (by rw[e2,zmr];exact ho)
  exact this _ _ (hq.snd y hy)
 ·intro hx
  have:∃ w,RP a on frm x w:=by
   induction hx with
   | base hx=>
    obtain⟨y,hy,rfl⟩:=List.mem_map.1 hx
    exact⟨_,RP.base hy⟩
   | @step e hr he hp ih=>
    obtain⟨w,hw⟩:=ih
    have hs:=zcs h.pw he
    have:=h.to e he
    rw[← hs]
    exact⟨_,RP.step hw (h.ev e he) (zmr.1 hp) (by rw[hs];exact this.1)⟩
  obtain⟨w,hw⟩:=this
  obtain⟨y,hy,e,_⟩:=hq.low x w hw
  exact List.mem_map.2 ⟨y,hy,e⟩
end
def nxS (es:List Edg) (e:Int) (acc:List Fd) (x:Fd):List Fd:=
 if stp3 es x.1 e<0 then acc else
 if zax (fun y:Fd=>y.1==stp3 es x.1 e) acc 0<0 then acc++[(stp3 es x.1 e,x.2++[e])] else
 if cmpW (x.2++[e]) (acc.getD (zax (fun y:Fd=>y.1==stp3 es x.1 e) acc 0).toNat (0,[])).2<0 then acc.set (zax (fun y:Fd=>y.1==stp3 es x.1 e) acc 0).toNat ((acc.getD (zax (fun y:Fd=>y.1==stp3 es x.1 e) acc 0).toNat (0,[])).1,x.2++[e]) else acc
def nxF (es:List Edg) (e:Int) (W:List Fd):List Fd:=W.foldl (nxS es e) []
structure NxOk (es:List Edg) (e:Int) (W acc:List Fd):Prop where
 nd:(acc.map (·.1)).Nodup
 snd:∀ y∈acc,∃ x∈W,y=(stp3 es x.1 e,x.2++[e])∧0≤y.1
 cov:∀ x∈W,0≤stp3 es x.1 e→∃ y∈acc,y.1=stp3 es x.1 e∧rk y.2≤rk (x.2++[e])
theorem zvt {es:List Edg} {e:Int} {W acc:List Fd} {x:Fd} (he:0≤e∧e<32) (hW:∀ x∈W,inW x.2) (hx:inW x.2) (h:NxOk es e W acc):NxOk es e (W++[x]) (nxS es e acc x):=by
 have hsn:∀ y∈acc,∃ z∈W++[x],y=(stp3 es z.1 e,z.2++[e])∧0≤y.1:=fun y hy=>let ⟨z,hz,e1⟩:=h.snd y hy;⟨z,by simp[hz],e1⟩
 have hwe:∀ v:List Int,inW v→inW (v++[e]):=fun v hv z hz=>by
  rcases List.mem_append.1 hz with hz | hz
  ·exact hv z hz
  ·rw[List.mem_singleton] at hz;subst hz;exact he
 unfold nxS
 by_cases c1:stp3 es x.1 e<0
 ·rw[if_pos c1]
  refine⟨h.nd,hsn,fun z hz ht=>?_⟩
  rcases List.mem_append.1 hz with hz | hz
  ·exact h.cov z hz ht
  ·rw[List.mem_singleton] at hz;subst hz;omega
 rw[if_neg c1]
 by_cases c2:zax (fun y:Fd=>y.1==stp3 es x.1 e) acc 0<0
 ·rw[if_pos c2]
  have hno:=zeW c2
  refine⟨?_,fun y hy=>?_,fun z hz ht=>?_⟩
  ·rw[List.map_append,List.nodup_append]
   refine⟨h.nd,by simp,fun u hu v hv=>?_⟩
   obtain⟨y,hy,rfl⟩:=List.mem_map.1 hu
   simp only[List.map_cons,List.map_nil,List.mem_singleton] at hv
   subst hv
   have:=hno y hy
   simpa using this
  ·rcases List.mem_append.1 hy with hy | hy
   ·exact hsn y hy
   ·rw[List.mem_singleton] at hy
    subst hy
    exact⟨x,by simp,rfl,by simp only;omega⟩
  ·rcases List.mem_append.1 hz with hz | hz
   ·obtain⟨y,hy,e1⟩:=h.cov z hz ht
    exact⟨y,by simp[hy],e1⟩
   ·rw[List.mem_singleton] at hz
    subst hz
    exact⟨_,List.mem_append.2 (.inr (List.mem_singleton.2 rfl)),rfl,Nat.le_refl _⟩
 rw[if_neg c2]
 obtain⟨k,hk,hkx,hkt⟩:=zc9 c2
 rw[Nat.zero_add] at hkx
 have hkt:acc[k].1=stp3 es x.1 e:=by simpa using hkt
 rw[hkx,Int.toNat_natCast]
 have hgd:acc.getD k (0,[])=acc[k]:=by rw[List.getD_eq_getElem?_getD,List.getElem?_eq_getElem hk];rfl
 rw[hgd]
 have hyin:inW acc[k].2:=by
  obtain⟨z,hz,e1,_⟩:=h.snd _ (List.getElem_mem hk)
  rw[e1]
  exact hwe _ (hW z hz)
 by_cases c3:cmpW (x.2++[e]) acc[k].2<0
 ·rw[if_pos c3]
  have hlt:=(zey (hwe _ hx) hyin).1 c3
  have hmap:(acc.set k (acc[k].1,x.2++[e])).map (·.1)=acc.map (·.1):=by
   rw[List.map_set]
   have:acc[k].1=(acc.map (·.1))[k]'(by rw[List.length_map];exact hk):=by simp
   simp only
   rw[this,List.set_getElem_self]
  have hcv:∀ t v,(∃ y∈acc,y.1=t∧rk y.2≤v)→∃ y∈acc.set k (acc[k].1,x.2++[e]),y.1=t∧rk y.2≤v:=by
   rintro t v ⟨y,hy,h1,h2⟩
   obtain⟨i,hi,rfl⟩:=List.mem_iff_getElem.1 hy
   by_cases hik:k=i
   ·subst hik
    exact⟨_,List.mem_set hk _,h1,by simp only;omega⟩
   ·exact⟨acc[i],by
     rw[List.mem_iff_getElem]
     exact⟨i,by rw[List.length_set];exact hi,by rw[List.getElem_set_ne hik]⟩,h1,h2⟩
  refine⟨by rw[hmap];exact h.nd,fun y hy=>?_,fun z hz ht=>?_⟩
  ·rcases List.mem_or_eq_of_mem_set hy with hy | rfl
   ·exact hsn y hy
   ·exact⟨x,by simp,by rw[hkt],by simp only;rw[hkt];omega⟩
  ·rcases List.mem_append.1 hz with hz | hz
   ·exact hcv _ _ (h.cov z hz ht)
   ·rw[List.mem_singleton] at hz
    subst hz
    exact⟨_,List.mem_set hk _,hkt,Nat.le_refl _⟩
 ·rw[if_neg c3]
  refine⟨h.nd,hsn,fun z hz ht=>?_⟩
  rcases List.mem_append.1 hz with hz | hz
  ·exact h.cov z hz ht
  ·rw[List.mem_singleton] at hz
   subst hz
   refine⟨acc[k],List.getElem_mem hk,hkt,?_⟩
   rcases Nat.lt_or_ge (rk (z.2++[e])) (rk acc[k].2) with hlt | hge
   ·exact absurd ((zey (hwe _ hx) hyin).2 hlt) c3
   ·exact hge
theorem zpO {es:List Edg} {e:Int} (he:0≤e∧e<32):∀ (W W0 acc:List Fd),(∀ x∈W0,inW x.2)→(∀ x∈W,inW x.2)→NxOk es e W0 acc→NxOk es e (W0++W) (W.foldl (nxS es e) acc)
 | [],W0,acc,_,_,h=>by simpa using h
 | x::W,W0,acc,h0,h1,h=>by
  rw[List.foldl_cons]
  have:=zpO he W (W0++[x]) _ (fun y hy=>by
   rcases List.mem_append.1 hy with hy | hy
   ·exact h0 y hy
   ·rw[List.mem_singleton] at hy;subst hy;exact h1 _ (by simp)) (fun y hy=>h1 y (by simp[hy])) (zvt he h0 (h1 x (by simp)) h)
  simpa using this
theorem zhx {es:List Edg} {e:Int} {W:List Fd} (he:0≤e∧e<32) (hW:∀ x∈W,inW x.2):NxOk es e W (nxF es e W):=by
 have:=zpO (es:=es) he W [] [] (by simp) hW ⟨by simp,by simp,by simp⟩
 simpa [nxF] using this
section
variable {a:Aut} {on:List Int} {n:Nat} {W:List Fd} {e:Int}
theorem zjr (h:gAut a n) (he:0≤e∧e<32) (hv:vdF a n W):vdF a n (nxF a.edges e W):=by
 have hn:=zhx (es:=a.edges) he hv.wrd
 refine⟨hn.nd,fun y hy=>?_,fun y hy=>?_,fun y hy=>?_⟩
 ·obtain⟨x,hx,rfl,h0⟩:=hn.snd y hy
  simp only at h0 ⊢
  have hr:=hv.run x hx
  have:=hv.rng x hx
  rw[zdx (by rw[hr];omega),hr,if_neg (by omega)]
 ·obtain⟨x,hx,rfl,h0⟩:=hn.snd y hy
  refine⟨h0,?_⟩
  obtain⟨z,hz,_,_,e3⟩:=zcY (show 0≤stp3 a.edges x.1 e from h0)
  simp only
  rw[← e3]
  exact (h.to z hz).2
 ·obtain⟨x,hx,rfl,_⟩:=hn.snd y hy
  intro z hz
  rcases List.mem_append.1 hz with hz | hz
  ·exact hv.wrd x hx z hz
  ·rw[List.mem_singleton] at hz;subst hz;exact he
theorem znY (h:gAut a n) (he:0≤e∧e<32) (hv:vdF a n W) {s:List Int} (hs:∀ x,x∈s ↔ x∈W.map (·.1)):∀ t,t∈(nxF a.edges e W).map (·.1) ↔ t∈tgtE a.edges s e:=by
 have hn:=zhx (es:=a.edges) he hv.wrd
 intro t
 rw[zim]
 constructor
 ·intro ht
  obtain⟨y,hy,rfl⟩:=List.mem_map.1 ht
  obtain⟨x,hx,rfl,h0⟩:=hn.snd y hy
  obtain⟨z,hz,e1,e2,e3⟩:=zcY (show 0≤stp3 a.edges x.1 e from h0)
  exact⟨z,hz,by rw[e1,hs];exact List.mem_map.2 ⟨x,hx,rfl⟩,e2,e3⟩
 ·rintro ⟨z,hz,h1,rfl,rfl⟩
  rw[hs] at h1
  obtain⟨x,hx,e1⟩:=List.mem_map.1 h1
  have hst:=zcs h.pw hz
  rw[← e1] at hst
  obtain⟨y,hy,e2,_⟩:=hn.cov x hx (by rw[hst];exact (h.to z hz).1)
  exact List.mem_map.2 ⟨y,hy,by rw[e2,hst]⟩
theorem zij (h:gAut a n) (he:0≤e∧e<32) (hv:vdF a n W) {s:List Int} (hs:∀ x,x∈s ↔ x∈W.map (·.1)):clo a.edges (lowP on [] false) n ((nxF a.edges e W).map (·.1))=nxt a.edges (lowP on [] false) n s e:=
 ze0 h.to (fun _ _=>rfl) (znY h he hv hs)
theorem zpP (h:gAut a n) (he:0≤e∧e<32) (hv:vdF a n W) {s:List Int} (hs:∀ x,x∈s ↔ x∈W.map (·.1)):nxF a.edges e W=[] ↔ nxt a.edges (lowP on [] false) n s e=[]:=by
 constructor
 ·intro h0
  have:=zij (on:=on) h he hv hs
  rw[h0,List.map_nil,zuZ] at this
  exact this.symm
 ·intro h0
  refine Classical.byContradiction fun hne=>?_
  obtain⟨y,hy⟩:=List.exists_mem_of_ne_nil _ hne
  have hr:=(zjr h he hv).rng y hy
  have:y.1∈nxt a.edges (lowP on [] false) n s e:=by
   rw[← zij (on:=on) h he hv hs,zio h.to]
   exact⟨hr,.base (List.mem_map.2 ⟨y,hy,rfl⟩)⟩
  rw[h0] at this
  cases this
theorem vd0 (h:gAut a n) (h0:0<n):vdF a n [((0:Int),([]:List Int))]:=⟨by simp,by simp[runI],fun x hx=>by
 rw[List.mem_singleton] at hx;subst hx;exact⟨Int.le_refl _,by simp only;omega⟩,fun x hx=>by
 rw[List.mem_singleton] at hx;subst hx;intro z hz;cases hz⟩
end
structure WOk (a:Aut) (on:List Int) (eds:List Edg) (N:Nat) (W:List (List Fd)):Prop where
 len:W.length=N
 fst:W[0]? = some (rchF a on [((0:Int),([]:List Int))])
 nxt:∀ k,0<k→k<N→∃ (i:Nat) (e:Int) (Wi:List Fd),eds.find? (fun x=>x.2.2==(k:Int))=some ((i:Int),e,(k:Int))∧i<k∧W[i]? = some Wi∧W[k]? = some (rchF a on (nxF a.edges e Wi))
theorem WOk.eq {a:Aut} {on:List Int} {eds:List Edg} {N:Nat} {W W':List (List Fd)} (h:WOk a on eds N W) (h':WOk a on eds N W'):W=W':=by
 have key:∀ (m k:Nat),k<m→W[k]? = W'[k]?:=by
  intro m
  induction m with
  | zero=>intro k hk;omega
  | succ m ih=>
   intro k hk
   by_cases h0:k=0
   ·subst h0;rw[h.fst,h'.fst]
   ·by_cases hN:k<N
    ·obtain⟨i,e,Wi,f1,f2,f3,f4⟩:=h.nxt k (by omega) hN
     obtain⟨i',e',Wi',g1,g2,g3,g4⟩:=h'.nxt k (by omega) hN
     rw[f1] at g1
     simp only[Option.some.injEq,Prod.mk.injEq,and_true] at g1
     obtain⟨g0,rfl⟩:=g1
     obtain rfl:i=i':=by omega
     rw[ih i (by omega),g3] at f3
     obtain rfl:=Option.some.inj f3
     rw[f4,g4]
    ·rw[List.getElem?_eq_none (by rw[h.len];omega),List.getElem?_eq_none (by rw[h'.len];omega)]
 exact List.ext_getElem? fun k=>key (k+1) k (Nat.lt_succ_self k)
open Classical in
noncomputable def wrdF (a:Aut) (on:List Int) (eds:List Edg) (N:Nat):List (List Fd):=if h:∃ W,WOk a on eds N W then h.choose else []
theorem zoJ {a:Aut} {on:List Int} {eds:List Edg} {N:Nat} {W:List (List Fd)} (h:WOk a on eds N W):W=wrdF a on eds N:=by
 have hex:∃ W,WOk a on eds N W:=⟨W,h⟩
 have e:wrdF a on eds N=hex.choose:=by unfold wrdF;rw[dif_pos hex]
 rw[e]
 exact h.eq hex.choose_spec
theorem WOk.edge {a:Aut} {on:List Int} {eds:List Edg} {N:Nat} {W:List (List Fd)} (h:WOk a on eds N W) (x:Edg):WOk a on (eds++[x]) N W:=by
 refine⟨h.len,h.fst,fun k h0 hk=>?_⟩
 obtain⟨i,e,Wi,f1,f2⟩:=h.nxt k h0 hk
 exact⟨i,e,Wi,by rw[List.find?_append,f1];rfl,f2⟩
theorem WOk.grow {a:Aut} {on:List Int} {eds:List Edg} {N:Nat} {W:List (List Fd)} (h:WOk a on eds N W) (hb:∀ x∈eds,x.2.2<(N:Int)) {i:Nat} {e:Int} {Wi:List Fd} (hi:W[i]? = some Wi):WOk a on (eds++[((i:Int),e,(N:Int))]) (N+1) (W++[rchF a on (nxF a.edges e Wi)]):=by
 have hil:i<N:=by rw[← h.len];exact (List.getElem?_eq_some_iff.1 hi).1
 have hpos:0<W.length:=by rw[h.len];omega
 refine⟨by rw[List.length_append,h.len];rfl,by rw[List.getElem?_append_left hpos];exact h.fst,fun k h0 hk=>?_⟩
 by_cases hkN:k=N
 ·subst hkN
  refine⟨i,e,Wi,?_,hil,by rw[List.getElem?_append_left (by rw[h.len];omega)];exact hi,?_⟩
  ·have hnone:eds.find? (fun x=>x.2.2==(k:Int))=none:=List.find?_eq_none.2 fun x hx=>by
    have:=hb x hx
    simp only[beq_iff_eq]
    omega
   rw[List.find?_append,hnone]
   simp
  ·rw[List.getElem?_append_right (by rw[h.len];omega),h.len,Nat.sub_self]
   rfl
 ·obtain⟨i',e',Wi',f1,f2,f3,f4⟩:=h.nxt k h0 (by omega)
  exact⟨i',e',Wi',by rw[List.find?_append,f1];rfl,f2,by rw[List.getElem?_append_left (by rw[h.len];omega)];exact f3,by rw[List.getElem?_append_left (by rw[h.len];omega)];exact f4⟩
end Go.AI


namespace Go.AI
open Go.Proofs
set_option maxRecDepth 20000
abbrev Es2:=List Int × List Fd
abbrev esI (x:Es2):List I:=[zbE x.1,.sl 2 x.2.length (x.2.map fdI)]
abbrev esD (x:Es2):D:=.agg [ints x.1,fdsD x.2]
abbrev zih (l:List Es2):Ob:=.arr 102 2 l.length (l.map esI) true
abbrev zsP (l:List Es2):D:=.i (.sl 2 l.length (l.map esI))
theorem zpM (l:List Es2) (x:Es2):Ob.arr 102 2 (l.length+1) (l.map esI++[esI x]) true=zih (l++[x]):=by simp
theorem zs1 {P:Program} {f:FuncId} {args args':List D} {O O':List Heap} {res:D} {Hr:Heap} (hc:CoDL args' args) (h:zan P f args O res Hr O'):zan P f args' O res Hr O':=fun E K ρ w vs hi hr=>h E K ρ w vs hi (hc.rep hr)
theorem mk98 (O:List Heap) (a:Aut) (s:Int) (d nm:Nat) (hl:a.marked.length≤1000000) (ho:zaa O d nm=some (.box (autC a))):zan Tryz.prog 98 [ii s,.own d nm 0 0] O (bb (decide (s∈a.marked))) [] O:=by
 have h:=fun O=>za3 O a.marked s (by simp only[zas];omega)
 obtain⟨al,st,mk,es⟩:=a
 refine zad Tk Tryz.func98 rfl Tryz.call98 Tryz.ntmps98 (Nat.le_of_ble_eq_true rfl) fun E=>?_
 refine zae Tk Tryz.func98 ?_
 refine zba Tk Tryz.func98 (zaD ho) ?_
 refine zaf Tk Tryz.func98 (h _) rfl rfl rfl rfl rfl ?_
 refine zak Tk (r:=bb (decide (s∈Aut.marked ⟨al,st,mk,es⟩))) rfl rfl rfl trivial rfl rfl ?_
 rfl
theorem zwB (O:List Heap) (z y:Es2) (d nm:Nat) (hl:z.1.length≤1000000) (ho:zaa O d nm=some (.box [ints y.1,fdsD y.2])):zan Tryz.prog 103 [esD z,.own d nm 0 0] O (bb (decide (z.1=y.1))) [] O:=by
 have h:=fun O=>zdM O z.1 y.1 (by simp only[zas];omega)
 refine zad Tk Tryz.func103 rfl Tryz.call103 Tryz.ntmps103 (Nat.le_of_ble_eq_true rfl) fun E=>?_
 refine zae Tk Tryz.func103 ?_
 refine zba Tk Tryz.func103 (zaD ho) ?_
 refine zaf Tk Tryz.func103 (h _) rfl rfl rfl rfl rfl ?_
 refine zak Tk (r:=bb (decide (z.1=y.1))) rfl rfl rfl trivial rfl rfl ?_
 rfl
theorem zsx (O:List Heap) (l:List Es2) (f:Nat) (e w d nm:Nat) (p:Es2→Bool) (hl:l.length≤1000000) (ho:zaa O e w=some (zih l)) (hp:∀ x∈l,zan Tryz.prog f [esD x,.own (d+1) nm 0 0] ([]::O) (bb (p x)) [] ([]::O)) :
  zan Tryz.prog 102 [.osl e w,.fn (.func f) [] [.own d nm 0 0]] O (ii (zax p l 0)) [] O:=by
 generalize hR:zax p l 0=R
 refine zad Tk Tryz.func102 rfl Tryz.call102 Tryz.ntmps102 (Nat.le_of_ble_eq_true rfl) fun E=>?_
 refine zae Tk Tryz.func102 ?_
 refine zba Tk Tryz.func102 (zaD ho) ?_
 refine zac ?_
 refine zah (fun i:Nat=>[(0,.osl (e+1) w),(1,.fn (.func f) [] [.own (d+1) nm 0 0]),(7,ii l.length),(8,ii i)]) (fun _=>[]) (fun _=>O) 19
  (fun i=>i≤l.length∧zax p (l.drop i) i=R) (fun i=>l.length - i) 0 ⟨Nat.zero_le _,hR⟩ ⟨rfl,rfl,rfl,rfl,trivial⟩ rfl trivial rfl rfl ?_
 rintro i ⟨hi,hno⟩ ih
 clear hR
 refine zae Tk Tryz.func102 ?_
 refine zai Tk Tryz.func102 rfl (fun g1=>?_) (fun g1=>?_)
 ·have h1:i<l.length:=by simpa using g1
  have gs:(l.map esI)[(i:Int).toNat]? = some (esI l[i]):=zaj h1
  have hps:=hp l[i] (List.getElem_mem h1)
  have hd:l.drop i=l[i]::l.drop (i+1):=List.drop_eq_getElem_cons h1
  rw[hd] at hno
  simp only[zax] at hno
  clear hd
  generalize l[i]=s at *
  refine zba Tk Tryz.func102 (zaD ho) ?_
  refine zag Tk Tryz.func102 (by exact⟨by omega,by show (i:Int)<(l.length:Int);omega⟩) ?_
  refine zba Tk Tryz.func102 (zaD ho) ?_
  refine zap Tk Tryz.func102 (gs) ?_
  refine zaf Tk Tryz.func102 (hps) rfl rfl rfl rfl rfl ?_
  refine zai Tk Tryz.func102 rfl (fun g2=>?_) (fun g2=>?_)
  ·rw[if_pos g2] at hno
   subst hno
   refine zak Tk (r:=ii (i:Int)) rfl rfl rfl trivial rfl rfl ?_
   rfl
  ·rw[if_neg (by rw[g2];simp)] at hno
   refine zac ?_
   exact ih (i+1) _ _ ⟨h1,hno⟩ (by omega) ⟨rfl,rfl,rfl,congrArg ii (zaC (n:=1000001) (by omega) (by decide)),trivial⟩ rfl trivial rfl rfl
 ·have h1:l.length≤i:=by simpa using g1
  rw[List.drop_eq_nil_of_le h1] at hno
  simp only[zax] at hno
  subst hno
  refine zak Tk (r:=ii (-1)) rfl rfl rfl trivial rfl rfl ?_
  rfl
theorem of95 (O:List Heap) (a:Aut) (x:Sys) (n B:Nat) (frm:List Fd) (da na dx nx:Nat) (h:gAut a n) (hn:n≤12) (hB:B≤500000) (hv:vdF a n frm) (hne:frm≠[]) (hlen:∀ y∈frm,y.2.length≤B) (hob:x.ob.length≤1000000)
  (hoA:zaa O da na=some (.box (autC a))) (hoX:zaa O dx nx=some (.box (sysC x))):zan Tryz.prog 95 [fdsD frm,.own da na 0 0,.own dx nx 0 0] O (esD (zbs ((rchF a x.ob frm).map (·.1)),rchF a x.ob frm)) [] O:=by
 have h1:=fun O=>zug O a n B frm x.ob hn hB h.sm.al h.sm.ed hob (hv.ok h) hlen hv.nd (hv.det h)
 have hq:=zed (on:=x.ob) h hv
 have hpos:0<(rchF a x.ob frm).length:=by
  obtain⟨y,hy⟩:=List.exists_mem_of_ne_nil _ hne
  obtain⟨z,hz,_⟩:=hq.low _ _ (RP.base hy)
  exact List.length_pos_of_mem hz
 have hfew:(rchF a x.ob frm).length≤n:=(RGd.few ⟨hq.snd,hq.nd,fun x hx=>hq.low _ _ (RP.base hx)⟩ (hv.ok h))
 clear hq hv hne hlen h
 generalize rchF a x.ob frm=R at *
 obtain⟨al,st,mk,es⟩:=a
 obtain⟨xp,xs,ob,ct⟩:=x
 simp only at hob h1
 obtain⟨al',st',mk',es'⟩:=xp
 obtain⟨al2,st2,mk2,es2⟩:=xs
 refine zad Tk Tryz.func95 rfl Tryz.call95 Tryz.ntmps95 (Nat.le_of_ble_eq_true rfl) fun E=>?_
 refine zae Tk Tryz.func95 ?_
 refine zba Tk Tryz.func95 (zaD hoA) ?_
 refine zba Tk Tryz.func95 (zaD hoX) ?_
 refine zaf Tk Tryz.func95 (h1 _) rfl rfl rfl rfl rfl ?_
 refine zac ?_
 refine zaq (zaR 5 26 3 1 (pre:=[]) (post:=[fdsD R]) rfl rfl rfl) ?_
 refine zah (fun i:Nat=>[(4,.own 0 4 0 0),(5,.own 0 5 0 0),(15,fdsD R),(16,ii R.length),(17,ii i)]) (fun i=>[(4,.box [.i (.v (.slice none 0 0)),.i (.v (.slice none 0 0))]),(5,.box [.osl 0 26,fdsD R]),(26,zat ((R.take i).map (·.1)))]) (fun _=>O) 33
  (fun i=>i≤R.length) (fun i=>R.length - i) 0 (Nat.zero_le _) ⟨rfl,rfl,rfl,rfl,rfl,trivial⟩ rfl ⟨rfl,rfl,rfl,trivial⟩ rfl rfl ?_
 intro i hi ih
 refine zae Tk Tryz.func95 ?_
 refine zai Tk Tryz.func95 rfl (fun g1=>?_) (fun g1=>?_)
 ·have h3:i<R.length:=by simpa using g1
  clear g1
  have hi1:ii (IntKind.i64.wrap ((i:Int)+1))=ii ((i+1:Nat):Int):=congrArg ii (zaC (n:=1000001) (by omega) (by decide))
  have gr:(R.map fdI)[(i:Int).toNat]? = some (fdI R[i]):=zaj h3
  have htk:(R.take (i+1)).map (·.1)=(R.take i).map (·.1)++[R[i].1]:=zdd h3
  have hl:((R.take i).map (·.1)).length=i:=by simp;omega
  generalize R[i]=y at *
  generalize (R.take i).map (·.1)=acc at *
  refine zag Tk Tryz.func95 (by exact⟨by omega,by show (i:Int)<(R.length:Int);omega⟩) ?_
  refine zap Tk Tryz.func95 (gr) ?_
  refine zag Tk Tryz.func95 (by exact⟨by show (acc.length+1) * 8≤140737488355328;omega,by show acc.length+1≤9223372036854775807;omega⟩) ?_
  refine zac ?_
  refine ih (i+1) _ _ h3 (by omega) ⟨rfl,rfl,rfl,rfl,hi1,trivial⟩ rfl ⟨rfl,rfl,?_,trivial⟩ rfl rfl
  rw[htk]
  exact congrArg some (zaO acc y.1)
 ·have h3:R.length≤i:=by simpa using g1
  rw[List.take_of_length_le h3]
  have hml:(R.map (·.1)).length=R.length:=by rw[List.length_map]
  generalize R.map (·.1)=S at *
  refine zaf Tk Tryz.func95 (zs9 _ 0 26 S (by omega) (by omega) rfl) rfl rfl rfl (zbn (ob:=zat S) rfl (by simp[Ob.sh,zfY])) rfl ?_
  refine zcG (zao 26 rfl rfl) ?_
  refine zak Tk (r:=esD (zbs S,R)) rfl rfl rfl trivial rfl rfl ?_
  rfl
end Go.AI


namespace Go.AI
open Go.Proofs
set_option maxRecDepth 20000
structure EsOk (a:Aut) (n:Nat) (ob:List Int) (sts:List (List Int)) (eds:List Edg) (W:List (List Fd)):Prop where
 w:WOk a ob eds sts.length W
 b:∀ x∈eds,x.2.2<(sts.length:Int)
 g:∀ (k:Nat) s v,sts[k]? = some s→W[k]? = some v→(vdF a n v∧v≠[]∧s=zbs (v.map (·.1)))∧∀ y∈v,y.2.length≤13 * (k+1)
theorem zj4 {α β:Type}:∀ {l:List α} {m:List β} {i:Nat} {x:α} {y:β},l[i]? = some x→m[i]? = some y→(l.zip m)[i]? = some (x,y)
 | [],_,_,_,_,h,_=>by simp at h
 | _::_,[],_,_,_,_,h=>by simp at h
 | a::l,b::m,0,x,y,h,h'=>by
  simp only[List.getElem?_cons_zero,Option.some.injEq] at h h'
  subst h h'
  rfl
 | a::l,b::m,i+1,x,y,h,h'=>by
  simp only[List.getElem?_cons_succ] at h h'
  simpa using zj4 h h'
theorem zrx {α β:Type} {l:List α} {m:List β} {x:α} {y:β} (h:l.length=m.length):(l++[x]).zip (m++[y])=l.zip m++[(x,y)]:=by
 rw[List.zip_append h];rfl
theorem zhe {β:Type} {s:List Int}:∀ {l:List (List Int)} {m:List β} {i:Nat},l.length=m.length→zax (fun z:List Int × β=>decide (z.1=s)) (l.zip m) i=if s∈l then ((i+l.findIdx (eqB s):Nat):Int) else -1
 | [],[],i,_=>by simp[zax]
 | [],_::_,_,h=>by simp at h
 | _::_,[],_,h=>by simp at h
 | a::l,b::m,i,h=>by
  simp only[List.zip_cons_cons,zax]
  by_cases c:a=s
  ·subst c
   rw[if_pos (by simp),if_pos (by simp)]
   simp[List.findIdx_cons,eqB]
  ·rw[if_neg (by simpa using c),zhe (by simpa using h)]
   by_cases hm:s∈l
   ·rw[if_pos hm,if_pos (by simp[hm])]
    rw[List.findIdx_cons]
    have:eqB s a=false:=by simp[eqB,Ne.symm c]
    rw[this]
    simp only[cond_false]
    omega
   ·rw[if_neg hm,if_neg (by simp[hm,Ne.symm c])]
theorem ze8 {l:List Int} {n:Nat} (h:l.Nodup) (hl:∀ x∈l,0≤x∧x<(n:Int)) (x:Int):x∈zbs l ↔ x∈l:=by
 rw[zej h hl,zbQ]
 exact⟨fun h=>h.2,fun h=>⟨hl x h,h⟩⟩
theorem zuk (es:List Edg) (e:Int) (acc:List Fd) (x:Fd):(nxS es e acc x).length≤acc.length+1:=by
 unfold nxS
 split
 ·omega
 ·split
  ·simp
  ·split
   ·simp
   ·omega
theorem zpQ (es:List Edg) (e:Int) (W:List Fd):(nxF es e W).length≤W.length:=by
 have key:∀ (W acc:List Fd),(W.foldl (nxS es e) acc).length≤acc.length+W.length:=by
  intro W
  induction W with
  | nil=>intro acc;simp
  | cons x W ih=>
   intro acc
   have:=ih (nxS es e acc x)
   have:=zuk es e acc x
   simp only[List.foldl_cons,List.length_cons]
   omega
 simpa [nxF] using key W []
theorem zki {a:Aut} {on:List Int} {frm:List Fd} {n B:Nat} (h:gAut a n) (hn:n≤12) (hv:vdF a n frm) (hB:∀ y∈frm,y.2.length≤B):∀ y∈rchF a on frm,y.2.length≤B+12:=by
 have hq:=zed (on:=on) h hv
 have hfew:(rchF a on frm).length≤n:=RGd.few ⟨hq.snd,hq.nd,fun x hx=>hq.low _ _ (RP.base hx)⟩ (hv.ok h)
 generalize rchF a on frm=l at *
 have hcs:∀ t w,RP a on frm t w→(t,w)∈frm∨∃ s v e,RP a on frm s v∧e∈a.alpha∧e ∉ on∧0≤stp3 a.edges s e∧t=stp3 a.edges s e∧w=v++[e]:=by
  intro t w hp
  cases hp with
  | base hx=>exact .inl hx
  | step h1 h2 h3 h4=>exact .inr ⟨_,_,_,h1,h2,h3,h4,rfl,rfl⟩
 have key:∀ (m i:Nat) (hi:i<l.length),i<m→l[i].2.length≤B+i:=by
  intro m
  induction m with
  | zero=>intro i _ hi;omega
  | succ m ih=>
   intro i hi him
   have hp:=hq.snd _ (List.getElem_mem hi)
   rcases hcs _ _ hp with hf | ⟨s,v,e,h1,h2,h3,h4,h5,h6⟩
   ·have:=hB _ hf
    simp only at this
    omega
   ·obtain⟨z,hz,e1,e2⟩:=hq.low s v h1
    have hpz:=hq.snd z hz
    rw[e1] at hpz
    have hst:=RP.step hpz h2 h3 h4
    obtain⟨y',hy',e3,e4⟩:=hq.low _ _ hst
    have hyy:y' = l[i]:=zjs hq.nd hy' (List.getElem_mem hi) (by rw[e3,h5])
    subst hyy
    rw[h6] at e4 ⊢
    have hle:rk (z.2++[e])≤rk (v++[e]):=znM e2
    have heq:rk (z.2++[e])=rk (v++[e]):=by omega
    have hwz:=(hst.ok (hv.ok h)).2
    have hwv:=(RP.step h1 h2 h3 h4).ok (hv.ok h)
    have hvz:=zpt hwz hwv.2 heq
    obtain⟨j,hj,rfl⟩:=List.mem_iff_getElem.1 hz
    have hji:j<i:=by
     rcases Nat.lt_trichotomy j i with hlt | rfl | hgt
     ·exact hlt
     ·have:rk l[j].2<rk (v++[e]):=by rw[← heq,zbz];omega
      rw[← h6] at this
      omega
     ·have h8:=List.pairwise_iff_getElem.1 hq.srt i j hi hj hgt
      rw[h6,← heq,zbz] at h8
      omega
    have:=ih j hj (by omega)
    rw[← hvz]
    simp only[List.length_append,List.length_singleton]
    omega
 intro y hy
 obtain⟨i,hi,rfl⟩:=List.mem_iff_getElem.1 hy
 have:=key (i+1) i hi (Nat.lt_succ_self i)
 omega
noncomputable abbrev esWR (x:Sys):List Es2:=(esR x).2.zip (wrdF (lpR x).1 x.ob (esR x).1.edges (esR x).2.length)
set_option maxHeartbeats 32000000 in
theorem zkT (O:List Heap) (x:Sys) (h:smallS x) (hx:gSys x) (hV0:(lpV x).length≤4095) (hn11:(lpR x).2.length≤11):zan Tryz.prog 43 [sysD x] O (.tup [autD (esR x).1,zsP (esWR x)]) [] O:=by
 have c42:=fun O=>zp1 O x h hx hV0
 have hga:=(lp_g hx hV0).1
 have hke:=zp3 hx hV0
 have hobs:=h.ob
 by_cases h0:(lpR x).2.length=0
 ·have he:esR x=(⟨x.ob,0,[],[]⟩,[]):=by unfold esR;rw[if_pos h0,hke]
  unfold esWR
  rw[he]
  have hst:=hga.st
  rw[h0] at hst
  generalize lpR x=L at *
  obtain⟨⟨al,st,mk,es⟩,ps⟩:=L
  simp only at hst c42
  obtain⟨⟨al',st',mk',es'⟩,⟨al2,st2,mk2,es2⟩,ob,ct⟩:=x
  simp only at c42 ⊢
  subst hst
  refine zau [] Tk Tryz.func43 rfl Tryz.call43 Tryz.ntmps43 (Nat.le_of_ble_eq_true rfl) fun E=>?_
  refine zae Tk Tryz.func43 ?_
  refine zaf Tk Tryz.func43 (c42 _) rfl rfl rfl rfl rfl ?_
  refine gcF Tk Tryz.func43 rfl ?_
  refine zac ?_
  refine zae Tk Tryz.func43 ?_
  refine gcF Tk Tryz.func43 rfl ?_
  refine zb4 Tk (r:=.tup [.agg [ints ob,ii 0,.i (.v (.slice none 0 0)),.i (.v (.slice none 0 0))],.i (.v (.slice none 0 0))]) rfl rfl rfl trivial rfl rfl ?_
  repeat' (first | refine zcT ?_ | refine zcU ?_ | refine zft ?_ | refine CoDL.cons ?_ ?_ | exact CoDL.nil | exact zb1 | refine zdO ?_ | refine CoLL.cons ?_ ?_ | exact CoLL.nil | refine CoL.cons ?_ ?_ | exact CoL.nil | exact CoI.refl _ | exact CoL.refl _ | exact CoLL.refl _ | exact CoDL.refl _ | exact CoD.refl _)
 obtain⟨V,hprj,hVs⟩:=zmD hx hV0 hn11 h0
 obtain⟨-,hn0,-,hVr,hVU⟩:=hprj
 have hes:esR x=(unfA x.ob V,V.sts):=by
  unfold esR
  rw[if_neg h0,hVr,hke]
 unfold esWR
 rw[hes]
 unfold unfA
 simp only
 have hal32:∀ e∈x.ob,0≤e∧e<32:=(zam hx.ob).2.1
 have hobl:=zaZ (by decide) hx.ob
 generalize hN:(lpR x).2.length=n at *
 have hF:=zkm (lpR x).1 x.ob n
 have hfew:∀ U:Unf (List Int),UOk (estP n) U→U.sts.length≤4095:=fun U hU=>by
  have:=zbl hU.nd (fun s hs=>(hU.ok s hs).1)
  rw[zfI] at this
  have:2 ^ n≤2 ^ 11:=Nat.pow_le_pow_right (by decide) hn11
  omega
 have hv0:=vd0 (a:=(lpR x).1) hga hn0
 have hs0:clo (lpR x).1.edges (lowP x.ob [] false) n [0]=zbs ((rchF (lpR x).1 x.ob [((0:Int),([]:List Int))]).map (·.1)):=(zd0 hga hv0).symm
 have hno:(Except.ok V:Except Int (Unf (List Int)))=zbx eqB false (zd9 (lpR x).1 x.ob n) (zcx (lpR x).1) x.ob (4097 - 0) 0 (unf0 (zbs ((rchF (lpR x).1 x.ob [((0:Int),([]:List Int))]).map (·.1)))):=by
  rw[← hs0,← hVr]
  unfold prjR
  rw[hke]
  rfl
 have hq0:=zed (on:=x.ob) hga hv0
 have hne0:rchF (lpR x).1 x.ob [((0:Int),([]:List Int))]≠[]:=by
  obtain⟨z,hz,_⟩:=hq0.low _ _ (RP.base (List.mem_singleton.2 rfl))
  exact List.ne_nil_of_mem hz
 have hrl:∀ B frm,vdF (lpR x).1 n frm→(∀ y∈frm,y.2.length≤B)→∀ y∈rchF (lpR x).1 x.ob frm,y.2.length≤B+12:=fun B frm hv hB=>zki hga (by omega) hv hB
 have hrv:∀ frm,vdF (lpR x).1 n frm→vdF (lpR x).1 n (rchF (lpR x).1 x.ob frm):=fun frm hv=>zic hga hv
 have hnv:∀ e W,e∈x.ob→vdF (lpR x).1 n W→vdF (lpR x).1 n (nxF (lpR x).1.edges e W):=fun e W he hv=>zjr hga (hal32 e he) hv
 have hnl:∀ e W B,e∈x.ob→vdF (lpR x).1 n W→(∀ y∈W,y.2.length≤B)→∀ y∈nxF (lpR x).1.edges e W,y.2.length≤B+1:=fun e W B he hv hB y hy=>by
  obtain⟨z,hz,rfl,_⟩:=(zhx (es:=(lpR x).1.edges) (hal32 e he) hv.wrd).snd y hy
  have:=hB z hz
  simp only[List.length_append,List.length_singleton]
  omega
 have hrv2':∀ frm B,vdF (lpR x).1 n frm→frm≠[]→(∀ y∈frm,y.2.length≤B)→vdF (lpR x).1 n (rchF (lpR x).1 x.ob frm)∧rchF (lpR x).1 x.ob frm≠[]∧∀ y∈rchF (lpR x).1 x.ob frm,y.2.length≤B+12:=fun frm B hv hne hB=>⟨hrv frm hv,by
  obtain⟨y,hy⟩:=List.exists_mem_of_ne_nil _ hne
  obtain⟨z,hz,_⟩:=(zed (on:=x.ob) hga hv).low _ _ (RP.base hy)
  exact List.ne_nil_of_mem hz,hrl B frm hv hB⟩
 have hrne:∀ frm,vdF (lpR x).1 n frm→frm≠[]→rchF (lpR x).1 x.ob frm≠[]:=fun frm hv hne=>by
  obtain⟨y,hy⟩:=List.exists_mem_of_ne_nil _ hne
  obtain⟨z,hz,_⟩:=(zed (on:=x.ob) hga hv).low _ _ (RP.base hy)
  exact List.ne_nil_of_mem hz
 have hE0:EsOk (lpR x).1 n x.ob [zbs ((rchF (lpR x).1 x.ob [((0:Int),([]:List Int))]).map (·.1))] [] [rchF (lpR x).1 x.ob [((0:Int),([]:List Int))]]:=⟨⟨rfl,rfl,fun k h1 h2=>by simp at h2;omega⟩,by simp,fun k s v h1 h2=>by
  have hk:k=0:=by
   have:=(List.getElem?_eq_some_iff.1 h1).1
   simp at this
   exact this
  subst hk
  simp only[List.getElem?_cons_zero,Option.some.injEq] at h1 h2
  subst h1 h2
  refine⟨⟨hrv _ hv0,hne0,rfl⟩,fun y hy=>?_⟩
  have:=hrl 0 _ hv0 (fun y hy=>by rw[List.mem_singleton] at hy;subst hy;simp) y hy
  omega⟩
 have hU0:UOk (estP n) (unf0 (zbs ((rchF (lpR x).1 x.ob [((0:Int),([]:List Int))]).map (·.1)))):=⟨fun s hs=>by
   rw[show s=_ by simpa [unf0] using hs,← hs0]
   exact⟨zbG _ _,zkZ hga hn0 x.ob⟩,by simp[unf0],rfl⟩
 have hts:∀ (s:List Int) e (W:List Fd),e∈x.ob→vdF (lpR x).1 n W→s=zbs (W.map (·.1))→(nxF (lpR x).1.edges e W=[]→(zd9 (lpR x).1 x.ob n s e).2=(false,0))∧(nxF (lpR x).1.edges e W≠[]→zd9 (lpR x).1 x.ob n s e=(zbs ((rchF (lpR x).1 x.ob (nxF (lpR x).1.edges e W)).map (·.1)),true,0)):=by
  intro s e W he hv hs
  have hm:∀ x,x∈s ↔ x∈W.map (·.1):=fun x=>by
   rw[hs]
   exact ze8 hv.nd (fun z hz=>by
    obtain⟨y,hy,rfl⟩:=List.mem_map.1 hz
    exact hv.rng y hy) x
  have hnil:=zpP (on:=x.ob) hga (hal32 e he) hv hm
  have hnx:=zij (on:=x.ob) hga (hal32 e he) hv hm
  have hr:=zd0 (on:=x.ob) hga (hnv e W he hv)
  unfold zd9
  refine⟨fun h=>?_,fun h=>?_⟩
  ·rw[hnil.1 h];rfl
  ·have:nxt (lpR x).1.edges (lowP x.ob [] false) n s e≠[]:=fun e'=>h (hnil.2 e')
   rw[hr,hnx,decide_eq_true (show (nxt (lpR x).1.edges (lowP x.ob [] false) n s e).length≠0 from fun e'=>this (List.eq_nil_of_length_eq_zero e'))]
 have hvok:=fun i s ev U V' hU hs hi hq=>@zeE (List Int) _ eqB false (zd9 (lpR x).1 x.ob n) (estP n) hF i s ev U V' hU hs hi hq
 have cst:=fun O s e=>zhk O (lpR x).1 s e hga.sm.ed
 have cmk:=fun O d nm ho (s:List Int) hs=>zcS O s 98 d nm (fun z=>decide (z∈(lpR x).1.marked)) hs fun z _=>mk98 ([]::[]::O) (lpR x).1 z (d+2) nm hga.sm.mkd (zaD (zaD ho))
 have cof:=fun O B frm hB hv hne hlen hoA hoX=>of95 O (lpR x).1 x n B frm 0 4 0 1 hga (by omega) hB hv hne hlen hobs hoA hoX
 have cof0:∀ O,zaa O 0 4=some (.box (autC (lpR x).1))→zaa O 0 1=some (.box (sysC x))→zan Tryz.prog 95 [.i (.sl 2 1 [[vi 0,.v (.slice none 0 0)]]),.own 0 4 0 0,.own 0 1 0 0] O (esD (zbs ((rchF (lpR x).1 x.ob [((0:Int),([]:List Int))]).map (·.1)),rchF (lpR x).1 x.ob [((0:Int),([]:List Int))])) [] O:=fun O hoA hoX=>
  zs1 (.cons (zft (zdO (.cons (.cons (CoI.refl _) (.cons zb1 .nil)) .nil))) (CoDL.refl _)) (cof O 0 [((0:Int),([]:List Int))] (by omega) hv0 (by simp) (fun y hy=>by rw[List.mem_singleton] at hy;subst hy;simp) hoA hoX)
 have ceq:=fun O d nm (y:Es2) (l:List Es2) e w hl (hlb:∀ z∈l,z.1.length≤1000000) (ho:zaa O e w=some (zih l)) (hy:zaa O d nm=some (.box [ints y.1,fdsD y.2]))=>zsx O l 103 e w d nm (fun z=>decide (z.1=y.1)) hl ho fun z hz=>zwB ([]::O) z y (d+1) nm (hlb z hz) (zaD hy)
 have hcl:=fun O l hl=>zmJ O l hl
 have hcm:=fun O a b ha hb=>zmI O a b ha hb
 have hix:=fun O (l:List Fd) (t:Int) (hl:l.length≤1000000) (h1:zaa O 0 98=some (ofds l)) (h2:zaa O 0 15=some (.box [ii t]))=>zp9 O l 100 0 98 0 15 (fun x=>x.1==t) hl h1 fun x _=>zwm ([]::O) x t 1 15 (zaD h2)
 have hsn:∀ s,estP n s→s.length≤1000000:=fun s hs=>by
  have:=(zbP hs.1).1
  omega
 have hgst:=hga.st
 have hvlen:∀ l,vdF (lpR x).1 n l→l.length≤n:=fun l hv=>RGd.few (on:=x.ob) ⟨fun y hy=>RP.base hy,hv.nd,fun z hz=>⟨z,hz,rfl,Nat.le_refl _⟩⟩ (hv.ok hga)
 have hmr:∀ s,zcx (lpR x).1 s=s.any fun z=>decide (z∈(lpR x).1.marked):=fun _=>rfl
 generalize hR:(Except.ok V:Except Int (Unf (List Int)))=Q at *
 clear hs0 hVU hVr hes hVs hke h0 hV0 hx hF hN hga hq0 hne0 hrv h
 generalize zd9 (lpR x).1 x.ob n=ts at *
 generalize zcx (lpR x).1=mr at *
 generalize lpR x=L at *
 obtain⟨a,ps⟩:=L
 simp only at *
 obtain⟨al,st,mk,es⟩:=a
 obtain⟨⟨al',st',mk',es'⟩,⟨al2,st2,mk2,es2⟩,ob,ct⟩:=x
 simp only at *
 refine zau [12,22,29,34,36] Tk Tryz.func43 rfl Tryz.call43 Tryz.ntmps43 (Nat.le_of_ble_eq_true rfl) fun E=>?_
 refine zae Tk Tryz.func43 ?_
 refine zaf Tk Tryz.func43 (c42 _) rfl rfl rfl rfl rfl ?_
 refine zai Tk Tryz.func43 rfl (fun _=>?_) (fun h=>absurd h (by simp;omega))
 refine zaf Tk Tryz.func43 (cof0 _ rfl rfl) rfl rfl rfl rfl rfl ?_
 refine zag Tk Tryz.func43 (by exact⟨by decide,by decide⟩) ?_
 refine zac ?_
 refine zaq (zcV 38 129 rfl rfl rfl) ?_
 refine zaq (zaR 6 56 3 1 (pre:=[ints ob,ii 0]) (post:=[.i (.v (.slice none 0 0))]) rfl rfl rfl) ?_
 refine zaq (zaR 6 137 117 3 (pre:=[ints ob,ii 0,.osl 0 56]) (post:=[]) rfl rfl rfl) ?_
 refine zah (fun x:Nat × Unf (List Int) × List (List Fd)=>[(1,.own 0 1 0 0),(2,.own 0 2 0 0),(4,.own 0 4 0 0),(6,.own 0 6 0 0),(7,.fn (.func 95) [] [.own 0 4 0 0,.own 0 1 0 0]),(8,.osl 0 129),(9,ii x.1)])
  (fun x=>[(1,.box (sysC ⟨⟨al',st',mk',es'⟩,⟨al2,st2,mk2,es2⟩,ob,ct⟩)),(2,.box [.i (.v (.slice none 0 0)),ii 0,.i (.v (.slice none 0 0)),.i (.v (.slice none 0 0))]),(4,.box [ints al,ii st,ints mk,edgs es]),(6,.box [ints ob,ii 0,.osl 0 56,.osl 0 137]),(129,zih (x.2.1.sts.zip x.2.2)),(56,zat x.2.1.mkl),(137,zbD x.2.1.eds)]) (fun _=>O) 145
  (fun x=>x.1≤x.2.1.sts.length∧UOk (estP n) x.2.1∧EsOk ⟨al,st,mk,es⟩ n ob x.2.1.sts x.2.1.eds x.2.2∧x.2.1.mkl.length≤x.1∧x.2.1.eds.length≤32 * x.1∧Q=zbx eqB false ts mr ob (4097 - x.1) x.1 x.2.1) (fun x=>4097 - x.1) (0,unf0 (zbs ((rchF ⟨al,st,mk,es⟩ ob [((0:Int),([]:List Int))]).map (fun y:Fd=>y.1))),[rchF ⟨al,st,mk,es⟩ ob [((0:Int),([]:List Int))]])
  ⟨Nat.zero_le _,hU0,hE0,Nat.le_refl _,Nat.le_refl _,hno⟩ ⟨rfl,rfl,rfl,rfl,rfl,rfl,rfl,trivial⟩ rfl ⟨rfl,rfl,rfl,rfl,rfl,rfl,rfl,trivial⟩ rfl rfl ?_
 clear hno hU0 hE0 cof0 c42
 rintro ⟨i,U,W⟩ ⟨hi,hgd,hE,hml,hel,hno⟩ ih
 simp only at hi hgd hE hml hel hno
 have hWl:=hE.w.len
 refine zae Tk Tryz.func43 ?_
 refine zai Tk Tryz.func43 rfl (fun g1=>?_) (fun g1=>?_)
 ·have h1:i<U.sts.length:=by
   have:i<(U.sts.zip W).length:=by simpa using g1
   rw[List.length_zip] at this
   omega
  clear g1
  have hle:=hfew U hgd
  have hsi:U.sts[i]? = some U.sts[i]:=List.getElem?_eq_getElem h1
  have hwi:W[i]? = some (W[i]'(by omega)):=List.getElem?_eq_getElem (by omega)
  have hoks:=hgd.ok _ (List.getElem_mem h1)
  generalize W[i]'(by omega)=Wi at *
  generalize U.sts[i]=s at *
  have gz:=zj4 hsi hwi
  have gs:((U.sts.zip W).map esI)[(i:Int).toNat]? = some (esI (s,Wi)):=by
   show ((U.sts.zip W).map esI)[i]? = _
   rw[List.getElem?_map,gz];rfl
  obtain⟨⟨hvi,hwne,hsw⟩,hwl⟩:=hE.g i s Wi hsi hwi
  have hno:Q=match zav eqB false ts i s ob (zbk mr i s U) with
    | .error e=>.error e
    | .ok U'=>zbx eqB false ts mr ob (4097 - (i+1)) (i+1) U':=by
   rw[hno,show 4097 - i=(4097 - (i+1))+1 by omega]
   simp only[zbx,hsi]
   cases zav eqB false ts i s ob (zbk mr i s U) <;> rfl
  obtain⟨m1',m2'⟩:=zb7 mr i s U
  have hM:UOk (estP n) (zbk mr i s U):=⟨by rw[m1'];exact hgd.ok,by rw[m1'];exact hgd.nd,by rw[m1',m2'];exact hgd.fr⟩
  have hm3:(zbk mr i s U).mkl=if mr s=true then U.mkl++[(i:Int)] else U.mkl:=by
   unfold zbk
   by_cases h:mr s=true <;> simp[h]
  generalize zbk mr i s U=U1 at *
  rw[hmr] at hm3
  have d1:=fun O d nm ho=>cmk O d nm ho s (by have:=hsn s hoks;simp only[zas];omega)
  generalize (s.any fun z=>decide (z∈mk))=B1 at *
  obtain⟨sts,mkl,eds⟩:=U
  obtain⟨sts1,mkl1,eds1⟩:=U1
  simp only at m1' m2' hm3 hsi gs gz hno h1 hle hel hml hi hgd hE hWl
  subst m1' m2'
  have hzl:(sts1.zip W).length=sts1.length:=by rw[List.length_zip];omega
  have n1:0≤(i:Int)∧(i:Int)<((sts1.zip W).length:Int):=by omega
  have hml1:mkl1.length≤i+1:=by rw[hm3];split;(rw[List.length_append,List.length_singleton];omega);omega
  apply zcj (P:=True) (s6:={ σ:=[(1,.own 0 1 0 0),(2,.own 0 2 0 0),(4,.own 0 4 0 0),(6,.own 0 6 0 0),(7,.fn (.func 95) [] [.own 0 4 0 0,.own 0 1 0 0]),(8,.osl 0 129),(9,ii i)],S:=[(1,.box (sysC ⟨⟨al',st',mk',es'⟩,⟨al2,st2,mk2,es2⟩,ob,ct⟩)),(2,.box [.i (.v (.slice none 0 0)),ii 0,.i (.v (.slice none 0 0)),.i (.v (.slice none 0 0))]),(4,.box [ints al,ii st,ints mk,edgs es]),(6,.box [ints ob,ii 0,.osl 0 56,.osl 0 137]),(129,zih (sts1.zip W)),(56,zat mkl1),(137,zbD eds1)]::O,n:=145 })
  ·intro J
   refine zag Tk Tryz.func43 (by exact n1) ?_
   refine zap Tk Tryz.func43 (gs) ?_
   refine zaf Tk Tryz.func43 (d1 _ 0 4 rfl) rfl rfl rfl rfl rfl ?_
   refine zai Tk Tryz.func43 rfl (fun c1=>?_) (fun c1=>?_)
   ·have c1:B1=true:=c1
    rw[if_pos c1] at hm3
    refine zag Tk Tryz.func43 (by exact⟨by show (mkl.length+1) * 8≤140737488355328;omega,by show mkl.length+1≤9223372036854775807;omega⟩) ?_
    refine zay ?_
    refine zaE (J trivial) ⟨rfl,rfl,rfl,rfl,rfl,rfl,rfl,trivial⟩ rfl ⟨rfl,rfl,rfl,rfl,rfl,by rw[hm3];exact congrArg some (zaO mkl (i:Int)),rfl,trivial⟩ rfl rfl
   ·have c1:¬ B1=true:=by rw[show B1=false from c1];decide
    rw[if_neg c1] at hm3
    refine zay ?_
    refine zaE (J trivial) ⟨rfl,rfl,rfl,rfl,rfl,rfl,rfl,trivial⟩ rfl ⟨rfl,rfl,rfl,rfl,rfl,by rw[hm3];rfl,rfl,trivial⟩ rfl rfl
  intro _
  clear hm3 hml d1 gs hgd hmr n1 gz hzl
  have hV0:zav eqB false ts i s ob ⟨sts1,mkl1,eds1⟩=zav eqB false ts i s (ob.drop 0) ⟨sts1,mkl1,eds1⟩:=rfl
  generalize zav eqB false ts i s ob ⟨sts1,mkl1,eds1⟩=VV at *
  refine zae Tk Tryz.func43 ?_
  refine g_go Tk Tryz.func43 ?_
  refine zac ?_
  refine zah (fun x:Nat × Unf (List Int) × List (List Fd)=>[(1,.own 0 1 0 0),(2,.own 0 2 0 0),(4,.own 0 4 0 0),(6,.own 0 6 0 0),(7,.fn (.func 95) [] [.own 0 4 0 0,.own 0 1 0 0]),(8,.osl 0 129),(9,ii i),(59,ints ob),(60,ii ob.length),(61,ii x.1)])
   (fun x=>[(1,.box (sysC ⟨⟨al',st',mk',es'⟩,⟨al2,st2,mk2,es2⟩,ob,ct⟩)),(2,.box [.i (.v (.slice none 0 0)),ii 0,.i (.v (.slice none 0 0)),.i (.v (.slice none 0 0))]),(4,.box [ints al,ii st,ints mk,edgs es]),(6,.box [ints ob,ii 0,.osl 0 56,.osl 0 137]),(129,zih (x.2.1.sts.zip x.2.2)),(56,zat x.2.1.mkl),(137,zbD x.2.1.eds)]) (fun _=>O) 145
   (fun x=>x.1≤ob.length∧UOk (estP n) x.2.1∧EsOk ⟨al,st,mk,es⟩ n ob x.2.1.sts x.2.1.eds x.2.2∧i<x.2.1.sts.length∧x.2.1.mkl=mkl1∧x.2.1.eds.length≤32 * i+x.1∧x.2.1.sts[i]? = some s∧x.2.2[i]? = some Wi∧VV=zav eqB false ts i s (ob.drop x.1) x.2.1) (fun x=>ob.length - x.1) (0,⟨sts1,mkl1,eds1⟩,W)
   ⟨Nat.zero_le _,hM,hE,h1,rfl,hel,hsi,hwi,hV0⟩ ⟨rfl,rfl,rfl,rfl,rfl,rfl,rfl,rfl,rfl,rfl,trivial⟩ rfl ⟨rfl,rfl,rfl,rfl,rfl,rfl,rfl,trivial⟩ rfl rfl ?_
  clear hV0 hsi hwi hel hle hM h1 hE hWl
  rintro ⟨j,⟨sts,mk0,eds⟩,W⟩ ⟨hj,hgd,hE,hil,hmke,hel,hsi,hwi,hV⟩ ih2
  simp only at hj hgd hE hil hmke hel hsi hwi hV
  subst hmke
  have hWl:=hE.w.len
  have hle:=hfew _ hgd
  simp only at hle
  have hzl:(sts.zip W).length=sts.length:=by rw[List.length_zip];omega
  have hj1:ii (IntKind.i64.wrap ((j:Int)+1))=ii ((j+1:Nat):Int):=congrArg ii (zaC (n:=4096) (by omega) (by decide))
  refine zae Tk Tryz.func43 ?_
  refine zai Tk Tryz.func43 rfl (fun g2=>?_) (fun g2=>?_)
  ·have h3:j<ob.length:=by simpa using g2
   clear g2
   have ga:(ob.map fun x=>[vi x])[(j:Int).toNat]? = some [vi ob[j]]:=zaj (f:=fun x=>[vi x]) h3
   have da:ob.drop j=ob[j]::ob.drop (j+1):=List.drop_eq_getElem_cons h3
   have he:ob[j]∈ob:=List.getElem_mem h3
   rw[da] at hV
   simp only[zav] at hV
   clear da
   generalize ob[j]=e at *
   have gz:=zj4 hsi hwi
   have gs:((sts.zip W).map esI)[(i:Int).toNat]? = some (esI (s,Wi)):=by
    show ((sts.zip W).map esI)[i]? = _
    rw[List.getElem?_map,gz];rfl
   have hvok:=fun V' h=>hvok i s e ⟨sts,mk0,eds⟩ V' hgd hoks hil h
   obtain⟨ht1,ht2⟩:=hts s e Wi he hvi hsw
   have hnx:=hnv e Wi he hvi
   have hnb:=hnl e Wi (13 * (i+1)) he hvi hwl
   have n3:0≤(i:Int)∧(i:Int)<((sts.zip W).length:Int):=by omega
   have hein:=hal32 e he
   have hwc:=hvlen Wi hvi
   refine zag Tk Tryz.func43 (by exact⟨by omega,by show (j:Int)<(ob.length:Int);omega⟩) ?_
   refine zap Tk Tryz.func43 (ga) ?_
   refine zag Tk Tryz.func43 (by exact n3) ?_
   refine zap Tk Tryz.func43 (gs) ?_
   refine zac ?_
   refine zaq (zcg 12 98 178 2 rfl rfl rfl) ?_
   refine zah (fun k:Nat=>[(1,.own 0 1 0 0),(2,.own 0 2 0 0),(4,.own 0 4 0 0),(6,.own 0 6 0 0),(7,.fn (.func 95) [] [.own 0 4 0 0,.own 0 1 0 0]),(8,.osl 0 129),(9,ii i),(59,ints ob),(60,ii ob.length),(61,ii j),(11,ii e),(12,.osl 0 98),(69,fdsD Wi),(70,ii Wi.length),(71,ii k)])
    (fun k=>[(1,.box (sysC ⟨⟨al',st',mk',es'⟩,⟨al2,st2,mk2,es2⟩,ob,ct⟩)),(2,.box [.i (.v (.slice none 0 0)),ii 0,.i (.v (.slice none 0 0)),.i (.v (.slice none 0 0))]),(4,.box [ints al,ii st,ints mk,edgs es]),(6,.box [ints ob,ii 0,.osl 0 56,.osl 0 137]),(129,zih (sts.zip W)),(56,zat mk0),(137,zbD eds),(98,ofds (nxF es e (Wi.take k)))]) (fun _=>O) 145
    (fun k=>k≤Wi.length) (fun k=>Wi.length - k) 0 (Nat.zero_le _) ⟨rfl,rfl,rfl,rfl,rfl,rfl,rfl,rfl,rfl,rfl,rfl,rfl,rfl,rfl,rfl,trivial⟩ rfl ⟨rfl,rfl,rfl,rfl,rfl,rfl,rfl,rfl,trivial⟩ rfl rfl ?_
   intro k hk ih3
   refine zae Tk Tryz.func43 ?_
   refine zai Tk Tryz.func43 rfl (fun g3=>?_) (fun g3=>?_)
   ·have h4:k<Wi.length:=by simpa using g3
    clear g3
    have hk1:ii (IntKind.i64.wrap ((k:Int)+1))=ii ((k+1:Nat):Int):=congrArg ii (zaC (n:=4096) (by omega) (by decide))
    have gr:(Wi.map fdI)[(k:Int).toNat]? = some (fdI Wi[k]):=zaj h4
    have htk:Wi.take (k+1)=Wi.take k++[Wi[k]]:=List.take_succ_eq_append_getElem h4
    have hfold:nxF es e (Wi.take (k+1))=nxS es e (nxF es e (Wi.take k)) Wi[k]:=by unfold nxF;rw[htk,List.foldl_append];rfl
    have hnok:=zhx (es:=es) (W:=Wi.take k) hein (fun x hx=>hvi.wrd x (List.mem_of_mem_take hx))
    have hacl:(nxF es e (Wi.take k)).length≤12:=by
     have:=zpQ es e (Wi.take k)
     rw[List.length_take] at this
     omega
    have hacw:∀ y∈nxF es e (Wi.take k),y.2.length≤100000:=fun y hy=>by
     obtain⟨z,hz,rfl,_⟩:=hnok.snd y hy
     have:=hwl z (List.mem_of_mem_take hz)
     simp only[List.length_append,List.length_singleton]
     omega
    have hxl:=hwl _ (List.getElem_mem h4)
    clear hnok htk
    generalize nxF es e (Wi.take k)=acc at *
    generalize Wi[k]=x at *
    obtain⟨xs,xw⟩:=x
    unfold nxS at hfold
    simp only at hfold hxl
    have d2:=fun O=>cst O xs e
    have hcl1:=fun O=>hcl O xw (by omega)
    generalize stp3 es xs e=t at *
    refine zag Tk Tryz.func43 (by exact⟨by omega,by show (k:Int)<(Wi.length:Int);omega⟩) ?_
    refine zap Tk Tryz.func43 (gr) ?_
    refine zaf Tk Tryz.func43 (d2 _) rfl rfl rfl rfl rfl ?_
    refine zai Tk Tryz.func43 rfl (fun k1=>?_) (fun k1=>?_)
    ·have k1:t<0:=of_decide_eq_true k1
     rw[if_pos k1] at hfold
     refine zac ?_
     refine ih3 (k+1) _ _ h4 (by omega) ⟨rfl,rfl,rfl,rfl,rfl,rfl,rfl,rfl,rfl,rfl,rfl,rfl,rfl,rfl,hk1,trivial⟩ rfl ⟨rfl,rfl,rfl,rfl,rfl,rfl,rfl,by rw[hfold];rfl,trivial⟩ rfl rfl
    have k1:¬ t<0:=of_decide_eq_false k1
    rw[if_neg k1] at hfold
    refine zaf Tk Tryz.func43 (hcl1 _) rfl rfl rfl rfl rfl ?_
    refine zag Tk Tryz.func43 (by exact⟨by show (xw.length+1) * 8≤140737488355328;omega,by show xw.length+1≤9223372036854775807;omega⟩) ?_
    refine zay ?_
    refine zaq (zao 87 rfl rfl) ?_
    refine zaq (zeb rfl) ?_
    have ew:I.sl 1 (xw.length+1) (xw.map (fun x=>[vi x])++[[vi e]])=zbE (xw++[e]):=by simp
    refine zaE (l:=[(1,.own 0 1 0 0),(2,.own 0 2 0 0),(4,.own 0 4 0 0),(6,.own 0 6 0 0),(7,.fn (.func 95) [] [.own 0 4 0 0,.own 0 1 0 0]),(8,.osl 0 129),(9,ii i),(59,ints ob),(60,ii ob.length),(61,ii j),(11,ii e),(12,.osl 0 98),(69,fdsD Wi),(70,ii Wi.length),(71,ii k),(15,.own 0 15 0 0),(16,ints (xw++[e]))]) (Hv:=[(1,.box (sysC ⟨⟨al',st',mk',es'⟩,⟨al2,st2,mk2,es2⟩,ob,ct⟩)),(2,.box [.i (.v (.slice none 0 0)),ii 0,.i (.v (.slice none 0 0)),.i (.v (.slice none 0 0))]),(4,.box [ints al,ii st,ints mk,edgs es]),(6,.box [ints ob,ii 0,.osl 0 56,.osl 0 137]),(129,zih (sts.zip W)),(56,zat mk0),(137,zbD eds),(98,ofds acc),(15,.box [ii t])]) ?_ ⟨rfl,rfl,rfl,rfl,rfl,rfl,rfl,rfl,rfl,rfl,rfl,rfl,rfl,rfl,rfl,rfl,congrArg D.i ew,trivial⟩ rfl ⟨rfl,rfl,rfl,rfl,rfl,rfl,rfl,rfl,rfl,trivial⟩ rfl rfl
    have hwl2:(xw++[e]).length≤100000:=by rw[List.length_append,List.length_singleton];omega
    generalize xw++[e]=ww at *
    clear ew hcl1
    refine zae Tk Tryz.func43 ?_
    refine g_go Tk Tryz.func43 ?_
    refine zaf Tk Tryz.func43 (hix _ acc t (by omega) rfl rfl) rfl rfl rfl rfl rfl ?_
    refine zai Tk Tryz.func43 rfl (fun k3=>?_) (fun k3=>?_)
    ·have k3:zax (fun x:Fd=>x.1==t) acc 0<0:=of_decide_eq_true k3
     rw[if_pos k3] at hfold
     refine zag Tk Tryz.func43 (by exact⟨by show (acc.length+1) * 32≤140737488355328;omega,by show acc.length+1≤9223372036854775807;omega⟩) ?_
     refine zac ?_
     refine ih3 (k+1) _ _ h4 (by omega) ⟨rfl,rfl,rfl,rfl,rfl,rfl,rfl,rfl,rfl,rfl,rfl,rfl,rfl,rfl,hk1,trivial⟩ rfl ⟨rfl,rfl,rfl,rfl,rfl,rfl,rfl,?_,trivial⟩ rfl rfl
     rw[hfold]
     show some (Ob.arr 178 2 (acc.length+1) (acc.map fdI++[fdI (t,ww)]) true)=some (ofds (acc++[(t,ww)]))
     simp
    ·have k3:¬ zax (fun x:Fd=>x.1==t) acc 0<0:=of_decide_eq_false k3
     obtain⟨q,hq,hqx,hqt⟩:=zc9 k3
     rw[if_neg k3] at hfold
     rw[Nat.zero_add] at hqx
     have gk:(acc.map fdI)[(((q:Nat):Int)).toNat]? = some (fdI acc[q]):=zaj hq
     have hgd:acc.getD q (0,[])=acc[q]:=by rw[List.getD_eq_getElem?_getD,List.getElem?_eq_getElem hq];rfl
     rw[hqx,Int.toNat_natCast,hgd] at hfold
     have hset:∀ z:Fd,(acc.map fdI).set q (fdI z)=(acc.set q z).map fdI:=fun z=>List.map_set.symm
     have hcm1:=fun O=>hcm O ww acc[q].2 (by omega) (by have:=hacw _ (List.getElem_mem hq);omega)
     generalize acc[q]=y at *
     obtain⟨ys,yw⟩:=y
     simp only at hcm1 hfold
     generalize cmpW ww yw=cw at *
     generalize zax (fun x:Fd=>x.1==t) acc 0=fx at *
     subst hqx
     refine zag Tk Tryz.func43 (by exact⟨by omega,by show ((q:Nat):Int)<(acc.length:Int);omega⟩) ?_
     refine zap Tk Tryz.func43 (gk) ?_
     refine zaf Tk Tryz.func43 (hcm1 _) rfl rfl rfl rfl rfl ?_
     refine zai Tk Tryz.func43 rfl (fun k4=>?_) (fun k4=>?_)
     ·have k4:cw<0:=of_decide_eq_true k4
      rw[if_pos k4] at hfold
      refine zag Tk Tryz.func43 (by exact⟨by omega,by show ((q:Nat):Int)<(acc.length:Int);omega⟩) ?_
      refine zap Tk Tryz.func43 (gk) ?_
      refine zac ?_
      refine ih3 (k+1) _ _ h4 (by omega) ⟨rfl,rfl,rfl,rfl,rfl,rfl,rfl,rfl,rfl,rfl,rfl,rfl,rfl,rfl,hk1,trivial⟩ rfl ⟨rfl,rfl,rfl,rfl,rfl,rfl,rfl,?_,trivial⟩ rfl rfl
      rw[hfold]
      show some (Ob.arr 178 2 acc.length ((acc.map fdI).set q (fdI (ys,ww))) true)=some (Ob.arr 178 2 (acc.set q (ys,ww)).length ((acc.set q (ys,ww)).map fdI) true)
      rw[hset,List.length_set]
     ·have k4:¬ cw<0:=of_decide_eq_false k4
      rw[if_neg k4] at hfold
      refine zac ?_
      refine ih3 (k+1) _ _ h4 (by omega) ⟨rfl,rfl,rfl,rfl,rfl,rfl,rfl,rfl,rfl,rfl,rfl,rfl,rfl,rfl,hk1,trivial⟩ rfl ⟨rfl,rfl,rfl,rfl,rfl,rfl,rfl,by rw[hfold];rfl,trivial⟩ rfl rfl
   ·have h4:Wi.length≤k:=by simpa using g3
    clear g3 ih3
    rw[List.take_of_length_le h4]
    have hgl:(nxF es e Wi).length≤12:=by
     have:=zpQ es e Wi
     omega
    have hEg:=fun (hh:zbs ((rchF ⟨al,st,mk,es⟩ ob (nxF es e Wi)).map (·.1)) ∉ sts)=>hE.w.grow hE.b (i:=i) (e:=e) hwi
    have hrv2:=fun hne=>hrv2' (nxF es e Wi) (13 * (i+1)+1) hnx hne hnb
    have cof2:=fun O hne hoA hoX=>cof O (13 * (i+1)+1) (nxF es e Wi) (by omega) hnx hne hnb hoA hoX
    clear hnx hnb hwl hvi hwne hsw hwc h4 hk gs gz
    generalize nxF es e Wi=G at *
    refine zai Tk Tryz.func43 rfl (fun k5=>?_) (fun k5=>?_)
    ·have k5:G=[]:=List.eq_nil_of_length_eq_zero (by have:=k5;simpa using this)
     have hp:=ht1 k5
     unfold zbA at hV
     rw[hp] at hV
     simp only[ne_eq,not_true,if_false,if_true] at hV
     refine zac ?_
     exact ih2 (j+1,⟨sts,mk0,eds⟩,W) _ _ ⟨h3,hgd,hE,hil,rfl,by simp only;omega,hsi,hwi,hV⟩ (by simp only;omega) ⟨rfl,rfl,rfl,rfl,rfl,rfl,rfl,rfl,rfl,hj1,trivial⟩ rfl ⟨rfl,rfl,rfl,rfl,rfl,rfl,rfl,trivial⟩ rfl rfl
    have k5:G≠[]:=fun e=>by rw[e] at k5;exact absurd k5 (by simp)
    obtain⟨hr1,hr2,hr3⟩:=hrv2 k5
    have cof3:=fun O hoA hoX=>cof2 O k5 hoA hoX
    have hp:=ht2 k5
    refine zay ?_
    refine zaq (zao 98 rfl rfl) ?_
    refine zaq (zeb rfl) ?_
    refine zae Tk Tryz.func43 ?_
    refine g_go Tk Tryz.func43 ?_
    refine zaf Tk Tryz.func43 (cof3 _ rfl rfl) rfl rfl rfl rfl rfl ?_
    unfold zbA at hV hvok
    rw[hp] at hV hvok
    simp only[ne_eq,not_true,if_false,Bool.true_eq_false,Bool.false_eq_true,false_and] at hV hvok
    have hnew:∀ y∈rchF ⟨al,st,mk,es⟩ ob G,y.2.length≤13 * (sts.length+1):=fun y hy=>by have:=hr3 y hy;omega
    clear cof2 cof3 hp ht1 ht2 hrv2
    generalize rchF ⟨al,st,mk,es⟩ ob G=Rw at *
    generalize hs':zbs (Rw.map (·.1))=s' at *
    have hzf:=zhe (s:=s') (l:=sts) (m:=W) (i:=0) (by omega)
    obtain⟨t,ht⟩:∃ t,t=sts.findIdx (eqB s'):=⟨_,rfl⟩
    rw[← ht] at hV hvok hzf
    rw[Nat.zero_add] at hzf
    obtain⟨sts2,hst3⟩:∃ sts2,sts2=if s' ∈ sts then sts else sts++[s']:=⟨_,rfl⟩
    obtain⟨W2,hw3⟩:∃ W2,W2=if s' ∈ sts then W else W++[Rw]:=⟨_,rfl⟩
    have htm:s' ∉ sts→t=sts.length:=fun hm=>by
     rw[ht]
     exact za6 fun x hx=>by simp only[eqB,decide_eq_false_iff_not];rintro rfl;exact hm hx
    have hU2:VV=zav eqB false ts i s (ob.drop (j+1)) ⟨sts2,mk0,eds++[((i:Int),e,(t:Int))]⟩∧UOk (estP n) ⟨sts2,mk0,eds++[((i:Int),e,(t:Int))]⟩∧i<sts2.length∧sts2[i]? = some s∧W2[i]? = some Wi∧EsOk ⟨al,st,mk,es⟩ n ob sts2 (eds++[((i:Int),e,(t:Int))]) W2:=by
     by_cases hm:s' ∈ sts
     ·have hlt:t<sts.length:=by rw[ht];exact zcr ⟨s',hm,by simp[eqB]⟩
      rw[if_pos hm] at hst3 hw3
      rw[if_pos hlt] at hV hvok
      subst hst3 hw3
      have h:=hvok _ rfl
      refine⟨hV,h.1,h.2.1,h.2.2.trans hsi,hwi,hE.w.edge _,fun x hx=>?_,hE.g⟩
      rcases List.mem_append.1 hx with hx | hx
      ·exact hE.b x hx
      ·rw[List.mem_singleton] at hx
       subst hx
       simp only
       omega
     ·have hlt:=htm hm
      rw[if_neg hm] at hst3 hw3
      rw[if_neg (by omega)] at hV hvok
      subst hst3 hw3
      have h:=hvok _ rfl
      refine⟨hV,h.1,h.2.1,h.2.2.trans hsi,by rw[List.getElem?_append_left (by omega)];exact hwi,?_,fun x hx=>?_,fun k s1 v1 f1 f2=>?_⟩
      ·have h9:=hEg hm
       rw[hlt,List.length_append]
       exact h9
      ·rw[List.length_append,List.length_singleton]
       rcases List.mem_append.1 hx with hx | hx
       ·have:=hE.b x hx;omega
       ·rw[List.mem_singleton] at hx
        subst hx
        simp only
        omega
      ·by_cases hk:k<sts.length
       ·rw[List.getElem?_append_left hk] at f1
        rw[List.getElem?_append_left (by omega)] at f2
        exact hE.g k s1 v1 f1 f2
       ·have hk2:k=sts.length:=by
         have:=(List.getElem?_eq_some_iff.1 f1).1
         rw[List.length_append,List.length_singleton] at this
         omega
        subst hk2
        rw[List.getElem?_append_right (Nat.le_refl _),Nat.sub_self] at f1
        rw[List.getElem?_append_right (by omega),show sts.length - W.length=0 by omega] at f2
        simp only[List.getElem?_cons_zero,Option.some.injEq] at f1 f2
        subst f1 f2
        exact⟨⟨hr1,hr2,hs'.symm⟩,hnew⟩
    have hlb:∀ z∈sts.zip W,z.1.length≤1000000:=fun z hz=>hsn _ (hgd.ok _ (List.of_mem_zip (a:=z.1) (b:=z.2) hz).1)
    have hic:=fun O ho hy=>ceq O 0 18 (s',Rw) (sts.zip W) 0 129 (by omega) hlb ho hy
    clear hV hvok ht hEg
    generalize zax (fun z:List Int × List Fd=>decide (z.1=s')) (sts.zip W) 0=ix at *
    have hq1:ix<0→t=(sts.zip W).length∧sts2.zip W2=sts.zip W++[(s',Rw)]:=fun h=>by
     have c2:s' ∉ sts:=fun hm=>by
      rw[if_pos hm] at hzf;omega
     exact⟨by rw[hzl];exact htm c2,by rw[hst3,hw3,if_neg c2,if_neg c2];exact zrx (by omega)⟩
    have hq2:¬ ix<0→ix=t∧sts2.zip W2=sts.zip W:=fun h=>by
     have c2:s' ∈ sts:=Classical.byContradiction fun hm=>by
      rw[if_neg hm] at hzf;omega
     exact⟨by rw[hzf,if_pos c2],by rw[hst3,hw3,if_pos c2,if_pos c2]⟩
    clear hzf htm hst3 hw3
    apply zcj (P:=True) (s6:={ σ:=[(1,.own 0 1 0 0),(2,.own 0 2 0 0),(4,.own 0 4 0 0),(6,.own 0 6 0 0),(7,.fn (.func 95) [] [.own 0 4 0 0,.own 0 1 0 0]),(8,.osl 0 129),(9,ii i),(59,ints ob),(60,ii ob.length),(61,ii j),(11,ii e),(19,ii t)],S:=[(1,.box (sysC ⟨⟨al',st',mk',es'⟩,⟨al2,st2,mk2,es2⟩,ob,ct⟩)),(2,.box [.i (.v (.slice none 0 0)),ii 0,.i (.v (.slice none 0 0)),.i (.v (.slice none 0 0))]),(4,.box [ints al,ii st,ints mk,edgs es]),(6,.box [ints ob,ii 0,.osl 0 56,.osl 0 137]),(129,zih (sts2.zip W2)),(56,zat mk0),(137,zbD eds)]::O,n:=145 })
    ·intro J
     refine zaf Tk Tryz.func43 (hic _ rfl rfl) rfl rfl rfl rfl rfl ?_
     refine zai Tk Tryz.func43 rfl (fun c1=>?_) (fun c1=>?_)
     ·have c1:=hq1 (of_decide_eq_true c1)
      refine zag Tk Tryz.func43 (by exact⟨by show ((sts.zip W).length+1) * 48≤140737488355328;omega,by show (sts.zip W).length+1≤9223372036854775807;omega⟩) ?_
      refine zay ?_
      refine zaE (J trivial) ⟨rfl,rfl,rfl,rfl,rfl,rfl,rfl,rfl,rfl,rfl,rfl,by rw[c1.1];rfl,trivial⟩ rfl ⟨rfl,rfl,rfl,rfl,by rw[c1.2];exact congrArg some (zpM (sts.zip W) (s',Rw)),rfl,rfl,trivial⟩ rfl rfl
     ·have c1:=hq2 (of_decide_eq_false c1)
      refine zay ?_
      refine zaE (J trivial) ⟨rfl,rfl,rfl,rfl,rfl,rfl,rfl,rfl,rfl,rfl,rfl,congrArg ii c1.1,trivial⟩ rfl ⟨rfl,rfl,rfl,rfl,by rw[c1.2];rfl,rfl,rfl,trivial⟩ rfl rfl
    intro _
    obtain⟨hV,hg2,hi2,hs2,hw2,hE2⟩:=hU2
    clear hgd hil hsi hwi hic hq1 hq2 hE
    refine zae Tk Tryz.func43 ?_
    refine g_go Tk Tryz.func43 ?_
    refine zag Tk Tryz.func43 (by exact⟨by show (eds.length+1) * 24≤140737488355328;omega,by show eds.length+1≤9223372036854775807;omega⟩) ?_
    refine zac ?_
    exact ih2 (j+1,⟨sts2,mk0,eds++[((i:Int),e,(t:Int))]⟩,W2) _ _ ⟨h3,hg2,hE2,hi2,rfl,by simp only[List.length_append,List.length_singleton];omega,hs2,hw2,hV⟩ (by simp only;omega) ⟨rfl,rfl,rfl,rfl,rfl,rfl,rfl,rfl,rfl,hj1,trivial⟩ rfl ⟨rfl,rfl,rfl,rfl,rfl,rfl,congrArg some (zc3 eds ((i:Int),e,(t:Int))),trivial⟩ rfl rfl
  ·have h3:ob.length≤j:=by simpa using g2
   rw[List.drop_eq_nil_of_le h3] at hV
   simp only[zav] at hV
   subst hV
   simp only at hno
   refine zac ?_
   exact ih (i+1,⟨sts,mk0,eds⟩,W) _ _ ⟨by simp only;omega,hgd,hE,hml1,by simp only;omega,hno⟩ (by simp only;omega) ⟨rfl,rfl,rfl,rfl,rfl,rfl,congrArg ii (zaC (n:=4096) (by omega) (by decide)),trivial⟩ rfl ⟨rfl,rfl,rfl,rfl,rfl,rfl,rfl,trivial⟩ rfl rfl
 ·have h1:U.sts.length≤i:=by
   have:(U.sts.zip W).length≤i:=by simpa using g1
   rw[List.length_zip] at this
   omega
  rw[zdS h1] at hno
  rw[← hR] at hno
  simp only[Except.ok.injEq] at hno
  subst hno
  have hww:=zoJ hE.w
  rw[← hww]
  obtain⟨sts,mk0,eds⟩:=V
  have hzl:(sts.zip W).length=sts.length:=by rw[List.length_zip];simp only at hWl;omega
  refine zay ?_
  refine zaq (zao 129 rfl rfl) ?_
  refine zaq (zao 56 rfl rfl) ?_
  refine zaq (zao 137 rfl rfl) ?_
  refine zae Tk Tryz.func43 ?_
  refine g_go Tk Tryz.func43 ?_
  refine zak Tk (r:=.tup [autD ⟨ob,((sts.zip W).length:Int),mk0,eds⟩,zsP (sts.zip W)]) rfl rfl rfl trivial rfl rfl ?_
  rw[hzl]
end Go.AI


namespace Go.AI
set_option maxRecDepth 20000
theorem zoL {a:Aut} {on:List Int}:∀ (rest:List Edg) (eds:List Edg) (k N:Nat) (W:List (List Fd)),kOf rest k=some N→WOk a on eds k W→(∀ x∈eds,x.2.2<(k:Int))→∃ W',WOk a on (eds++rest) N W'
 | [],eds,k,N,W,hk,h,_=>by
  simp only[kOf,Option.some.injEq] at hk
  subst hk
  exact⟨W,by rw[List.append_nil];exact h⟩
 | x::r,eds,k,N,W,hk,h,hb=>by
  obtain⟨xi,xe,xt⟩:=x
  simp only[kOf] at hk
  split at hk
  ·rename_i hc
   obtain⟨⟨h1,h2⟩,h3,h4⟩:=hc
   obtain⟨i,rfl⟩:∃ i:Nat,xi=(i:Int):=⟨xi.toNat,by omega⟩
   have hi:W[i]? = some (W[i]'(by rw[h.len];omega)):=List.getElem?_eq_getElem _
   by_cases ht:xt=(k:Int)
   ·subst ht
    rw[if_pos rfl] at hk
    have:=zoL r (eds++[((i:Int),xe,(k:Int))]) (k+1) N _ hk (h.grow hb hi) fun x hx=>by
     rcases List.mem_append.1 hx with hx | hx
     ·have:=hb x hx;omega
     ·rw[List.mem_singleton] at hx;subst hx;simp only;omega
    rwa [List.append_assoc] at this
   ·rw[if_neg ht] at hk
    have:=zoL r (eds++[((i:Int),xe,xt)]) k N W hk (h.edge _) fun x hx=>by
     rcases List.mem_append.1 hx with hx | hx
     ·exact hb x hx
     ·rw[List.mem_singleton] at hx;subst hx;simp only;omega
    rwa [List.append_assoc] at this
  ·cases hk
section
variable {a:Aut} {n:Nat} {on:List Int} {V:Unf (List Int)}
theorem zhf (h:prjU a n on V):WOk a on V.eds V.sts.length (wrdF a on V.eds V.sts.length):=by
 have h1:WOk a on [] 1 [rchF a on [((0:Int),([]:List Int))]]:=⟨rfl,rfl,fun k h1 h2=>by omega⟩
 obtain⟨W,hW⟩:=zoL V.eds [] 1 V.sts.length _ h.hU.fr h1 (by simp)
 rw[List.nil_append] at hW
 rw[← zoJ hW]
 exact hW
theorem ztX (h:prjU a n on V) (hal:∀ e∈on,0≤e∧e<32):∀ (m k:Nat),k<m→∀ s v,V.sts[k]? = some s→(wrdF a on V.eds V.sts.length)[k]? = some v→vdF a n v∧v≠[]∧s=zbs (v.map (·.1)):=by
 have hW:=zhf h
 generalize wrdF a on V.eds V.sts.length=W at *
 intro m
 induction m with
 | zero=>intro k hk;omega
 | succ m ih=>
  intro k hk s v hs hv
  have hv0:=vd0 (a:=a) h.g h.n0
  have hne:∀ frm,vdF a n frm→frm≠[]→rchF a on frm≠[]:=fun frm hf hne=>by
   obtain⟨y,hy⟩:=List.exists_mem_of_ne_nil _ hne
   obtain⟨z,hz,_⟩:=(zed (on:=on) h.g hf).low _ _ (RP.base hy)
   exact List.ne_nil_of_mem hz
  by_cases h0:k=0
  ·subst h0
   rw[hW.fst] at hv
   obtain rfl:=Option.some.inj hv
   rw[h.fst] at hs
   obtain rfl:=Option.some.inj hs
   exact⟨zic h.g hv0,hne _ hv0 (by simp),(zd0 h.g hv0).symm⟩
  ·have hkN:k<V.sts.length:=(List.getElem?_eq_some_iff.1 hs).1
   obtain⟨i,e,Wi,f1,f2,f3,f4⟩:=hW.nxt k (by omega) hkN
   have hmem:=List.mem_of_find?_eq_some f1
   obtain⟨k',s',j,g1,g2,g3,g4,g5,g6⟩:=zfU h.hU hmem
   simp only at g2 g3 g4 g5 g6
   obtain rfl:i=k':=by omega
   obtain rfl:k=j:=by omega
   rw[f4] at hv
   obtain rfl:=Option.some.inj hv
   rw[g6] at hs
   obtain rfl:=Option.some.inj hs
   obtain⟨i1,i2,i3⟩:=ih i (by omega) s' Wi g1 f3
   have hev:e∈on:=of_decide_eq_true (List.mem_filter.1 g3).2
   have hm:∀ x,x∈s' ↔ x∈Wi.map (·.1):=fun x=>by
    rw[i3]
    exact ze8 i1.nd (fun z hz=>by
     obtain⟨y,hy,rfl⟩:=List.mem_map.1 hz
     exact i1.rng y hy) x
   have hnv:=zjr (a:=a) h.g (hal e hev) i1
   have hnn:nxF a.edges e Wi≠[]:=fun hn=>by
    have h9:=(zpP (on:=on) h.g (hal e hev) i1 hm).1 hn
    have g4':decide ((nxt a.edges (lowP on [] false) n s' e).length≠0)=true:=g4
    rw[h9] at g4'
    exact absurd g4' (by decide)
   refine⟨zic h.g hnv,hne _ hnv hnn,?_⟩
   rw[zd0 h.g hnv,zij h.g (hal e hev) i1 hm]
   rfl
end
theorem zdk {x:Sys} (hx:gSys x) (hV:(lpV x).length≤4095) (hn:(lpR x).2.length≤11) :
  ((esWR x).map (·.1)=(esR x).2∧(esWR x).length=(esR x).2.length)∧∀ z∈esWR x,vdF (lpR x).1 (lpR x).2.length z.2∧z.2≠[]∧z.1=zbs (z.2.map (·.1)):=by
 by_cases h0:(lpR x).2.length=0
 ·have he:(esR x).2=[]:=zmE h0
  unfold esWR
  rw[he]
  exact⟨⟨rfl,rfl⟩,fun z hz=>by cases hz⟩
 ·obtain⟨V,hprj,hVs⟩:=zmD hx hV hn h0
  have hes:esR x=(unfA (zbJ (lpR x).1 x.ob) V,V.sts):=by
   unfold esR
   rw[if_neg h0,hprj.hV]
  have hW:=zhf hprj
  have hg:=ztX hprj (zam hx.ob).2.1
  unfold esWR
  rw[hes]
  unfold unfA
  simp only
  generalize wrdF (lpR x).1 x.ob V.eds V.sts.length=W at *
  have hl:V.sts.length=W.length:=hW.len.symm
  refine⟨⟨by rw[← List.unzip_fst,List.unzip_zip hl],by rw[List.length_zip];omega⟩,fun z hz=>?_⟩
  obtain⟨k,hk⟩:=List.getElem?_of_mem hz
  have hk2:=List.getElem?_zip_eq_some.1 hk
  exact hg (k+1) k (Nat.lt_succ_self k) z.1 z.2 hk2.1 hk2.2
end Go.AI


namespace Go.AI
open Go.Proofs
set_option maxRecDepth 20000
theorem zwd {x:Sk} (h:skOkB x) (hf:(lpR (mkS x)).1.states≤10):obOk (mkS x):=by
 obtain⟨m1,m2,m3,m4⟩:=zmm h
 exact zsh m1 m2 ⟨by omega,by omega⟩ (by have:=zup h;omega) (by have:=zta h hf;omega)
end Go.AI
