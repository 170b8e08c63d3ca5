/- The layer of abstract runs, part 31. -/
import Derived.Test.YtlcekmemdnjjbaaGreatDoorBayZD
set_option linter.unusedSimpArgs false
set_option linter.unusedVariables false
set_option linter.all false

set_option maxHeartbeats 4000000
namespace Go.AI
open Go.Proofs
set_option maxRecDepth 20000
structure EsOk (a:Aut) (n:Nat) (ob:List Int) (sts:List (List Int)) (eds:List Edg) (W:List (List Fd)):Prop where
 w:WOk a ob eds sts.length W
 b:∀ x∈eds,x.2.2<(sts.length:Int)
 g:∀ (k:Nat) s v,sts[k]? = some s→W[k]? = some v→(vdF a n v∧v≠[]∧s=zbu (v.map (·.1)))∧∀ y∈v,y.2.length≤13 * (k+1)
theorem zjJ {α β:Type}:∀ {l:List α} {m:List β} {i:Nat} {x:α} {y:β},l[i]? = some x→m[i]? = some y→(l.zip m)[i]? = some (x,y)
 | [],_,_,_,_,h,_=>by simp at h
 | _::_,[],_,_,_,_,h=>by simp at h
 | a::l,b::m,0,x,y,h,h'=>by
  simp only[List.getElem?_cons_zero,Option.some.injEq] at h h'
  subst h h'
  rfl
 | a::l,b::m,i+1,x,y,h,h'=>by
  simp only[List.getElem?_cons_succ] at h h'
  simpa using zjJ h h'
theorem zrc {α β:Type} {l:List α} {m:List β} {x:α} {y:β} (h:l.length=m.length):(l++[x]).zip (m++[y])=l.zip m++[(x,y)]:=by
 rw[List.zip_append h];rfl
theorem zg6 {β:Type} {s:List Int}:∀ {l:List (List Int)} {m:List β} {i:Nat},l.length=m.length→zay (fun z:List Int × β=>decide (z.1=s)) (l.zip m) i=if s∈l then ((i+l.findIdx (eqB s):Nat):Int) else -1
 | [],[],i,_=>by simp[zay]
 | [],_::_,_,h=>by simp at h
 | _::_,[],_,h=>by simp at h
 | a::l,b::m,i,h=>by
  simp only[List.zip_cons_cons,zay]
  by_cases c:a=s
  ·subst c
   rw[if_pos (by simp),if_pos (by simp)]
   simp[List.findIdx_cons,eqB]
  ·rw[if_neg (by simpa using c),zg6 (by simpa using h)]
   by_cases hm:s∈l
   ·rw[if_pos hm,if_pos (by simp[hm])]
    rw[List.findIdx_cons]
    have:eqB s a=false:=by simp[eqB,Ne.symm c]
    rw[this]
    simp only[cond_false]
    omega
   ·rw[if_neg hm,if_neg (by simp[hm,Ne.symm c])]
theorem zeZ {l:List Int} {n:Nat} (h:l.Nodup) (hl:∀ x∈l,0≤x∧x<(n:Int)) (x:Int):x∈zbu l ↔ x∈l:=by
 rw[zeb h hl,zbQ]
 exact⟨fun h=>h.2,fun h=>⟨hl x h,h⟩⟩
theorem ztV (es:List Edg) (e:Int) (acc:List Fd) (x:Fd):(nxS es e acc x).length≤acc.length+1:=by
 unfold nxS
 split
 ·omega
 ·split
  ·simp
  ·split
   ·simp
   ·omega
theorem zpv (es:List Edg) (e:Int) (W:List Fd):(nxF es e W).length≤W.length:=by
 have key:∀ (W acc:List Fd),(W.foldl (nxS es e) acc).length≤acc.length+W.length:=by
  intro W
  induction W with
  | nil=>intro acc;simp
  | cons x W ih=>
   intro acc
   have:=ih (nxS es e acc x)
   have:=ztV es e acc x
   simp only[List.foldl_cons,List.length_cons]
   omega
 simpa [nxF] using key W []
theorem zjX {a:Aut} {on:List Int} {frm:List Fd} {n B:Nat} (h:gAut a n) (hn:n≤12) (hv:vdF a n frm) (hB:∀ y∈frm,y.2.length≤B):∀ y∈rchF a on frm,y.2.length≤B+12:=by
 have hq:=zfs (on:=on) h hv
 have hfew:(rchF a on frm).length≤n:=RGd.few ⟨hq.snd,hq.nd,fun x hx=>hq.low _ _ (RP.base hx)⟩ (hv.ok h)
 generalize rchF a on frm=l at *
 have hcs:∀ t w,RP a on frm t w→(t,w)∈frm∨∃ s v e,RP a on frm s v∧e∈a.alpha∧e ∉ on∧0≤stp3 a.edges s e∧t=stp3 a.edges s e∧w=v++[e]:=by
  intro t w hp
  cases hp with
  | base hx=>exact .inl hx
  | step h1 h2 h3 h4=>exact .inr ⟨_,_,_,h1,h2,h3,h4,rfl,rfl⟩
 have key:∀ (m i:Nat) (hi:i<l.length),i<m→l[i].2.length≤B+i:=by
  intro m
  induction m with
  | zero=>intro i _ hi;omega
  | succ m ih=>
   intro i hi him
   have hp:=hq.snd _ (List.getElem_mem hi)
   rcases hcs _ _ hp with hf | ⟨s,v,e,h1,h2,h3,h4,h5,h6⟩
   ·have:=hB _ hf
    simp only at this
    omega
   ·obtain⟨z,hz,e1,e2⟩:=hq.low s v h1
    have hpz:=hq.snd z hz
    rw[e1] at hpz
    have hst:=RP.step hpz h2 h3 h4
    obtain⟨y',hy',e3,e4⟩:=hq.low _ _ hst
    have hyy:y' = l[i]:=zjc hq.nd hy' (List.getElem_mem hi) (by rw[e3,h5])
    subst hyy
    rw[h6] at e4 ⊢
    have hle:rk (z.2++[e])≤rk (v++[e]):=zu0 e2
    have heq:rk (z.2++[e])=rk (v++[e]):=by omega
    have hwz:=(hst.ok (hv.ok h)).2
    have hwv:=(RP.step h1 h2 h3 h4).ok (hv.ok h)
    have hvz:=ztN hwz hwv.2 heq
    obtain⟨j,hj,rfl⟩:=List.mem_iff_getElem.1 hz
    have hji:j<i:=by
     rcases Nat.lt_trichotomy j i with hlt | rfl | hgt
     ·exact hlt
     ·have:rk l[j].2<rk (v++[e]):=by rw[← heq,zct];omega
      rw[← h6] at this
      omega
     ·have h8:=List.pairwise_iff_getElem.1 hq.srt i j hi hj hgt
      rw[h6,← heq,zct] at h8
      omega
    have:=ih j hj (by omega)
    rw[← hvz]
    simp only[List.length_append,List.length_singleton]
    omega
 intro y hy
 obtain⟨i,hi,rfl⟩:=List.mem_iff_getElem.1 hy
 have:=key (i+1) i hi (Nat.lt_succ_self i)
 omega
noncomputable abbrev esWR (x:Sys):List Es2:=(esR x).2.zip (wrdF (lpR x).1 x.ob (esR x).1.edges (esR x).2.length)
set_option maxHeartbeats 32000000 in
theorem zgJ (O:List Heap) (x:Sys) (h:smallS x) (hx:gSys x) (hV0:(lpV x).length≤4095) (hn11:(lpR x).2.length≤11):zao Tryz.prog 43 [sysD x] O (.tup [autD (esR x).1,znU (esWR x)]) [] O:=by
 have c42:=fun O=>zpF O x h hx hV0
 have hga:=(lp_g hx hV0).1
 have hke:=zpI hx hV0
 have hobs:=h.ob
 by_cases h0:(lpR x).2.length=0
 ·have he:esR x=(⟨x.ob,0,[],[]⟩,[]):=by unfold esR;rw[if_pos h0,hke]
  unfold esWR
  rw[he]
  have hst:=hga.st
  rw[h0] at hst
  generalize lpR x=L at *
  obtain⟨⟨al,st,mk,es⟩,ps⟩:=L
  simp only at hst c42
  obtain⟨⟨al',st',mk',es'⟩,⟨al2,st2,mk2,es2⟩,ob,ct⟩:=x
  simp only at c42 ⊢
  subst hst
  refine zat [] Tk Tryz.func43 rfl Tryz.call43 Tryz.ntmps43 (Nat.le_of_ble_eq_true rfl) fun E=>?_
  refine zae Tk Tryz.func43 ?_
  refine zaf Tk Tryz.func43 (c42 _) rfl rfl rfl rfl rfl ?_
  refine gcF Tk Tryz.func43 rfl ?_
  refine zac ?_
  refine zae Tk Tryz.func43 ?_
  refine gcF Tk Tryz.func43 rfl ?_
  refine zb5 Tk (r:=.tup [.agg [ints ob,ii 0,.i (.v (.slice none 0 0)),.i (.v (.slice none 0 0))],.i (.v (.slice none 0 0))]) rfl rfl rfl trivial rfl rfl ?_
  repeat' (first | refine zcP ?_ | refine zcQ ?_ | refine zfj ?_ | refine CoDL.cons ?_ ?_ | exact CoDL.nil | exact zb1 | refine zdF ?_ | refine CoLL.cons ?_ ?_ | exact CoLL.nil | refine CoL.cons ?_ ?_ | exact CoL.nil | exact CoI.refl _ | exact CoL.refl _ | exact CoLL.refl _ | exact CoDL.refl _ | exact CoD.refl _)
 obtain⟨V,hprj,hVs⟩:=zqo hx hV0 hn11 h0
 obtain⟨-,hn0,-,hVr,hVU⟩:=hprj
 have hes:esR x=(unfA x.ob V,V.sts):=by
  unfold esR
  rw[if_neg h0,hVr,hke]
 unfold esWR
 rw[hes]
 unfold unfA
 simp only
 have hal32:∀ e∈x.ob,0≤e∧e<32:=(zam hx.ob).2.1
 have hobl:=zaY (by decide) hx.ob
 generalize hN:(lpR x).2.length=n at *
 have hF:=zj1 (lpR x).1 x.ob n
 have hfew:∀ U:Unf (List Int),UOk (estP n) U→U.sts.length≤4095:=fun U hU=>by
  have:=zbl hU.nd (fun s hs=>(hU.ok s hs).1)
  rw[zfB] at this
  have:2 ^ n≤2 ^ 11:=Nat.pow_le_pow_right (by decide) hn11
  omega
 have hv0:=vd0 (a:=(lpR x).1) hga hn0
 have hs0:clo (lpR x).1.edges (lowP x.ob [] false) n [0]=zbu ((rchF (lpR x).1 x.ob [((0:Int),([]:List Int))]).map (·.1)):=(zdR hga hv0).symm
 have hno:(Except.ok V:Except Int (Unf (List Int)))=zbz eqB false (zd1 (lpR x).1 x.ob n) (zcy (lpR x).1) x.ob (4097 - 0) 0 (unf0 (zbu ((rchF (lpR x).1 x.ob [((0:Int),([]:List Int))]).map (·.1)))):=by
  rw[← hs0,← hVr]
  unfold prjR
  rw[hke]
  rfl
 have hq0:=zfs (on:=x.ob) hga hv0
 have hne0:rchF (lpR x).1 x.ob [((0:Int),([]:List Int))]≠[]:=by
  obtain⟨z,hz,_⟩:=hq0.low _ _ (RP.base (List.mem_singleton.2 rfl))
  exact List.ne_nil_of_mem hz
 have hrl:∀ B frm,vdF (lpR x).1 n frm→(∀ y∈frm,y.2.length≤B)→∀ y∈rchF (lpR x).1 x.ob frm,y.2.length≤B+12:=fun B frm hv hB=>zjX hga (by omega) hv hB
 have hrv:∀ frm,vdF (lpR x).1 n frm→vdF (lpR x).1 n (rchF (lpR x).1 x.ob frm):=fun frm hv=>zh0 hga hv
 have hnv:∀ e W,e∈x.ob→vdF (lpR x).1 n W→vdF (lpR x).1 n (nxF (lpR x).1.edges e W):=fun e W he hv=>zl0 hga (hal32 e he) hv
 have hnl:∀ e W B,e∈x.ob→vdF (lpR x).1 n W→(∀ y∈W,y.2.length≤B)→∀ y∈nxF (lpR x).1.edges e W,y.2.length≤B+1:=fun e W B he hv hB y hy=>by
  obtain⟨z,hz,rfl,_⟩:=(zjb (es:=(lpR x).1.edges) (hal32 e he) hv.wrd).snd y hy
  have:=hB z hz
  simp only[List.length_append,List.length_singleton]
  omega
 have hrv2':∀ frm B,vdF (lpR x).1 n frm→frm≠[]→(∀ y∈frm,y.2.length≤B)→vdF (lpR x).1 n (rchF (lpR x).1 x.ob frm)∧rchF (lpR x).1 x.ob frm≠[]∧∀ y∈rchF (lpR x).1 x.ob frm,y.2.length≤B+12:=fun frm B hv hne hB=>⟨hrv frm hv,by
  obtain⟨y,hy⟩:=List.exists_mem_of_ne_nil _ hne
  obtain⟨z,hz,_⟩:=(zfs (on:=x.ob) hga hv).low _ _ (RP.base hy)
  exact List.ne_nil_of_mem hz,hrl B frm hv hB⟩
 have hrne:∀ frm,vdF (lpR x).1 n frm→frm≠[]→rchF (lpR x).1 x.ob frm≠[]:=fun frm hv hne=>by
  obtain⟨y,hy⟩:=List.exists_mem_of_ne_nil _ hne
  obtain⟨z,hz,_⟩:=(zfs (on:=x.ob) hga hv).low _ _ (RP.base hy)
  exact List.ne_nil_of_mem hz
 have hE0:EsOk (lpR x).1 n x.ob [zbu ((rchF (lpR x).1 x.ob [((0:Int),([]:List Int))]).map (·.1))] [] [rchF (lpR x).1 x.ob [((0:Int),([]:List Int))]]:=⟨⟨rfl,rfl,fun k h1 h2=>by simp at h2;omega⟩,by simp,fun k s v h1 h2=>by
  have hk:k=0:=by
   have:=(List.getElem?_eq_some_iff.1 h1).1
   simp at this
   exact this
  subst hk
  simp only[List.getElem?_cons_zero,Option.some.injEq] at h1 h2
  subst h1 h2
  refine⟨⟨hrv _ hv0,hne0,rfl⟩,fun y hy=>?_⟩
  have:=hrl 0 _ hv0 (fun y hy=>by rw[List.mem_singleton] at hy;subst hy;simp) y hy
  omega⟩
 have hU0:UOk (estP n) (unf0 (zbu ((rchF (lpR x).1 x.ob [((0:Int),([]:List Int))]).map (·.1)))):=⟨fun s hs=>by
   rw[show s=_ by simpa [unf0] using hs,← hs0]
   exact⟨zbF _ _,zkE hga hn0 x.ob⟩,by simp[unf0],rfl⟩
 have hts:∀ (s:List Int) e (W:List Fd),e∈x.ob→vdF (lpR x).1 n W→s=zbu (W.map (·.1))→(nxF (lpR x).1.edges e W=[]→(zd1 (lpR x).1 x.ob n s e).2=(false,0))∧(nxF (lpR x).1.edges e W≠[]→zd1 (lpR x).1 x.ob n s e=(zbu ((rchF (lpR x).1 x.ob (nxF (lpR x).1.edges e W)).map (·.1)),true,0)):=by
  intro s e W he hv hs
  have hm:∀ x,x∈s ↔ x∈W.map (·.1):=fun x=>by
   rw[hs]
   exact zeZ hv.nd (fun z hz=>by
    obtain⟨y,hy,rfl⟩:=List.mem_map.1 hz
    exact hv.rng y hy) x
  have hnil:=zpu (on:=x.ob) hga (hal32 e he) hv hm
  have hnx:=zh7 (on:=x.ob) hga (hal32 e he) hv hm
  have hr:=zdR (on:=x.ob) hga (hnv e W he hv)
  unfold zd1
  refine⟨fun h=>?_,fun h=>?_⟩
  ·rw[hnil.1 h];rfl
  ·have:nxt (lpR x).1.edges (lowP x.ob [] false) n s e≠[]:=fun e'=>h (hnil.2 e')
   rw[hr,hnx,decide_eq_true (show (nxt (lpR x).1.edges (lowP x.ob [] false) n s e).length≠0 from fun e'=>this (List.eq_nil_of_length_eq_zero e'))]
 have hvok:=fun i s ev U V' hU hs hi hq=>@zeu (List Int) _ eqB false (zd1 (lpR x).1 x.ob n) (estP n) hF i s ev U V' hU hs hi hq
 have cst:=fun O s e=>zfq O (lpR x).1 s e hga.sm.ed
 have cmk:=fun O d nm ho (s:List Int) hs=>zb6 O s 98 d nm (fun z=>decide (z∈(lpR x).1.marked)) hs fun z _=>mk98 ([]::[]::O) (lpR x).1 z (d+2) nm hga.sm.mkd (zaI (zaI ho))
 have cof:=fun O B frm hB hv hne hlen hoA hoX=>of95 O (lpR x).1 x n B frm 0 4 0 1 hga (by omega) hB hv hne hlen hobs hoA hoX
 have cof0:∀ O,zaa O 0 4=some (.box (autC (lpR x).1))→zaa O 0 1=some (.box (sysC x))→zao Tryz.prog 95 [.i (.sl 2 1 [[vi 0,.v (.slice none 0 0)]]),.own 0 4 0 0,.own 0 1 0 0] O (esD (zbu ((rchF (lpR x).1 x.ob [((0:Int),([]:List Int))]).map (·.1)),rchF (lpR x).1 x.ob [((0:Int),([]:List Int))])) [] O:=fun O hoA hoX=>
  zsI (.cons (zfj (zdF (.cons (.cons (CoI.refl _) (.cons zb1 .nil)) .nil))) (CoDL.refl _)) (cof O 0 [((0:Int),([]:List Int))] (by omega) hv0 (by simp) (fun y hy=>by rw[List.mem_singleton] at hy;subst hy;simp) hoA hoX)
 have ceq:=fun O d nm (y:Es2) (l:List Es2) e w hl (hlb:∀ z∈l,z.1.length≤1000000) (ho:zaa O e w=some (zh5 l)) (hy:zaa O d nm=some (.box [ints y.1,fdsD y.2]))=>zse O l 103 e w d nm (fun z=>decide (z.1=y.1)) hl ho fun z hz=>zwf ([]::O) z y (d+1) nm (hlb z hz) (zaI hy)
 have hcl:=fun O l hl=>zmn O l hl
 have hcm:=fun O a b ha hb=>zmm O a b ha hb
 have hix:=fun O (l:List Fd) (t:Int) (hl:l.length≤1000000) (h1:zaa O 0 98=some (ofds l)) (h2:zaa O 0 15=some (.box [ii t]))=>zpO O l 100 0 98 0 15 (fun x=>x.1==t) hl h1 fun x _=>zv0 ([]::O) x t 1 15 (zaI h2)
 have hsn:∀ s,estP n s→s.length≤1000000:=fun s hs=>by
  have:=(zbP hs.1).1
  omega
 have hgst:=hga.st
 have hvlen:∀ l,vdF (lpR x).1 n l→l.length≤n:=fun l hv=>RGd.few (on:=x.ob) ⟨fun y hy=>RP.base hy,hv.nd,fun z hz=>⟨z,hz,rfl,Nat.le_refl _⟩⟩ (hv.ok hga)
 have hmr:∀ s,zcy (lpR x).1 s=s.any fun z=>decide (z∈(lpR x).1.marked):=fun _=>rfl
 generalize hR:(Except.ok V:Except Int (Unf (List Int)))=Q at *
 clear hs0 hVU hVr hes hVs hke h0 hV0 hx hF hN hga hq0 hne0 hrv h
 generalize zd1 (lpR x).1 x.ob n=ts at *
 generalize zcy (lpR x).1=mr at *
 generalize lpR x=L at *
 obtain⟨a,ps⟩:=L
 simp only at *
 obtain⟨al,st,mk,es⟩:=a
 obtain⟨⟨al',st',mk',es'⟩,⟨al2,st2,mk2,es2⟩,ob,ct⟩:=x
 simp only at *
 refine zat [12,22,29,34,36] Tk Tryz.func43 rfl Tryz.call43 Tryz.ntmps43 (Nat.le_of_ble_eq_true rfl) fun E=>?_
 refine zae Tk Tryz.func43 ?_
 refine zaf Tk Tryz.func43 (c42 _) rfl rfl rfl rfl rfl ?_
 refine zai Tk Tryz.func43 rfl (fun _=>?_) (fun h=>absurd h (by simp;omega))
 refine zaf Tk Tryz.func43 (cof0 _ rfl rfl) rfl rfl rfl rfl rfl ?_
 refine zag Tk Tryz.func43 (by exact⟨by decide,by decide⟩) ?_
 refine zac ?_
 refine zaq (zcR 38 129 rfl rfl rfl) ?_
 refine zaq (zaO 6 56 3 1 (pre:=[ints ob,ii 0]) (post:=[.i (.v (.slice none 0 0))]) rfl rfl rfl) ?_
 refine zaq (zaO 6 137 117 3 (pre:=[ints ob,ii 0,.osl 0 56]) (post:=[]) rfl rfl rfl) ?_
 refine zah (fun x:Nat × Unf (List Int) × List (List Fd)=>[(1,.own 0 1 0 0),(2,.own 0 2 0 0),(4,.own 0 4 0 0),(6,.own 0 6 0 0),(7,.fn (.func 95) [] [.own 0 4 0 0,.own 0 1 0 0]),(8,.osl 0 129),(9,ii x.1)])
  (fun x=>[(1,.box (sysC ⟨⟨al',st',mk',es'⟩,⟨al2,st2,mk2,es2⟩,ob,ct⟩)),(2,.box [.i (.v (.slice none 0 0)),ii 0,.i (.v (.slice none 0 0)),.i (.v (.slice none 0 0))]),(4,.box [ints al,ii st,ints mk,edgs es]),(6,.box [ints ob,ii 0,.osl 0 56,.osl 0 137]),(129,zh5 (x.2.1.sts.zip x.2.2)),(56,zax x.2.1.mkl),(137,zbD x.2.1.eds)]) (fun _=>O) 145
  (fun x=>x.1≤x.2.1.sts.length∧UOk (estP n) x.2.1∧EsOk ⟨al,st,mk,es⟩ n ob x.2.1.sts x.2.1.eds x.2.2∧x.2.1.mkl.length≤x.1∧x.2.1.eds.length≤32 * x.1∧Q=zbz eqB false ts mr ob (4097 - x.1) x.1 x.2.1) (fun x=>4097 - x.1) (0,unf0 (zbu ((rchF ⟨al,st,mk,es⟩ ob [((0:Int),([]:List Int))]).map (fun y:Fd=>y.1))),[rchF ⟨al,st,mk,es⟩ ob [((0:Int),([]:List Int))]])
  ⟨Nat.zero_le _,hU0,hE0,Nat.le_refl _,Nat.le_refl _,hno⟩ ⟨rfl,rfl,rfl,rfl,rfl,rfl,rfl,trivial⟩ rfl ⟨rfl,rfl,rfl,rfl,rfl,rfl,rfl,trivial⟩ rfl rfl ?_
 clear hno hU0 hE0 cof0 c42
 rintro ⟨i,U,W⟩ ⟨hi,hgd,hE,hml,hel,hno⟩ ih
 simp only at hi hgd hE hml hel hno
 have hWl:=hE.w.len
 refine zae Tk Tryz.func43 ?_
 refine zai Tk Tryz.func43 rfl (fun g1=>?_) (fun g1=>?_)
 ·have h1:i<U.sts.length:=by
   have:i<(U.sts.zip W).length:=by simpa using g1
   rw[List.length_zip] at this
   omega
  clear g1
  have hle:=hfew U hgd
  have hsi:U.sts[i]? = some U.sts[i]:=List.getElem?_eq_getElem h1
  have hwi:W[i]? = some (W[i]'(by omega)):=List.getElem?_eq_getElem (by omega)
  have hoks:=hgd.ok _ (List.getElem_mem h1)
  generalize W[i]'(by omega)=Wi at *
  generalize U.sts[i]=s at *
  have gz:=zjJ hsi hwi
  have gs:((U.sts.zip W).map esI)[(i:Int).toNat]? = some (esI (s,Wi)):=by
   show ((U.sts.zip W).map esI)[i]? = _
   rw[List.getElem?_map,gz];rfl
  obtain⟨⟨hvi,hwne,hsw⟩,hwl⟩:=hE.g i s Wi hsi hwi
  have hno:Q=match zau eqB false ts i s ob (zbk mr i s U) with
    | .error e=>.error e
    | .ok U'=>zbz eqB false ts mr ob (4097 - (i+1)) (i+1) U':=by
   rw[hno,show 4097 - i=(4097 - (i+1))+1 by omega]
   simp only[zbz,hsi]
   cases zau eqB false ts i s ob (zbk mr i s U) <;> rfl
  obtain⟨m1',m2'⟩:=zb9 mr i s U
  have hM:UOk (estP n) (zbk mr i s U):=⟨by rw[m1'];exact hgd.ok,by rw[m1'];exact hgd.nd,by rw[m1',m2'];exact hgd.fr⟩
  have hm3:(zbk mr i s U).mkl=if mr s=true then U.mkl++[(i:Int)] else U.mkl:=by
   unfold zbk
   by_cases h:mr s=true <;> simp[h]
  generalize zbk mr i s U=U1 at *
  rw[hmr] at hm3
  have d1:=fun O d nm ho=>cmk O d nm ho s (by have:=hsn s hoks;simp only[zas];omega)
  generalize (s.any fun z=>decide (z∈mk))=B1 at *
  obtain⟨sts,mkl,eds⟩:=U
  obtain⟨sts1,mkl1,eds1⟩:=U1
  simp only at m1' m2' hm3 hsi gs gz hno h1 hle hel hml hi hgd hE hWl
  subst m1' m2'
  have hzl:(sts1.zip W).length=sts1.length:=by rw[List.length_zip];omega
  have n1:0≤(i:Int)∧(i:Int)<((sts1.zip W).length:Int):=by omega
  have hml1:mkl1.length≤i+1:=by rw[hm3];split;(rw[List.length_append,List.length_singleton];omega);omega
  apply zbS (P:=True) (s6:={ σ:=[(1,.own 0 1 0 0),(2,.own 0 2 0 0),(4,.own 0 4 0 0),(6,.own 0 6 0 0),(7,.fn (.func 95) [] [.own 0 4 0 0,.own 0 1 0 0]),(8,.osl 0 129),(9,ii i)],S:=[(1,.box (sysC ⟨⟨al',st',mk',es'⟩,⟨al2,st2,mk2,es2⟩,ob,ct⟩)),(2,.box [.i (.v (.slice none 0 0)),ii 0,.i (.v (.slice none 0 0)),.i (.v (.slice none 0 0))]),(4,.box [ints al,ii st,ints mk,edgs es]),(6,.box [ints ob,ii 0,.osl 0 56,.osl 0 137]),(129,zh5 (sts1.zip W)),(56,zax mkl1),(137,zbD eds1)]::O,n:=145 })
  ·intro J
   refine zag Tk Tryz.func43 (by exact n1) ?_
   refine zap Tk Tryz.func43 (gs) ?_
   refine zaf Tk Tryz.func43 (d1 _ 0 4 rfl) rfl rfl rfl rfl rfl ?_
   refine zai Tk Tryz.func43 rfl (fun c1=>?_) (fun c1=>?_)
   ·have c1:B1=true:=c1
    rw[if_pos c1] at hm3
    refine zag Tk Tryz.func43 (by exact⟨by show (mkl.length+1) * 8≤140737488355328;omega,by show mkl.length+1≤9223372036854775807;omega⟩) ?_
    refine zav ?_
    refine zaz (J trivial) ⟨rfl,rfl,rfl,rfl,rfl,rfl,rfl,trivial⟩ rfl ⟨rfl,rfl,rfl,rfl,rfl,by rw[hm3];exact congrArg some (zaL mkl (i:Int)),rfl,trivial⟩ rfl rfl
   ·have c1:¬ B1=true:=by rw[show B1=false from c1];decide
    rw[if_neg c1] at hm3
    refine zav ?_
    refine zaz (J trivial) ⟨rfl,rfl,rfl,rfl,rfl,rfl,rfl,trivial⟩ rfl ⟨rfl,rfl,rfl,rfl,rfl,by rw[hm3];rfl,rfl,trivial⟩ rfl rfl
  intro _
  clear hm3 hml d1 gs hgd hmr n1 gz hzl
  have hV0:zau eqB false ts i s ob ⟨sts1,mkl1,eds1⟩=zau eqB false ts i s (ob.drop 0) ⟨sts1,mkl1,eds1⟩:=rfl
  generalize zau eqB false ts i s ob ⟨sts1,mkl1,eds1⟩=VV at *
  refine zae Tk Tryz.func43 ?_
  refine g_go Tk Tryz.func43 ?_
  refine zac ?_
  refine zah (fun x:Nat × Unf (List Int) × List (List Fd)=>[(1,.own 0 1 0 0),(2,.own 0 2 0 0),(4,.own 0 4 0 0),(6,.own 0 6 0 0),(7,.fn (.func 95) [] [.own 0 4 0 0,.own 0 1 0 0]),(8,.osl 0 129),(9,ii i),(59,ints ob),(60,ii ob.length),(61,ii x.1)])
   (fun x=>[(1,.box (sysC ⟨⟨al',st',mk',es'⟩,⟨al2,st2,mk2,es2⟩,ob,ct⟩)),(2,.box [.i (.v (.slice none 0 0)),ii 0,.i (.v (.slice none 0 0)),.i (.v (.slice none 0 0))]),(4,.box [ints al,ii st,ints mk,edgs es]),(6,.box [ints ob,ii 0,.osl 0 56,.osl 0 137]),(129,zh5 (x.2.1.sts.zip x.2.2)),(56,zax x.2.1.mkl),(137,zbD x.2.1.eds)]) (fun _=>O) 145
   (fun x=>x.1≤ob.length∧UOk (estP n) x.2.1∧EsOk ⟨al,st,mk,es⟩ n ob x.2.1.sts x.2.1.eds x.2.2∧i<x.2.1.sts.length∧x.2.1.mkl=mkl1∧x.2.1.eds.length≤32 * i+x.1∧x.2.1.sts[i]? = some s∧x.2.2[i]? = some Wi∧VV=zau eqB false ts i s (ob.drop x.1) x.2.1) (fun x=>ob.length - x.1) (0,⟨sts1,mkl1,eds1⟩,W)
   ⟨Nat.zero_le _,hM,hE,h1,rfl,hel,hsi,hwi,hV0⟩ ⟨rfl,rfl,rfl,rfl,rfl,rfl,rfl,rfl,rfl,rfl,trivial⟩ rfl ⟨rfl,rfl,rfl,rfl,rfl,rfl,rfl,trivial⟩ rfl rfl ?_
  clear hV0 hsi hwi hel hle hM h1 hE hWl
  rintro ⟨j,⟨sts,mk0,eds⟩,W⟩ ⟨hj,hgd,hE,hil,hmke,hel,hsi,hwi,hV⟩ ih2
  simp only at hj hgd hE hil hmke hel hsi hwi hV
  subst hmke
  have hWl:=hE.w.len
  have hle:=hfew _ hgd
  simp only at hle
  have hzl:(sts.zip W).length=sts.length:=by rw[List.length_zip];omega
  have hj1:ii (IntKind.i64.wrap ((j:Int)+1))=ii ((j+1:Nat):Int):=congrArg ii (zaD (n:=4096) (by omega) (by decide))
  refine zae Tk Tryz.func43 ?_
  refine zai Tk Tryz.func43 rfl (fun g2=>?_) (fun g2=>?_)
  ·have h3:j<ob.length:=by simpa using g2
   clear g2
   have ga:(ob.map fun x=>[vi x])[(j:Int).toNat]? = some [vi ob[j]]:=zaj (f:=fun x=>[vi x]) h3
   have da:ob.drop j=ob[j]::ob.drop (j+1):=List.drop_eq_getElem_cons h3
   have he:ob[j]∈ob:=List.getElem_mem h3
   rw[da] at hV
   simp only[zau] at hV
   clear da
   generalize ob[j]=e at *
   have gz:=zjJ hsi hwi
   have gs:((sts.zip W).map esI)[(i:Int).toNat]? = some (esI (s,Wi)):=by
    show ((sts.zip W).map esI)[i]? = _
    rw[List.getElem?_map,gz];rfl
   have hvok:=fun V' h=>hvok i s e ⟨sts,mk0,eds⟩ V' hgd hoks hil h
   obtain⟨ht1,ht2⟩:=hts s e Wi he hvi hsw
   have hnx:=hnv e Wi he hvi
   have hnb:=hnl e Wi (13 * (i+1)) he hvi hwl
   have n3:0≤(i:Int)∧(i:Int)<((sts.zip W).length:Int):=by omega
   have hein:=hal32 e he
   have hwc:=hvlen Wi hvi
   refine zag Tk Tryz.func43 (by exact⟨by omega,by show (j:Int)<(ob.length:Int);omega⟩) ?_
   refine zap Tk Tryz.func43 (ga) ?_
   refine zag Tk Tryz.func43 (by exact n3) ?_
   refine zap Tk Tryz.func43 (gs) ?_
   refine zac ?_
   refine zaq (zb8 12 98 178 2 rfl rfl rfl) ?_
   refine zah (fun k:Nat=>[(1,.own 0 1 0 0),(2,.own 0 2 0 0),(4,.own 0 4 0 0),(6,.own 0 6 0 0),(7,.fn (.func 95) [] [.own 0 4 0 0,.own 0 1 0 0]),(8,.osl 0 129),(9,ii i),(59,ints ob),(60,ii ob.length),(61,ii j),(11,ii e),(12,.osl 0 98),(69,fdsD Wi),(70,ii Wi.length),(71,ii k)])
    (fun k=>[(1,.box (sysC ⟨⟨al',st',mk',es'⟩,⟨al2,st2,mk2,es2⟩,ob,ct⟩)),(2,.box [.i (.v (.slice none 0 0)),ii 0,.i (.v (.slice none 0 0)),.i (.v (.slice none 0 0))]),(4,.box [ints al,ii st,ints mk,edgs es]),(6,.box [ints ob,ii 0,.osl 0 56,.osl 0 137]),(129,zh5 (sts.zip W)),(56,zax mk0),(137,zbD eds),(98,ofds (nxF es e (Wi.take k)))]) (fun _=>O) 145
    (fun k=>k≤Wi.length) (fun k=>Wi.length - k) 0 (Nat.zero_le _) ⟨rfl,rfl,rfl,rfl,rfl,rfl,rfl,rfl,rfl,rfl,rfl,rfl,rfl,rfl,rfl,trivial⟩ rfl ⟨rfl,rfl,rfl,rfl,rfl,rfl,rfl,rfl,trivial⟩ rfl rfl ?_
   intro k hk ih3
   refine zae Tk Tryz.func43 ?_
   refine zai Tk Tryz.func43 rfl (fun g3=>?_) (fun g3=>?_)
   ·have h4:k<Wi.length:=by simpa using g3
    clear g3
    have hk1:ii (IntKind.i64.wrap ((k:Int)+1))=ii ((k+1:Nat):Int):=congrArg ii (zaD (n:=4096) (by omega) (by decide))
    have gr:(Wi.map fdI)[(k:Int).toNat]? = some (fdI Wi[k]):=zaj h4
    have htk:Wi.take (k+1)=Wi.take k++[Wi[k]]:=List.take_succ_eq_append_getElem h4
    have hfold:nxF es e (Wi.take (k+1))=nxS es e (nxF es e (Wi.take k)) Wi[k]:=by unfold nxF;rw[htk,List.foldl_append];rfl
    have hnok:=zjb (es:=es) (W:=Wi.take k) hein (fun x hx=>hvi.wrd x (List.mem_of_mem_take hx))
    have hacl:(nxF es e (Wi.take k)).length≤12:=by
     have:=zpv es e (Wi.take k)
     rw[List.length_take] at this
     omega
    have hacw:∀ y∈nxF es e (Wi.take k),y.2.length≤100000:=fun y hy=>by
     obtain⟨z,hz,rfl,_⟩:=hnok.snd y hy
     have:=hwl z (List.mem_of_mem_take hz)
     simp only[List.length_append,List.length_singleton]
     omega
    have hxl:=hwl _ (List.getElem_mem h4)
    clear hnok htk
    generalize nxF es e (Wi.take k)=acc at *
    generalize Wi[k]=x at *
    obtain⟨xs,xw⟩:=x
    unfold nxS at hfold
    simp only at hfold hxl
    have d2:=fun O=>cst O xs e
    have hcl1:=fun O=>hcl O xw (by omega)
    generalize stp3 es xs e=t at *
    refine zag Tk Tryz.func43 (by exact⟨by omega,by show (k:Int)<(Wi.length:Int);omega⟩) ?_
    refine zap Tk Tryz.func43 (gr) ?_
    refine zaf Tk Tryz.func43 (d2 _) rfl rfl rfl rfl rfl ?_
    refine zai Tk Tryz.func43 rfl (fun k1=>?_) (fun k1=>?_)
    ·have k1:t<0:=of_decide_eq_true k1
     rw[if_pos k1] at hfold
     refine zac ?_
     refine ih3 (k+1) _ _ h4 (by omega) ⟨rfl,rfl,rfl,rfl,rfl,rfl,rfl,rfl,rfl,rfl,rfl,rfl,rfl,rfl,hk1,trivial⟩ rfl ⟨rfl,rfl,rfl,rfl,rfl,rfl,rfl,by rw[hfold];rfl,trivial⟩ rfl rfl
    have k1:¬ t<0:=of_decide_eq_false k1
    rw[if_neg k1] at hfold
    refine zaf Tk Tryz.func43 (hcl1 _) rfl rfl rfl rfl rfl ?_
    refine zag Tk Tryz.func43 (by exact⟨by show (xw.length+1) * 8≤140737488355328;omega,by show xw.length+1≤9223372036854775807;omega⟩) ?_
    refine zav ?_
    refine zaq (zan 87 rfl rfl) ?_
    refine zaq (zd4 rfl) ?_
    have ew:I.sl 1 (xw.length+1) (xw.map (fun x=>[vi x])++[[vi e]])=zbn (xw++[e]):=by simp
    refine zaz (l:=[(1,.own 0 1 0 0),(2,.own 0 2 0 0),(4,.own 0 4 0 0),(6,.own 0 6 0 0),(7,.fn (.func 95) [] [.own 0 4 0 0,.own 0 1 0 0]),(8,.osl 0 129),(9,ii i),(59,ints ob),(60,ii ob.length),(61,ii j),(11,ii e),(12,.osl 0 98),(69,fdsD Wi),(70,ii Wi.length),(71,ii k),(15,.own 0 15 0 0),(16,ints (xw++[e]))]) (Hv:=[(1,.box (sysC ⟨⟨al',st',mk',es'⟩,⟨al2,st2,mk2,es2⟩,ob,ct⟩)),(2,.box [.i (.v (.slice none 0 0)),ii 0,.i (.v (.slice none 0 0)),.i (.v (.slice none 0 0))]),(4,.box [ints al,ii st,ints mk,edgs es]),(6,.box [ints ob,ii 0,.osl 0 56,.osl 0 137]),(129,zh5 (sts.zip W)),(56,zax mk0),(137,zbD eds),(98,ofds acc),(15,.box [ii t])]) ?_ ⟨rfl,rfl,rfl,rfl,rfl,rfl,rfl,rfl,rfl,rfl,rfl,rfl,rfl,rfl,rfl,rfl,congrArg D.i ew,trivial⟩ rfl ⟨rfl,rfl,rfl,rfl,rfl,rfl,rfl,rfl,rfl,trivial⟩ rfl rfl
    have hwl2:(xw++[e]).length≤100000:=by rw[List.length_append,List.length_singleton];omega
    generalize xw++[e]=ww at *
    clear ew hcl1
    refine zae Tk Tryz.func43 ?_
    refine g_go Tk Tryz.func43 ?_
    refine zaf Tk Tryz.func43 (hix _ acc t (by omega) rfl rfl) rfl rfl rfl rfl rfl ?_
    refine zai Tk Tryz.func43 rfl (fun k3=>?_) (fun k3=>?_)
    ·have k3:zay (fun x:Fd=>x.1==t) acc 0<0:=of_decide_eq_true k3
     rw[if_pos k3] at hfold
     refine zag Tk Tryz.func43 (by exact⟨by show (acc.length+1) * 32≤140737488355328;omega,by show acc.length+1≤9223372036854775807;omega⟩) ?_
     refine zac ?_
     refine ih3 (k+1) _ _ h4 (by omega) ⟨rfl,rfl,rfl,rfl,rfl,rfl,rfl,rfl,rfl,rfl,rfl,rfl,rfl,rfl,hk1,trivial⟩ rfl ⟨rfl,rfl,rfl,rfl,rfl,rfl,rfl,?_,trivial⟩ rfl rfl
     rw[hfold]
     show some (Ob.arr 178 2 (acc.length+1) (acc.map fdI++[fdI (t,ww)]) true)=some (ofds (acc++[(t,ww)]))
     simp
    ·have k3:¬ zay (fun x:Fd=>x.1==t) acc 0<0:=of_decide_eq_false k3
     obtain⟨q,hq,hqx,hqt⟩:=zc4 k3
     rw[if_neg k3] at hfold
     rw[Nat.zero_add] at hqx
     have gk:(acc.map fdI)[(((q:Nat):Int)).toNat]? = some (fdI acc[q]):=zaj hq
     have hgd:acc.getD q (0,[])=acc[q]:=by rw[List.getD_eq_getElem?_getD,List.getElem?_eq_getElem hq];rfl
     rw[hqx,Int.toNat_natCast,hgd] at hfold
     have hset:∀ z:Fd,(acc.map fdI).set q (fdI z)=(acc.set q z).map fdI:=fun z=>List.map_set.symm
     have hcm1:=fun O=>hcm O ww acc[q].2 (by omega) (by have:=hacw _ (List.getElem_mem hq);omega)
     generalize acc[q]=y at *
     obtain⟨ys,yw⟩:=y
     simp only at hcm1 hfold
     generalize cmpW ww yw=cw at *
     generalize zay (fun x:Fd=>x.1==t) acc 0=fx at *
     subst hqx
     refine zag Tk Tryz.func43 (by exact⟨by omega,by show ((q:Nat):Int)<(acc.length:Int);omega⟩) ?_
     refine zap Tk Tryz.func43 (gk) ?_
     refine zaf Tk Tryz.func43 (hcm1 _) rfl rfl rfl rfl rfl ?_
     refine zai Tk Tryz.func43 rfl (fun k4=>?_) (fun k4=>?_)
     ·have k4:cw<0:=of_decide_eq_true k4
      rw[if_pos k4] at hfold
      refine zag Tk Tryz.func43 (by exact⟨by omega,by show ((q:Nat):Int)<(acc.length:Int);omega⟩) ?_
      refine zap Tk Tryz.func43 (gk) ?_
      refine zac ?_
      refine ih3 (k+1) _ _ h4 (by omega) ⟨rfl,rfl,rfl,rfl,rfl,rfl,rfl,rfl,rfl,rfl,rfl,rfl,rfl,rfl,hk1,trivial⟩ rfl ⟨rfl,rfl,rfl,rfl,rfl,rfl,rfl,?_,trivial⟩ rfl rfl
      rw[hfold]
      show some (Ob.arr 178 2 acc.length ((acc.map fdI).set q (fdI (ys,ww))) true)=some (Ob.arr 178 2 (acc.set q (ys,ww)).length ((acc.set q (ys,ww)).map fdI) true)
      rw[hset,List.length_set]
     ·have k4:¬ cw<0:=of_decide_eq_false k4
      rw[if_neg k4] at hfold
      refine zac ?_
      refine ih3 (k+1) _ _ h4 (by omega) ⟨rfl,rfl,rfl,rfl,rfl,rfl,rfl,rfl,rfl,rfl,rfl,rfl,rfl,rfl,hk1,trivial⟩ rfl ⟨rfl,rfl,rfl,rfl,rfl,rfl,rfl,by rw[hfold];rfl,trivial⟩ rfl rfl
   ·have h4:Wi.length≤k:=by simpa using g3
    clear g3 ih3
    rw[List.take_of_length_le h4]
    have hgl:(nxF es e Wi).length≤12:=by
     have:=zpv es e Wi
     omega
    have hEg:=fun (hh:zbu ((rchF ⟨al,st,mk,es⟩ ob (nxF es e Wi)).map (·.1)) ∉ sts)=>hE.w.grow hE.b (i:=i) (e:=e) hwi
    have hrv2:=fun hne=>hrv2' (nxF es e Wi) (13 * (i+1)+1) hnx hne hnb
    have cof2:=fun O hne hoA hoX=>cof O (13 * (i+1)+1) (nxF es e Wi) (by omega) hnx hne hnb hoA hoX
    clear hnx hnb hwl hvi hwne hsw hwc h4 hk gs gz
    generalize nxF es e Wi=G at *
    refine zai Tk Tryz.func43 rfl (fun k5=>?_) (fun k5=>?_)
    ·have k5:G=[]:=List.eq_nil_of_length_eq_zero (by have:=k5;simpa using this)
     have hp:=ht1 k5
     unfold zbB at hV
     rw[hp] at hV
     simp only[ne_eq,not_true,if_false,if_true] at hV
     refine zac ?_
     exact ih2 (j+1,⟨sts,mk0,eds⟩,W) _ _ ⟨h3,hgd,hE,hil,rfl,by simp only;omega,hsi,hwi,hV⟩ (by simp only;omega) ⟨rfl,rfl,rfl,rfl,rfl,rfl,rfl,rfl,rfl,hj1,trivial⟩ rfl ⟨rfl,rfl,rfl,rfl,rfl,rfl,rfl,trivial⟩ rfl rfl
    have k5:G≠[]:=fun e=>by rw[e] at k5;exact absurd k5 (by simp)
    obtain⟨hr1,hr2,hr3⟩:=hrv2 k5
    have cof3:=fun O hoA hoX=>cof2 O k5 hoA hoX
    have hp:=ht2 k5
    refine zav ?_
    refine zaq (zan 98 rfl rfl) ?_
    refine zaq (zd4 rfl) ?_
    refine zae Tk Tryz.func43 ?_
    refine g_go Tk Tryz.func43 ?_
    refine zaf Tk Tryz.func43 (cof3 _ rfl rfl) rfl rfl rfl rfl rfl ?_
    unfold zbB at hV hvok
    rw[hp] at hV hvok
    simp only[ne_eq,not_true,if_false,Bool.true_eq_false,Bool.false_eq_true,false_and] at hV hvok
    have hnew:∀ y∈rchF ⟨al,st,mk,es⟩ ob G,y.2.length≤13 * (sts.length+1):=fun y hy=>by have:=hr3 y hy;omega
    clear cof2 cof3 hp ht1 ht2 hrv2
    generalize rchF ⟨al,st,mk,es⟩ ob G=Rw at *
    generalize hs':zbu (Rw.map (·.1))=s' at *
    have hzf:=zg6 (s:=s') (l:=sts) (m:=W) (i:=0) (by omega)
    obtain⟨t,ht⟩:∃ t,t=sts.findIdx (eqB s'):=⟨_,rfl⟩
    rw[← ht] at hV hvok hzf
    rw[Nat.zero_add] at hzf
    obtain⟨sts2,hst3⟩:∃ sts2,sts2=if s' ∈ sts then sts else sts++[s']:=⟨_,rfl⟩
    obtain⟨W2,hw3⟩:∃ W2,W2=if s' ∈ sts then W else W++[Rw]:=⟨_,rfl⟩
    have htm:s' ∉ sts→t=sts.length:=fun hm=>by
     rw[ht]
     exact za6 fun x hx=>by simp only[eqB,decide_eq_false_iff_not];rintro rfl;exact hm hx
    have hU2:VV=zau eqB false ts i s (ob.drop (j+1)) ⟨sts2,mk0,eds++[((i:Int),e,(t:Int))]⟩∧UOk (estP n) ⟨sts2,mk0,eds++[((i:Int),e,(t:Int))]⟩∧i<sts2.length∧sts2[i]? = some s∧W2[i]? = some Wi∧EsOk ⟨al,st,mk,es⟩ n ob sts2 (eds++[((i:Int),e,(t:Int))]) W2:=by
     by_cases hm:s' ∈ sts
     ·have hlt:t<sts.length:=by rw[ht];exact zcs ⟨s',hm,by simp[eqB]⟩
      rw[if_pos hm] at hst3 hw3
      rw[if_pos hlt] at hV hvok
      subst hst3 hw3
      have h:=hvok _ rfl
      refine⟨hV,h.1,h.2.1,h.2.2.trans hsi,hwi,hE.w.edge _,fun x hx=>?_,hE.g⟩
      rcases List.mem_append.1 hx with hx | hx
      ·exact hE.b x hx
      ·rw[List.mem_singleton] at hx
       subst hx
       simp only
       omega
     ·have hlt:=htm hm
      rw[if_neg hm] at hst3 hw3
      rw[if_neg (by omega)] at hV hvok
      subst hst3 hw3
      have h:=hvok _ rfl
      refine⟨hV,h.1,h.2.1,h.2.2.trans hsi,by rw[List.getElem?_append_left (by omega)];exact hwi,?_,fun x hx=>?_,fun k s1 v1 f1 f2=>?_⟩
      ·have h9:=hEg hm
       rw[hlt,List.length_append]
       exact h9
      ·rw[List.length_append,List.length_singleton]
       rcases List.mem_append.1 hx with hx | hx
       ·have:=hE.b x hx;omega
       ·rw[List.mem_singleton] at hx
        subst hx
        simp only
        omega
      ·by_cases hk:k<sts.length
       ·rw[List.getElem?_append_left hk] at f1
        rw[List.getElem?_append_left (by omega)] at f2
        exact hE.g k s1 v1 f1 f2
       ·have hk2:k=sts.length:=by
         have:=(List.getElem?_eq_some_iff.1 f1).1
         rw[List.length_append,List.length_singleton] at this
         omega
        subst hk2
        rw[List.getElem?_append_right (Nat.le_refl _),Nat.sub_self] at f1
        rw[List.getElem?_append_right (by omega),show sts.length - W.length=0 by omega] at f2
        simp only[List.getElem?_cons_zero,Option.some.injEq] at f1 f2
        subst f1 f2
        exact⟨⟨hr1,hr2,hs'.symm⟩,hnew⟩
    have hlb:∀ z∈sts.zip W,z.1.length≤1000000:=fun z hz=>hsn _ (hgd.ok _ (List.of_mem_zip (a:=z.1) (b:=z.2) hz).1)
    have hic:=fun O ho hy=>ceq O 0 18 (s',Rw) (sts.zip W) 0 129 (by omega) hlb ho hy
    clear hV hvok ht hEg
    generalize zay (fun z:List Int × List Fd=>decide (z.1=s')) (sts.zip W) 0=ix at *
    have hq1:ix<0→t=(sts.zip W).length∧sts2.zip W2=sts.zip W++[(s',Rw)]:=fun h=>by
     have c2:s' ∉ sts:=fun hm=>by
      rw[if_pos hm] at hzf;omega
     exact⟨by rw[hzl];exact htm c2,by rw[hst3,hw3,if_neg c2,if_neg c2];exact zrc (by omega)⟩
    have hq2:¬ ix<0→ix=t∧sts2.zip W2=sts.zip W:=fun h=>by
     have c2:s' ∈ sts:=Classical.byContradiction fun hm=>by
      rw[if_neg hm] at hzf;omega
     exact⟨by rw[hzf,if_pos c2],by rw[hst3,hw3,if_pos c2,if_pos c2]⟩
    clear hzf htm hst3 hw3
    apply zbS (P:=True) (s6:={ σ:=[(1,.own 0 1 0 0),(2,.own 0 2 0 0),(4,.own 0 4 0 0),(6,.own 0 6 0 0),(7,.fn (.func 95) [] [.own 0 4 0 0,.own 0 1 0 0]),(8,.osl 0 129),(9,ii i),(59,ints ob),(60,ii ob.length),(61,ii j),(11,ii e),(19,ii t)],S:=[(1,.box (sysC ⟨⟨al',st',mk',es'⟩,⟨al2,st2,mk2,es2⟩,ob,ct⟩)),(2,.box [.i (.v (.slice none 0 0)),ii 0,.i (.v (.slice none 0 0)),.i (.v (.slice none 0 0))]),(4,.box [ints al,ii st,ints mk,edgs es]),(6,.box [ints ob,ii 0,.osl 0 56,.osl 0 137]),(129,zh5 (sts2.zip W2)),(56,zax mk0),(137,zbD eds)]::O,n:=145 })
    ·intro J
     refine zaf Tk Tryz.func43 (hic _ rfl rfl) rfl rfl rfl rfl rfl ?_
     refine zai Tk Tryz.func43 rfl (fun c1=>?_) (fun c1=>?_)
     ·have c1:=hq1 (of_decide_eq_true c1)
      refine zag Tk Tryz.func43 (by exact⟨by show ((sts.zip W).length+1) * 48≤140737488355328;omega,by show (sts.zip W).length+1≤9223372036854775807;omega⟩) ?_
      refine zav ?_
      refine zaz (J trivial) ⟨rfl,rfl,rfl,rfl,rfl,rfl,rfl,rfl,rfl,rfl,rfl,by rw[c1.1];rfl,trivial⟩ rfl ⟨rfl,rfl,rfl,rfl,by rw[c1.2];exact congrArg some (zpq (sts.zip W) (s',Rw)),rfl,rfl,trivial⟩ rfl rfl
     ·have c1:=hq2 (of_decide_eq_false c1)
      refine zav ?_
      refine zaz (J trivial) ⟨rfl,rfl,rfl,rfl,rfl,rfl,rfl,rfl,rfl,rfl,rfl,congrArg ii c1.1,trivial⟩ rfl ⟨rfl,rfl,rfl,rfl,by rw[c1.2];rfl,rfl,rfl,trivial⟩ rfl rfl
    intro _
    obtain⟨hV,hg2,hi2,hs2,hw2,hE2⟩:=hU2
    clear hgd hil hsi hwi hic hq1 hq2 hE
    refine zae Tk Tryz.func43 ?_
    refine g_go Tk Tryz.func43 ?_
    refine zag Tk Tryz.func43 (by exact⟨by show (eds.length+1) * 24≤140737488355328;omega,by show eds.length+1≤9223372036854775807;omega⟩) ?_
    refine zac ?_
    exact ih2 (j+1,⟨sts2,mk0,eds++[((i:Int),e,(t:Int))]⟩,W2) _ _ ⟨h3,hg2,hE2,hi2,rfl,by simp only[List.length_append,List.length_singleton];omega,hs2,hw2,hV⟩ (by simp only;omega) ⟨rfl,rfl,rfl,rfl,rfl,rfl,rfl,rfl,rfl,hj1,trivial⟩ rfl ⟨rfl,rfl,rfl,rfl,rfl,rfl,congrArg some (zcY eds ((i:Int),e,(t:Int))),trivial⟩ rfl rfl
  ·have h3:ob.length≤j:=by simpa using g2
   rw[List.drop_eq_nil_of_le h3] at hV
   simp only[zau] at hV
   subst hV
   simp only at hno
   refine zac ?_
   exact ih (i+1,⟨sts,mk0,eds⟩,W) _ _ ⟨by simp only;omega,hgd,hE,hml1,by simp only;omega,hno⟩ (by simp only;omega) ⟨rfl,rfl,rfl,rfl,rfl,rfl,congrArg ii (zaD (n:=4096) (by omega) (by decide)),trivial⟩ rfl ⟨rfl,rfl,rfl,rfl,rfl,rfl,rfl,trivial⟩ rfl rfl
 ·have h1:U.sts.length≤i:=by
   have:(U.sts.zip W).length≤i:=by simpa using g1
   rw[List.length_zip] at this
   omega
  rw[zdJ h1] at hno
  rw[← hR] at hno
  simp only[Except.ok.injEq] at hno
  subst hno
  have hww:=zop hE.w
  rw[← hww]
  obtain⟨sts,mk0,eds⟩:=V
  have hzl:(sts.zip W).length=sts.length:=by rw[List.length_zip];simp only at hWl;omega
  refine zav ?_
  refine zaq (zan 129 rfl rfl) ?_
  refine zaq (zan 56 rfl rfl) ?_
  refine zaq (zan 137 rfl rfl) ?_
  refine zae Tk Tryz.func43 ?_
  refine g_go Tk Tryz.func43 ?_
  refine zak Tk (r:=.tup [autD ⟨ob,((sts.zip W).length:Int),mk0,eds⟩,znU (sts.zip W)]) rfl rfl rfl trivial rfl rfl ?_
  rw[hzl]
end Go.AI


namespace Go.AI
set_option maxRecDepth 20000
theorem zor {a:Aut} {on:List Int}:∀ (rest:List Edg) (eds:List Edg) (k N:Nat) (W:List (List Fd)),kOf rest k=some N→WOk a on eds k W→(∀ x∈eds,x.2.2<(k:Int))→∃ W',WOk a on (eds++rest) N W'
 | [],eds,k,N,W,hk,h,_=>by
  simp only[kOf,Option.some.injEq] at hk
  subst hk
  exact⟨W,by rw[List.append_nil];exact h⟩
 | x::r,eds,k,N,W,hk,h,hb=>by
  obtain⟨xi,xe,xt⟩:=x
  simp only[kOf] at hk
  split at hk
  ·rename_i hc
   obtain⟨⟨h1,h2⟩,h3,h4⟩:=hc
   obtain⟨i,rfl⟩:∃ i:Nat,xi=(i:Int):=⟨xi.toNat,by omega⟩
   have hi:W[i]? = some (W[i]'(by rw[h.len];omega)):=List.getElem?_eq_getElem _
   by_cases ht:xt=(k:Int)
   ·subst ht
    rw[if_pos rfl] at hk
    have:=zor r (eds++[((i:Int),xe,(k:Int))]) (k+1) N _ hk (h.grow hb hi) fun x hx=>by
     rcases List.mem_append.1 hx with hx | hx
     ·have:=hb x hx;omega
     ·rw[List.mem_singleton] at hx;subst hx;simp only;omega
    rwa [List.append_assoc] at this
   ·rw[if_neg ht] at hk
    have:=zor r (eds++[((i:Int),xe,xt)]) k N W hk (h.edge _) fun x hx=>by
     rcases List.mem_append.1 hx with hx | hx
     ·exact hb x hx
     ·rw[List.mem_singleton] at hx;subst hx;simp only;omega
    rwa [List.append_assoc] at this
  ·cases hk
section
variable {a:Aut} {n:Nat} {on:List Int} {V:Unf (List Int)}
theorem zlw (h:prjU a n on V):WOk a on V.eds V.sts.length (wrdF a on V.eds V.sts.length):=by
 have h1:WOk a on [] 1 [rchF a on [((0:Int),([]:List Int))]]:=⟨rfl,rfl,fun k h1 h2=>by omega⟩
 obtain⟨W,hW⟩:=zor V.eds [] 1 V.sts.length _ h.hU.fr h1 (by simp)
 rw[List.nil_append] at hW
 rw[← zop hW]
 exact hW
theorem zuM (h:prjU a n on V) (hal:∀ e∈on,0≤e∧e<32):∀ (m k:Nat),k<m→∀ s v,V.sts[k]? = some s→(wrdF a on V.eds V.sts.length)[k]? = some v→vdF a n v∧v≠[]∧s=zbu (v.map (·.1)):=by
 have hW:=zlw h
 generalize wrdF a on V.eds V.sts.length=W at *
 intro m
 induction m with
 | zero=>intro k hk;omega
 | succ m ih=>
  intro k hk s v hs hv
  have hv0:=vd0 (a:=a) h.g h.n0
  have hne:∀ frm,vdF a n frm→frm≠[]→rchF a on frm≠[]:=fun frm hf hne=>by
   obtain⟨y,hy⟩:=List.exists_mem_of_ne_nil _ hne
   obtain⟨z,hz,_⟩:=(zfs (on:=on) h.g hf).low _ _ (RP.base hy)
   exact List.ne_nil_of_mem hz
  by_cases h0:k=0
  ·subst h0
   rw[hW.fst] at hv
   obtain rfl:=Option.some.inj hv
   rw[h.fst] at hs
   obtain rfl:=Option.some.inj hs
   exact⟨zh0 h.g hv0,hne _ hv0 (by simp),(zdR h.g hv0).symm⟩
  ·have hkN:k<V.sts.length:=(List.getElem?_eq_some_iff.1 hs).1
   obtain⟨i,e,Wi,f1,f2,f3,f4⟩:=hW.nxt k (by omega) hkN
   have hmem:=List.mem_of_find?_eq_some f1
   obtain⟨k',s',j,g1,g2,g3,g4,g5,g6⟩:=zhG h.hU hmem
   simp only at g2 g3 g4 g5 g6
   obtain rfl:i=k':=by omega
   obtain rfl:k=j:=by omega
   rw[f4] at hv
   obtain rfl:=Option.some.inj hv
   rw[g6] at hs
   obtain rfl:=Option.some.inj hs
   obtain⟨i1,i2,i3⟩:=ih i (by omega) s' Wi g1 f3
   have hev:e∈on:=of_decide_eq_true (List.mem_filter.1 g3).2
   have hm:∀ x,x∈s' ↔ x∈Wi.map (·.1):=fun x=>by
    rw[i3]
    exact zeZ i1.nd (fun z hz=>by
     obtain⟨y,hy,rfl⟩:=List.mem_map.1 hz
     exact i1.rng y hy) x
   have hnv:=zl0 (a:=a) h.g (hal e hev) i1
   have hnn:nxF a.edges e Wi≠[]:=fun hn=>by
    have h9:=(zpu (on:=on) h.g (hal e hev) i1 hm).1 hn
    have g4':decide ((nxt a.edges (lowP on [] false) n s' e).length≠0)=true:=g4
    rw[h9] at g4'
    exact absurd g4' (by decide)
   refine⟨zh0 h.g hnv,hne _ hnv hnn,?_⟩
   rw[zdR h.g hnv,zh7 h.g (hal e hev) i1 hm]
   rfl
end
theorem zdY {x:Sys} (hx:gSys x) (hV:(lpV x).length≤4095) (hn:(lpR x).2.length≤11) :
  ((esWR x).map (·.1)=(esR x).2∧(esWR x).length=(esR x).2.length)∧∀ z∈esWR x,vdF (lpR x).1 (lpR x).2.length z.2∧z.2≠[]∧z.1=zbu (z.2.map (·.1)):=by
 by_cases h0:(lpR x).2.length=0
 ·have he:(esR x).2=[]:=ztf h0
  unfold esWR
  rw[he]
  exact⟨⟨rfl,rfl⟩,fun z hz=>by cases hz⟩
 ·obtain⟨V,hprj,hVs⟩:=zqo hx hV hn h0
  have hes:esR x=(unfA (zbL (lpR x).1 x.ob) V,V.sts):=by
   unfold esR
   rw[if_neg h0,hprj.hV]
  have hW:=zlw hprj
  have hg:=zuM hprj (zam hx.ob).2.1
  unfold esWR
  rw[hes]
  unfold unfA
  simp only
  generalize wrdF (lpR x).1 x.ob V.eds V.sts.length=W at *
  have hl:V.sts.length=W.length:=hW.len.symm
  refine⟨⟨by rw[← List.unzip_fst,List.unzip_zip hl],by rw[List.length_zip];omega⟩,fun z hz=>?_⟩
  obtain⟨k,hk⟩:=List.getElem?_of_mem hz
  have hk2:=List.getElem?_zip_eq_some.1 hk
  exact hg (k+1) k (Nat.lt_succ_self k) z.1 z.2 hk2.1 hk2.2
end Go.AI


namespace Go.AI
open Go.Proofs
set_option maxRecDepth 20000
theorem zvR {x:Sk} (h:skOkB x) (hf:(lpR (mkS x)).1.states≤10):obOk (mkS x):=by
 obtain⟨m1,m2,m3,m4⟩:=zl1 h
 exact zrY m1 m2 ⟨by omega,by omega⟩ (by have:=zt2 h;omega) (by have:=zsO h hf;omega)
end Go.AI


namespace Go.AI
open Go.Proofs
set_option maxRecDepth 20000
abbrev bhOk (x:Sys) (la:Aut) (ps:List (Int × Int)) (e:Int) (p:Bool) (y:Fd):Bool:=canF x ps y.1 e && (zfz la y.1 e==p)
def bhS (ok:Fd→Bool) (acc:List Int × Bool) (y:Fd):List Int × Bool:=if ok y=true∧(acc.2=false∨cmpW y.2 acc.1<0) then (y.2,true) else acc
def bhR (ok:Fd→Bool) (L:List Fd):List Int × Bool:=L.foldl (bhS ok) ([],false)
theorem ztn {ok:Fd→Bool}:∀ (L:List Fd) (acc:List Int × Bool),((L.foldl (bhS ok) acc).2=true ↔ acc.2=true∨∃ y∈L,ok y=true)
 | [],acc=>by simp
 | y::r,acc=>by
  rw[List.foldl_cons,ztn r]
  unfold bhS
  by_cases h1:ok y=true
  ·by_cases h2:acc.2=false∨cmpW y.2 acc.1<0
   ·rw[if_pos ⟨h1,h2⟩]
    exact⟨fun _=>.inr ⟨y,by simp,h1⟩,fun _=>.inl rfl⟩
   ·rw[if_neg (fun h=>h2 h.2)]
    have h3:acc.2=true:=by cases h:acc.2;exact absurd (.inl h) h2;rfl
    exact⟨fun _=>.inl h3,fun _=>.inl h3⟩
  ·rw[if_neg (fun h=>h1 h.1)]
   constructor
   ·rintro (h | ⟨z,hz,h⟩)
    ·exact .inl h
    ·exact .inr ⟨z,by simp[hz],h⟩
   ·rintro (h | ⟨z,hz,h⟩)
    ·exact .inl h
    ·rcases List.mem_cons.1 hz with rfl | hz
     ·exact absurd h h1
     ·exact .inr ⟨z,hz,h⟩
theorem zvH {ok:Fd→Bool} {L:List Fd}:(bhR ok L).2=true ↔ ∃ y∈L,ok y=true:=by
 unfold bhR
 rw[ztn]
 simp
theorem zuI {ok:Fd→Bool} {acc:List Int × Bool} {y:Fd} {B:Nat} (ha:acc.1.length≤B) (hy:y.2.length≤B):(bhS ok acc y).1.length≤B:=by
 unfold bhS
 split
 ·exact hy
 ·exact ha
theorem zu2 {ps:List (Int × Int)} {s:Int} (h:0≤s∧s<(ps.length:Int)):(ps.map prI)[s.toNat]? = some (prI (ps.getD s.toNat (0,0))):=by
 have hl:s.toNat<ps.length:=by omega
 rw[List.getElem?_map,List.getElem?_eq_getElem hl,List.getD_eq_getElem?_getD,List.getElem?_eq_getElem hl]
 rfl
set_option maxHeartbeats 16000000 in
theorem zmu (O:List Heap) (x:Sys) (h:smallS x) (hx:gSys x) (hV0:(lpV x).length≤4095) (z:Es2) (e:Int) (p:Bool) (hl:z.2.length≤1000000) (hr:∀ y∈z.2,(0≤y.1∧y.1<((lpR x).2.length:Int))∧y.2.length≤1000000) :
  zao Tryz.prog 92 [sysD x,esD z,ii e,bb p] O (.tup [ints (bhR (bhOk x (lpR x).1 (lpR x).2 e p) z.2).1,bb (bhR (bhOk x (lpR x).1 (lpR x).2 e p) z.2).2]) [] O:=by
 have h1:=fun O=>zpF O x h hx hV0
 have s1:=fun O s e=>zfq O x.p s e h.p.ed
 have hga:=(lp_g hx hV0).1
 have s2:=fun O s e=>zfq O (lpR x).1 s e hga.sm.ed
 have hok:∀ y,bhOk x (lpR x).1 (lpR x).2 e p y=(decide (0≤stp3 x.p.edges (((lpR x).2.getD y.1.toNat (0,0)).1) e) && (decide (0≤stp3 (lpR x).1.edges y.1 e)==p)):=fun y=>rfl
 generalize bhOk x (lpR x).1 (lpR x).2 e p=ok at *
 clear hga h hx hV0
 generalize lpR x=L at *
 obtain⟨⟨al,st,mk,es⟩,⟨al',st',mk',es'⟩,ob,ct⟩:=x
 obtain⟨⟨lal,lst,lmk,leds⟩,ps⟩:=L
 obtain⟨sts,fs⟩:=z
 simp only at hl hr h1 s1 s2 hok ⊢
 generalize hR:bhR ok fs=R at *
 refine zad Tk Tryz.func92 rfl Tryz.call92 Tryz.ntmps92 (Nat.le_of_ble_eq_true rfl) fun E=>?_
 refine zae Tk Tryz.func92 ?_
 refine zaf Tk Tryz.func92 (h1 _) rfl rfl rfl rfl rfl ?_
 refine zac ?_
 refine zaq (zvO 12 (d:=ints []) (by exact zfj zb1)) ?_
 refine zah (fun q:Nat × List Int × Bool=>[(2,ii e),(3,bb p),(4,.own 0 4 0 0),(5,.own 0 5 0 0),(10,.own 0 10 0 0),(11,.i (prsI ps)),(12,ints q.2.1),(13,bb q.2.2),(22,fdsD fs),(23,ii fs.length),(24,ii q.1)])
  (fun _=>[(4,.box (sysC ⟨⟨al,st,mk,es⟩,⟨al',st',mk',es'⟩,ob,ct⟩)),(5,.box [ints sts,fdsD fs]),(10,.box [ints lal,ii lst,ints lmk,edgs leds])]) (fun _=>O) 63
  (fun q=>q.1≤fs.length∧(fs.drop q.1).foldl (bhS ok) q.2=R∧q.2.1.length≤1000000) (fun q=>fs.length - q.1) (0,[],false) ⟨Nat.zero_le _,hR,Nat.zero_le _⟩ ⟨rfl,rfl,rfl,rfl,rfl,rfl,rfl,rfl,rfl,rfl,rfl,trivial⟩ rfl ⟨rfl,rfl,rfl,trivial⟩ rfl rfl ?_
 rintro ⟨i,out,is⟩ ⟨hi,hno,hol⟩ ih
 simp only at hi hno hol
 clear hR
 refine zae Tk Tryz.func92 ?_
 refine zai Tk Tryz.func92 rfl (fun g1=>?_) (fun g1=>?_)
 ·have h3:i<fs.length:=by simpa using g1
  clear g1
  have hi1:ii (IntKind.i64.wrap ((i:Int)+1))=ii ((i+1:Nat):Int):=congrArg ii (zaD (n:=1000001) (by omega) (by decide))
  have gr:(fs.map fdI)[(i:Int).toNat]? = some (fdI fs[i]):=zaj h3
  rw[List.drop_eq_getElem_cons h3,List.foldl_cons] at hno
  have hry:=hr fs[i] (List.getElem_mem h3)
  generalize fs[i]=y at *
  have hok1:=hok y
  have hlS:=zuI (ok:=ok) (acc:=(out,is)) hol hry.2
  have hSd:bhS ok (out,is) y=if ok y=true∧(is=false∨cmpW y.2 out<0) then (y.2,true) else (out,is):=rfl
  have gp:=zu2 hry.1
  obtain⟨hry1,hry2⟩:=hry
  obtain⟨s,w⟩:=y
  simp only at hok1 hSd gp hry1 hry2
  generalize ps.getD s.toNat (0,0)=z at *
  obtain⟨z1,z2⟩:=z
  simp only at hok1
  have d1:=fun O=>s1 O z1 e
  have d2:=fun O=>s2 O s e
  have dc:=fun O=>zmm O w out hry2 hol
  generalize stp3 es z1 e=t1 at *
  generalize stp3 leds s e=t2 at *
  generalize bhS ok (out,is) (s,w)=acc' at *
  generalize ok (s,w)=okv at *
  generalize cmpW w out=cw at *
  refine zag Tk Tryz.func92 (by exact⟨by omega,by show (i:Int)<(fs.length:Int);omega⟩) ?_
  refine zap Tk Tryz.func92 (gr) ?_
  refine zaE Tk Tryz.func92 zaM rfl ?_
  refine zaA Tk (by exact hry1) ?_
  refine zaA Tk (by exact⟨by decide,by decide⟩) ?_
  refine zaK Tk (gp) ?_
  refine zaX Tk (fun _=>d1 _) rfl rfl rfl ?_
  refine zcU Tk (fun c1=>?_) (fun c1=>?_)
  ·have c1:t1<0:=of_decide_eq_true c1
   rw[decide_eq_false (show ¬ 0≤t1 by omega),Bool.false_and] at hok1
   rw[hok1,if_neg (by simp)] at hSd
   subst hSd
   refine zaS Tk Tryz.func92 (by kernel_rfl) ?_
   refine gcT Tk Tryz.func92 rfl ?_
   refine zac ?_
   refine ih (i+1,out,is) _ _ ⟨h3,hno,hol⟩ (by simp only;omega) ⟨rfl,rfl,rfl,rfl,rfl,rfl,rfl,rfl,rfl,rfl,hi1,trivial⟩ rfl ⟨rfl,rfl,rfl,trivial⟩ rfl rfl
  ·have c1:¬ t1<0:=of_decide_eq_false c1
   rw[decide_eq_true (show 0≤t1 by omega),Bool.true_and] at hok1
   refine zaX Tk (fun _=>d2 _) rfl rfl rfl ?_
   refine zaS Tk Tryz.func92 (by kernel_rfl) ?_
   have hc2:decide (0≤t2)=decide (t2 ≥ 0):=rfl
   rw[hc2] at hok1
   clear hc2
   refine zai Tk Tryz.func92 rfl (fun c2=>?_) (fun c2=>?_)
   ·have hk:okv=false:=by
     rw[hok1]
     revert c2
     cases decide (t2 ≥ 0) <;> cases p <;> simp
    rw[hk,if_neg (by simp)] at hSd
    subst hSd
    refine zac ?_
    refine ih (i+1,out,is) _ _ ⟨h3,hno,hol⟩ (by simp only;omega) ⟨rfl,rfl,rfl,rfl,rfl,rfl,rfl,rfl,rfl,rfl,hi1,trivial⟩ rfl ⟨rfl,rfl,rfl,trivial⟩ rfl rfl
   ·have hk:okv=true:=by
     rw[hok1]
     revert c2
     cases decide (t2 ≥ 0) <;> cases p <;> simp
    rw[hk] at hSd
    clear hok1 c2 c1 hk hok
    refine zaR Tk Tryz.func92 rfl (fun c3=>?_) (fun c3=>?_)
    ·have c3:is=false:=by
      revert c3
      cases is <;> simp
     rw[if_pos ⟨rfl,.inl c3⟩] at hSd
     subst hSd
     refine gcT Tk Tryz.func92 rfl ?_
     refine zac ?_
     refine ih (i+1,w,true) _ _ ⟨h3,hno,hry2⟩ (by simp only;omega) ⟨rfl,rfl,rfl,rfl,rfl,rfl,rfl,rfl,rfl,rfl,hi1,trivial⟩ rfl ⟨rfl,rfl,rfl,trivial⟩ rfl rfl
    ·have c3:is=true:=by
      revert c3
      cases is <;> simp
     refine zaf Tk Tryz.func92 (dc _) rfl rfl rfl rfl rfl ?_
     refine zai Tk Tryz.func92 rfl (fun c4=>?_) (fun c4=>?_)
     ·have c4:cw<0:=of_decide_eq_true c4
      rw[if_pos ⟨rfl,.inr c4⟩] at hSd
      subst hSd
      refine zac ?_
      refine ih (i+1,w,true) _ _ ⟨h3,hno,hry2⟩ (by simp only;omega) ⟨rfl,rfl,rfl,rfl,rfl,rfl,rfl,rfl,rfl,rfl,hi1,trivial⟩ rfl ⟨rfl,rfl,rfl,trivial⟩ rfl rfl
     ·have c4:¬ cw<0:=of_decide_eq_false c4
      rw[if_neg (by rintro ⟨_,h | h⟩;rw[c3] at h;cases h;exact c4 h)] at hSd
      subst hSd
      refine zac ?_
      refine ih (i+1,out,is) _ _ ⟨h3,hno,hol⟩ (by simp only;omega) ⟨rfl,rfl,rfl,rfl,rfl,rfl,rfl,rfl,rfl,rfl,hi1,trivial⟩ rfl ⟨rfl,rfl,rfl,trivial⟩ rfl rfl
 ·have h3:fs.length≤i:=by simpa using g1
  rw[List.drop_eq_nil_of_le h3] at hno
  simp only[List.foldl_nil] at hno
  subst hno
  refine zak Tk (r:=.tup [ints out,bb is]) rfl rfl rfl trivial rfl rfl ?_
  rfl
end Go.AI


namespace Go.AI
open Go.Proofs
set_option maxRecDepth 20000
section
variable {a:Aut} {n:Nat} {on:List Int} {V:Unf (List Int)}
theorem ztx (h:prjU a n on V) (hn:n≤12) (hal:∀ e∈on,0≤e∧e<32):∀ (m k:Nat),k<m→∀ v,(wrdF a on V.eds V.sts.length)[k]? = some v→∀ y∈v,y.2.length≤13 * (k+1):=by
 have hW:=zlw h
 have hWg:=zuM h hal
 generalize wrdF a on V.eds V.sts.length=W at *
 intro m
 induction m with
 | zero=>intro k hk;omega
 | succ m ih=>
  intro k hk v hv
  have hv0:=vd0 (a:=a) h.g h.n0
  by_cases h0:k=0
  ·subst h0
   rw[hW.fst] at hv
   obtain rfl:=Option.some.inj hv
   intro y hy
   have:=zjX (B:=0) h.g hn hv0 (fun y hy=>by rw[List.mem_singleton.1 hy];exact Nat.le_refl _) y hy
   omega
  ·have hkN:k<W.length:=(List.getElem?_eq_some_iff.1 hv).1
   obtain⟨i,e,Wi,f1,f2,f3,f4⟩:=hW.nxt k (by omega) (by rw[← hW.len];exact hkN)
   have hmem:=List.mem_of_find?_eq_some f1
   obtain⟨k',s',j,g1,g2,g3,g4,g5,g6⟩:=zhG h.hU hmem
   simp only at g2 g3 g4 g5 g6
   obtain rfl:i=k':=by omega
   obtain rfl:k=j:=by omega
   rw[f4] at hv
   obtain rfl:=Option.some.inj hv
   have i0:=ih i (by omega) Wi f3
   obtain⟨i1,i2,i3⟩:=hWg (i+1) i (by omega) s' Wi g1 f3
   have hev:e∈on:=of_decide_eq_true (List.mem_filter.1 g3).2
   have hnv:=zl0 (a:=a) h.g (hal e hev) i1
   intro y hy
   have:=zjX (B:=13 * (i+1)+1) h.g hn hnv (fun y hy=>by
    obtain⟨z,hz,rfl,_⟩:=(zjb (es:=a.edges) (hal e hev) i1.wrd).snd y hy
    have:=i0 z hz
    simp only[List.length_append,List.length_singleton]
    omega) y hy
   omega
end
theorem ztg {x:Sys} (hx:gSys x) (hV:(lpV x).length≤4095) (hn:(lpR x).2.length≤11) (hel:(esR x).2.length≤4095):∀ z∈esWR x,z.2.length≤1000000∧∀ y∈z.2,(0≤y.1∧y.1<((lpR x).2.length:Int))∧y.2.length≤1000000:=by
 have hga:=(lp_g hx hV).1
 intro z hz
 obtain⟨_,hw⟩:=zdY hx hV hn
 obtain⟨w1,w2,w3⟩:=hw z hz
 have hfew:=RGd.few (a:=(lpR x).1) (on:=[]) (n:=(lpR x).2.length) (l:=z.2) ⟨fun y hy=>RP.base hy,w1.nd,fun z hz=>⟨z,hz,rfl,Nat.le_refl _⟩⟩ (w1.ok hga)
 refine⟨by omega,fun y hy=>⟨w1.rng y hy,?_⟩⟩
 by_cases h0:(lpR x).2.length=0
 ·have he:(esR x).2=[]:=ztf h0
  unfold esWR at hz
  rw[he] at hz
  cases hz
 ·obtain⟨V,hprj,hVs⟩:=zqo hx hV hn h0
  have hes:esR x=(unfA (zbL (lpR x).1 x.ob) V,V.sts):=by
   unfold esR
   rw[if_neg h0,hprj.hV]
  have hl:=ztx hprj (by omega) (zam hx.ob).2.1
  have hWl:=(zlw hprj).len
  unfold esWR at hz
  rw[hes] at hz hel
  unfold unfA at hz
  simp only at hz hel
  obtain⟨k,hk⟩:=List.getElem?_of_mem hz
  have hk2:=List.getElem?_zip_eq_some.1 hk
  have:=hl (k+1) k (Nat.lt_succ_self k) z.2 hk2.2 y hy
  have hk3:=(List.getElem?_eq_some_iff.1 hk2.1).1
  omega
def znd (B:Int→Bool→List Int × Bool):List Int→Option Wit
 | []=>none
 | e::r=>if (B e true).2=true∧(B e false).2=true then some ((B e true).1,(B e false).1,e) else znd B r
def zfp (B:Es2→Int→Bool→List Int × Bool) (ct:List Int):List Es2→Option Wit
 | []=>none
 | z::r=>match znd (B z) ct with
  | some w=>some w
  | none=>zfp B ct r
abbrev bhB (x:Sys) (z:Es2) (e:Int) (p:Bool):List Int × Bool:=bhR (bhOk x (lpR x).1 (lpR x).2 e p) z.2
noncomputable abbrev witR (x:Sys):Option Wit:=zfp (bhB x) x.ct (esWR x)
set_option maxHeartbeats 16000000 in
theorem zuO (O:List Heap) (x:Sys) (h:smallS x) (hx:gSys x) (hV0:(lpV x).length≤4095) (hn11:(lpR x).2.length≤11) (hel:(esR x).2.length≤4095):zao Tryz.prog 36 [sysD x] O (.tup [.agg (witC ((witR x).getD zWit)),bb (witR x).isSome]) [] O:=by
 have h1:=fun O=>zgJ O x h hx hV0 hn11
 have hlen:=ztg hx hV0 hn11 hel
 have hb:=fun O z e p (hz:z∈esWR x)=>zmu O x h hx hV0 z e p (hlen z hz).1 (hlen z hz).2
 have hb:∀ O z e p,z∈esWR x→zao Tryz.prog 92 [sysD x,esD z,ii e,bb p] O (.tup [ints (bhB x z e p).1,bb (bhB x z e p).2]) [] O:=hb
 have hle:(esWR x).length≤4095:=by rw[(zdY hx hV0 hn11).1.2];exact hel
 have hct:=h.ct
 obtain⟨R,hR⟩:∃ R,R=witR x:=⟨_,rfl⟩
 rw[← hR]
 have hR:R=zfp (bhB x) x.ct ((esWR x).drop 0):=hR
 generalize bhB x=B at *
 generalize esWR x=L at *
 generalize esR x=M at *
 clear h hx hV0 hlen hel hn11
 obtain⟨⟨al,st,mk,es⟩,⟨al',st',mk',es'⟩,ob,ct⟩:=x
 obtain⟨⟨mal,mst,mmk,meds⟩,rows⟩:=M
 simp only at h1 hb hct hR
 refine zad Tk Tryz.func36 rfl Tryz.call36 Tryz.ntmps36 (Nat.le_of_ble_eq_true rfl) fun E=>?_
 refine zae Tk Tryz.func36 ?_
 refine zaf Tk Tryz.func36 (h1 _) rfl rfl rfl rfl rfl ?_
 refine zac ?_
 refine zah (fun i:Nat=>[(1,.own 0 1 0 0),(2,.own 0 2 0 0),(19,znU L),(20,ii L.length),(21,ii i)]) (fun _=>[(1,.box (sysC ⟨⟨al,st,mk,es⟩,⟨al',st',mk',es'⟩,ob,ct⟩)),(2,.box [.i (.v (.slice none 0 0)),.i (.v (.slice none 0 0)),ii 0])]) (fun _=>O) 57
  (fun i=>i≤L.length∧R=zfp B ct (L.drop i)) (fun i=>L.length - i) 0 ⟨Nat.zero_le _,hR⟩ ⟨rfl,rfl,rfl,rfl,rfl,trivial⟩ rfl ⟨rfl,rfl,trivial⟩ rfl rfl ?_
 clear hR
 rintro i ⟨hi,hno⟩ ih
 have hj0:ii (IntKind.i64.wrap ((i:Int)+1))=ii ((i+1:Nat):Int):=congrArg ii (zaD (n:=5000) (by omega) (by decide))
 refine zae Tk Tryz.func36 ?_
 refine zai Tk Tryz.func36 rfl (fun g1=>?_) (fun g1=>?_)
 ·have h2:i<L.length:=by simpa using g1
  have ge:(L.map esI)[(i:Int).toNat]? = some (esI L[i]):=zaj h2
  have hm:=List.getElem_mem h2
  rw[List.drop_eq_getElem_cons h2] at hno
  simp only[zfp] at hno
  generalize L[i]=z at *
  have hb1:=fun O e p=>hb O z e p hm
  obtain⟨z1,z2⟩:=z
  generalize B (z1,z2)=Bz at *
  have hno:R=match znd Bz (ct.drop 0) with
   | some w=>some w
   | none=>zfp B ct (L.drop (i+1)):=hno
  refine zag Tk Tryz.func36 (by exact⟨by omega,by show (i:Int)<(L.length:Int);omega⟩) ?_
  refine zap Tk Tryz.func36 (ge) ?_
  refine zac ?_
  refine zah (fun j:Nat=>[(1,.own 0 1 0 0),(2,.own 0 2 0 0),(19,znU L),(20,ii L.length),(21,ii i),(7,.own 0 7 0 0),(26,ints ct),(27,ii ct.length),(28,ii j)]) (fun _=>[(1,.box (sysC ⟨⟨al,st,mk,es⟩,⟨al',st',mk',es'⟩,ob,ct⟩)),(2,.box [.i (.v (.slice none 0 0)),.i (.v (.slice none 0 0)),ii 0]),(7,.box [ints z1,fdsD z2])]) (fun _=>O) 57
   (fun j=>j≤ct.length∧R=match znd Bz (ct.drop j) with
    | some w=>some w
    | none=>zfp B ct (L.drop (i+1))) (fun j=>ct.length - j) 0 ⟨Nat.zero_le _,hno⟩ ⟨rfl,rfl,rfl,rfl,rfl,rfl,rfl,rfl,rfl,trivial⟩ rfl ⟨rfl,rfl,rfl,trivial⟩ rfl rfl ?_
  clear hno
  rintro j ⟨hj,hno⟩ ih2
  have hj1:ii (IntKind.i64.wrap ((j:Int)+1))=ii ((j+1:Nat):Int):=congrArg ii (zaD (n:=1000001) (by omega) (by decide))
  refine zae Tk Tryz.func36 ?_
  refine zai Tk Tryz.func36 rfl (fun g2=>?_) (fun g2=>?_)
  ·have h3:j<ct.length:=by simpa using g2
   have gc:(ct.map fun x=>[vi x])[(j:Int).toNat]? = some [vi ct[j]]:=zaj (f:=fun x=>[vi x]) h3
   rw[List.drop_eq_getElem_cons h3] at hno
   simp only[znd] at hno
   generalize ct[j]=e at *
   have hA:=fun O=>hb1 O e true
   have hB:=fun O=>hb1 O e false
   generalize Bz e true=b1 at *
   generalize Bz e false=b2 at *
   obtain⟨w1,f1⟩:=b1
   obtain⟨w2,f2⟩:=b2
   simp only at hno hA hB
   refine zag Tk Tryz.func36 (by exact⟨by omega,by show (j:Int)<(ct.length:Int);omega⟩) ?_
   refine zap Tk Tryz.func36 (gc) ?_
   refine zaf Tk Tryz.func36 (hA _) rfl rfl rfl rfl rfl ?_
   refine zaf Tk Tryz.func36 (hB _) rfl rfl rfl rfl rfl ?_
   refine zaR Tk Tryz.func36 rfl (fun c1=>?_) (fun c1=>?_)
   ·have c1:f1=true:=c1
    refine zai Tk Tryz.func36 rfl (fun c2=>?_) (fun c2=>?_)
    ·have c2:f2=true:=c2
     rw[if_pos ⟨c1,c2⟩] at hno
     simp only at hno
     subst hno
     refine zak Tk (r:=.tup [.agg [ints w1,ints w2,ii e],bb true]) rfl rfl rfl trivial rfl rfl ?_
     rfl
    ·have c2:f2=false:=c2
     rw[if_neg (fun h=>by rw[c2] at h;cases h.2)] at hno
     refine zac ?_
     exact ih2 (j+1) _ _ ⟨h3,hno⟩ (by omega) ⟨rfl,rfl,rfl,rfl,rfl,rfl,rfl,rfl,hj1,trivial⟩ rfl ⟨rfl,rfl,rfl,trivial⟩ rfl rfl
   ·have c1:f1=false:=c1
    rw[if_neg (fun h=>by rw[c1] at h;cases h.1)] at hno
    refine gcF Tk Tryz.func36 rfl ?_
    refine zac ?_
    exact ih2 (j+1) _ _ ⟨h3,hno⟩ (by omega) ⟨rfl,rfl,rfl,rfl,rfl,rfl,rfl,rfl,hj1,trivial⟩ rfl ⟨rfl,rfl,rfl,trivial⟩ rfl rfl
  ·have h3:ct.length≤j:=by simpa using g2
   rw[List.drop_eq_nil_of_le h3] at hno
   simp only[znd] at hno
   refine zac ?_
   exact ih (i+1) _ _ ⟨h2,hno⟩ (by omega) ⟨rfl,rfl,rfl,rfl,hj0,trivial⟩ rfl ⟨rfl,rfl,trivial⟩ rfl rfl
 ·have h2:L.length≤i:=by simpa using g1
  rw[List.drop_eq_nil_of_le h2] at hno
  simp only[zfp] at hno
  subst hno
  refine zb5 Tk (r:=.tup [.agg [.i (.v (.slice none 0 0)),.i (.v (.slice none 0 0)),ii 0],bb false]) rfl rfl rfl trivial rfl rfl ?_
  repeat' (first | refine zcP ?_ | refine zcQ ?_ | refine zfj ?_ | refine CoDL.cons ?_ ?_ | exact CoDL.nil | exact zb1 | refine zdF ?_ | refine CoLL.cons ?_ ?_ | exact CoLL.nil | refine CoL.cons ?_ ?_ | exact CoL.nil | exact CoI.refl _ | exact CoL.refl _ | exact CoLL.refl _ | exact CoDL.refl _ | exact CoD.refl _)
noncomputable abbrev ctlW (x:Sys):List (List Int):=(esWR x).map fun z=>x.ct.filter fun e=>(bhB x z e true).2
set_option maxHeartbeats 16000000 in
theorem zqx (O:List Heap) (x:Sys) (h:smallS x) (hx:gSys x) (hV0:(lpV x).length≤4095) (hn11:(lpR x).2.length≤11) (hel:(esR x).2.length≤4095):zao Tryz.prog 37 [sysD x] O (ctlD (esR x).1 (ctlW x)) [] O:=by
 have h1:=fun O=>zgJ O x h hx hV0 hn11
 have hlen:=ztg hx hV0 hn11 hel
 have hb:=fun O z e p (hz:z∈esWR x)=>zmu O x h hx hV0 z e p (hlen z hz).1 (hlen z hz).2
 have hb:∀ O z e p,z∈esWR x→zao Tryz.prog 92 [sysD x,esD z,ii e,bb p] O (.tup [ints (bhB x z e p).1,bb (bhB x z e p).2]) [] O:=hb
 have hle:(esWR x).length≤4095:=by rw[(zdY hx hV0 hn11).1.2];exact hel
 have hct:=h.ct
 unfold ctlW
 generalize bhB x=B at *
 generalize esWR x=L at *
 generalize esR x=M at *
 clear h hx hV0 hlen hel hn11
 obtain⟨⟨al,st,mk,es⟩,⟨al',st',mk',es'⟩,ob,ct⟩:=x
 obtain⟨⟨mal,mst,mmk,meds⟩,rows⟩:=M
 simp only at h1 hb hct
 refine zat [14,16] Tk Tryz.func37 rfl Tryz.call37 Tryz.ntmps37 (Nat.le_of_ble_eq_true rfl) fun E=>?_
 refine zae Tk Tryz.func37 ?_
 refine zaf Tk Tryz.func37 (h1 _) rfl rfl rfl rfl rfl ?_
 refine zac ?_
 refine zaq (zaO 5 50 31 1 (pre:=[ints mal,ii mst,ints mmk,edgs meds]) (post:=[]) rfl rfl rfl) ?_
 refine zah (fun i:Nat=>[(1,.own 0 1 0 0),(2,.own 0 2 0 0),(5,.own 0 5 0 0),(20,znU L),(21,ii L.length),(22,ii i)])
  (fun i=>[(1,.box (sysC ⟨⟨al,st,mk,es⟩,⟨al',st',mk',es'⟩,ob,ct⟩)),(2,.box [.i (.v (.slice none 0 0)),ii 0,.i (.v (.slice none 0 0)),.i (.v (.slice none 0 0)),.i (.v (.slice none 0 0))]),(5,.box [ints mal,ii mst,ints mmk,edgs meds,.osl 0 50]),(50,ze4 ((L.take i).map fun z=>ct.filter fun e=>(B z e true).2))]) (fun _=>O) 54
  (fun i=>i≤L.length) (fun i=>L.length - i) 0 (Nat.zero_le _) ⟨rfl,rfl,rfl,rfl,rfl,rfl,trivial⟩ rfl ⟨rfl,rfl,rfl,rfl,trivial⟩ rfl rfl ?_
 rintro i hi ih
 have hj0:ii (IntKind.i64.wrap ((i:Int)+1))=ii ((i+1:Nat):Int):=congrArg ii (zaD (n:=5000) (by omega) (by decide))
 refine zae Tk Tryz.func37 ?_
 refine zai Tk Tryz.func37 rfl (fun g1=>?_) (fun g1=>?_)
 ·have hh2:i<L.length:=by simpa using g1
  have ge:(L.map esI)[(i:Int).toNat]? = some (esI L[i]):=zaj hh2
  have hm:=List.getElem_mem hh2
  have htk:=zck (f:=fun z=>ct.filter fun e=>(B z e true).2) hh2
  have hl0:((L.take i).map fun z=>ct.filter fun e=>(B z e true).2).length=i:=by rw[List.length_map,List.length_take];omega
  generalize L[i]=z at *
  generalize hQ:(L.take i).map (fun z=>ct.filter fun e=>(B z e true).2)=Q at *
  have hb1:=fun O e=>hb O z e true hm
  obtain⟨z1,z2⟩:=z
  generalize B (z1,z2)=Bz at *
  obtain⟨pf,hpf⟩:∃ pf:Int→Bool,pf=fun e=>(Bz e true).2:=⟨_,rfl⟩
  rw[← hpf] at htk
  have hpe:∀ e,(Bz e true).2=pf e:=fun e=>by rw[hpf]
  simp only[hpe] at hb1
  clear hpf hpe
  refine zag Tk Tryz.func37 (by exact⟨by omega,by show (i:Int)<(L.length:Int);omega⟩) ?_
  refine zap Tk Tryz.func37 (ge) ?_
  refine zac ?_
  refine zaq (zb8 8 44 3 1 rfl rfl rfl) ?_
  refine zah (fun j:Nat=>[(1,.own 0 1 0 0),(2,.own 0 2 0 0),(5,.own 0 5 0 0),(20,znU L),(21,ii L.length),(22,ii i),(7,.own 0 7 0 0),(8,.osl 0 44),(27,ints ct),(28,ii ct.length),(29,ii j)])
   (fun j=>[(1,.box (sysC ⟨⟨al,st,mk,es⟩,⟨al',st',mk',es'⟩,ob,ct⟩)),(2,.box [.i (.v (.slice none 0 0)),ii 0,.i (.v (.slice none 0 0)),.i (.v (.slice none 0 0)),.i (.v (.slice none 0 0))]),(5,.box [ints mal,ii mst,ints mmk,edgs meds,.osl 0 50]),(50,ze4 Q),(7,.box [ints z1,fdsD z2]),(44,zax ((ct.take j).filter pf))]) (fun _=>O) 54
   (fun j=>j≤ct.length) (fun j=>ct.length - j) 0 (Nat.zero_le _) ⟨rfl,rfl,rfl,rfl,rfl,rfl,rfl,rfl,rfl,rfl,rfl,trivial⟩ rfl ⟨rfl,rfl,rfl,rfl,rfl,rfl,trivial⟩ rfl rfl ?_
  rintro j hj ih2
  have hj1:ii (IntKind.i64.wrap ((j:Int)+1))=ii ((j+1:Nat):Int):=congrArg ii (zaD (n:=1000001) (by omega) (by decide))
  refine zae Tk Tryz.func37 ?_
  refine zai Tk Tryz.func37 rfl (fun g2=>?_) (fun g2=>?_)
  ·have h3:j<ct.length:=by simpa using g2
   have gc:(ct.map fun x=>[vi x])[(j:Int).toNat]? = some [vi ct[j]]:=zaj (f:=fun x=>[vi x]) h3
   have htk2:ct.take (j+1)=ct.take j++[ct[j]]:=List.take_succ_eq_append_getElem h3
   have hA:=zeN pf (ct.take j) ct[j]
   rw[← htk2] at hA
   have lA:((ct.take j).filter pf).length≤1000000:=Nat.le_trans (List.length_filter_le _ _) (by rw[List.length_take];omega)
   generalize ct[j]=e at *
   clear htk2
   generalize (ct.take j).filter pf=A at *
   refine zag Tk Tryz.func37 (by exact⟨by omega,by show (j:Int)<(ct.length:Int);omega⟩) ?_
   refine zap Tk Tryz.func37 (gc) ?_
   refine zaf Tk Tryz.func37 (hb1 _ _) rfl rfl rfl rfl rfl ?_
   refine zai Tk Tryz.func37 rfl (fun c1=>?_) (fun c1=>?_)
   ·have c1:pf e=true:=c1
    rw[if_pos c1] at hA
    refine zag Tk Tryz.func37 (by exact⟨by show (A.length+1) * 8≤140737488355328;omega,by show A.length+1≤9223372036854775807;omega⟩) ?_
    refine zac ?_
    exact ih2 (j+1) _ _ h3 (by omega) ⟨rfl,rfl,rfl,rfl,rfl,rfl,rfl,rfl,rfl,rfl,hj1,trivial⟩ rfl ⟨rfl,rfl,rfl,rfl,rfl,by rw[hA];exact congrArg some (zaL A e),trivial⟩ rfl rfl
   ·have c1:pf e=false:=c1
    rw[if_neg (by rw[c1];decide),List.append_nil] at hA
    refine zac ?_
    exact ih2 (j+1) _ _ h3 (by omega) ⟨rfl,rfl,rfl,rfl,rfl,rfl,rfl,rfl,rfl,rfl,hj1,trivial⟩ rfl ⟨rfl,rfl,rfl,rfl,rfl,by rw[hA];rfl,trivial⟩ rfl rfl
  ·have h3:ct.length≤j:=by simpa using g2
   rw[List.take_of_length_le h3]
   refine zav ?_
   refine zaq (zan 44 rfl rfl) ?_
   refine zae Tk Tryz.func37 ?_
   refine g_go Tk Tryz.func37 ?_
   refine zag Tk Tryz.func37 (by exact⟨by show (Q.length+1) * 24≤140737488355328;omega,by show Q.length+1≤9223372036854775807;omega⟩) ?_
   refine zac ?_
   refine ih (i+1) _ _ hh2 (by omega) ⟨rfl,rfl,rfl,rfl,rfl,hj0,trivial⟩ rfl ⟨rfl,rfl,rfl,?_,trivial⟩ rfl rfl
   rw[htk]
   exact congrArg some (zeC Q (ct.filter pf))
 ·have hh2:L.length≤i:=by simpa using g1
  rw[List.take_of_length_le hh2]
  refine zav ?_
  refine zaq (zan 50 rfl rfl) ?_
  refine zae Tk Tryz.func37 ?_
  refine g_go Tk Tryz.func37 ?_
  refine zak Tk (r:=ctlD ⟨mal,mst,mmk,meds⟩ (L.map fun z=>ct.filter fun e=>(B z e true).2)) rfl rfl rfl trivial rfl rfl ?_
  rfl
end Go.AI


namespace Go.AI
set_option maxRecDepth 20000
theorem zvb {x:Sys} (hx:gSys x) (hV:(lpV x).length≤4095) {i:Nat} {z:Int × Int} (hz:(lpR x).2[i]? = some z) {e:Int} (he:e∈x.p.alpha) :
  (stp3 (lpR x).1.edges i e = -1∧¬ (0≤stp3 x.p.edges z.1 e∧0≤stp3 x.s.edges z.2 e))∨((0≤stp3 x.p.edges z.1 e∧0≤stp3 x.s.edges z.2 e)∧∃ j:Nat,stp3 (lpR x).1.edges i e=(j:Int)∧(lpR x).2[j]? = some (stp3 x.p.edges z.1 e,stp3 x.s.edges z.2 e)):=by
 by_cases h0:0<x.p.states∧0<x.s.states
 ·obtain⟨V,hV1,hU⟩:=zgk hx h0 (by omega)
  have hlp:lpR x=(unfA x.p.alpha V,V.sts):=by unfold lpR;rw[if_pos h0,hV1]
  rw[hlp] at hz ⊢
  have hal:=(zam (zaB hx.p).1).1
  have hs:(zdy x z e).2.1=(decide (0≤stp3 x.p.edges z.1 e) && decide (0≤stp3 x.s.edges z.2 e)):=rfl
  rcases zoy hU hal hz he with ⟨h1,h2⟩ | ⟨h1,h2⟩
  ·rw[hs] at h1
   refine .inl ⟨h2,fun hc=>?_⟩
   rw[decide_eq_true hc.1,decide_eq_true hc.2] at h1
   cases h1
  ·rw[hs] at h1
   simp only[Bool.and_eq_true,decide_eq_true_eq] at h1
   exact .inr ⟨h1,h2⟩
 ·have hlp:lpR x=(⟨x.p.alpha,0,[],[]⟩,[]):=by unfold lpR;rw[if_neg h0]
  rw[hlp] at hz
  simp at hz
def zdt (ct ob:List Int) (o:Aut) (rows:List (List Int)):List Int→Int→Bool→Bool
 | [],_,_=>true
 | e::r,at_,kn=>if (decide (e∈ct) && (!kn || !decide (e∈rows.getD at_.toNat [])))=true then false
  else if (kn && decide (e∈ob))=true then zdt ct ob o rows r (if 0≤stp3 o.edges at_ e then stp3 o.edges at_ e else 0) (decide (0≤stp3 o.edges at_ e)) else zdt ct ob o rows r at_ kn
section
variable {x:Sys} {V:Unf (List Int)}
end
end Go.AI


namespace Go.AI
set_option maxRecDepth 20000
theorem zrT {x:Sys} (hx:gSys x) (hV:(lpV x).length≤4095) {s e:Int} (hs:0≤s∧s<((lpR x).2.length:Int)) (h:zfz (lpR x).1 s e=true):canF x (lpR x).2 s e=true:=by
 have h0:0≤stp3 (lpR x).1.edges s e:=of_decide_eq_true h
 obtain⟨hga,hal⟩:=lp_g hx hV
 obtain⟨z,hz,e1,e2,e3⟩:=zdn h0
 have he:e∈x.p.alpha:=by rw[← hal,← e2];exact hga.ev z hz
 obtain⟨i,rfl⟩:∃ i:Nat,s=(i:Int):=⟨s.toNat,by omega⟩
 have hi:i<(lpR x).2.length:=by omega
 have hzi:(lpR x).2[i]? = some (lpR x).2[i]:=List.getElem?_eq_getElem hi
 rcases zvb hx hV hzi he with ⟨h1,_⟩ | ⟨⟨h1,_⟩,_⟩
 ·omega
 ·show decide (0≤stp3 x.p.edges (((lpR x).2.getD (i:Int).toNat (0,0)).1) e)=true
  rw[show ((i:Int).toNat)=i from rfl,List.getD_eq_getElem?_getD,hzi]
  exact decide_eq_true h1
theorem zvz {x:Sys} (hx:gSys x) (hV:(lpV x).length≤4095) (hn:(lpR x).2.length≤11) {z:Es2} (hz:z∈esWR x):∀ s,s∈z.1 ↔ ∃ y∈z.2,y.1=s:=by
 obtain⟨_,hw⟩:=zdY hx hV hn
 obtain⟨w1,w2,w3⟩:=hw z hz
 intro s
 rw[w3,zeZ w1.nd (fun z hz=>by
  obtain⟨y,hy,rfl⟩:=List.mem_map.1 hz
  exact w1.rng y hy) s,List.mem_map]
theorem zuH {x:Sys} (hx:gSys x) (hV:(lpV x).length≤4095) (hn:(lpR x).2.length≤11) {z:Es2} (hz:z∈esWR x) {e:Int}:(bhB x z e true).2=true ↔ ∃ s∈z.1,zfz (lpR x).1 s e=true:=by
 have hm:=zvz hx hV hn hz
 have hw:=((zdY hx hV hn).2 z hz).1
 rw[zvH]
 constructor
 ·rintro ⟨y,hy,h⟩
  simp only[bhOk,Bool.and_eq_true,beq_iff_eq] at h
  exact⟨y.1,(hm _).2 ⟨y,hy,rfl⟩,h.2⟩
 ·rintro ⟨s,hs,h⟩
  obtain⟨y,hy,rfl⟩:=(hm s).1 hs
  refine⟨y,hy,?_⟩
  simp only[bhOk,Bool.and_eq_true,beq_iff_eq]
  exact⟨zrT hx hV (hw.rng y hy) h,h⟩
theorem zsy {x:Sys} (hx:gSys x) (hV:(lpV x).length≤4095) (hn:(lpR x).2.length≤11):ctlW x=ctlR x (lpR x).1 (esR x).2:=by
 have hw:=(zdY hx hV hn).1.1
 unfold ctlW ctlR
 rw[← hw,List.map_map]
 refine List.map_congr_left fun z hz=>?_
 refine List.filter_congr fun e he=>?_
 rw[Bool.eq_iff_iff,zuH hx hV hn hz,decide_eq_true_iff]
 exact filt_pos.symm
end Go.AI


namespace Go.AI
open Go.Proofs
set_option maxRecDepth 20000
theorem ztX (O:List Heap) (x:Sys) (e:Int) (hl:x.p.alpha.length≤1000000) (hs:x.p.alpha.Pairwise (· < ·)) (d nm:Nat) (ho:zaa O d nm=some (.box (sysC x))):zao Tryz.prog 58 [ii e,.own d nm 0 0] O (bb (!decide (e∈x.p.alpha))) [] O:=by
 have h:=fun O=>zbI O x.p.alpha e (by simp only[zas];omega) hs
 obtain⟨⟨al,st,mk,es⟩,⟨al',st',mk',es'⟩,ob,ct⟩:=x
 simp only at h ⊢
 refine zad Tk Tryz.func58 rfl Tryz.call58 Tryz.ntmps58 (Nat.le_of_ble_eq_true rfl) fun E=>?_
 refine zae Tk Tryz.func58 ?_
 refine zbe Tk Tryz.func58 (zaI ho) ?_
 refine zaf Tk Tryz.func58 (h _) rfl rfl rfl rfl rfl ?_
 refine zak Tk (r:=bb (!decide (e∈al))) rfl rfl rfl trivial rfl rfl ?_
 rfl
def ze3 (x:Sys) (o:Aut) (rows:List (List Int)) (w:List Int):Bool × Int:=
 if (w.length:Int)>4096 then (false,15) else if (w.any fun e=>!decide (e∈x.p.alpha))=true then (false,9) else if genR x.p w=false then (false,0) else (zdt x.ct x.ob o rows w 0 (decide (o.states>0)),0)
set_option maxHeartbeats 8000000 in
theorem zph (O:List Heap) (x:Sys) (o:Aut) (rows:List (List Int)) (w:List Int) (h:smallS x) (hx:gSys x) (ho:gAut o rows.length) (hrl:rows.length≤4096) (hrw:∀ r∈rows,r.Pairwise (· < ·)∧r.length≤1000000) (hw:w.length≤zas):zao Tryz.prog 20 [sysD x,ctlD o rows,ints w] O (.tup [bb (ze3 x o rows w).1,ii (ze3 x o rows w).2]) [] O:=by
 have h1:=fun O=>zqC O x h
 rw[zjA hx] at h1
 have hal:=(zam (zaB hx.p).1).1
 have h2:=fun O hO=>zb6 O w 58 0 3 (fun e=>!decide (e∈x.p.alpha)) hw (fun e _=>ztX _ x e h.p.al hal 2 3 hO)
 have hgp:gAut x.p x.p.states.toNat:=⟨by have:=(zaB hx.p).2.1;omega,h.p,hx.p⟩
 have h3:=fun O=>zkn O x.p _ w hgp hw
 have hct:=fun O e=>zbI O x.ct e (by have:=h.ct;simp only[zas];omega) (zam hx.ct).1
 have hcb:=fun O e=>zbI O x.ob e (by have:=h.ob;simp only[zas];omega) (zam hx.ob).1
 have hst:=fun O s e hs=>zlG O o rows.length s e ho hs
 have hto:=ho.to
 have hev:=ho.ev
 have host:=ho.st
 obtain⟨R,hR⟩:∃ R,R=ze3 x o rows w:=⟨_,rfl⟩
 rw[← hR]
 unfold ze3 at hR
 generalize (w.any fun e=>!decide (e∈x.p.alpha))=b2 at *
 generalize genR x.p w=b3 at *
 clear hgp hal h hx ho
 obtain⟨⟨al,st,mk,eds⟩,⟨al',st',mk',eds'⟩,ob,ct⟩:=x
 obtain⟨oal,ost,omk,oes⟩:=o
 simp only at h1 h2 h3 hct hcb hst hto hev host hR
 refine zat [17] Tk Tryz.func20 rfl Tryz.call20 Tryz.ntmps20 (Nat.le_of_ble_eq_true rfl) fun E=>?_
 refine zae Tk Tryz.func20 ?_
 refine zaf Tk Tryz.func20 (h1 _) rfl rfl rfl rfl rfl ?_
 refine gcF Tk Tryz.func20 rfl ?_
 refine zai Tk Tryz.func20 rfl (fun c1=>?_) (fun c1=>?_)
 ·have c1:(w.length:Int)>4096:=of_decide_eq_true c1
  rw[if_pos c1] at hR
  subst hR
  refine zak Tk (r:=.tup [bb false,ii 15]) rfl rfl rfl trivial rfl rfl ?_
  rfl
 have c1:¬ (w.length:Int)>4096:=of_decide_eq_false c1
 rw[if_neg c1] at hR
 refine zaf Tk Tryz.func20 (h2 _ rfl) rfl rfl rfl rfl rfl ?_
 refine zai Tk Tryz.func20 rfl (fun c2=>?_) (fun c2=>?_)
 ·have c2:b2=true:=c2
  rw[if_pos c2] at hR
  subst hR
  refine zak Tk (r:=.tup [bb false,ii 9]) rfl rfl rfl trivial rfl rfl ?_
  rfl
 have c2:b2=false:=c2
 rw[if_neg (by rw[c2];decide)] at hR
 refine zaf Tk Tryz.func20 (h3 _) rfl rfl rfl rfl rfl ?_
 refine zai Tk Tryz.func20 rfl (fun c3=>?_) (fun c3=>?_)
 ·have c3:b3=false:=notT c3
  rw[if_pos c3] at hR
  subst hR
  refine zak Tk (r:=.tup [bb false,ii 0]) rfl rfl rfl trivial rfl rfl ?_
  rfl
 have c3:b3=true:=notF c3
 rw[if_neg (by rw[c3];decide)] at hR
 refine zaE Tk Tryz.func20 zaM rfl ?_
 refine zaS Tk Tryz.func20 (by kernel_rfl) ?_
 have hkn:decide (ost>0)=true→(0:Int)≤0∧(0:Int)<(rows.length:Int):=fun h=>by have:=of_decide_eq_true h;omega
 have hR2:R=(zdt ct ob ⟨oal,ost,omk,oes⟩ rows (w.drop 0) 0 (decide (ost>0)),0):=hR
 clear hR h1 h2 h3
 generalize decide (ost>0)=kn0 at *
 refine zac ?_
 refine zah (fun y:Nat × Int × Bool=>[(3,.own 0 3 0 0),(4,.own 0 4 0 0),(11,ii y.2.1),(12,bb y.2.2),(43,ints w),(44,ii w.length),(45,ii y.1)])
  (fun _=>[(3,.box (sysC ⟨⟨al,st,mk,eds⟩,⟨al',st',mk',eds'⟩,ob,ct⟩)),(4,.box [ints oal,ii ost,ints omk,edgs oes,.i (zdk rows)])]) (fun _=>O) 90
  (fun y=>y.1≤w.length∧(y.2.2=true→0≤y.2.1∧y.2.1<(rows.length:Int))∧R=(zdt ct ob ⟨oal,ost,omk,oes⟩ rows (w.drop y.1) y.2.1 y.2.2,0)) (fun y=>w.length - y.1) (0,0,kn0)
  ⟨Nat.zero_le _,hkn,hR2⟩ ⟨rfl,rfl,rfl,rfl,rfl,rfl,rfl,trivial⟩ rfl ⟨rfl,rfl,trivial⟩ rfl rfl ?_
 clear hkn hR2 c1 c2 c3
 rintro ⟨j,q,kn⟩ ⟨hj,hq,hno⟩ ih
 simp only at hj hq hno
 refine zae Tk Tryz.func20 ?_
 refine zai Tk Tryz.func20 rfl (fun g1=>?_) (fun g1=>?_)
 ·have h3:j<w.length:=by simpa using g1
  clear g1
  have hj1:ii (IntKind.i64.wrap ((j:Int)+1))=ii ((j+1:Nat):Int):=congrArg ii (zaD h3 hw)
  have ga:(w.map fun x=>[vi x])[(j:Int).toNat]? = some [vi w[j]]:=zaj (f:=fun x=>[vi x]) h3
  have da:w.drop j=w[j]::w.drop (j+1):=List.drop_eq_getElem_cons h3
  rw[da] at hno
  simp only[zdt] at hno
  clear da
  generalize w[j]=e at *
  have d1:=fun O=>hct O e
  have d2:=fun O=>hcb O e
  generalize decide (e∈ct)=B1 at *
  generalize decide (e∈ob)=B2 at *
  refine zag Tk Tryz.func20 (by exact⟨by omega,by show (j:Int)<(w.length:Int);omega⟩) ?_
  refine zap Tk Tryz.func20 (ga) ?_
  apply zbS (P:=R=(if (kn && B2)=true then zdt ct ob ⟨oal,ost,omk,oes⟩ rows (w.drop (j+1)) (if 0≤stp3 oes q e then stp3 oes q e else 0) (decide (0≤stp3 oes q e)) else zdt ct ob ⟨oal,ost,omk,oes⟩ rows (w.drop (j+1)) q kn,0)) (s6:={ σ:=[(3,.own 0 3 0 0),(4,.own 0 4 0 0),(11,ii q),(12,bb kn),(43,ints w),(44,ii w.length),(45,ii j),(14,ii e)],S:=[(3,.box (sysC ⟨⟨al,st,mk,eds⟩,⟨al',st',mk',eds'⟩,ob,ct⟩)),(4,.box [ints oal,ii ost,ints omk,edgs oes,.i (zdk rows)])]::O,n:=90 })
  ·intro J
   refine zaf Tk Tryz.func20 (d1 _) rfl rfl rfl rfl rfl ?_
   refine zaR Tk Tryz.func20 rfl (fun c1=>?_) (fun c1=>?_)
   rotate_left
   ·have hP:R=(if (kn && B2)=true then zdt ct ob ⟨oal,ost,omk,oes⟩ rows (w.drop (j+1)) (if 0≤stp3 oes q e then stp3 oes q e else 0) (decide (0≤stp3 oes q e)) else zdt ct ob ⟨oal,ost,omk,oes⟩ rows (w.drop (j+1)) q kn,0):=by
     rw[hno,show B1=false from c1,Bool.false_and,if_neg (by decide)]
    refine gcF Tk Tryz.func20 rfl ?_
    refine zav ?_
    refine zaz (J hP) ⟨rfl,rfl,rfl,rfl,rfl,rfl,rfl,rfl,trivial⟩ rfl ⟨rfl,rfl,trivial⟩ rfl rfl
   have c1:B1=true:=c1
   refine zaR Tk Tryz.func20 rfl (fun c2=>?_) (fun c2=>?_)
   ·have c2:kn=false:=by simpa using c2
    have hP:R=(false,0):=by rw[hno,c1,c2];rfl
    rw[hP]
    refine gcT Tk Tryz.func20 rfl ?_
    refine zak Tk (r:=.tup [bb false,ii 0]) rfl rfl rfl trivial rfl rfl ?_
    rfl
   have c2:kn=true:=by simpa using c2
   have hq2:=hq c2
   obtain⟨k,hk⟩:∃ k:Nat,q=k:=⟨q.toNat,by omega⟩
   have hkl:k<rows.length:=by omega
   have gr:(rows.map fun r=>[zbn r])[(q:Int).toNat]? = some [zbn rows[k]]:=by rw[hk];exact zaj (f:=fun r=>[zbn r]) hkl
   have hgd:rows.getD q.toNat []=rows[k]:=by rw[hk,Int.toNat_natCast,List.getD_eq_getElem?_getD,List.getElem?_eq_getElem hkl];rfl
   have hro:=hrw _ (List.getElem_mem hkl)
   have d3:=fun O=>zbI O rows[k] e (by have:=hro.2;simp only[zas];omega) hro.1
   rw[hgd] at hno
   generalize rows[k]=row at *
   generalize decide (e∈row)=B3 at *
   refine zag Tk Tryz.func20 (by exact hq2) ?_
   refine zap Tk Tryz.func20 (gr) ?_
   refine zaf Tk Tryz.func20 (d3 _) rfl rfl rfl rfl rfl ?_
   refine zai Tk Tryz.func20 rfl (fun c3=>?_) (fun c3=>?_)
   ·have c3:B3=false:=by simpa using c3
    have hP:R=(false,0):=by rw[hno,c1,c3,Bool.true_and,Bool.not_false,Bool.or_true,if_pos rfl]
    rw[hP]
    refine zak Tk (r:=.tup [bb false,ii 0]) rfl rfl rfl trivial rfl rfl ?_
    rfl
   ·have c3:B3=true:=by simpa using c3
    have hP:R=(if (kn && B2)=true then zdt ct ob ⟨oal,ost,omk,oes⟩ rows (w.drop (j+1)) (if 0≤stp3 oes q e then stp3 oes q e else 0) (decide (0≤stp3 oes q e)) else zdt ct ob ⟨oal,ost,omk,oes⟩ rows (w.drop (j+1)) q kn,0):=by
     rw[hno,c1,c2,c3,if_neg (by decide)]
    refine zav ?_
    refine zaz (J hP) ⟨rfl,rfl,rfl,rfl,rfl,rfl,rfl,rfl,trivial⟩ rfl ⟨rfl,rfl,trivial⟩ rfl rfl
  intro hP
  clear hno d1
  refine zae Tk Tryz.func20 ?_
  refine g_go Tk Tryz.func20 ?_
  refine zaR Tk Tryz.func20 rfl (fun c1=>?_) (fun c1=>?_)
  ·have c1:kn=true:=by simpa using c1
   have hq2:=hq c1
   rw[c1,Bool.true_and] at hP
   refine zaf Tk Tryz.func20 (d2 _) rfl rfl rfl rfl rfl ?_
   refine zai Tk Tryz.func20 rfl (fun c2=>?_) (fun c2=>?_)
   ·have c2:B2=true:=c2
    rw[if_pos c2] at hP
    have h5:=fun O=>hst O q e hq2
    unfold stpT at h5
    simp only at h5
    have hin:0≤stp3 oes q e→stp3 oes q e<(rows.length:Int)∧e∈oal:=fun h=>⟨(hto _ (zb3 h)).2,hev _ (zb3 h)⟩
    generalize stp3 oes q e=t at *
    by_cases ht:0≤t
    ·rw[if_pos ht,decide_eq_true ht] at hP
     have hin:=hin ht
     simp only[ht,if_true,decide_true,hin.2] at h5
     refine zaf Tk Tryz.func20 (h5 _) rfl rfl rfl rfl rfl ?_
     refine gkT Tk Tryz.func20 rfl ?_
     refine zac ?_
     refine ih (j+1,t,true) _ _ ⟨h3,fun _=>⟨ht,hin.1⟩,hP⟩ (by simp only;omega) ⟨rfl,rfl,rfl,rfl,rfl,rfl,hj1,trivial⟩ rfl ⟨rfl,rfl,trivial⟩ rfl rfl
    ·rw[if_neg ht,decide_eq_false ht] at hP
     simp only[ht,if_false,decide_false] at h5
     refine zaf Tk Tryz.func20 (h5 _) rfl rfl rfl rfl rfl ?_
     refine gkF Tk Tryz.func20 rfl ?_
     refine zac ?_
     refine ih (j+1,0,false) _ _ ⟨h3,fun h=>absurd (show false=true from h) (by decide),hP⟩ (by simp only;omega) ⟨rfl,rfl,rfl,rfl,rfl,rfl,hj1,trivial⟩ rfl ⟨rfl,rfl,trivial⟩ rfl rfl
   ·have c2:B2=false:=c2
    rw[c2,if_neg (by decide)] at hP
    rw[c1] at ih
    refine zac ?_
    refine ih (j+1,q,true) _ _ ⟨h3,fun _=>hq2,hP⟩ (by simp only;omega) ⟨rfl,rfl,rfl,by rw[c1];rfl,rfl,rfl,hj1,trivial⟩ rfl ⟨rfl,rfl,trivial⟩ rfl rfl
  ·have c1:kn=false:=by simpa using c1
   rw[c1,Bool.false_and,if_neg (by decide)] at hP
   refine gcF Tk Tryz.func20 rfl ?_
   refine zac ?_
   refine ih (j+1,q,false) _ _ ⟨h3,fun h=>absurd (show false=true from h) (by decide),hP⟩ (by simp only;omega) ⟨rfl,rfl,rfl,by rw[c1];rfl,rfl,rfl,hj1,trivial⟩ rfl ⟨rfl,rfl,trivial⟩ rfl rfl
 ·have h3:w.length≤j:=by simpa using g1
  rw[List.drop_eq_nil_of_le h3] at hno
  simp only[zdt] at hno
  subst hno
  refine zak Tk (r:=.tup [bb true,ii 0]) rfl rfl rfl trivial rfl rfl ?_
  rfl
end Go.AI


namespace Go.AI
open Go.Proofs
set_option maxRecDepth 20000
theorem zrU {x:Sys} {o:Aut} {rows:List (List Int)} {w:List Int} (hw:w.length≤4096) (h:∀ e∈w,e∈x.p.alpha):ze3 x o rows w=((genR x.p w && zdt x.ct x.ob o rows w 0 (decide (0<o.states))),0):=by
 unfold ze3
 rw[if_neg (by omega),if_neg (by simp only[List.any_eq_true,Bool.not_eq_true',decide_eq_false_iff_not,not_exists,not_and];exact fun e he hn=>hn (h e he))]
 cases genR x.p w with
 | false=>rw[if_pos rfl];rfl
 | true=>rw[if_neg (by decide)];rfl
theorem zvC {x:Sys} (h:obOk x):gAut (esR x).1 (ctlR x (lpR x).1 (esR x).2).length∧(ctlR x (lpR x).1 (esR x).2).length≤4096∧∀ r∈ctlR x (lpR x).1 (esR x).2,r.Pairwise (· < ·)∧r.length≤1000000:=by
 have hl:(ctlR x (lpR x).1 (esR x).2).length=(esR x).2.length:=by unfold ctlR;rw[List.length_map]
 refine⟨by rw[hl];exact h.tn.go,by rw[hl];have:=h.tn.el;omega,fun r hr=>?_⟩
 obtain⟨E,_,rfl⟩:=List.mem_map.1 hr
 exact⟨(zam h.hx.ct).1.filter _,Nat.le_trans (List.length_filter_le _ _) h.sm.ct⟩
end Go.AI


namespace Go.AI
open Go.Proofs
set_option maxRecDepth 20000
theorem ztY (O:List Heap) (x:Sys) (e:Int) (hl:x.p.alpha.length≤1000000) (d nm:Nat) (ho:zaa O d nm=some (.box (sysC x))):zao Tryz.prog 48 [ii e,.own d nm 0 0] O (bb (!decide (e∈x.p.alpha))) [] O:=by
 have h:=fun O=>zaV O x.p.alpha e (by simp only[zas];omega)
 obtain⟨⟨al,st,mk,es⟩,⟨al',st',mk',es'⟩,ob,ct⟩:=x
 simp only at h ⊢
 refine zad Tk Tryz.func48 rfl Tryz.call48 Tryz.ntmps48 (Nat.le_of_ble_eq_true rfl) fun E=>?_
 refine zae Tk Tryz.func48 ?_
 refine zbe Tk Tryz.func48 (zaI ho) ?_
 refine zaf Tk Tryz.func48 (h _) rfl rfl rfl rfl rfl ?_
 refine zak Tk (r:=bb (!decide (e∈al))) rfl rfl rfl trivial rfl rfl ?_
 rfl
def cnR (es:List Edg) (ct ob:List Int) (o:Aut) (rows:List (List Int)):List Int→Int→Int→Bool
 | [],_,_=>true
 | e::r,s,q=>if (decide (e∈ct) && (decide (q<0) || !decide (e∈rows.getD q.toNat [])))=true then false
  else if stp3 es s e<0 then false else cnR es ct ob o rows r (stp3 es s e) (if (decide (e∈ob) && decide (0≤q))=true then stp3 o.edges q e else q)
theorem zml {es:List Edg} {ct ob:List Int} {o:Aut} {rows:List (List Int)}:∀ (w:List Int) (s q q':Int) (kn:Bool),0≤s→(kn=true→q' = q∧0≤q)→(kn=false→q<0) →
  cnR es ct ob o rows w s q=(decide (0≤runI es s w) && zdt ct ob o rows w q' kn)
 | [],s,q,q',kn,hs,_,_=>by
  simp only[cnR,zdt,runI,Bool.and_true]
  exact (decide_eq_true hs).symm
 | e::r,s,q,q',kn,hs,h1,h2=>by
  have hc:(decide (e∈ct) && (decide (q<0) || !decide (e∈rows.getD q.toNat [])))=(decide (e∈ct) && (!kn || !decide (e∈rows.getD q'.toNat []))):=by
   cases kn with
   | true=>
    obtain⟨e1,e2⟩:=h1 rfl
    rw[e1,decide_eq_false (show ¬ q<0 by omega)]
    rfl
   | false=>
    rw[decide_eq_true (h2 rfl)]
    simp
  simp only[cnR,zdt]
  rw[hc]
  by_cases c1:(decide (e∈ct) && (!kn || !decide (e∈rows.getD q'.toNat [])))=true
  ·rw[if_pos c1,if_pos c1,Bool.and_false]
  ·rw[if_neg c1,if_neg c1]
   by_cases c2:stp3 es s e<0
   ·rw[if_pos c2,show runI es s (e::r) = -1 from by simp only[runI];rw[if_pos c2],decide_eq_false (by decide),Bool.false_and]
   ·rw[if_neg c2,show runI es s (e::r)=runI es (stp3 es s e) r from by simp only[runI];rw[if_neg c2]]
    cases kn with
    | true=>
     obtain⟨e1,e2⟩:=h1 rfl
     subst e1
     rw[decide_eq_true e2,Bool.and_true,Bool.true_and]
     by_cases c3:decide (e∈ob)=true
     ·rw[if_pos c3,if_pos c3]
      refine zml r _ _ _ _ (by omega) (fun h=>?_) (fun h=>?_)
      ·have:=of_decide_eq_true h
       exact⟨if_pos this,this⟩
      ·have:=of_decide_eq_false h
       omega
     ·rw[if_neg c3,if_neg c3]
      exact zml r _ _ _ _ (by omega) (fun _=>⟨rfl,e2⟩) (fun h=>by cases h)
    | false=>
     have e2:=h2 rfl
     rw[decide_eq_false (show ¬ 0≤q by omega),Bool.and_false,if_neg (by decide),Bool.false_and,if_neg (by decide)]
     exact zml r _ _ _ _ (by omega) (fun h=>by cases h) (fun _=>e2)
abbrev cnW (x:Sys) (o:Aut) (rows:List (List Int)) (w:List Int):Bool:=cnR x.p.edges x.ct x.ob o rows w 0 (if o.states=0 then -1 else 0) && decide (x.p.states>0)
theorem zuA {x:Sys} (hx:gSys x) {o:Aut} {rows:List (List Int)} (ho:0≤o.states) {w:List Int} (hw:w.length≤4096) (h:∀ e∈w,e∈x.p.alpha):ze3 x o rows w=(cnW x o rows w,0):=by
 rw[zrU hw h]
 have:=(zaB hx.p).2.1
 have he:=zml (es:=x.p.edges) (ct:=x.ct) (ob:=x.ob) (o:=o) (rows:=rows) w 0 (if o.states=0 then -1 else 0) 0 (decide (0<o.states)) (Int.le_refl _) (fun h=>by
  have:=of_decide_eq_true h
  rw[if_neg (by omega)]
  exact⟨rfl,Int.le_refl _⟩) (fun h=>by
  have:=of_decide_eq_false h
  rw[if_pos (by omega)]
  decide)
 unfold cnW
 rw[he]
 unfold genR
 refine congrArg (fun b=>(b,(0:Int))) ?_
 have h2:decide (x.p.states>0)=decide (x.p.states≠0):=decide_eq_decide.2 (by omega)
 rw[h2]
 cases decide (x.p.states≠0) <;> simp
set_option maxHeartbeats 16000000 in
theorem zwj (O:List Heap) (x:Sys) (o:Aut) (rows:List (List Int)) (w:List Int) (h:smallS x) (ho:gAut o rows.length) (hrw:∀ r∈rows,r.length≤1000000) (hw:w.length≤zas):zao Tryz.prog 49 [sysD x,ctlD o rows,ints w] O (bb (cnW x o rows w)) [] O:=by
 have hct:=fun O e=>zaV O x.ct e (by have:=h.ct;simp only[zas];omega)
 have hcb:=fun O e=>zaV O x.ob e (by have:=h.ob;simp only[zas];omega)
 have hrs:=fun O r e (hr:r∈rows)=>zaV O r e (by have:=hrw r hr;simp only[zas];omega)
 have s1:=fun O s e=>zfq O x.p s e h.p.ed
 have s2:=fun O s e=>zfq O o s e ho.sm.ed
 have hto:=ho.to
 have host:=ho.st
 clear h ho hrw
 unfold cnW
 obtain⟨⟨al,st,mk,es⟩,⟨al',st',mk',es'⟩,ob,ct⟩:=x
 obtain⟨oal,ost,omk,oes⟩:=o
 simp only at hct hcb s1 s2 hto host ⊢
 have hq1:∀ q e,(q<(rows.length:Int))→stp3 oes q e<(rows.length:Int):=fun q e hq=>by
  by_cases hn:0≤stp3 oes q e
  ·exact (hto _ (zb3 hn)).2
  ·omega
 obtain⟨q0,hq0⟩:∃ q0:Int,q0=if ost=0 then -1 else 0:=⟨_,rfl⟩
 have hq0l:q0<(rows.length:Int):=by rw[hq0];split <;> omega
 rw[← hq0]
 obtain⟨R,hR⟩:∃ R,R=cnR es ct ob ⟨oal,ost,omk,oes⟩ rows (w.drop 0) 0 q0:=⟨_,rfl⟩
 have hR':cnR es ct ob ⟨oal,ost,omk,oes⟩ rows w 0 q0=R:=hR.symm
 rw[hR']
 clear hR'
 refine zat [4,9] Tk Tryz.func49 rfl Tryz.call49 Tryz.ntmps49 (Nat.le_of_ble_eq_true rfl) fun E=>?_
 refine zae Tk Tryz.func49 ?_
 apply zbS (P:=True) (s6:={ σ:=[(2,ints w),(3,.own 0 3 0 0),(4,.own 0 4 0 0),(7,ii 0),(8,ii q0)],S:=[(3,.box (sysC ⟨⟨al,st,mk,es⟩,⟨al',st',mk',es'⟩,ob,ct⟩)),(4,.box [ints oal,ii ost,ints omk,edgs oes,.i (zdk rows)])]::O,n:=64 })
 ·intro J
  refine zai Tk Tryz.func49 rfl (fun c0=>?_) (fun c0=>?_)
  ·have c0:ost=0:=of_decide_eq_true c0
   rw[if_pos c0] at hq0
   refine zav ?_
   refine zaz (J trivial) ⟨rfl,rfl,rfl,rfl,by rw[hq0];rfl,trivial⟩ rfl ⟨rfl,rfl,trivial⟩ rfl rfl
  ·have c0:¬ ost=0:=of_decide_eq_false c0
   rw[if_neg c0] at hq0
   refine zav ?_
   refine zaz (J trivial) ⟨rfl,rfl,rfl,rfl,by rw[hq0];rfl,trivial⟩ rfl ⟨rfl,rfl,trivial⟩ rfl rfl
 intro _
 refine zae Tk Tryz.func49 ?_
 refine g_go Tk Tryz.func49 ?_
 refine zac ?_
 refine zah (fun y:Nat × Int × Int=>[(3,.own 0 3 0 0),(4,.own 0 4 0 0),(7,ii y.2.1),(8,ii y.2.2),(15,ints w),(16,ii w.length),(17,ii y.1)])
  (fun _=>[(3,.box (sysC ⟨⟨al,st,mk,es⟩,⟨al',st',mk',es'⟩,ob,ct⟩)),(4,.box [ints oal,ii ost,ints omk,edgs oes,.i (zdk rows)])]) (fun _=>O) 64
  (fun y=>y.1≤w.length∧y.2.2<(rows.length:Int)∧R=cnR es ct ob ⟨oal,ost,omk,oes⟩ rows (w.drop y.1) y.2.1 y.2.2) (fun y=>w.length - y.1) (0,0,q0)
  ⟨Nat.zero_le _,hq0l,hR⟩ ⟨rfl,rfl,rfl,rfl,rfl,rfl,rfl,trivial⟩ rfl ⟨rfl,rfl,trivial⟩ rfl rfl ?_
 clear hq0l hR hq0
 rintro ⟨j,s,q⟩ ⟨hj,hq,hno⟩ ih
 simp only at hj hq hno
 refine zae Tk Tryz.func49 ?_
 refine zai Tk Tryz.func49 rfl (fun g1=>?_) (fun g1=>?_)
 ·have h3:j<w.length:=by simpa using g1
  clear g1
  have hj1:ii (IntKind.i64.wrap ((j:Int)+1))=ii ((j+1:Nat):Int):=congrArg ii (zaD h3 hw)
  have ga:(w.map fun x=>[vi x])[(j:Int).toNat]? = some [vi w[j]]:=zaj (f:=fun x=>[vi x]) h3
  rw[List.drop_eq_getElem_cons h3] at hno
  simp only[cnR] at hno
  generalize w[j]=e at *
  have d1:=fun O=>s1 O s e
  have d2:=fun O=>s2 O q e
  have dc:=fun O=>hct O e
  have db:=fun O=>hcb O e
  have hq2:=hq1 q e hq
  generalize stp3 es s e=s' at *
  generalize stp3 oes q e=q2 at *
  generalize decide (e∈ct)=b1 at *
  generalize decide (e∈ob)=b2 at *
  refine zag Tk Tryz.func49 (by exact⟨by omega,by show (j:Int)<(w.length:Int);omega⟩) ?_
  refine zap Tk Tryz.func49 (ga) ?_
  obtain⟨R1,hR1⟩:∃ R1,R1=if s' < 0 then false else cnR es ct ob ⟨oal,ost,omk,oes⟩ rows (w.drop (j+1)) s' (if (b2 && decide (0≤q))=true then q2 else q):=⟨_,rfl⟩
  rw[← hR1] at hno
  apply zbS (P:=R=R1) (s6:={ σ:=[(3,.own 0 3 0 0),(4,.own 0 4 0 0),(7,ii s),(8,ii q),(15,ints w),(16,ii w.length),(17,ii j),(10,ii e)],S:=[(3,.box (sysC ⟨⟨al,st,mk,es⟩,⟨al',st',mk',es'⟩,ob,ct⟩)),(4,.box [ints oal,ii ost,ints omk,edgs oes,.i (zdk rows)])]::O,n:=64 })
  ·intro J
   refine zaf Tk Tryz.func49 (dc _) rfl rfl rfl rfl rfl ?_
   refine zaR Tk Tryz.func49 rfl (fun c1=>?_) (fun c1=>?_)
   ·have c1:b1=true:=c1
    rw[c1,Bool.true_and] at hno
    refine zaR Tk Tryz.func49 rfl (fun c2=>?_) (fun c2=>?_)
    ·have c2:q<0:=of_decide_eq_true c2
     rw[decide_eq_true c2,Bool.true_or,if_pos rfl] at hno
     subst hno
     refine gcT Tk Tryz.func49 rfl ?_
     refine zak Tk (r:=bb false) rfl rfl rfl trivial rfl rfl ?_
     rfl
    ·have c2:¬ q<0:=of_decide_eq_false c2
     rw[decide_eq_false c2,Bool.false_or] at hno
     have hqn:0≤q∧q<(rows.length:Int):=⟨by omega,hq⟩
     have hql:q.toNat<rows.length:=by omega
     have gq:(rows.map fun r=>[zbn r])[q.toNat]? = some [zbn rows[q.toNat]]:=by rw[List.getElem?_map,List.getElem?_eq_getElem hql];rfl
     have hgd:rows.getD q.toNat []=rows[q.toNat]:=by rw[List.getD_eq_getElem?_getD,List.getElem?_eq_getElem hql];rfl
     rw[hgd] at hno
     have dr:=fun O=>hrs O rows[q.toNat] e (List.getElem_mem hql)
     generalize rows[q.toNat]=row at *
     generalize decide (e∈row)=b3 at *
     refine zag Tk Tryz.func49 (by exact hqn) ?_
     refine zap Tk Tryz.func49 (gq) ?_
     refine zaf Tk Tryz.func49 (dr _) rfl rfl rfl rfl rfl ?_
     refine zai Tk Tryz.func49 rfl (fun c3=>?_) (fun c3=>?_)
     ·have c3:b3=false:=notT c3
      rw[c3,if_pos (by decide)] at hno
      subst hno
      refine zak Tk (r:=bb false) rfl rfl rfl trivial rfl rfl ?_
      rfl
     ·have c3:b3=true:=notF c3
      rw[c3,if_neg (by decide)] at hno
      refine zav ?_
      refine zaz (J hno) ⟨rfl,rfl,rfl,rfl,rfl,rfl,rfl,rfl,trivial⟩ rfl ⟨rfl,rfl,trivial⟩ rfl rfl
   ·have c1:b1=false:=c1
    rw[c1,Bool.false_and,if_neg (by decide)] at hno
    refine gcF Tk Tryz.func49 rfl ?_
    refine zav ?_
    refine zaz (J hno) ⟨rfl,rfl,rfl,rfl,rfl,rfl,rfl,rfl,trivial⟩ rfl ⟨rfl,rfl,trivial⟩ rfl rfl
  intro hno'
  clear hno
  rw[hR1] at hno'
  clear hR1 R1
  have hno:=hno'
  clear hno'
  refine zae Tk Tryz.func49 ?_
  refine g_go Tk Tryz.func49 ?_
  refine zaf Tk Tryz.func49 (d1 _) rfl rfl rfl rfl rfl ?_
  refine zai Tk Tryz.func49 rfl (fun c4=>?_) (fun c4=>?_)
  ·have c4:s' < 0:=of_decide_eq_true c4
   rw[if_pos c4] at hno
   subst hno
   refine zak Tk (r:=bb false) rfl rfl rfl trivial rfl rfl ?_
   rfl
  ·have c4:¬ s' < 0:=of_decide_eq_false c4
   rw[if_neg c4] at hno
   refine zaf Tk Tryz.func49 (db _) rfl rfl rfl rfl rfl ?_
   refine zaR Tk Tryz.func49 rfl (fun c5=>?_) (fun c5=>?_)
   ·have c5:b2=true:=c5
    rw[c5,Bool.true_and] at hno
    refine zai Tk Tryz.func49 rfl (fun c6=>?_) (fun c6=>?_)
    ·have c6:q ≥ 0:=of_decide_eq_true c6
     rw[if_pos (decide_eq_true c6)] at hno
     refine zaf Tk Tryz.func49 (d2 _) rfl rfl rfl rfl rfl ?_
     refine zac ?_
     exact ih (j+1,s',q2) _ _ ⟨h3,hq2,hno⟩ (by simp only;omega) ⟨rfl,rfl,rfl,rfl,rfl,rfl,hj1,trivial⟩ rfl ⟨rfl,rfl,trivial⟩ rfl rfl
    ·have c6:¬ q ≥ 0:=of_decide_eq_false c6
     rw[if_neg (by rw[decide_eq_false (show ¬ 0≤q by omega)];decide)] at hno
     refine zac ?_
     exact ih (j+1,s',q) _ _ ⟨h3,hq,hno⟩ (by simp only;omega) ⟨rfl,rfl,rfl,rfl,rfl,rfl,hj1,trivial⟩ rfl ⟨rfl,rfl,trivial⟩ rfl rfl
   ·have c5:b2=false:=c5
    rw[c5,Bool.false_and,if_neg (by decide)] at hno
    refine gcF Tk Tryz.func49 rfl ?_
    refine zac ?_
    exact ih (j+1,s',q) _ _ ⟨h3,hq,hno⟩ (by simp only;omega) ⟨rfl,rfl,rfl,rfl,rfl,rfl,hj1,trivial⟩ rfl ⟨rfl,rfl,trivial⟩ rfl rfl
 ·have h3:w.length≤j:=by simpa using g1
  rw[List.drop_eq_nil_of_le h3] at hno
  simp only[cnR] at hno
  subst hno
  refine zak Tk (r:=bb (decide (st>0))) rfl rfl rfl trivial rfl rfl ?_
  rfl
end Go.AI


namespace Go.AI
open Go.Proofs
set_option maxRecDepth 20000
end Go.AI


namespace Go.AI
open Go.Proofs
set_option maxRecDepth 20000
end Go.AI
