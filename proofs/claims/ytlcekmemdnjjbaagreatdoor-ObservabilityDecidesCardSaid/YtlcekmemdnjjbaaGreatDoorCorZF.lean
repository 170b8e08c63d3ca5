/- The layer of abstract runs, part 32. -/
import Derived.Test.YtlcekmemdnjjbaaGreatDoorCorZE
import Derived.Test.YtlcekmemdnjjbaaGreatDoorRows
import Derived.KernelRfl
import Derived.JoinedOf
import Derived.SevenTiedAt
set_option linter.unusedSimpArgs false
set_option linter.unusedVariables false
set_option linter.all false

set_option maxHeartbeats 4000000
namespace Go.AI
open Go.Proofs
set_option maxRecDepth 20000
abbrev bhOk (x:Sys) (la:Aut) (ps:List (Int × Int)) (e:Int) (p:Bool) (y:Fd):Bool:=canF x ps y.1 e && (zeM la y.1 e==p)
def bhS (ok:Fd→Bool) (acc:List Int × Bool) (y:Fd):List Int × Bool:=if ok y=true∧(acc.2=false∨cmpW y.2 acc.1<0) then (y.2,true) else acc
def bhR (ok:Fd→Bool) (L:List Fd):List Int × Bool:=L.foldl (bhS ok) ([],false)
theorem ztL {ok:Fd→Bool}:∀ (L:List Fd) (acc:List Int × Bool),((L.foldl (bhS ok) acc).2=true ↔ acc.2=true∨∃ y∈L,ok y=true)
 | [],acc=>by simp
 | y::r,acc=>by
  rw[List.foldl_cons,ztL r]
  unfold bhS
  by_cases h1:ok y=true
  ·by_cases h2:acc.2=false∨cmpW y.2 acc.1<0
   ·rw[if_pos ⟨h1,h2⟩]
    exact⟨fun _=>.inr ⟨y,by simp,h1⟩,fun _=>.inl rfl⟩
   ·rw[if_neg (fun h=>h2 h.2)]
    have h3:acc.2=true:=by cases h:acc.2;exact absurd (.inl h) h2;rfl
    exact⟨fun _=>.inl h3,fun _=>.inl h3⟩
  ·rw[if_neg (fun h=>h1 h.1)]
   constructor
   ·rintro (h | ⟨z,hz,h⟩)
    ·exact .inl h
    ·exact .inr ⟨z,by simp[hz],h⟩
   ·rintro (h | ⟨z,hz,h⟩)
    ·exact .inl h
    ·rcases List.mem_cons.1 hz with rfl | hz
     ·exact absurd h h1
     ·exact .inr ⟨z,hz,h⟩
theorem ztM {ok:Fd→Bool} {L:List Fd}:(bhR ok L).2=true ↔ ∃ y∈L,ok y=true:=by
 unfold bhR
 rw[ztL]
 simp
theorem zu5 {ok:Fd→Bool} {acc:List Int × Bool} {y:Fd} {B:Nat} (ha:acc.1.length≤B) (hy:y.2.length≤B):(bhS ok acc y).1.length≤B:=by
 unfold bhS
 split
 ·exact hy
 ·exact ha
theorem zvq {ps:List (Int × Int)} {s:Int} (h:0≤s∧s<(ps.length:Int)):(ps.map prI)[s.toNat]? = some (prI (ps.getD s.toNat (0,0))):=by
 have hl:s.toNat<ps.length:=by omega
 rw[List.getElem?_map,List.getElem?_eq_getElem hl,List.getD_eq_getElem?_getD,List.getElem?_eq_getElem hl]
 rfl
set_option maxHeartbeats 16000000 in
theorem zs0 (O:List Heap) (x:Sys) (h:smallS x) (hx:gSys x) (hV0:(lpV x).length≤4095) (z:Es2) (e:Int) (p:Bool) (hl:z.2.length≤1000000) (hr:∀ y∈z.2,(0≤y.1∧y.1<((lpR x).2.length:Int))∧y.2.length≤1000000) :
  zan Tryz.prog 92 [sysD x,esD z,ii e,bb p] O (.tup [ints (bhR (bhOk x (lpR x).1 (lpR x).2 e p) z.2).1,bb (bhR (bhOk x (lpR x).1 (lpR x).2 e p) z.2).2]) [] O:=by
 have h1:=fun O=>zp1 O x h hx hV0
 have s1:=fun O s e=>zhk O x.p s e h.p.ed
 have hga:=(lp_g hx hV0).1
 have s2:=fun O s e=>zhk O (lpR x).1 s e hga.sm.ed
 have hok:∀ y,bhOk x (lpR x).1 (lpR x).2 e p y=(decide (0≤stp3 x.p.edges (((lpR x).2.getD y.1.toNat (0,0)).1) e) && (decide (0≤stp3 (lpR x).1.edges y.1 e)==p)):=fun y=>rfl
 generalize bhOk x (lpR x).1 (lpR x).2 e p=ok at *
 clear hga h hx hV0
 generalize lpR x=L at *
 obtain⟨⟨al,st,mk,es⟩,⟨al',st',mk',es'⟩,ob,ct⟩:=x
 obtain⟨⟨lal,lst,lmk,leds⟩,ps⟩:=L
 obtain⟨sts,fs⟩:=z
 simp only at hl hr h1 s1 s2 hok ⊢
 generalize hR:bhR ok fs=R at *
 refine zad Tk Tryz.func92 rfl Tryz.call92 Tryz.ntmps92 (Nat.le_of_ble_eq_true rfl) fun E=>?_
 refine zae Tk Tryz.func92 ?_
 refine zaf Tk Tryz.func92 (h1 _) rfl rfl rfl rfl rfl ?_
 refine zac ?_
 refine zaq (zwa 12 (d:=ints []) (by exact zft zb1)) ?_
 refine zah (fun q:Nat × List Int × Bool=>[(2,ii e),(3,bb p),(4,.own 0 4 0 0),(5,.own 0 5 0 0),(10,.own 0 10 0 0),(11,.i (prsI ps)),(12,ints q.2.1),(13,bb q.2.2),(22,fdsD fs),(23,ii fs.length),(24,ii q.1)])
  (fun _=>[(4,.box (sysC ⟨⟨al,st,mk,es⟩,⟨al',st',mk',es'⟩,ob,ct⟩)),(5,.box [ints sts,fdsD fs]),(10,.box [ints lal,ii lst,ints lmk,edgs leds])]) (fun _=>O) 63
  (fun q=>q.1≤fs.length∧(fs.drop q.1).foldl (bhS ok) q.2=R∧q.2.1.length≤1000000) (fun q=>fs.length - q.1) (0,[],false) ⟨Nat.zero_le _,hR,Nat.zero_le _⟩ ⟨rfl,rfl,rfl,rfl,rfl,rfl,rfl,rfl,rfl,rfl,rfl,trivial⟩ rfl ⟨rfl,rfl,rfl,trivial⟩ rfl rfl ?_
 rintro ⟨i,out,is⟩ ⟨hi,hno,hol⟩ ih
 simp only at hi hno hol
 clear hR
 refine zae Tk Tryz.func92 ?_
 refine zai Tk Tryz.func92 rfl (fun g1=>?_) (fun g1=>?_)
 ·have h3:i<fs.length:=by simpa using g1
  clear g1
  have hi1:ii (IntKind.i64.wrap ((i:Int)+1))=ii ((i+1:Nat):Int):=congrArg ii (zaC (n:=1000001) (by omega) (by decide))
  have gr:(fs.map fdI)[(i:Int).toNat]? = some (fdI fs[i]):=zaj h3
  rw[List.drop_eq_getElem_cons h3,List.foldl_cons] at hno
  have hry:=hr fs[i] (List.getElem_mem h3)
  generalize fs[i]=y at *
  have hok1:=hok y
  have hlS:=zu5 (ok:=ok) (acc:=(out,is)) hol hry.2
  have hSd:bhS ok (out,is) y=if ok y=true∧(is=false∨cmpW y.2 out<0) then (y.2,true) else (out,is):=rfl
  have gp:=zvq hry.1
  obtain⟨hry1,hry2⟩:=hry
  obtain⟨s,w⟩:=y
  simp only at hok1 hSd gp hry1 hry2
  generalize ps.getD s.toNat (0,0)=z at *
  obtain⟨z1,z2⟩:=z
  simp only at hok1
  have d1:=fun O=>s1 O z1 e
  have d2:=fun O=>s2 O s e
  have dc:=fun O=>zmI O w out hry2 hol
  generalize stp3 es z1 e=t1 at *
  generalize stp3 leds s e=t2 at *
  generalize bhS ok (out,is) (s,w)=acc' at *
  generalize ok (s,w)=okv at *
  generalize cmpW w out=cw at *
  refine zag Tk Tryz.func92 (by exact⟨by omega,by show (i:Int)<(fs.length:Int);omega⟩) ?_
  refine zap Tk Tryz.func92 (gr) ?_
  refine zaF Tk Tryz.func92 zaM rfl ?_
  refine zaz Tk (by exact hry1) ?_
  refine zaz Tk (by exact⟨by decide,by decide⟩) ?_
  refine zaK Tk (gp) ?_
  refine zaU Tk (fun _=>d1 _) rfl rfl rfl ?_
  refine zch Tk (fun c1=>?_) (fun c1=>?_)
  ·have c1:t1<0:=of_decide_eq_true c1
   rw[decide_eq_false (show ¬ 0≤t1 by omega),Bool.false_and] at hok1
   rw[hok1,if_neg (by simp)] at hSd
   subst hSd
   refine zaQ Tk Tryz.func92 (by kernel_rfl) ?_
   refine gcT Tk Tryz.func92 rfl ?_
   refine zac ?_
   refine ih (i+1,out,is) _ _ ⟨h3,hno,hol⟩ (by simp only;omega) ⟨rfl,rfl,rfl,rfl,rfl,rfl,rfl,rfl,rfl,rfl,hi1,trivial⟩ rfl ⟨rfl,rfl,rfl,trivial⟩ rfl rfl
  ·have c1:¬ t1<0:=of_decide_eq_false c1
   rw[decide_eq_true (show 0≤t1 by omega),Bool.true_and] at hok1
   refine zaU Tk (fun _=>d2 _) rfl rfl rfl ?_
   refine zaQ Tk Tryz.func92 (by kernel_rfl) ?_
   have hc2:decide (0≤t2)=decide (t2 ≥ 0):=rfl
   rw[hc2] at hok1
   clear hc2
   refine zai Tk Tryz.func92 rfl (fun c2=>?_) (fun c2=>?_)
   ·have hk:okv=false:=by
     rw[hok1]
     revert c2
     cases decide (t2 ≥ 0) <;> cases p <;> simp
    rw[hk,if_neg (by simp)] at hSd
    subst hSd
    refine zac ?_
    refine ih (i+1,out,is) _ _ ⟨h3,hno,hol⟩ (by simp only;omega) ⟨rfl,rfl,rfl,rfl,rfl,rfl,rfl,rfl,rfl,rfl,hi1,trivial⟩ rfl ⟨rfl,rfl,rfl,trivial⟩ rfl rfl
   ·have hk:okv=true:=by
     rw[hok1]
     revert c2
     cases decide (t2 ≥ 0) <;> cases p <;> simp
    rw[hk] at hSd
    clear hok1 c2 c1 hk hok
    refine zaW Tk Tryz.func92 rfl (fun c3=>?_) (fun c3=>?_)
    ·have c3:is=false:=by
      revert c3
      cases is <;> simp
     rw[if_pos ⟨rfl,.inl c3⟩] at hSd
     subst hSd
     refine gcT Tk Tryz.func92 rfl ?_
     refine zac ?_
     refine ih (i+1,w,true) _ _ ⟨h3,hno,hry2⟩ (by simp only;omega) ⟨rfl,rfl,rfl,rfl,rfl,rfl,rfl,rfl,rfl,rfl,hi1,trivial⟩ rfl ⟨rfl,rfl,rfl,trivial⟩ rfl rfl
    ·have c3:is=true:=by
      revert c3
      cases is <;> simp
     refine zaf Tk Tryz.func92 (dc _) rfl rfl rfl rfl rfl ?_
     refine zai Tk Tryz.func92 rfl (fun c4=>?_) (fun c4=>?_)
     ·have c4:cw<0:=of_decide_eq_true c4
      rw[if_pos ⟨rfl,.inr c4⟩] at hSd
      subst hSd
      refine zac ?_
      refine ih (i+1,w,true) _ _ ⟨h3,hno,hry2⟩ (by simp only;omega) ⟨rfl,rfl,rfl,rfl,rfl,rfl,rfl,rfl,rfl,rfl,hi1,trivial⟩ rfl ⟨rfl,rfl,rfl,trivial⟩ rfl rfl
     ·have c4:¬ cw<0:=of_decide_eq_false c4
      rw[if_neg (by rintro ⟨_,h | h⟩;rw[c3] at h;cases h;exact c4 h)] at hSd
      subst hSd
      refine zac ?_
      refine ih (i+1,out,is) _ _ ⟨h3,hno,hol⟩ (by simp only;omega) ⟨rfl,rfl,rfl,rfl,rfl,rfl,rfl,rfl,rfl,rfl,hi1,trivial⟩ rfl ⟨rfl,rfl,rfl,trivial⟩ rfl rfl
 ·have h3:fs.length≤i:=by simpa using g1
  rw[List.drop_eq_nil_of_le h3] at hno
  simp only[List.foldl_nil] at hno
  subst hno
  refine zak Tk (r:=.tup [ints out,bb is]) rfl rfl rfl trivial rfl rfl ?_
  rfl
end Go.AI


namespace Go.AI
open Go.Proofs
set_option maxRecDepth 20000
section
variable {a:Aut} {n:Nat} {on:List Int} {V:Unf (List Int)}
theorem ztW (h:prjU a n on V) (hn:n≤12) (hal:∀ e∈on,0≤e∧e<32):∀ (m k:Nat),k<m→∀ v,(wrdF a on V.eds V.sts.length)[k]? = some v→∀ y∈v,y.2.length≤13 * (k+1):=by
 have hW:=zhf h
 have hWg:=ztX h hal
 generalize wrdF a on V.eds V.sts.length=W at *
 intro m
 induction m with
 | zero=>intro k hk;omega
 | succ m ih=>
  intro k hk v hv
  have hv0:=vd0 (a:=a) h.g h.n0
  by_cases h0:k=0
  ·subst h0
   rw[hW.fst] at hv
   obtain rfl:=Option.some.inj hv
   intro y hy
   have:=zki (B:=0) h.g hn hv0 (fun y hy=>by rw[List.mem_singleton.1 hy];exact Nat.le_refl _) y hy
   omega
  ·have hkN:k<W.length:=(List.getElem?_eq_some_iff.1 hv).1
   obtain⟨i,e,Wi,f1,f2,f3,f4⟩:=hW.nxt k (by omega) (by rw[← hW.len];exact hkN)
   have hmem:=List.mem_of_find?_eq_some f1
   obtain⟨k',s',j,g1,g2,g3,g4,g5,g6⟩:=zfU h.hU hmem
   simp only at g2 g3 g4 g5 g6
   obtain rfl:i=k':=by omega
   obtain rfl:k=j:=by omega
   rw[f4] at hv
   obtain rfl:=Option.some.inj hv
   have i0:=ih i (by omega) Wi f3
   obtain⟨i1,i2,i3⟩:=hWg (i+1) i (by omega) s' Wi g1 f3
   have hev:e∈on:=of_decide_eq_true (List.mem_filter.1 g3).2
   have hnv:=zjr (a:=a) h.g (hal e hev) i1
   intro y hy
   have:=zki (B:=13 * (i+1)+1) h.g hn hnv (fun y hy=>by
    obtain⟨z,hz,rfl,_⟩:=(zhx (es:=a.edges) (hal e hev) i1.wrd).snd y hy
    have:=i0 z hz
    simp only[List.length_append,List.length_singleton]
    omega) y hy
   omega
end
theorem ztE {x:Sys} (hx:gSys x) (hV:(lpV x).length≤4095) (hn:(lpR x).2.length≤11) (hel:(esR x).2.length≤4095):∀ z∈esWR x,z.2.length≤1000000∧∀ y∈z.2,(0≤y.1∧y.1<((lpR x).2.length:Int))∧y.2.length≤1000000:=by
 have hga:=(lp_g hx hV).1
 intro z hz
 obtain⟨_,hw⟩:=zdk hx hV hn
 obtain⟨w1,w2,w3⟩:=hw z hz
 have hfew:=RGd.few (a:=(lpR x).1) (on:=[]) (n:=(lpR x).2.length) (l:=z.2) ⟨fun y hy=>RP.base hy,w1.nd,fun z hz=>⟨z,hz,rfl,Nat.le_refl _⟩⟩ (w1.ok hga)
 refine⟨by omega,fun y hy=>⟨w1.rng y hy,?_⟩⟩
 by_cases h0:(lpR x).2.length=0
 ·have he:(esR x).2=[]:=zmE h0
  unfold esWR at hz
  rw[he] at hz
  cases hz
 ·obtain⟨V,hprj,hVs⟩:=zmD hx hV hn h0
  have hes:esR x=(unfA (zbJ (lpR x).1 x.ob) V,V.sts):=by
   unfold esR
   rw[if_neg h0,hprj.hV]
  have hl:=ztW hprj (by omega) (zam hx.ob).2.1
  have hWl:=(zhf hprj).len
  unfold esWR at hz
  rw[hes] at hz hel
  unfold unfA at hz
  simp only at hz hel
  obtain⟨k,hk⟩:=List.getElem?_of_mem hz
  have hk2:=List.getElem?_zip_eq_some.1 hk
  have:=hl (k+1) k (Nat.lt_succ_self k) z.2 hk2.2 y hy
  have hk3:=(List.getElem?_eq_some_iff.1 hk2.1).1
  omega
def zfR (B:Int→Bool→List Int × Bool):List Int→Option Wit
 | []=>none
 | e::r=>if (B e true).2=true∧(B e false).2=true then some ((B e true).1,(B e false).1,e) else zfR B r
def zcW (B:Es2→Int→Bool→List Int × Bool) (ct:List Int):List Es2→Option Wit
 | []=>none
 | z::r=>match zfR (B z) ct with
  | some w=>some w
  | none=>zcW B ct r
abbrev bhB (x:Sys) (z:Es2) (e:Int) (p:Bool):List Int × Bool:=bhR (bhOk x (lpR x).1 (lpR x).2 e p) z.2
noncomputable abbrev witR (x:Sys):Option Wit:=zcW (bhB x) x.ct (esWR x)
set_option maxHeartbeats 16000000 in
theorem zoP (O:List Heap) (x:Sys) (h:smallS x) (hx:gSys x) (hV0:(lpV x).length≤4095) (hn11:(lpR x).2.length≤11) (hel:(esR x).2.length≤4095):zan Tryz.prog 36 [sysD x] O (.tup [.agg (witC ((witR x).getD zWit)),bb (witR x).isSome]) [] O:=by
 have h1:=fun O=>zkT O x h hx hV0 hn11
 have hlen:=ztE hx hV0 hn11 hel
 have hb:=fun O z e p (hz:z∈esWR x)=>zs0 O x h hx hV0 z e p (hlen z hz).1 (hlen z hz).2
 have hb:∀ O z e p,z∈esWR x→zan Tryz.prog 92 [sysD x,esD z,ii e,bb p] O (.tup [ints (bhB x z e p).1,bb (bhB x z e p).2]) [] O:=hb
 have hle:(esWR x).length≤4095:=by rw[(zdk hx hV0 hn11).1.2];exact hel
 have hct:=h.ct
 obtain⟨R,hR⟩:∃ R,R=witR x:=⟨_,rfl⟩
 rw[← hR]
 have hR:R=zcW (bhB x) x.ct ((esWR x).drop 0):=hR
 generalize bhB x=B at *
 generalize esWR x=L at *
 generalize esR x=M at *
 clear h hx hV0 hlen hel hn11
 obtain⟨⟨al,st,mk,es⟩,⟨al',st',mk',es'⟩,ob,ct⟩:=x
 obtain⟨⟨mal,mst,mmk,meds⟩,rows⟩:=M
 simp only at h1 hb hct hR
 refine zad Tk Tryz.func36 rfl Tryz.call36 Tryz.ntmps36 (Nat.le_of_ble_eq_true rfl) fun E=>?_
 refine zae Tk Tryz.func36 ?_
 refine zaf Tk Tryz.func36 (h1 _) rfl rfl rfl rfl rfl ?_
 refine zac ?_
 refine zah (fun i:Nat=>[(1,.own 0 1 0 0),(2,.own 0 2 0 0),(19,zsP L),(20,ii L.length),(21,ii i)]) (fun _=>[(1,.box (sysC ⟨⟨al,st,mk,es⟩,⟨al',st',mk',es'⟩,ob,ct⟩)),(2,.box [.i (.v (.slice none 0 0)),.i (.v (.slice none 0 0)),ii 0])]) (fun _=>O) 57
  (fun i=>i≤L.length∧R=zcW B ct (L.drop i)) (fun i=>L.length - i) 0 ⟨Nat.zero_le _,hR⟩ ⟨rfl,rfl,rfl,rfl,rfl,trivial⟩ rfl ⟨rfl,rfl,trivial⟩ rfl rfl ?_
 clear hR
 rintro i ⟨hi,hno⟩ ih
 have hj0:ii (IntKind.i64.wrap ((i:Int)+1))=ii ((i+1:Nat):Int):=congrArg ii (zaC (n:=5000) (by omega) (by decide))
 refine zae Tk Tryz.func36 ?_
 refine zai Tk Tryz.func36 rfl (fun g1=>?_) (fun g1=>?_)
 ·have h2:i<L.length:=by simpa using g1
  have ge:(L.map esI)[(i:Int).toNat]? = some (esI L[i]):=zaj h2
  have hm:=List.getElem_mem h2
  rw[List.drop_eq_getElem_cons h2] at hno
  simp only[zcW] at hno
  generalize L[i]=z at *
  have hb1:=fun O e p=>hb O z e p hm
  obtain⟨z1,z2⟩:=z
  generalize B (z1,z2)=Bz at *
  have hno:R=match zfR Bz (ct.drop 0) with
   | some w=>some w
   | none=>zcW B ct (L.drop (i+1)):=hno
  refine zag Tk Tryz.func36 (by exact⟨by omega,by show (i:Int)<(L.length:Int);omega⟩) ?_
  refine zap Tk Tryz.func36 (ge) ?_
  refine zac ?_
  refine zah (fun j:Nat=>[(1,.own 0 1 0 0),(2,.own 0 2 0 0),(19,zsP L),(20,ii L.length),(21,ii i),(7,.own 0 7 0 0),(26,ints ct),(27,ii ct.length),(28,ii j)]) (fun _=>[(1,.box (sysC ⟨⟨al,st,mk,es⟩,⟨al',st',mk',es'⟩,ob,ct⟩)),(2,.box [.i (.v (.slice none 0 0)),.i (.v (.slice none 0 0)),ii 0]),(7,.box [ints z1,fdsD z2])]) (fun _=>O) 57
   (fun j=>j≤ct.length∧R=match zfR Bz (ct.drop j) with
    | some w=>some w
    | none=>zcW B ct (L.drop (i+1))) (fun j=>ct.length - j) 0 ⟨Nat.zero_le _,hno⟩ ⟨rfl,rfl,rfl,rfl,rfl,rfl,rfl,rfl,rfl,trivial⟩ rfl ⟨rfl,rfl,rfl,trivial⟩ rfl rfl ?_
  clear hno
  rintro j ⟨hj,hno⟩ ih2
  have hj1:ii (IntKind.i64.wrap ((j:Int)+1))=ii ((j+1:Nat):Int):=congrArg ii (zaC (n:=1000001) (by omega) (by decide))
  refine zae Tk Tryz.func36 ?_
  refine zai Tk Tryz.func36 rfl (fun g2=>?_) (fun g2=>?_)
  ·have h3:j<ct.length:=by simpa using g2
   have gc:(ct.map fun x=>[vi x])[(j:Int).toNat]? = some [vi ct[j]]:=zaj (f:=fun x=>[vi x]) h3
   rw[List.drop_eq_getElem_cons h3] at hno
   simp only[zfR] at hno
   generalize ct[j]=e at *
   have hA:=fun O=>hb1 O e true
   have hB:=fun O=>hb1 O e false
   generalize Bz e true=b1 at *
   generalize Bz e false=b2 at *
   obtain⟨w1,f1⟩:=b1
   obtain⟨w2,f2⟩:=b2
   simp only at hno hA hB
   refine zag Tk Tryz.func36 (by exact⟨by omega,by show (j:Int)<(ct.length:Int);omega⟩) ?_
   refine zap Tk Tryz.func36 (gc) ?_
   refine zaf Tk Tryz.func36 (hA _) rfl rfl rfl rfl rfl ?_
   refine zaf Tk Tryz.func36 (hB _) rfl rfl rfl rfl rfl ?_
   refine zaW Tk Tryz.func36 rfl (fun c1=>?_) (fun c1=>?_)
   ·have c1:f1=true:=c1
    refine zai Tk Tryz.func36 rfl (fun c2=>?_) (fun c2=>?_)
    ·have c2:f2=true:=c2
     rw[if_pos ⟨c1,c2⟩] at hno
     simp only at hno
     subst hno
     refine zak Tk (r:=.tup [.agg [ints w1,ints w2,ii e],bb true]) rfl rfl rfl trivial rfl rfl ?_
     rfl
    ·have c2:f2=false:=c2
     rw[if_neg (fun h=>by rw[c2] at h;cases h.2)] at hno
     refine zac ?_
     exact ih2 (j+1) _ _ ⟨h3,hno⟩ (by omega) ⟨rfl,rfl,rfl,rfl,rfl,rfl,rfl,rfl,hj1,trivial⟩ rfl ⟨rfl,rfl,rfl,trivial⟩ rfl rfl
   ·have c1:f1=false:=c1
    rw[if_neg (fun h=>by rw[c1] at h;cases h.1)] at hno
    refine gcF Tk Tryz.func36 rfl ?_
    refine zac ?_
    exact ih2 (j+1) _ _ ⟨h3,hno⟩ (by omega) ⟨rfl,rfl,rfl,rfl,rfl,rfl,rfl,rfl,hj1,trivial⟩ rfl ⟨rfl,rfl,rfl,trivial⟩ rfl rfl
  ·have h3:ct.length≤j:=by simpa using g2
   rw[List.drop_eq_nil_of_le h3] at hno
   simp only[zfR] at hno
   refine zac ?_
   exact ih (i+1) _ _ ⟨h2,hno⟩ (by omega) ⟨rfl,rfl,rfl,rfl,hj0,trivial⟩ rfl ⟨rfl,rfl,trivial⟩ rfl rfl
 ·have h2:L.length≤i:=by simpa using g1
  rw[List.drop_eq_nil_of_le h2] at hno
  simp only[zcW] at hno
  subst hno
  refine zb4 Tk (r:=.tup [.agg [.i (.v (.slice none 0 0)),.i (.v (.slice none 0 0)),ii 0],bb false]) rfl rfl rfl trivial rfl rfl ?_
  repeat' (first | refine zcT ?_ | refine zcU ?_ | refine zft ?_ | refine CoDL.cons ?_ ?_ | exact CoDL.nil | exact zb1 | refine zdO ?_ | refine CoLL.cons ?_ ?_ | exact CoLL.nil | refine CoL.cons ?_ ?_ | exact CoL.nil | exact CoI.refl _ | exact CoL.refl _ | exact CoLL.refl _ | exact CoDL.refl _ | exact CoD.refl _)
noncomputable abbrev ctlW (x:Sys):List (List Int):=(esWR x).map fun z=>x.ct.filter fun e=>(bhB x z e true).2
end Go.AI


namespace Go.AI
set_option maxRecDepth 20000
theorem zvz {x:Sys} (hx:gSys x) (hV:(lpV x).length≤4095) {i:Nat} {z:Int × Int} (hz:(lpR x).2[i]? = some z) {e:Int} (he:e∈x.p.alpha) :
  (stp3 (lpR x).1.edges i e = -1∧¬ (0≤stp3 x.p.edges z.1 e∧0≤stp3 x.s.edges z.2 e))∨((0≤stp3 x.p.edges z.1 e∧0≤stp3 x.s.edges z.2 e)∧∃ j:Nat,stp3 (lpR x).1.edges i e=(j:Int)∧(lpR x).2[j]? = some (stp3 x.p.edges z.1 e,stp3 x.s.edges z.2 e)):=by
 by_cases h0:0<x.p.states∧0<x.s.states
 ·obtain⟨V,hV1,hU⟩:=zgx hx h0 (by omega)
  have hlp:lpR x=(unfA x.p.alpha V,V.sts):=by unfold lpR;rw[if_pos h0,hV1]
  rw[hlp] at hz ⊢
  have hal:=(zam (zaA hx.p).1).1
  have hs:(zdF x z e).2.1=(decide (0≤stp3 x.p.edges z.1 e) && decide (0≤stp3 x.s.edges z.2 e)):=rfl
  rcases zoV hU hal hz he with ⟨h1,h2⟩ | ⟨h1,h2⟩
  ·rw[hs] at h1
   refine .inl ⟨h2,fun hc=>?_⟩
   rw[decide_eq_true hc.1,decide_eq_true hc.2] at h1
   cases h1
  ·rw[hs] at h1
   simp only[Bool.and_eq_true,decide_eq_true_eq] at h1
   exact .inr ⟨h1,h2⟩
 ·have hlp:lpR x=(⟨x.p.alpha,0,[],[]⟩,[]):=by unfold lpR;rw[if_neg h0]
  rw[hlp] at hz
  simp at hz
section
variable {x:Sys} {V:Unf (List Int)}
end
end Go.AI


namespace Go.AI
set_option maxRecDepth 20000
theorem zmg {x:Sys} (hx:gSys x) (hV:(lpV x).length≤4095) {s e:Int} (hs:0≤s∧s<((lpR x).2.length:Int)) (h:zeM (lpR x).1 s e=true):canF x (lpR x).2 s e=true:=by
 have h0:0≤stp3 (lpR x).1.edges s e:=of_decide_eq_true h
 obtain⟨hga,hal⟩:=lp_g hx hV
 obtain⟨z,hz,e1,e2,e3⟩:=zcY h0
 have he:e∈x.p.alpha:=by rw[← hal,← e2];exact hga.ev z hz
 obtain⟨i,rfl⟩:∃ i:Nat,s=(i:Int):=⟨s.toNat,by omega⟩
 have hi:i<(lpR x).2.length:=by omega
 have hzi:(lpR x).2[i]? = some (lpR x).2[i]:=List.getElem?_eq_getElem hi
 rcases zvz hx hV hzi he with ⟨h1,_⟩ | ⟨⟨h1,_⟩,_⟩
 ·omega
 ·show decide (0≤stp3 x.p.edges (((lpR x).2.getD (i:Int).toNat (0,0)).1) e)=true
  rw[show ((i:Int).toNat)=i from rfl,List.getD_eq_getElem?_getD,hzi]
  exact decide_eq_true h1
theorem zqJ {x:Sys} (hx:gSys x) (hV:(lpV x).length≤4095) (hn:(lpR x).2.length≤11) {z:Es2} (hz:z∈esWR x):∀ s,s∈z.1 ↔ ∃ y∈z.2,y.1=s:=by
 obtain⟨_,hw⟩:=zdk hx hV hn
 obtain⟨w1,w2,w3⟩:=hw z hz
 intro s
 rw[w3,ze8 w1.nd (fun z hz=>by
  obtain⟨y,hy,rfl⟩:=List.mem_map.1 hz
  exact w1.rng y hy) s,List.mem_map]
theorem zu4 {x:Sys} (hx:gSys x) (hV:(lpV x).length≤4095) (hn:(lpR x).2.length≤11) {z:Es2} (hz:z∈esWR x) {e:Int}:(bhB x z e true).2=true ↔ ∃ s∈z.1,zeM (lpR x).1 s e=true:=by
 have hm:=zqJ hx hV hn hz
 have hw:=((zdk hx hV hn).2 z hz).1
 rw[ztM]
 constructor
 ·rintro ⟨y,hy,h⟩
  simp only[bhOk,Bool.and_eq_true,beq_iff_eq] at h
  exact⟨y.1,(hm _).2 ⟨y,hy,rfl⟩,h.2⟩
 ·rintro ⟨s,hs,h⟩
  obtain⟨y,hy,rfl⟩:=(hm s).1 hs
  refine⟨y,hy,?_⟩
  simp only[bhOk,Bool.and_eq_true,beq_iff_eq]
  exact⟨zmg hx hV (hw.rng y hy) h,h⟩
theorem zv3 {x:Sys} (hx:gSys x) (hV:(lpV x).length≤4095) (hn:(lpR x).2.length≤11) {z:Es2} (hz:z∈esWR x) {e:Int}:(bhB x z e false).2=true ↔ ∃ s∈z.1,refF x (lpR x).1 (lpR x).2 s e=true:=by
 have hm:=zqJ hx hV hn hz
 rw[ztM]
 constructor
 ·rintro ⟨y,hy,h⟩
  refine⟨y.1,(hm _).2 ⟨y,hy,rfl⟩,?_⟩
  simp only[bhOk,refF,Bool.and_eq_true,beq_iff_eq,Bool.not_eq_true'] at h ⊢
  exact h
 ·rintro ⟨s,hs,h⟩
  obtain⟨y,hy,rfl⟩:=(hm s).1 hs
  refine⟨y,hy,?_⟩
  simp only[bhOk,refF,Bool.and_eq_true,beq_iff_eq,Bool.not_eq_true'] at h ⊢
  exact h
end Go.AI


namespace Go.AI
set_option maxRecDepth 20000
theorem zqI {es:List Edg} (hp:es.Pairwise ltE) (h32:∀ e∈es,0≤e.2.1∧e.2.1<32) (s:Int):(evC es s).Pairwise (· < ·)∧∀ ev∈evC es s,0≤ev∧ev<32:=by
 unfold evC
 constructor
 ·rw[List.pairwise_map]
  refine List.Pairwise.imp_of_mem ?_ (hp.filter _)
  intro x y hx hy h
  have h1:x.1=s:=by simpa using (List.mem_filter.1 hx).2
  have h2:y.1=s:=by simpa using (List.mem_filter.1 hy).2
  rcases h with h | ⟨_,h⟩
  ·omega
  ·exact h
 ·intro ev hev
  obtain⟨x,hx,rfl⟩:=List.mem_map.1 hev
  exact h32 x (List.mem_filter.1 hx).1
theorem zpX {es:List Edg} (hp:es.Pairwise ltE) (hto:∀ e∈es,0≤e.2.2) {s ev:Int}:ev∈evC es s ↔ 0≤stp3 es s ev:=by
 constructor
 ·intro h
  exact hto _ (zex hp h)
 ·intro h
  obtain⟨x,hx,e1,e2,_⟩:=zcY h
  unfold evC
  exact List.mem_map.2 ⟨x,List.mem_filter.2 ⟨hx,by simpa using e1⟩,e2⟩
theorem zmC {p:Edg→Bool}:∀ {l:List Edg},l.Pairwise ltE→∀ {x y:Edg},l.find? p=some x→y∈l→p y=true→x=y∨ltE x y
 | [],_,x,y,h,_,_=>by cases h
 | e::r,hp,x,y,h,hy,hpy=>by
  obtain⟨h1,h2⟩:=List.pairwise_cons.1 hp
  by_cases c:p e=true
  ·rw[List.find?_cons_of_pos c] at h
   obtain rfl:=Option.some.inj h
   rcases List.mem_cons.1 hy with rfl | hy
   ·exact .inl rfl
   ·exact .inr (h1 y hy)
  ·rw[List.find?_cons_of_neg c] at h
   rcases List.mem_cons.1 hy with rfl | hy
   ·exact absurd hpy c
   ·exact zmC h2 h hy hpy
theorem zfm:∀ (l:List Edg) (k N:Nat),kOf l k=some N→l.Pairwise ltE→∀ i j:Nat,k≤i→i<j→∀ x y,l.find? (fun x=>x.2.2==(i:Int))=some x→l.find? (fun x=>x.2.2==(j:Int))=some y→ltE x y
 | [],k,N,h,hp,i,j,hi,hij,x,y,hx,hy=>by cases hx
 | e::r,k,N,h,hp,i,j,hi,hij,x,y,hx,hy=>by
  obtain⟨h1,h2⟩:=List.pairwise_cons.1 hp
  simp only[kOf] at h
  split at h
  ·rename_i hc
   obtain⟨_,_,h4⟩:=hc
   have hje:¬ (e.2.2==(j:Int))=true:=by simp only[beq_iff_eq];omega
   rw[List.find?_cons_of_neg (p:=fun x:Edg=>x.2.2==(j:Int)) hje] at hy
   by_cases c:(e.2.2==(i:Int))=true
   ·rw[List.find?_cons_of_pos (p:=fun x:Edg=>x.2.2==(i:Int)) c] at hx
    obtain rfl:=Option.some.inj hx
    exact h1 y (List.mem_of_find?_eq_some hy)
   ·rw[List.find?_cons_of_neg (p:=fun x:Edg=>x.2.2==(i:Int)) c] at hx
    have c':e.2.2≠(i:Int):=by simpa using c
    by_cases ht:e.2.2=(k:Int)
    ·rw[if_pos ht] at h
     exact zfm r (k+1) N h h2 i j (by omega) hij x y hx hy
    ·rw[if_neg ht] at h
     exact zfm r k N h h2 i j hi hij x y hx hy
  ·cases h
theorem ztc:∀ (u:List Int) {a b:List Int},rk a≤rk b→rk (a++u)≤rk (b++u)
 | [],a,b,h=>by simpa using h
 | x::u,a,b,h=>by
  have:=ztc u (znM (e:=x) h)
  rwa [List.append_assoc,List.append_assoc] at this
structure TTr (eds:List Edg) (m:Nat) (T:List (List Int)):Prop where
 len:T.length=m
 fst:T[0]? = some []
 nxt:∀ k,0<k→k<m→∃ (i:Nat) (e:Int) (t:List Int),eds.find? (fun x=>x.2.2==(k:Int))=some ((i:Int),e,(k:Int))∧i<k∧T[i]? = some t∧T[k]? = some (t++[e])
theorem zs6 {eds:List Edg} {N:Nat} (hx:∀ k,0<k→k<N→∃ (i:Nat) (e:Int),eds.find? (fun x=>x.2.2==(k:Int))=some ((i:Int),e,(k:Int))∧i<k):∀ m,0<m→m≤N→∃ T,TTr eds m T
 | 0,h0,_=>by omega
 | 1,_,_=>⟨[[]],rfl,rfl,fun k h1 h2=>by omega⟩
 | m+2,_,hm=>by
  obtain⟨T,hT⟩:=zs6 hx (m+1) (by omega) (by omega)
  obtain⟨i,e,h1,h2⟩:=hx (m+1) (by omega) (by omega)
  have hi:T[i]? = some (T[i]'(by rw[hT.len];omega)):=List.getElem?_eq_getElem _
  generalize T[i]'(by rw[hT.len];omega)=t at hi
  have hl:=hT.len
  refine⟨T++[t++[e]],by simp[hl],by rw[List.getElem?_append_left (by omega)];exact hT.fst,fun k hk0 hk=>?_⟩
  by_cases hkm:k=m+1
  ·subst hkm
   exact⟨i,e,t,h1,h2,by rw[List.getElem?_append_left (by omega)];exact hi,by rw[List.getElem?_append_right (by omega),hl];simp⟩
  ·obtain⟨i',e',t',f1,f2,f3,f4⟩:=hT.nxt k hk0 (by omega)
   exact⟨i',e',t',f1,f2,by rw[List.getElem?_append_left (by omega)];exact f3,by rw[List.getElem?_append_left (by omega)];exact f4⟩
section
variable {eds:List Edg} {N:Nat} {T:List (List Int)}
theorem TTr.mono (h:TTr eds N T) (hp:eds.Pairwise ltE) (h32:∀ e∈eds,0≤e.2.1∧e.2.1<32) (hk:∃ M,kOf eds 1=some M):∀ (m j:Nat),j<m→∀ i u v,i<j→T[i]? = some u→T[j]? = some v→rk u<rk v
 | 0,j,hj,i,u,v,hij,hu,hv=>by omega
 | m+1,j,hj,i,u,v,hij,hu,hv=>by
  have hjN:j<N:=by rw[← h.len];exact (List.getElem?_eq_some_iff.1 hv).1
  obtain⟨q,d,t,f1,f2,f3,f4⟩:=h.nxt j (by omega) hjN
  rw[hv] at f4
  obtain rfl:=Option.some.inj f4
  by_cases h0:i=0
  ·subst h0
   rw[h.fst] at hu
   obtain rfl:=Option.some.inj hu
   exact Nat.lt_of_le_of_lt (Nat.zero_le _) zfd
  ·obtain⟨p,e,t',g1,g2,g3,g4⟩:=h.nxt i (by omega) (by omega)
   rw[hu] at g4
   obtain rfl:=Option.some.inj g4
   obtain⟨M,hM⟩:=hk
   have he:=h32 _ (List.mem_of_find?_eq_some g1)
   rcases zfm eds 1 M hM hp i j (by omega) hij _ _ g1 f1 with h1 | ⟨h1,h2⟩
   ·have h1:(p:Int)<(q:Int):=h1
    exact zfe he (TTr.mono h hp h32 ⟨M,hM⟩ m q (by omega) p t' t (by omega) g3 f3)
   ·have h1:(p:Int)=(q:Int):=h1
    obtain rfl:p=q:=by omega
    rw[f3] at g3
    obtain rfl:=Option.some.inj g3
    exact zff he.1 h2
theorem TTr.edge (h:TTr eds N T) (hp:eds.Pairwise ltE) (h32:∀ e∈eds,0≤e.2.1∧e.2.1<32) (hk:∃ M,kOf eds 1=some M) {i j:Nat} {e:Int} (he:((i:Int),e,(j:Int))∈eds) {u v:List Int} (hu:T[i]? = some u) (hv:T[j]? = some v):rk v≤rk (u++[e]):=by
 have hjN:j<N:=by rw[← h.len];exact (List.getElem?_eq_some_iff.1 hv).1
 by_cases h0:j=0
 ·subst h0
  rw[h.fst] at hv
  obtain rfl:=Option.some.inj hv
  exact Nat.zero_le _
 ·obtain⟨q,d,t,f1,f2,f3,f4⟩:=h.nxt j (by omega) hjN
  rw[hv] at f4
  obtain rfl:=Option.some.inj f4
  have hd:=h32 _ (List.mem_of_find?_eq_some f1)
  rcases zmC hp f1 he (by simp) with h1 | h1 | ⟨h1,h2⟩
  ·simp only[Prod.mk.injEq] at h1
   obtain⟨h1,rfl,_⟩:=h1
   obtain rfl:q=i:=by omega
   rw[f3] at hu
   obtain rfl:=Option.some.inj hu
   exact Nat.le_refl _
  ·have h1:(q:Int)<(i:Int):=h1
   exact Nat.le_of_lt (zfe hd (h.mono hp h32 hk (i+1) i (Nat.lt_succ_self i) q t u (by omega) f3 hu))
  ·have h1:(q:Int)=(i:Int):=h1
   obtain rfl:q=i:=by omega
   rw[f3] at hu
   obtain rfl:=Option.some.inj hu
   exact Nat.le_of_lt (zff hd.1 h2)
theorem TTr.low (h:TTr eds N T) (hp:eds.Pairwise ltE) (h32:∀ e∈eds,0≤e.2.1∧e.2.1<32) (hk:∃ M,kOf eds 1=some M) (hN:0<N) (hto:∀ e∈eds,0≤e.2.2∧e.2.2<(N:Int)) {s:Int} {w:List Int} (hg:GP (stp3 eds) (evC eds) (0:Int) s w) :
  ∃ (k:Nat) (u:List Int),s=(k:Int)∧T[k]? = some u∧rk u≤rk w:=by
 induction hg with
 | base=>exact⟨0,[],rfl,h.fst,Nat.le_refl _⟩
 | @step s w e hg he ih=>
  obtain⟨k,u,rfl,hu,hr⟩:=ih
  have hm:=zex hp he
  have ht:=hto _ hm
  simp only at ht
  obtain⟨j,hj⟩:∃ j:Nat,stp3 eds (k:Int) e=(j:Int):=⟨(stp3 eds (k:Int) e).toNat,by omega⟩
  rw[hj] at hm ht ⊢
  have hjl:j<T.length:=by rw[h.len];omega
  exact⟨j,T[j],rfl,List.getElem?_eq_getElem hjl,Nat.le_trans (h.edge hp h32 hk hm hu (List.getElem?_eq_getElem hjl)) (znM hr)⟩
theorem TTr.path (h:TTr eds N T) (hp:eds.Pairwise ltE) (h32:∀ e∈eds,0≤e.2.1∧e.2.1<32):∀ (m k:Nat),k<m→∀ u,T[k]? = some u→GP (stp3 eds) (evC eds) (0:Int) (k:Int) u∧inW u
 | 0,k,hk,u,hu=>by omega
 | m+1,k,hk,u,hu=>by
  have hkN:k<N:=by rw[← h.len];exact (List.getElem?_eq_some_iff.1 hu).1
  by_cases h0:k=0
  ·subst h0
   rw[h.fst] at hu
   obtain rfl:=Option.some.inj hu
   exact⟨.base,fun y hy=>by cases hy⟩
  ·obtain⟨q,d,t,f1,f2,f3,f4⟩:=h.nxt k (by omega) hkN
   rw[hu] at f4
   obtain rfl:=Option.some.inj f4
   obtain⟨g1,g2⟩:=h.path hp h32 m q (by omega) t f3
   have hm:=List.mem_of_find?_eq_some f1
   have hs:=zcs hp hm
   simp only at hs
   have hev:d∈evC eds (q:Int):=by
    unfold evC
    exact List.mem_map.2 ⟨_,List.mem_filter.2 ⟨hm,by simp⟩,rfl⟩
   refine⟨?_,fun y hy=>?_⟩
   ·rw[← hs];exact .step g1 hev
   ·rcases List.mem_append.1 hy with hy | hy
    ·exact g2 y hy
    ·rw[List.mem_singleton.1 hy];exact h32 _ hm
theorem TTr.obs (h:TTr eds N T) {o:Aut} (ho:o.edges=eds) (hp:eds.Pairwise ltE) (h32:∀ e∈eds,0≤e.2.1∧e.2.1<32) (hk:∃ M,kOf eds 1=some M) (hN:0<N) (hto:∀ e∈eds,0≤e.2.2∧e.2.2<(N:Int)) {k:Nat} {u:List Int} (hu:T[k]? = some u) (hz:∃ z,obsQ o k=some z):obsW o k=u:=by
 obtain⟨z,hz⟩:=hz
 unfold obsW
 rw[hz]
 simp only
 unfold obsQ at hz
 rw[ho] at hz
 obtain⟨b1,b2,b3,b4⟩:=zjZ (nx:=stp3 eds) (evs:=evC eds) (fun s=>zqI hp h32 s) hz
 have hzk:z.1=(k:Int):=of_decide_eq_true b1
 obtain⟨p1,p2⟩:=h.path hp h32 (k+1) k (Nat.lt_succ_self k) u hu
 refine zpt b3 p2 (Nat.le_antisymm (b4 _ _ p1 (decide_eq_true rfl)) ?_)
 obtain⟨k',u',e1,e2,e3⟩:=h.low hp h32 hk hN hto b2
 rw[hzk] at e1
 obtain rfl:k=k':=by omega
 rw[hu] at e2
 obtain rfl:=Option.some.inj e2
 exact e3
end
end Go.AI


namespace Go.AI
set_option maxRecDepth 20000
abbrev prW (on:List Int) (w:List Int):List Int:=w.filter fun e=>decide (e∈on)
theorem zl4 {es:List Edg}:∀ (w u:List Int) (s:Int),0≤runI es s w→runI es s (w++u)=runI es (runI es s w) u
 | [],u,s,h=>rfl
 | e::w,u,s,h=>by
  simp only[runI,List.cons_append] at h ⊢
  by_cases c:stp3 es s e<0
  ·rw[if_pos c] at h;omega
  ·rw[if_neg c] at h
   rw[if_neg c,if_neg c]
   exact zl4 w u _ h
theorem zh5 {es:List Edg}:∀ (w u:List Int) (s:Int),0≤s→0≤runI es s (w++u)→0≤runI es s w
 | [],u,s,hs,h=>hs
 | e::w,u,s,hs,h=>by
  simp only[runI,List.cons_append] at h ⊢
  by_cases c:stp3 es s e<0
  ·rw[if_pos c] at h;omega
  ·rw[if_neg c] at h
   rw[if_neg c]
   exact zh5 w u _ (by omega) h
section
variable {a:Aut} {n:Nat} {on:List Int} {frm:List Fd}
theorem RP.prj {t:List Int} (hf:∀ x∈frm,prW on x.2=t) {s:Int} {w:List Int} (hp:RP a on frm s w):prW on w=t:=by
 induction hp with
 | base hx=>exact hf _ hx
 | @step s e w hp he ho ht ih=>
  show List.filter _ (w++[e])=t
  rw[List.filter_append]
  have:List.filter (fun e=>decide (e∈on)) [e]=[]:=by simp[ho]
  rw[this,List.append_nil]
  exact ih
theorem RP.far (hs0:∀ s w,RP a on frm s w→0≤s):∀ (u:List Int) {s:Int} {v:List Int},RP a on frm s v→(∀ e∈u,e∈a.alpha∧e ∉ on)→0≤runI a.edges s u→RP a on frm (runI a.edges s u) (v++u)
 | [],s,v,hp,_,_=>by simpa [runI] using hp
 | e::u,s,v,hp,hu,hr=>by
  simp only[runI] at hr ⊢
  by_cases c:stp3 a.edges s e<0
  ·rw[if_pos c] at hr;omega
  ·rw[if_neg c] at hr
   rw[if_neg c]
   have:=RP.far hs0 u (RP.step hp (hu e (by simp)).1 (hu e (by simp)).2 (by omega)) (fun x hx=>hu x (by simp[hx])) hr
   rwa [List.append_assoc] at this
structure PW (a:Aut) (on t:List Int) (v:List Fd):Prop where
 obs:∀ y∈v,prW on y.2=t
 low:∀ w,(∀ e∈w,e∈a.alpha)→prW on w=t→0≤runI a.edges 0 w→∃ y∈v,y.1=runI a.edges 0 w∧rk y.2≤rk w
theorem PW.zero (h:gAut a n) (h0:0<n):PW a on [] (rchF a on [((0:Int),([]:List Int))]):=by
 have hv:=vd0 (a:=a) h h0
 have hq:=zed (on:=on) h hv
 refine⟨fun y hy=>(hq.snd y hy).prj fun x hx=>by rw[List.mem_singleton.1 hx];rfl,fun w hw ho hr=>?_⟩
 have hb:RP a on [((0:Int),([]:List Int))] 0 []:=RP.base (x:=((0:Int),([]:List Int))) (by simp)
 have:=RP.far (fun s w hp=>((hp.ok (hv.ok h)).1).1) w hb (fun e he=>⟨hw e he,fun hon=>by
  have:e∈prW on w:=List.mem_filter.2 ⟨he,decide_eq_true hon⟩
  rw[ho] at this
  cases this⟩) hr
 rw[List.nil_append] at this
 exact hq.low _ _ this
theorem PW.next (h:gAut a n) {e:Int} (he:0≤e∧e<32) (hon:e∈on) {t:List Int} {v:List Fd} (hv:vdF a n v) (hp:PW a on t v):PW a on (t++[e]) (rchF a on (nxF a.edges e v)):=by
 have hnv:=zjr (a:=a) h he hv
 have hq:=zed (on:=on) h hnv
 have hnx:=zhx (es:=a.edges) he hv.wrd
 refine⟨fun y hy=>(hq.snd y hy).prj fun x hx=>?_,fun w hw ho hr=>?_⟩
 ·obtain⟨z,hz,rfl,_⟩:=hnx.snd x hx
  show List.filter _ (z.2++[e])=t++[e]
  rw[List.filter_append]
  have h1:List.filter (fun e=>decide (e∈on)) [e]=[e]:=by simp[hon]
  rw[h1]
  exact congrArg (· ++ [e]) (hp.obs z hz)
 ·obtain⟨l1,l2,rfl,f1,f2⟩:=List.filter_eq_append_iff.1 ho
  obtain⟨m1,m2,rfl,g1,g2,g3⟩:=List.filter_eq_cons_iff.1 f2
  have hr1:0≤runI a.edges 0 (l1++m1):=zh5 (l1++m1) (e::m2) 0 (Int.le_refl _) (by rw[List.append_assoc];exact hr)
  have ho1:prW on (l1++m1)=t:=by
   show List.filter _ (l1++m1)=t
   rw[List.filter_append,f1]
   have:List.filter (fun e=>decide (e∈on)) m1=[]:=List.filter_eq_nil_iff.2 g1
   rw[this,List.append_nil]
  obtain⟨y,hy,e1,e2⟩:=hp.low (l1++m1) (fun x hx=>hw x (by
   rcases List.mem_append.1 hx with hx | hx
   ·simp[hx]
   ·simp[hx])) ho1 hr1
  have hrw:runI a.edges 0 (l1++(m1++e::m2))=runI a.edges y.1 (e::m2):=by
   rw[← List.append_assoc,zl4 _ _ _ hr1,← e1]
  rw[hrw] at hr ⊢
  simp only[runI] at hr ⊢
  by_cases c:stp3 a.edges y.1 e<0
  ·rw[if_pos c] at hr;omega
  ·rw[if_neg c] at hr
   rw[if_neg c]
   obtain⟨z,hz,k1,k2⟩:=hnx.cov y hy (by omega)
   have hb:RP a on (nxF a.edges e v) z.1 z.2:=RP.base hz
   rw[← k1] at hr ⊢
   have hf:=RP.far (fun s w hp=>((hp.ok (hnv.ok h)).1).1) m2 hb (fun x hx=>⟨hw x (by simp[hx]),fun hxo=>by
    have:x∈List.filter (fun e=>decide (e∈on)) m2:=List.mem_filter.2 ⟨hx,decide_eq_true hxo⟩
    rw[g3] at this
    cases this⟩) hr
   obtain⟨y',hy',q1,q2⟩:=hq.low _ _ hf
   refine⟨y',hy',q1,Nat.le_trans q2 ?_⟩
   have h3:rk z.2≤rk ((l1++m1)++[e]):=Nat.le_trans k2 (znM e2)
   have h4:=ztc m2 h3
   have h5:(l1++m1)++[e]++m2=l1++(m1++e::m2):=by simp
   rwa [h5] at h4
end
section
variable {a:Aut} {n:Nat} {ob obs:List Int}
theorem zuL (h:gAut a n) {y:LS} {w:List Int} (hg:GP (nxQ a.edges ob) (evQ a.edges ob obs) ((0,0):LS) y w):y.1=runI a.edges 0 w∧0≤y.1∧y.2=((prW ob w).length:Int)∧prW ob w=obs.take (prW ob w).length∧∀ e∈w,e∈a.alpha:=by
 have hto:∀ e∈a.edges,0≤e.2.2:=fun e he=>(h.to e he).1
 induction hg with
 | base=>exact⟨rfl,Int.le_refl _,rfl,rfl,fun e he=>by cases he⟩
 | @step y w e hg he ih=>
  obtain⟨i1,i2,i3,i4,i5⟩:=ih
  unfold evQ at he
  obtain⟨he1,he2⟩:=List.mem_filter.1 he
  have hst:=(zpX h.pw hto).1 he1
  have hal:=h.ev _ (zex h.pw he1)
  simp only at hal
  have hrun:runI a.edges 0 (w++[e])=stp3 a.edges y.1 e:=by
   rw[zdx (by rw[← i1];exact i2),← i1,if_neg (by omega)]
  refine⟨hrun.symm,hst,?_,?_,fun x hx=>?_⟩
  ·show (if e∈ob then y.2+1 else y.2)=_
   unfold prW
   rw[List.filter_append]
   by_cases c:e∈ob
   ·rw[if_pos c,i3]
    simp[c]
   ·rw[if_neg c,i3]
    simp[c]
  ·unfold prW at i3 i4 ⊢
   rw[List.filter_append]
   by_cases c:e∈ob
   ·have hf:List.filter (fun e=>decide (e∈ob)) [e]=[e]:=by simp[c]
    rw[hf,List.length_append]
    unfold okQ at he2
    rw[decide_eq_true c,Bool.not_true,Bool.false_or] at he2
    have he3:=of_decide_eq_true he2
    rw[i3,Int.toNat_natCast] at he3
    have hl:(List.filter (fun e=>decide (e∈ob)) w).length<obs.length:=(List.getElem?_eq_some_iff.1 he3).1
    have he4:obs[(List.filter (fun e=>decide (e∈ob)) w).length]=e:=(List.getElem?_eq_some_iff.1 he3).2
    show _=obs.take ((List.filter (fun e=>decide (e∈ob)) w).length+1)
    rw[List.take_succ_eq_append_getElem hl,he4,← i4]
   ·have hf:List.filter (fun e=>decide (e∈ob)) [e]=[]:=by simp[c]
    rw[hf,List.append_nil]
    exact i4
  ·rcases List.mem_append.1 hx with hx | hx
   ·exact i5 x hx
   ·rw[List.mem_singleton.1 hx];exact hal
theorem ztw (h:gAut a n):∀ (m:Nat) (w:List Int),w.length≤m→0≤runI a.edges 0 w→prW ob w <+: obs→GP (nxQ a.edges ob) (evQ a.edges ob obs) ((0,0):LS) (runI a.edges 0 w,((prW ob w).length:Int)) w
 | m,w,hm,hr,hp=>by
  have hto:∀ e∈a.edges,0≤e.2.2:=fun e he=>(h.to e he).1
  rcases zbV w with rfl | ⟨v,e,rfl⟩
  ·exact .base
  ·cases m with
   | zero=>simp at hm
   | succ m=>
    have hr1:=zh5 v [e] 0 (Int.le_refl _) hr
    have hpa:prW ob (v++[e])=prW ob v++(if e∈ob then [e] else []):=by
     unfold prW
     rw[List.filter_append]
     by_cases c:e∈ob <;> simp[c]
    have hp1:prW ob v <+: obs:=by
     rw[hpa] at hp
     exact (List.prefix_append _ _).trans hp
    have ih:=ztw h m v (by simp at hm;omega) hr1 hp1
    have hrun:=zdx (e:=e) hr1
    have hst:0≤stp3 a.edges (runI a.edges 0 v) e:=by
     rw[hrun] at hr
     by_cases c:stp3 a.edges (runI a.edges 0 v) e<0
     ·rw[if_pos c] at hr;omega
     ·omega
    rw[if_neg (by omega)] at hrun
    have hev:e∈evQ a.edges ob obs (runI a.edges 0 v,((prW ob v).length:Int)):=by
     unfold evQ
     refine List.mem_filter.2 ⟨(zpX h.pw hto).2 hst,?_⟩
     unfold okQ
     by_cases c:e∈ob
     ·rw[decide_eq_true c,Bool.not_true,Bool.false_or]
      rw[hpa,if_pos c] at hp
      obtain⟨r,hr2⟩:=hp
      refine decide_eq_true ?_
      show obs[((prW ob v).length:Int).toNat]? = some e
      rw[Int.toNat_natCast,← hr2]
      simp
     ·rw[decide_eq_false c];rfl
    have hs:=GP.step ih hev
    have hnx:nxQ a.edges ob (runI a.edges 0 v,((prW ob v).length:Int)) e=(runI a.edges 0 (v++[e]),((prW ob (v++[e])).length:Int)):=by
     unfold nxQ
     rw[hrun,hpa]
     by_cases c:e∈ob
     ·rw[if_pos c,if_pos c,List.length_append];rfl
     ·rw[if_neg c,if_neg c,List.append_nil]
    rwa [hnx] at hs
theorem zhE (h:gAut a n) (hal:∀ e∈a.alpha,0≤e∧e<32) {sts:List Int} {v:List Fd} (hv:vdF a n v) (hp:PW a ob obs v) (hz:∃ z,zeT a.edges ob obs sts=some z) {w:List Int} (hw:∃ y∈v,y.1∈sts∧y.2=w) (hl:∀ y∈v,y.1∈sts→rk w≤rk y.2):zdp a.edges ob obs sts=w:=by
 obtain⟨z,hz⟩:=hz
 unfold zdp
 rw[hz]
 simp only
 unfold zeT at hz
 have h32:∀ e∈a.edges,0≤e.2.1∧e.2.1<32:=fun e he=>hal _ (h.ev e he)
 obtain⟨b1,b2,b3,b4⟩:=zjZ (nx:=nxQ a.edges ob) (evs:=evQ a.edges ob obs) (fun y=>⟨(zqI h.pw h32 y.1).1.filter _,fun ev hev=>(zqI h.pw h32 y.1).2 ev (List.mem_filter.1 hev).1⟩) hz
 obtain⟨r1,r2,r3,r4,r5⟩:=zuL h b2
 unfold badQ at b1
 simp only[Bool.and_eq_true,decide_eq_true_eq] at b1
 obtain⟨y,hy,hys,rfl⟩:=hw
 have hyr:=hv.run y hy
 have hy0:=(hv.rng y hy).1
 have hg:=ztw (obs:=obs) h y.2.length y.2 (Nat.le_refl _) (by rw[hyr];exact hy0) (by rw[hp.obs y hy];exact List.prefix_rfl)
 refine zpt b3 (hv.wrd y hy) (Nat.le_antisymm (b4 _ _ hg ?_) ?_)
 ·unfold badQ
  simp only[Bool.and_eq_true,decide_eq_true_eq]
  exact⟨by rw[hp.obs y hy],by rw[hyr];exact hys⟩
 ·have hpo:prW ob z.2=obs:=by
   have:(prW ob z.2).length=obs.length:=by
    have:=b1.1
    omega
   rw[r4,this,List.take_length]
  obtain⟨y',hy',q1,q2⟩:=hp.low z.2 r5 hpo (by rw[← r1];exact r2)
  exact Nat.le_trans (hl y' hy' (by rw[q1,← r1];exact b1.2)) q2
end
theorem zk4 {ok:Fd→Bool}:∀ (L:List Fd) (acc:List Int × Bool),(∀ y∈L,inW y.2)→(acc.2=true→inW acc.1)→(L.foldl (bhS ok) acc).2=true →
  ((acc.2=true∧(L.foldl (bhS ok) acc).1=acc.1)∨∃ y∈L,ok y=true∧y.2=(L.foldl (bhS ok) acc).1)∧(acc.2=true→rk (L.foldl (bhS ok) acc).1≤rk acc.1)∧∀ y∈L,ok y=true→rk (L.foldl (bhS ok) acc).1≤rk y.2
 | [],acc,hi,ha,h=>⟨.inl ⟨h,rfl⟩,fun _=>Nat.le_refl _,fun y hy=>by cases hy⟩
 | y::r,acc,hi,ha,h=>by
  rw[List.foldl_cons] at h ⊢
  have hy:=hi y (by simp)
  by_cases c:ok y=true∧(acc.2=false∨cmpW y.2 acc.1<0)
  ·have hb:bhS ok acc y=(y.2,true):=if_pos c
   rw[hb] at h ⊢
   obtain⟨i1,i2,i3⟩:=zk4 r (y.2,true) (fun z hz=>hi z (by simp[hz])) (fun _=>hy) h
   have i2:=i2 rfl
   simp only at i2
   refine⟨.inr ?_,fun hac=>?_,fun z hz hok=>?_⟩
   ·rcases i1 with ⟨_,i1⟩ | ⟨z,hz,h1,h2⟩
    ·exact⟨y,by simp,c.1,i1.symm⟩
    ·exact⟨z,by simp[hz],h1,h2⟩
   ·rcases c.2 with c2 | c2
    ·rw[c2] at hac;cases hac
    ·have:=(zey hy (ha hac)).1 c2
     omega
   ·rcases List.mem_cons.1 hz with rfl | hz
    ·exact i2
    ·exact i3 z hz hok
  ·have hb:bhS ok acc y=acc:=if_neg c
   rw[hb] at h ⊢
   obtain⟨i1,i2,i3⟩:=zk4 r acc (fun z hz=>hi z (by simp[hz])) ha h
   refine⟨?_,i2,fun z hz hok=>?_⟩
   ·rcases i1 with i1 | ⟨z,hz,h1,h2⟩
    ·exact .inl i1
    ·exact .inr ⟨z,by simp[hz],h1,h2⟩
   ·rcases List.mem_cons.1 hz with rfl | hz
    ·have hac:acc.2=true:=by
      cases hh:acc.2 with
      | true=>rfl
      | false=>exact absurd ⟨hok,.inl hh⟩ c
     have:=i2 hac
     have hnl:¬ cmpW z.2 acc.1<0:=fun hc=>c ⟨hok,.inr hc⟩
     rw[zey hy (ha hac)] at hnl
     omega
    ·exact i3 z hz hok
theorem ziO {ok:Fd→Bool} {L:List Fd} (hi:∀ y∈L,inW y.2) (h:(bhR ok L).2=true):(∃ y∈L,ok y=true∧y.2=(bhR ok L).1)∧∀ y∈L,ok y=true→rk (bhR ok L).1≤rk y.2:=by
 unfold bhR at h ⊢
 obtain⟨h1,_,h3⟩:=zk4 L ([],false) hi (fun h=>by cases h) h
 refine⟨?_,h3⟩
 rcases h1 with ⟨h1,_⟩ | h1
 ·cases h1
 ·exact h1
end Go.AI


namespace Go.AI
set_option maxRecDepth 20000
theorem zwe {a:Aut} {n:Nat} {on:List Int} {V:Unf (List Int)} (h:prjU a n on V) (hal:∀ e∈on,0≤e∧e<32) {T:List (List Int)} (hT:TTr V.eds V.sts.length T):∀ (m k:Nat),k<m→∀ t v,T[k]? = some t→(wrdF a on V.eds V.sts.length)[k]? = some v→PW a on t v:=by
 have hW:=zhf h
 have hWg:=ztX h hal
 generalize wrdF a on V.eds V.sts.length=W at *
 intro m
 induction m with
 | zero=>intro k hk;omega
 | succ m ih=>
  intro k hk t v ht hv
  by_cases h0:k=0
  ·subst h0
   rw[hW.fst] at hv
   obtain rfl:=Option.some.inj hv
   rw[hT.fst] at ht
   obtain rfl:=Option.some.inj ht
   exact PW.zero h.g h.n0
  ·have hkN:k<W.length:=(List.getElem?_eq_some_iff.1 hv).1
   obtain⟨i,e,Wi,f1,f2,f3,f4⟩:=hW.nxt k (by omega) (by rw[← hW.len];exact hkN)
   obtain⟨i',e',t',g1,g2,g3,g4⟩:=hT.nxt k (by omega) (by rw[← hW.len];exact hkN)
   rw[f1] at g1
   simp only[Option.some.injEq,Prod.mk.injEq] at g1
   obtain⟨g1,rfl,_⟩:=g1
   obtain rfl:i=i':=by omega
   have hmem:=List.mem_of_find?_eq_some f1
   obtain⟨k',s',j,q1,q2,q3,q4,q5,q6⟩:=zfU h.hU hmem
   simp only at q2 q3 q4 q5 q6
   obtain rfl:i=k':=by omega
   rw[f4] at hv
   obtain rfl:=Option.some.inj hv
   rw[g4] at ht
   obtain rfl:=Option.some.inj ht
   obtain⟨i1,_,_⟩:=hWg (i+1) i (by omega) s' Wi q1 f3
   have hev:e∈on:=of_decide_eq_true (List.mem_filter.1 q3).2
   exact PW.next h.g (hal e hev) hev i1 (ih i (by omega) t' Wi g3 f3)
theorem zs5 {B:Int→Bool→List Int × Bool} {x:Sys} {a:Aut} {ps:List (Int × Int)} {o:Aut} {i:Int} {E:List Int}:∀ (l:List Int),(∀ e∈l,((B e true).2=true ↔ 0<(divP a E e).length)∧((B e false).2=true ↔ 0<(divR x a ps E e).length) ∧
   ((B e true).2=true→zdp a.edges x.ob (obsW o i) (divP a E e)=(B e true).1)∧((B e false).2=true→zdp a.edges x.ob (obsW o i) (divR x a ps E e)=(B e false).1))→zfR B l=zeF x a ps o i E l
 | [],_=>rfl
 | e::r,h=>by
  obtain⟨h1,h2,h3,h4⟩:=h e (by simp)
  simp only[zfR,zeF]
  by_cases c:(B e true).2=true∧(B e false).2=true
  ·rw[if_pos c,if_pos ⟨h1.1 c.1,h2.1 c.2⟩,h3 c.1,h4 c.2]
  ·rw[if_neg c,if_neg (fun hc=>c ⟨h1.2 hc.1,h2.2 hc.2⟩)]
   exact zs5 r fun e' he'=>h e' (by simp[he'])
theorem zoR {B:Es2→Int→Bool→List Int × Bool} {x:Sys} {a:Aut} {ps:List (Int × Int)} {o:Aut}:∀ (L:List Es2) (i:Nat),(∀ (m:Nat) z,L[m]? = some z→∀ e∈x.ct,((B z e true).2=true ↔ 0<(divP a z.1 e).length)∧((B z e false).2=true ↔ 0<(divR x a ps z.1 e).length) ∧
   ((B z e true).2=true→zdp a.edges x.ob (obsW o ((i+m:Nat):Int)) (divP a z.1 e)=(B z e true).1)∧((B z e false).2=true→zdp a.edges x.ob (obsW o ((i+m:Nat):Int)) (divR x a ps z.1 e)=(B z e false).1))→zcW B x.ct L=zbh x a ps o (L.map (·.1)) i
 | [],i,_=>rfl
 | z::r,i,h=>by
  simp only[zcW,zbh,List.map_cons]
  rw[zs5 (i:=(i:Int)) x.ct (h 0 z rfl)]
  cases zeF x a ps o (i:Int) z.1 x.ct with
  | some w=>rfl
  | none=>
   simp only
   exact zoR r (i+1) fun m z' hz'=>by
    have:=h (m+1) z' hz'
    rwa [show i+(m+1)=i+1+m by omega] at this
theorem zvo {x:Sys} (hob:obOk x) (hn:(lpR x).2.length≤11) {m:Nat} {z:Es2} (hz:(esWR x)[m]? = some z):PW (lpR x).1 x.ob (obsW (esR x).1 (m:Int)) z.2:=by
 have hx:=hob.hx
 have hV:=hob.hV
 obtain⟨⟨hw1,hw2⟩,hw3⟩:=zdk hx hV hn
 have h0:¬ (lpR x).2.length=0:=fun h0=>by
  have he:(esR x).2=[]:=zmE h0
  unfold esWR at hz
  rw[he] at hz
  cases hz
 have hE:(esR x).2[m]? = some z.1:=by
  rw[← hw1,List.getElem?_map,hz];rfl
 obtain⟨V,hprj,hVs⟩:=zmD hx hV hn h0
 have hes:esR x=(unfA (zbJ (lpR x).1 x.ob) V,V.sts):=by
  unfold esR
  rw[if_neg h0,hprj.hV]
 have hon:=(zam hx.ob).2.1
 have hgo:=hob.tn.go
 have hN:0<V.sts.length:=hprj.hU.pos
 obtain⟨T,hT⟩:=zs6 (eds:=V.eds) (N:=V.sts.length) (fun k h1 h2=>by
  obtain⟨i,e,_,f1,f2,_⟩:=(zhf hprj).nxt k h1 h2
  exact⟨i,e,f1,f2⟩) V.sts.length hN (Nat.le_refl _)
 have hz2:=hz
 unfold esWR at hz2
 rw[hes] at hz2
 have hk2:=List.getElem?_zip_eq_some.1 hz2
 have hmN:=(List.getElem?_eq_some_iff.1 hk2.1).1
 have hTm:T[m]? = some (T[m]'(by rw[hT.len];exact hmN)):=List.getElem?_eq_getElem _
 have hoz:=(hob.tn.h1 m z.1 hE).1
 have hedg:(esR x).1.edges=V.eds:=by rw[hes];rfl
 have hlen:(esR x).2.length=V.sts.length:=by rw[hes]
 have hobs:=hT.obs (o:=(esR x).1) hedg (by rw[← hedg];exact hgo.pw) (fun y hy=>by
  rw[← hedg] at hy
  exact (zam (zaA hgo.c).1).2.1 _ (hgo.ev y hy)) ⟨_,hprj.hU.fr⟩ hN (fun y hy=>by
  rw[← hedg] at hy
  have:=hgo.to y hy
  rwa [hlen] at this) hTm hoz
 rw[hobs]
 exact zwe hprj hon hT (m+1) m (Nat.lt_succ_self m) _ _ hTm hk2.2
theorem zhP {x:Sys} (hob:obOk x) (hn:(lpR x).2.length≤11):witR x=zds x:=by
 have hx:=hob.hx
 have hV:=hob.hV
 obtain⟨⟨hw1,hw2⟩,hw3⟩:=zdk hx hV hn
 show zcW (bhB x) x.ct (esWR x)=zbh x (lpR x).1 (lpR x).2 (esR x).1 (esR x).2 0
 rw[← hw1]
 refine zoR (esWR x) 0 fun m z hz e he=>?_
 rw[Nat.zero_add]
 have hzm:=List.mem_of_getElem? hz
 have hp:=zu4 hx hV hn hzm (e:=e)
 have hr:=zv3 hx hV hn hzm (e:=e)
 have hme:=zqJ hx hV hn hzm
 obtain⟨hv,_,_⟩:=hw3 z hzm
 have hga:=(lp_g hx hV).1
 have hal32:∀ e∈(lpR x).1.alpha,0≤e∧e<32:=(zam (zaA hga.c).1).2.1
 refine⟨hp.trans filt_pos.symm,hr.trans filt_pos.symm,?_⟩
 have h0:¬ (lpR x).2.length=0:=fun h0=>by
  have he:(esR x).2=[]:=zmE h0
  unfold esWR at hz
  rw[he] at hz
  cases hz
 have hE:(esR x).2[m]? = some z.1:=by
  rw[← hw1,List.getElem?_map,hz];rfl
 have hPW:=zvo hob hn hz
 refine⟨fun hb=>?_,fun hb=>?_⟩
 ·obtain⟨⟨y,hy,hok,hyw⟩,hlow⟩:=ziO hv.wrd hb
  simp only[bhOk,Bool.and_eq_true,beq_iff_eq] at hok
  refine zhE hga hal32 hv hPW (hob.tn.h2 m z.1 hE _ (fun s hs=>(List.mem_filter.1 hs).1) (filt_pos.2 (hp.1 hb))) ⟨y,hy,List.mem_filter.2 ⟨(hme _).2 ⟨y,hy,rfl⟩,hok.2⟩,hyw⟩ fun y' hy' hs=>hlow y' hy' ?_
  have h2:=(List.mem_filter.1 hs).2
  simp only[bhOk,Bool.and_eq_true,beq_iff_eq]
  exact⟨zmg hx hV (hv.rng y' hy') h2,h2⟩
 ·obtain⟨⟨y,hy,hok,hyw⟩,hlow⟩:=ziO hv.wrd hb
  simp only[bhOk,Bool.and_eq_true,beq_iff_eq] at hok
  refine zhE hga hal32 hv hPW (hob.tn.h2 m z.1 hE _ (fun s hs=>(List.mem_filter.1 hs).1) (filt_pos.2 (hr.1 hb))) ⟨y,hy,List.mem_filter.2 ⟨(hme _).2 ⟨y,hy,rfl⟩,?_⟩,hyw⟩ fun y' hy' hs=>hlow y' hy' ?_
  ·simp only[refF,Bool.and_eq_true,Bool.not_eq_true']
   exact hok
  ·have h2:=(List.mem_filter.1 hs).2
   simp only[refF,Bool.and_eq_true,Bool.not_eq_true'] at h2
   simp only[bhOk,Bool.and_eq_true,beq_iff_eq]
   exact h2
theorem ziW {B:Int→Bool→List Int × Bool} {w:Wit}:∀ {l:List Int},zfR B l=some w→∃ e∈l,(B e true).2=true∧(B e false).2=true∧w=((B e true).1,(B e false).1,e)
 | [],h=>by cases h
 | e::r,h=>by
  simp only[zfR] at h
  by_cases c:(B e true).2=true∧(B e false).2=true
  ·rw[if_pos c] at h
   exact⟨e,by simp,c.1,c.2,(Option.some.inj h).symm⟩
  ·rw[if_neg c] at h
   obtain⟨e',h1,h2⟩:=ziW h
   exact⟨e',by simp[h1],h2⟩
theorem zhg {B:Es2→Int→Bool→List Int × Bool} {ct:List Int} {w:Wit}:∀ {L:List Es2},zcW B ct L=some w→∃ z∈L,∃ e∈ct,(B z e true).2=true∧(B z e false).2=true∧w=((B z e true).1,(B z e false).1,e)
 | [],h=>by cases h
 | z::r,h=>by
  simp only[zcW] at h
  cases hI:zfR (B z) ct with
  | some w'=>
   rw[hI] at h
   simp only at h
   obtain⟨e,h1,h2⟩:=ziW hI
   rw[← Option.some.inj h]
   exact⟨z,by simp,e,h1,h2⟩
  | none=>
   rw[hI] at h
   simp only at h
   obtain⟨z',h1,h2⟩:=zhg h
   exact⟨z',by simp[h1],h2⟩
theorem zoQ {x:Sys} (hob:obOk x) (hn:(lpR x).2.length≤11) {w:Wit} (h:witR x=some w):verR x (lpR x).1 (lpR x).2 w=true∧w.1.length≤1000000∧w.2.1.length≤1000000:=by
 have hx:=hob.hx
 have hV:=hob.hV
 have hga:=(lp_g hx hV).1
 have hst:=hga.st
 obtain⟨z,hz,e,he,h1,h2,rfl⟩:=zhg h
 have hl:=(ztE hx hV hn hob.tn.el z hz).2
 obtain⟨hv,_,_⟩:=(zdk hx hV hn).2 z hz
 obtain⟨m,hm⟩:=List.getElem?_of_mem hz
 have hp:=zvo hob hn hm
 obtain⟨⟨y1,hy1,ok1,e1⟩,_⟩:=ziO hv.wrd h1
 obtain⟨⟨y2,hy2,ok2,e2⟩,_⟩:=ziO hv.wrd h2
 have e1:y1.2=(bhB x z e true).1:=e1
 have e2:y2.2=(bhB x z e false).1:=e2
 simp only[bhOk,Bool.and_eq_true,beq_iff_eq] at ok1 ok2
 rw[← e1,← e2]
 refine⟨?_,(hl y1 hy1).2,(hl y2 hy2).2⟩
 have r1:=hv.rng y1 hy1
 have r2:=hv.rng y2 hy2
 have u1:=hv.run y1 hy1
 have u2:=hv.run y2 hy2
 have g1:genR (lpR x).1 y1.2=true:=by
  unfold genR
  rw[u1,decide_eq_true r1.1,decide_eq_true (show (lpR x).1.states≠0 by omega)];rfl
 have g2:genR (lpR x).1 y2.2=true:=by
  unfold genR
  rw[u2,decide_eq_true r2.1,decide_eq_true (show (lpR x).1.states≠0 by omega)];rfl
 have ho:obsF x.ob y1.2=obsF x.ob y2.2:=(hp.obs y1 hy1).trans (hp.obs y2 hy2).symm
 unfold verR
 simp only
 rw[g1,g2,decide_eq_true ho,decide_eq_true he,u1,u2,ok1.2]
 simp only[refF,Bool.true_and,Bool.and_eq_true,Bool.not_eq_true']
 exact ok2
end Go.AI


namespace Go.AI
open Go.Proofs
set_option maxRecDepth 20000
end Go.AI


namespace Go.AI
open Go.Proofs
set_option maxRecDepth 20000
end Go.AI


namespace Go.AI
open Go.Proofs
set_option maxRecDepth 20000
set_option maxHeartbeats 16000000 in
theorem zqQ {g:Nat} (hg:zfH g) {ty:TypeId} {fr:Nat × Nat} (O:List Heap) (x:Sk) (h:skOkB x):ASpecT g (ptab ty fr) Tryz.prog 11 [.agg (skC x)] O (bb true) [] O:=by
 have hk:=fun O=>zuA hg (ty:=ty) (fr:=fr) O
 have h1:=fun O=>zvR O x h
 by_cases hf:(lpR (mkS x)).1.states≤10
 ·have hob:=zwd h hf
  have hfit:=zta h hf
  have k1:=fun O=>zto O x h
  have hn:(lpR (mkS x)).2.length≤11:=by omega
  have k2:=fun O=>zcI hg (ty:=ty) (fr:=fr) O (mkS x) hob
  have k3:=fun O=>zoP O (mkS x) hob.sm hob.hx hob.hV hn hob.tn.el
  rw[zhP hob hn] at k3
  have hwl:((zds (mkS x)).getD zWit).1.length≤1000000∧((zds (mkS x)).getD zWit).2.1.length≤1000000:=by
   cases hT:zds (mkS x) with
   | none=>exact⟨Nat.zero_le _,Nat.zero_le _⟩
   | some w=>exact (zoQ hob hn (by rw[zhP hob hn];exact hT)).2
  have k4:(zds (mkS x)).isSome=true→∀ O,ASpecT g (ptab ty fr) Tryz.prog 23 [sysD (mkS x),.agg (witC ((zds (mkS x)).getD zWit))] O (ii 0) [] O:=fun ht O=>by
   obtain⟨w,hT⟩:=Option.isSome_iff_exists.1 ht
   have hv:=zoQ hob hn (by rw[zhP hob hn];exact hT)
   have:=zrB hg (ty:=ty) (fr:=fr) O (mkS x) w hob.sm hob.hx hob.h64 hob.hV hob.hn hv.2.1 hv.2.2
   rw[hv.1,if_pos rfl] at this
   rw[hT]
   exact this
  have q1:=fun O=>zdM O ((zds (mkS x)).getD zWit).1 ((zds (mkS x)).getD zWit).1 (by have:=hwl.1;simp only[zas];omega)
  have q2:=fun O=>zdM O ((zds (mkS x)).getD zWit).2.1 ((zds (mkS x)).getD zWit).2.1 (by have:=hwl.2;simp only[zas];omega)
  rw[decide_eq_true rfl] at q1 q2
  rw[decide_eq_true hf] at h1
  clear hwl hfit hob hf hn h
  generalize (zds (mkS x)).isSome=T at *
  generalize (zds (mkS x)).getD zWit=W at *
  generalize mkS x=X at *
  obtain⟨⟨al,st,mk,es⟩,⟨al',st',mk',es'⟩,ob,ct⟩:=X
  obtain⟨w1,w2,w3⟩:=W
  obtain⟨xst,xps,xpm,xpt,xss,xsm,xt2,xob,xct⟩:=x
  cases T with
  | true=>
   have k4:=k4 rfl
   refine zaV [] Tk Tryz.func11 rfl Tryz.call11 Tryz.ntmps11 (Nat.le_of_ble_eq_true rfl) fun E hE=>?_
   refine zae Tk Tryz.func11 ?_
   refine zbe Tk Tryz.func11 hE (hk _) rfl rfl rfl rfl rfl rfl ?_
   refine gkF Tk Tryz.func11 rfl ?_
   refine zaf Tk Tryz.func11 (h1 _) rfl rfl rfl rfl rfl ?_
   refine gcF Tk Tryz.func11 rfl ?_
   refine zaf Tk Tryz.func11 (k1 _) rfl rfl rfl rfl rfl ?_
   refine zbe Tk Tryz.func11 hE (k2 _) rfl rfl rfl rfl rfl rfl ?_
   refine zaf Tk Tryz.func11 (k3 _) rfl rfl rfl rfl rfl ?_
   refine gkF Tk Tryz.func11 rfl ?_
   refine gkF Tk Tryz.func11 rfl ?_
   refine zaW Tk Tryz.func11 rfl (fun h=>absurd h (by simp)) (fun _=>?_)
   refine zaf Tk Tryz.func11 (q1 _) rfl rfl rfl rfl rfl ?_
   refine gkF Tk Tryz.func11 rfl ?_
   refine zaf Tk Tryz.func11 (q2 _) rfl rfl rfl rfl rfl ?_
   repeat (first | refine gcT Tk Tryz.func11 rfl ?_ | refine gkT Tk Tryz.func11 rfl ?_ | refine skT Tk ?_ | refine gcF Tk Tryz.func11 rfl ?_ | refine gkF Tk Tryz.func11 rfl ?_ | refine skF Tk ?_)
   refine zbe Tk Tryz.func11 hE (k4 _) rfl rfl rfl rfl rfl rfl ?_
   refine zak Tk (r:=bb true) rfl rfl rfl trivial rfl rfl ?_
   rfl
  | false=>
   clear k4
   refine zaV [] Tk Tryz.func11 rfl Tryz.call11 Tryz.ntmps11 (Nat.le_of_ble_eq_true rfl) fun E hE=>?_
   refine zae Tk Tryz.func11 ?_
   refine zbe Tk Tryz.func11 hE (hk _) rfl rfl rfl rfl rfl rfl ?_
   refine gkF Tk Tryz.func11 rfl ?_
   refine zaf Tk Tryz.func11 (h1 _) rfl rfl rfl rfl rfl ?_
   refine gcF Tk Tryz.func11 rfl ?_
   refine zaf Tk Tryz.func11 (k1 _) rfl rfl rfl rfl rfl ?_
   refine zbe Tk Tryz.func11 hE (k2 _) rfl rfl rfl rfl rfl rfl ?_
   refine zaf Tk Tryz.func11 (k3 _) rfl rfl rfl rfl rfl ?_
   refine gkF Tk Tryz.func11 rfl ?_
   refine gkF Tk Tryz.func11 rfl ?_
   refine zaW Tk Tryz.func11 rfl (fun h=>absurd h (by simp)) (fun _=>?_)
   refine zaf Tk Tryz.func11 (q1 _) rfl rfl rfl rfl rfl ?_
   refine gkF Tk Tryz.func11 rfl ?_
   refine zaf Tk Tryz.func11 (q2 _) rfl rfl rfl rfl rfl ?_
   repeat (first | refine gcT Tk Tryz.func11 rfl ?_ | refine gkT Tk Tryz.func11 rfl ?_ | refine skT Tk ?_ | refine gcF Tk Tryz.func11 rfl ?_ | refine gkF Tk Tryz.func11 rfl ?_ | refine skF Tk ?_)
   refine zak Tk (r:=bb true) rfl rfl rfl trivial rfl rfl ?_
   rfl
 ·rw[decide_eq_false hf] at h1
  clear hf h
  obtain⟨xst,xps,xpm,xpt,xss,xsm,xt2,xob,xct⟩:=x
  refine zaV [] Tk Tryz.func11 rfl Tryz.call11 Tryz.ntmps11 (Nat.le_of_ble_eq_true rfl) fun E hE=>?_
  refine zae Tk Tryz.func11 ?_
  refine zbe Tk Tryz.func11 hE (hk _) rfl rfl rfl rfl rfl rfl ?_
  refine gkF Tk Tryz.func11 rfl ?_
  refine zaf Tk Tryz.func11 (h1 _) rfl rfl rfl rfl rfl ?_
  refine gcT Tk Tryz.func11 rfl ?_
  refine zbe Tk Tryz.func11 hE (hk _) rfl rfl rfl rfl rfl rfl ?_
  refine zak Tk (r:=bb true) rfl rfl rfl trivial rfl rfl ?_
  rfl
end Go.AI


namespace Go.Proofs.YtlcekmemdnjjbaaGreatDoor
set_option maxRecDepth 100000
theorem zbN:laidOutB Tryz.prog=true:=by kernel_rfl
theorem zdg:mapsRowed Tryz.prog=true:=by kernel_rfl
theorem zc7:(Rows.observabilityDecidesRow.inPlace==Tryz.prog.inPlace 11)=true:=by kernel_rfl
theorem zc6:(Rows.observabilityDecidesRow.unfollowed==Tryz.prog.unfollowed 11)=true:=by kernel_rfl
theorem zc5:(Rows.observabilityDecidesRow.recurses==Tryz.prog.recurses 11)=true:=by kernel_rfl
theorem zc4:(Rows.observabilityDecidesRow.named==Tryz.prog.varsNamed 11)=true:=by kernel_rfl
theorem zcv:joinedFacts Tryz.prog 11 Tryz.f11 Rows.observabilityDecidesSpec Rows.observabilityDecidesRow=true:=by
 simp only[joinedFacts,Bool.and_eq_true]
 repeat' refine And.intro ?_ ?_
 ·kernel_rfl
 ·exact zbN
 ·exact zdg
 ·kernel_rfl
 ·kernel_rfl
 ·kernel_rfl
 ·kernel_rfl
 ·kernel_rfl
 ·kernel_rfl
 ·exact zc7
 ·exact zc6
 ·exact zc5
 ·exact zc4
 ·kernel_rfl
 ·kernel_rfl
 ·kernel_rfl
 ·kernel_rfl
 ·kernel_rfl
 ·kernel_rfl
 ·kernel_rfl
 ·kernel_rfl
 ·kernel_rfl
 ·kernel_rfl
 ·kernel_rfl
 ·kernel_rfl
 ·kernel_rfl
 ·kernel_rfl
 ·kernel_rfl
 ·kernel_rfl
 ·kernel_rfl
 ·kernel_rfl
 ·kernel_rfl
theorem zcO : Tryz.prog.mainIs = some (true, "5041c38c3c15c3199033450f7632fe41f4871cb850793ec5542bbc9f8af1fc7c".toList) := by kernel_rfl
theorem zcE:false=Tryz.prog.looks []:=by kernel_rfl
theorem zcP:false=Rows.observabilityDecidesRow.goesBy Tryz.prog:=by kernel_rfl
end Go.Proofs.YtlcekmemdnjjbaaGreatDoor
