/- The layer of abstract runs, part 28. -/
import Derived.Test.YtlcekmemdnjjbaaGreatDoorCorZA
import Derived.Shelf.Slices.Reverse
import Derived.Shelf.Slices.Cells
import Derived.KernelRfl
set_option linter.unusedSimpArgs false
set_option linter.unusedVariables false
set_option linter.all false

set_option maxHeartbeats 4000000
namespace Go.AI
open Go.Proofs
set_option maxRecDepth 20000
theorem zv0 (O:List Heap) (e:Edg) (s:Int):zan Tryz.prog 196 [edgD e,ii s] O (ii (IntKind.i64.wrap (e.1 - s))) [] O:=by
 obtain⟨a,b,c⟩:=e
 refine zad Tk Tryz.func196 rfl Tryz.call196 Tryz.ntmps196 (Nat.le_of_ble_eq_true rfl) fun E=>?_
 refine zae Tk Tryz.func196 ?_
 refine zak Tk (r:=ii (IntKind.i64.wrap (a - s))) rfl rfl rfl trivial rfl rfl ?_
 rfl
theorem zvZ (O:List Heap) (e:Edg) (s:Int):zan Tryz.prog 197 [edgD e,ii s] O (ii (IntKind.i64.wrap (e.1 - s))) [] O:=by
 obtain⟨a,b,c⟩:=e
 refine zad Tk Tryz.func197 rfl Tryz.call197 Tryz.ntmps197 (Nat.le_of_ble_eq_true rfl) fun E=>?_
 refine zae Tk Tryz.func197 ?_
 refine zak Tk (r:=ii (IntKind.i64.wrap (a - s))) rfl rfl rfl trivial rfl rfl ?_
 rfl
theorem ztK (O:List Heap) (l:List Edg) (s:Int) (f:Nat) (hf:∀ e O,zan Tryz.prog f [edgD e,ii s] O (ii (IntKind.i64.wrap (e.1 - s))) [] O) (hl:l.length≤zas) (hs:zdw l) (hb:∀ e∈l,0≤e.1∧e.1≤5000) (hsb:0≤s∧s≤5000) :
  zan Tryz.prog 195 [edgs l,ii s,.fn (.func f) [] []] O (.tup [ii (lowE l s:Nat),bb (fndE l s)]) [] O:=by
 have hw:∀ e∈l,IntKind.i64.wrap (e.1 - s)=e.1 - s:=fun e he=>by
  have:=hb e he
  exact w64 (by omega) (by omega)
 have hsort:∀ i j (hi:i<l.length) (hj:j<l.length),i≤j→l[i].1≤l[j].1:=fun i j hi hj h=>by
  rcases Nat.lt_or_eq_of_le h with h | h
  ·exact List.pairwise_iff_getElem.1 hs i j hi hj h
  ·subst h;exact Int.le_refl _
 refine zad Tk Tryz.func195 rfl Tryz.call195 Tryz.ntmps195 (Nat.le_of_ble_eq_true rfl) fun E=>?_
 refine zae Tk Tryz.func195 ?_
 refine zac ?_
 refine zah (fun p:Nat × Nat=>[(0,edgs l),(1,ii s),(2,.fn (.func f) [] []),(8,ii l.length),(9,ii p.1),(10,ii p.2)]) (fun _=>[]) (fun _=>O) 49
  (fun p=>p.1≤p.2∧p.2≤l.length∧(∀ k (h:k<l.length),k<p.1→l[k].1<s)∧∀ k (h:k<l.length),p.2≤k→s≤l[k].1) (fun p=>p.2 - p.1) (0,l.length)
  ⟨Nat.zero_le _,Nat.le_refl _,fun k h h'=>by simp at h',fun k h h'=>by simp at h';omega⟩ ⟨rfl,rfl,rfl,rfl,rfl,rfl,trivial⟩ rfl trivial rfl rfl ?_
 rintro ⟨i,j⟩ ⟨hij,hj,hlo,hhi⟩ ih
 simp only at hij hj hlo hhi
 have hlj:j≤zas:=Nat.le_trans hj hl
 refine zae Tk Tryz.func195 ?_
 refine zai Tk Tryz.func195 rfl (fun h1=>?_) (fun h1=>?_)
 ·have h1:i<j:=by simpa using h1
  have hm:=zvy (Nat.le_trans hij hlj) hlj
  have hmj:(i+j) / 2<j:=by omega
  have hml:(i+j) / 2<l.length:=by omega
  have ge:(l.map edgI)[((((i+j) / 2:Nat):Int)).toNat]? = some (edgI l[(i+j) / 2]):=zaj hml
  have hwm:=hw _ (List.getElem_mem hml)
  have hfm:=hf l[(i+j) / 2]
  generalize he:l[(i+j) / 2]=e at *
  refine zag Tk Tryz.func195 (by simp[IntKind.bits]) ?_
  refine zag Tk Tryz.func195 (by rw[hm];exact⟨by omega,by show (((i+j) / 2:Nat):Int)<(l.length:Int);omega⟩) ?_
  refine zap Tk Tryz.func195 (by rw[hm];exact ge) ?_
  refine zaf Tk Tryz.func195 (hfm _) rfl rfl rfl rfl rfl ?_
  refine zai Tk Tryz.func195 rfl (fun h2=>?_) (fun h2=>?_)
  ·have h2:IntKind.i64.wrap (e.1 - s)<0:=of_decide_eq_true h2
   rw[hwm] at h2
   refine zac ?_
   refine ih ((i+j) / 2+1,j) _ _ ⟨by show (i+j) / 2+1≤j;omega,hj,fun k h h'=>?_,hhi⟩ (by simp only;omega) ⟨rfl,rfl,rfl,rfl,?_,rfl,trivial⟩ rfl trivial rfl rfl
   ·have h':k<(i+j) / 2+1:=h'
    have:=hsort k ((i+j) / 2) h hml (by omega)
    rw[he] at this
    omega
   ·show D.i (.v (.int .i64 _))=_
    rw[hm]
    exact congrArg ii (zaC (n:=j) (by omega) hlj)
  ·have h2:¬ IntKind.i64.wrap (e.1 - s)<0:=of_decide_eq_false h2
   rw[hwm] at h2
   refine zac ?_
   refine ih (i,(i+j) / 2) _ _ ⟨by show i≤(i+j) / 2;omega,by show (i+j) / 2≤l.length;omega,hlo,fun k h h'=>?_⟩ (by simp only;omega) ⟨rfl,rfl,rfl,rfl,rfl,?_,trivial⟩ rfl trivial rfl rfl
   ·have h':(i+j) / 2≤k:=h'
    have:=hsort ((i+j) / 2) k hml h h'
    rw[he] at this
    omega
   ·show D.i (.v (.int .i64 _))=_
    rw[hm]
 ·have h1:j≤i:=by simpa using h1
  have hij:i=j:=by omega
  subst hij
  have hlow:lowE l s=i:=zuv hj hlo hhi
  have hfd:fndE l s=match l[i]? with | some e=>e.1 - s==0 | none=>false:=by unfold fndE;rw[hlow];rfl
  rw[hlow,hfd]
  refine zaW Tk Tryz.func195 rfl (fun h2=>?_) (fun h2=>?_)
  ·have h2:i<l.length:=by simpa using h2
   have ge:(l.map edgI)[(i:Int).toNat]? = some (edgI l[i]):=zaj h2
   have hwm:=hw _ (List.getElem_mem h2)
   have hfm:=hf l[i]
   rw[List.getElem?_eq_getElem h2]
   generalize l[i]=e at *
   refine zag Tk Tryz.func195 (by exact⟨by omega,by show (i:Int)<(l.length:Int);omega⟩) ?_
   refine zap Tk Tryz.func195 (ge) ?_
   refine zaf Tk Tryz.func195 (hfm _) rfl rfl rfl rfl rfl ?_
   refine zak Tk (r:=.tup [ii (i:Nat),bb (IntKind.i64.wrap (e.1 - s)==0)]) rfl rfl rfl trivial rfl rfl ?_
   rw[hwm]
  ·have h2:l.length≤i:=by simpa using h2
   rw[List.getElem?_eq_none h2]
   refine zak Tk (r:=.tup [ii (i:Nat),bb false]) rfl rfl rfl trivial rfl rfl ?_
   rfl
theorem zth (O:List Heap) (a:Aut) (s:Int) (hl:a.edges.length≤zas) (hs:zdw a.edges) (hb:∀ e∈a.edges,0≤e.1∧e.1≤5000) (hsb:0≤s∧s≤4999):zan Tryz.prog 160 [autD a,ii s] O (edgs (outR a.edges s)) [] O:=by
 obtain⟨al,n,mk,es⟩:=a
 simp only at hl hs hb ⊢
 have h1:=fun O=>ztK O es s 196 (fun e O=>zv0 O e s) hl hs hb (by omega)
 have hw:IntKind.i64.wrap (s+1)=s+1:=w64 (by omega) (by omega)
 have h2:∀ O,zan Tryz.prog 195 [edgs es,ii (IntKind.i64.wrap (s+1)),.fn (.func 197) [] []] O (.tup [ii (lowE es (s+1):Nat),bb (fndE es (s+1))]) [] O:=fun O=>by
  rw[hw]
  exact ztK O es (s+1) 197 (fun e O=>zvZ O e (s+1)) hl hs hb (by omega)
 have hle:=zjx hs (show s≤s+1 by omega)
 have hle2:=zer es (s+1)
 have hlen:=zd1 es s
 have ho:outR es s=(es.take (lowE es (s+1))).drop (lowE es s):=rfl
 have hres:edgs (outR es s) = .i (.sl 3 (((lowE es (s+1):Nat):Int).toNat - ((lowE es s:Nat):Int).toNat) (((es.map edgI).take ((lowE es (s+1):Nat):Int).toNat).drop ((lowE es s:Nat):Int).toNat)):=by
  unfold edgs
  rw[hlen]
  unfold outR
  rw[List.map_drop,List.map_take]
  rfl
 rw[hres]
 generalize lowE es s=p at *
 generalize lowE es (s+1)=q at *
 refine zad Tk Tryz.func160 rfl Tryz.call160 Tryz.ntmps160 (Nat.le_of_ble_eq_true rfl) fun E=>?_
 refine zae Tk Tryz.func160 ?_
 refine zaf Tk Tryz.func160 (h1 _) rfl rfl rfl rfl rfl ?_
 refine zaf Tk Tryz.func160 (h2 _) rfl rfl rfl rfl rfl ?_
 refine zag Tk Tryz.func160 (by exact⟨by omega,by omega,by show ((q:Nat):Int)≤(es.length:Int);omega⟩) ?_
 refine zak Tk (r:=.i (.sl 3 (((q:Nat):Int).toNat - ((p:Nat):Int).toNat) (((es.map edgI).take ((q:Nat):Int).toNat).drop ((p:Nat):Int).toNat))) rfl rfl rfl trivial rfl rfl ?_
 rfl
end Go.AI


namespace Go.AI
open Go.Proofs
set_option maxRecDepth 20000
theorem zjz (O:List Heap) (l:List Edg) (f:Nat) (d nm:Nat) (p:Edg→Bool) (hl:l.length≤zas) (hp:∀ x∈l,zan Tryz.prog f [edgD x,.own (d+1) nm 0 0] ([]::O) (bb (p x)) [] ([]::O)) :
  zan Tryz.prog 161 [edgs l,.fn (.func f) [] [.own d nm 0 0]] O (ii (zax p l 0)) [] O:=by
 generalize hR:zax p l 0=R
 refine zad Tk Tryz.func161 rfl Tryz.call161 Tryz.ntmps161 (Nat.le_of_ble_eq_true rfl) fun E=>?_
 refine zae Tk Tryz.func161 ?_
 refine zac ?_
 refine zah (fun i:Nat=>[(0,edgs l),(1,.fn (.func f) [] [.own (d+1) nm 0 0]),(7,ii l.length),(8,ii i)]) (fun _=>[]) (fun _=>O) 19
  (fun i=>i≤l.length∧zax p (l.drop i) i=R) (fun i=>l.length - i) 0 ⟨Nat.zero_le _,hR⟩ ⟨rfl,rfl,rfl,rfl,trivial⟩ rfl trivial rfl rfl ?_
 rintro i ⟨hi,hno⟩ ih
 clear hR
 refine zae Tk Tryz.func161 ?_
 refine zai Tk Tryz.func161 rfl (fun g1=>?_) (fun g1=>?_)
 ·have h1:i<l.length:=by simpa using g1
  have gs:(l.map edgI)[(i:Int).toNat]? = some (edgI l[i]):=zaj h1
  have hps:=hp l[i] (List.getElem_mem h1)
  have hd:l.drop i=l[i]::l.drop (i+1):=List.drop_eq_getElem_cons h1
  rw[hd] at hno
  simp only[zax] at hno
  clear hd
  generalize l[i]=s at *
  refine zag Tk Tryz.func161 (by exact⟨by omega,by show (i:Int)<(l.length:Int);omega⟩) ?_
  refine zap Tk Tryz.func161 (gs) ?_
  refine zaf Tk Tryz.func161 (hps) rfl rfl rfl rfl rfl ?_
  refine zai Tk Tryz.func161 rfl (fun g2=>?_) (fun g2=>?_)
  ·rw[if_pos g2] at hno
   subst hno
   refine zak Tk (r:=ii (i:Int)) rfl rfl rfl trivial rfl rfl ?_
   rfl
  ·rw[if_neg (by rw[g2];simp)] at hno
   refine zac ?_
   exact ih (i+1) _ _ ⟨h1,hno⟩ (by omega) ⟨rfl,rfl,rfl,congrArg ii (zaC h1 hl),trivial⟩ rfl trivial rfl rfl
 ·have h1:l.length≤i:=by simpa using g1
  rw[List.drop_eq_nil_of_le h1] at hno
  simp only[zax] at hno
  subst hno
  refine zak Tk (r:=ii (-1)) rfl rfl rfl trivial rfl rfl ?_
  rfl
theorem zuQ (O:List Heap) (x:Edg) (ev:Int) (d nm:Nat) (ho:zaa O d nm=some (.box [ii ev])):zan Tryz.prog 162 [edgD x,.own d nm 0 0] O (bb (x.2.1==ev)) [] O:=by
 obtain⟨a,b,c⟩:=x
 refine zad Tk Tryz.func162 rfl Tryz.call162 Tryz.ntmps162 (Nat.le_of_ble_eq_true rfl) fun E=>?_
 refine zae Tk Tryz.func162 ?_
 refine zba Tk Tryz.func162 (zaD ho) ?_
 refine zak Tk (r:=bb (b==ev)) rfl rfl rfl trivial rfl rfl ?_
 rfl
def zha (es:List Edg) (s ev:Int):Int:=match (outR es s).find? (fun x=>x.2.1==ev) with
 | some e=>e.2.2
 | none=>-1
theorem zgR {α:Type} {p:α→Bool}:∀ (l:List α) (i:Nat),(l.find? p=none∧zax p l i = -1)∨∃ (k:Nat) (e:α),l[k]? = some e∧l.find? p=some e∧zax p l i=((i+k:Nat):Int)
 | [],i=>.inl ⟨rfl,rfl⟩
 | x::r,i=>by
  cases h:p x with
  | true=>exact .inr ⟨0,x,rfl,by simp[h],by simp[zax,h]⟩
  | false=>
   rcases zgR r (i+1) with ⟨h1,h2⟩ | ⟨k,e,h1,h2,h3⟩
   ·exact .inl ⟨by rw[List.find?_cons,h];exact h1,by simp only[zax,h];rw[if_neg (by simp)];exact h2⟩
   ·refine .inr ⟨k+1,e,by simpa using h1,by rw[List.find?_cons,h];exact h2,?_⟩
    simp only[zax,h]
    rw[if_neg (by simp),h3]
    congr 1
    omega
theorem zpR (O:List Heap) (a:Aut) (s ev:Int) (ha:autOk a) (hs:0≤s∧s≤4999):zan Tryz.prog 111 [autD a,ii s,ii ev] O (ii (zha a.edges s ev)) [] O:=by
 obtain⟨c1,c2,c3,c4⟩:=zaA ha.chk
 obtain⟨es1,eb,_⟩:=zaX c4
 have hso:=zdV es1
 have hed:=ha.ed
 have hout:=fun O=>zth O a s (by simp only[zas];omega) hso (fun e he=>by have:=(eb e he).1;omega) hs
 have hol:(outR a.edges s).length≤1000000:=by rw[zd1];have:=zer a.edges (s+1);omega
 have hix:=fun O d nm ho=>zjz O (outR a.edges s) 162 d nm (fun x=>x.2.1==ev) (by simp only[zas];omega) (fun x _=>zuQ _ x ev (d+1) nm (zaD ho))
 have hf:=zgR (p:=fun x:Edg=>x.2.1==ev) (outR a.edges s) 0
 unfold zha
 generalize outR a.edges s=L at *
 obtain⟨al,st,mk,es⟩:=a
 rcases hf with ⟨h1,h2⟩ | ⟨k,e,h1,h2,h3⟩
 ·simp only[h2] at hix
  simp only[h1]
  refine zad Tk Tryz.func111 rfl Tryz.call111 Tryz.ntmps111 (Nat.le_of_ble_eq_true rfl) fun E=>?_
  refine zae Tk Tryz.func111 ?_
  refine zaf Tk Tryz.func111 (hout _) rfl rfl rfl rfl rfl ?_
  refine zaf Tk Tryz.func111 (hix _ 0 5 rfl) rfl rfl rfl rfl rfl ?_
  refine gcT Tk Tryz.func111 rfl ?_
  refine zak Tk (r:=ii (-1)) rfl rfl rfl trivial rfl rfl ?_
  rfl
 ·simp only[h3,Nat.zero_add] at hix
  simp only[h2]
  have hkl:k<L.length:=(List.getElem?_eq_some_iff.1 h1).1
  have ge:(L.map edgI)[((k:Nat):Int).toNat]? = some (edgI e):=by
   rw[List.getElem?_map,show ((k:Nat):Int).toNat=k by omega,h1]
   rfl
  obtain⟨xf,xe,xt⟩:=e
  refine zad Tk Tryz.func111 rfl Tryz.call111 Tryz.ntmps111 (Nat.le_of_ble_eq_true rfl) fun E=>?_
  refine zae Tk Tryz.func111 ?_
  refine zaf Tk Tryz.func111 (hout _) rfl rfl rfl rfl rfl ?_
  refine zaf Tk Tryz.func111 (hix _ 0 5 rfl) rfl rfl rfl rfl rfl ?_
  refine zai Tk Tryz.func111 rfl (fun c1=>?_) (fun c1=>?_)
  ·have c1:((k:Nat):Int)<0:=of_decide_eq_true c1
   omega
  refine zag Tk Tryz.func111 (by exact⟨by omega,by show ((k:Nat):Int)<(L.length:Int);omega⟩) ?_
  refine zap Tk Tryz.func111 (ge) ?_
  refine zak Tk (r:=ii xt) rfl rfl rfl trivial rfl rfl ?_
  rfl
def folL (es:List Edg):List Int→Int→Nat→Int × Int
 | [],s,i=>(s,i)
 | x::r,s,i=>if zha es s x<0 then (s,i) else folL es r (zha es s x) (i+1)
theorem zsj {a:Aut} (ha:autOk a) {s ev:Int}:zha a.edges s ev<a.states ∧ -1≤zha a.edges s ev∧0≤a.states∧a.states≤4096:=by
 obtain⟨c1,c2,c3,c4⟩:=zaA ha.chk
 obtain⟨es1,eb,_⟩:=zaX c4
 unfold zha
 cases hf:(outR a.edges s).find? (fun x=>x.2.1==ev) with
 | none=>simp only;omega
 | some e=>
  have:=(eb _ (zmj _ (List.mem_of_find?_eq_some hf))).2.1
  simp only
  omega
theorem zjF (O:List Heap) (a:Aut) (s:Int) (w:List Int) (ha:autOk a) (hs:0≤s∧s<a.states) (hw:w.length≤zas):zan Tryz.prog 114 [autD a,ii s,ints w] O (.tup [ii (folL a.edges w s 0).1,ii (folL a.edges w s 0).2]) [] O:=by
 have hnx:=fun O s ev hs=>zpR O a s ev ha hs
 have hnl:=fun s ev=>zsj ha (s:=s) (ev:=ev)
 have hR0:folL a.edges w s 0=folL a.edges (w.drop 0) s 0:=rfl
 generalize folL a.edges w s 0=R at *
 obtain⟨al,st,mk,es⟩:=a
 simp only at hs hnl hR0
 refine zad Tk Tryz.func114 rfl Tryz.call114 Tryz.ntmps114 (Nat.le_of_ble_eq_true rfl) fun E=>?_
 refine zae Tk Tryz.func114 ?_
 refine zac ?_
 refine zah (fun x:Nat × Int=>[(1,ii x.2),(2,ints w),(3,.own 0 3 0 0),(11,ints w),(12,ii w.length),(13,ii x.1)]) (fun _=>[(3,.box [ints al,ii st,ints mk,edgs es])]) (fun _=>O) 31
  (fun x=>x.1≤w.length∧(0≤x.2∧x.2<st)∧R=folL es (w.drop x.1) x.2 x.1) (fun x=>w.length - x.1) (0,s) ⟨Nat.zero_le _,hs,hR0⟩ ⟨rfl,rfl,rfl,rfl,rfl,rfl,trivial⟩ rfl ⟨rfl,trivial⟩ rfl rfl ?_
 clear hR0
 rintro ⟨i,q⟩ ⟨hi,hq,hno⟩ ih
 simp only at hi hq hno
 have hst:=(hnl 0 0).2.2.2
 refine zae Tk Tryz.func114 ?_
 refine zai Tk Tryz.func114 rfl (fun g1=>?_) (fun g1=>?_)
 ·have h1:i<w.length:=by simpa using g1
  have gw:(w.map fun x=>[vi x])[(i:Int).toNat]? = some [vi w[i]]:=zaj (f:=fun x=>[vi x]) h1
  have dw:w.drop i=w[i]::w.drop (i+1):=List.drop_eq_getElem_cons h1
  rw[dw] at hno
  simp only[folL] at hno
  clear dw
  generalize w[i]=ev at *
  have hn1:=fun O=>hnx O q ev (by omega)
  have hn2:=hnl q ev
  generalize zha es q ev=N at *
  refine zag Tk Tryz.func114 (by exact⟨by omega,by show (i:Int)<(w.length:Int);omega⟩) ?_
  refine zap Tk Tryz.func114 (gw) ?_
  refine zaf Tk Tryz.func114 (hn1 _) rfl rfl rfl rfl rfl ?_
  refine zai Tk Tryz.func114 rfl (fun g2=>?_) (fun g2=>?_)
  ·have g2:N<0:=of_decide_eq_true g2
   rw[if_pos g2] at hno
   subst hno
   refine zak Tk (r:=.tup [ii q,ii (i:Int)]) rfl rfl rfl trivial rfl rfl ?_
   rfl
  ·have g2:¬ N<0:=of_decide_eq_false g2
   rw[if_neg g2] at hno
   refine zac ?_
   exact ih (i+1,N) _ _ ⟨h1,⟨by simp only;omega,hn2.1⟩,hno⟩ (by simp only;omega) ⟨rfl,rfl,rfl,rfl,rfl,congrArg ii (zaC h1 hw),trivial⟩ rfl ⟨rfl,trivial⟩ rfl rfl
 ·have h1:w.length≤i:=by simpa using g1
  rw[List.drop_eq_nil_of_le h1] at hno
  simp only[folL] at hno
  have hie:i=w.length:=by omega
  subst hie
  subst hno
  refine zak Tk (r:=.tup [ii q,ii (w.length:Int)]) rfl rfl rfl trivial rfl rfl ?_
  rfl
theorem zdm (O:List Heap) (a:Aut) (s:Int) (ha:autOk a) (hs:0≤s∧s<a.states):zan Tryz.prog 110 [autD a,ii s] O (ii 0) [] O:=by
 have h1:=fun O=>ze3 O a (by have:=ha.ed;simp only[zas];omega) (by have:=ha.al;simp only[zas];omega) (by have:=ha.mkd;simp only[zas];omega)
 rw[ha.chk] at h1
 obtain⟨al,st,mk,es⟩:=a
 simp only at hs
 refine zad Tk Tryz.func110 rfl Tryz.call110 Tryz.ntmps110 (Nat.le_of_ble_eq_true rfl) fun E=>?_
 refine zae Tk Tryz.func110 ?_
 refine zaf Tk Tryz.func110 (h1 _) rfl rfl rfl rfl rfl ?_
 refine gcF Tk Tryz.func110 rfl ?_
 refine zaW Tk Tryz.func110 rfl (fun c1=>?_) (fun c1=>?_)
 ·have c1:s<0:=of_decide_eq_true c1
  omega
 refine zai Tk Tryz.func110 rfl (fun c2=>?_) (fun c2=>?_)
 ·have c2:s ≥ st:=of_decide_eq_true c2
  omega
 refine zak Tk (r:=ii 0) rfl rfl rfl trivial rfl rfl ?_
 rfl
theorem zsi (O:List Heap) (a:Aut) (x:Int) (ha:a.alpha.length≤1000000) (d nm:Nat) (ho:zaa O d nm=some (.box (autC a))):zan Tryz.prog 115 [ii x,.own d nm 0 0] O (bb (!decide (x∈a.alpha))) [] O:=by
 have h:=fun O=>za3 O a.alpha x (by simp only[zas];omega)
 obtain⟨al,st,mk,es⟩:=a
 refine zad Tk Tryz.func115 rfl Tryz.call115 Tryz.ntmps115 (Nat.le_of_ble_eq_true rfl) fun E=>?_
 refine zae Tk Tryz.func115 ?_
 refine zba Tk Tryz.func115 (zaD ho) ?_
 refine zaf Tk Tryz.func115 (h _) rfl rfl rfl rfl rfl ?_
 refine zak Tk (r:=bb (!decide (x∈al))) rfl rfl rfl trivial rfl rfl ?_
 rfl
theorem zvm (O:List Heap) (a:Aut) (s:Int) (w:List Int) (ha:autOk a) (hs:0≤s∧s<a.states) (hw:w.length≤zas) (hal:∀ x∈w,x∈a.alpha):zan Tryz.prog 63 [autD a,ii s,ints w] O (.tup [ii (folL a.edges w s 0).1,ii (folL a.edges w s 0).2,ii 0]) [] O:=by
 have h1:=fun O=>zdm O a s ha hs
 have h2:=fun O ho=>zcS O w 115 0 3 (fun x=>!decide (x∈a.alpha)) hw (fun x _=>zsi _ a x ha.al 2 3 ho)
 have h3:=fun O=>zjF O a s w ha hs hw
 have hany:w.any (fun x=>!decide (x∈a.alpha))=false:=by
  rw[List.any_eq_false]
  intro x hx
  simp[hal x hx]
 rw[hany] at h2
 generalize folL a.edges w s 0=R at *
 obtain⟨al,st,mk,es⟩:=a
 refine zad Tk Tryz.func63 rfl Tryz.call63 Tryz.ntmps63 (Nat.le_of_ble_eq_true rfl) fun E=>?_
 refine zae Tk Tryz.func63 ?_
 refine zaf Tk Tryz.func63 (h1 _) rfl rfl rfl rfl rfl ?_
 refine gcF Tk Tryz.func63 rfl ?_
 refine zaf Tk Tryz.func63 (h2 _ rfl) rfl rfl rfl rfl rfl ?_
 refine gcF Tk Tryz.func63 rfl ?_
 refine zaf Tk Tryz.func63 (h3 _) rfl rfl rfl rfl rfl ?_
 refine zak Tk (r:=.tup [ii R.1,ii R.2,ii 0]) rfl rfl rfl trivial rfl rfl ?_
 rfl
end Go.AI


namespace Go.AI
open Go.Proofs
set_option maxRecDepth 20000
theorem gAut.ok {a:Aut} {n:Nat} (h:gAut a n):autOk a:=⟨h.sm.ed,h.sm.al,h.sm.mkd,h.c⟩
theorem zjt {es:List Edg} (hp:es.Pairwise ltE) (s ev:Int):zha es s ev=stp3 es s ev:=by
 have hs:=zdV hp
 unfold zha
 cases h:(outR es s).find? (fun x=>x.2.1==ev) with
 | none=>
  refine (zhY fun e he hc=>?_).symm
  have hm:=zsf hs he
  rw[hc.1] at hm
  have:=List.find?_eq_none.1 h e hm
  simp[hc.2] at this
 | some e=>
  have h1:=List.mem_of_find?_eq_some h
  have h2:=zml hs e h1
  have h3:e.2.1=ev:=by have:=List.find?_some h;simpa using this
  have:=zcs hp (zmj e h1)
  rw[h2,h3] at this
  exact this.symm
theorem zfB {α:Type} {p:α→Bool} {l:List α} (h:∀ x∈l,p x=false):l.filter p=[]:=List.filter_eq_nil_iff.2 fun x hx=>by rw[h x hx];decide
theorem zkn {es:List Edg} (hs:zdw es) (s:Int):outR es s=es.filter fun e=>e.1==s:=by
 have hm:=zjx hs (show s≤s+1 by omega)
 have e1:es=es.take (lowE es (s+1))++es.drop (lowE es (s+1)):=(List.take_append_drop _ _).symm
 have e2:es.take (lowE es (s+1))=(es.take (lowE es (s+1))).take (lowE es s)++outR es s:=(List.take_append_drop _ _).symm
 rw[e2] at e1
 have h1:((es.take (lowE es (s+1))).take (lowE es s)).filter (fun e=>e.1==s)=[]:=zfB fun x hx=>by
  rw[List.take_take,Nat.min_eq_left hm] at hx
  obtain⟨j,hj,rfl⟩:=List.getElem_of_mem hx
  rw[List.length_take] at hj
  rw[List.getElem_take]
  have:=zgz (l:=es) (s:=s) (j:=j) (by omega) (by omega)
  simp;omega
 have h2:(es.drop (lowE es (s+1))).filter (fun e=>e.1==s)=[]:=zfB fun x hx=>by
  obtain⟨j,hj,rfl⟩:=List.getElem_of_mem hx
  rw[List.length_drop] at hj
  rw[List.getElem_drop]
  have:=zir hs (s:=s+1) (j:=lowE es (s+1)+j) (Nat.le_add_right _ _) (by omega)
  simp;omega
 have h3:(outR es s).filter (fun e=>e.1==s)=outR es s:=List.filter_eq_self.2 fun x hx=>by have:=zml hs x hx;simp[this]
 have:=congrArg (List.filter fun e=>e.1==s) e1
 rw[List.filter_append,List.filter_append,h1,h2,h3] at this
 simpa using this.symm
theorem zsg {a:Aut} {n:Nat} (h:gAut a n) (s:Int):(outR a.edges s).map (fun e=>e.2.1)=evC a.edges s:=by
 rw[zkn (zdV h.pw)];rfl
abbrev stpT (a:Aut) (s ev:Int):D:=.tup [ii (if 0≤stp3 a.edges s ev then stp3 a.edges s ev else 0),bb (decide (0≤stp3 a.edges s ev)),ii (if ev∈a.alpha then 0 else 9)]
theorem zo7 (O:List Heap) (a:Aut) (n:Nat) (s ev:Int) (h:gAut a n) (hs:0≤s∧s<(n:Int)):zan Tryz.prog 60 [autD a,ii s,ii ev] O (stpT a s ev) [] O:=by
 have hn:=(zaA h.c).2.1
 have hst:=h.st
 have h1:=fun O=>zdm O a s h.ok (by omega)
 have h2:=fun O=>za3 O a.alpha ev (by have:=h.sm.al;simp only[zas];omega)
 have h3:=fun O=>zpR O a s ev h.ok (by omega)
 rw[zjt h.pw] at h3
 have hev:ev ∉ a.alpha→stp3 a.edges s ev = -1:=fun hne=>zhY fun e he hc=>hne (hc.2 ▸ h.ev e he)
 unfold stpT
 generalize stp3 a.edges s ev=t at *
 clear h
 obtain⟨al,st,mk,es⟩:=a
 simp only at *
 refine zad Tk Tryz.func60 rfl Tryz.call60 Tryz.ntmps60 (Nat.le_of_ble_eq_true rfl) fun E=>?_
 refine zae Tk Tryz.func60 ?_
 refine zaf Tk Tryz.func60 (h1 _) rfl rfl rfl rfl rfl ?_
 refine gcF Tk Tryz.func60 rfl ?_
 refine zaf Tk Tryz.func60 (h2 _) rfl rfl rfl rfl rfl ?_
 refine zai Tk Tryz.func60 rfl (fun c1=>?_) (fun c1=>?_)
 ·have c1:ev ∉ al:=of_decide_eq_false (notT c1)
  rw[hev c1,if_neg c1]
  refine zak Tk (r:=.tup [ii 0,bb false,ii 9]) rfl rfl rfl trivial rfl rfl ?_
  rfl
 have c1:ev∈al:=of_decide_eq_true (notF c1)
 rw[if_pos c1]
 refine zaf Tk Tryz.func60 (h3 _) rfl rfl rfl rfl rfl ?_
 refine zai Tk Tryz.func60 rfl (fun c2=>?_) (fun c2=>?_)
 ·have c2:0≤t:=of_decide_eq_true c2
  rw[if_pos c2,decide_eq_true c2]
  refine zak Tk (r:=.tup [ii t,bb true,ii 0]) rfl rfl rfl trivial rfl rfl ?_
  rfl
 ·have c2:¬ 0≤t:=of_decide_eq_false c2
  rw[if_neg c2,decide_eq_false c2]
  refine zak Tk (r:=.tup [ii 0,bb false,ii 0]) rfl rfl rfl trivial rfl rfl ?_
  rfl
theorem zof (O:List Heap) (a:Aut) (n:Nat) (s:Int) (h:gAut a n) (hs:0≤s∧s<(n:Int)):zan Tryz.prog 157 [autD a,ii s] O (.tup [ints (evC a.edges s),ii 0]) [] O:=by
 have hn:=(zaA h.c).2.1
 have hst:=h.st
 have h1:=fun O=>zdm O a s h.ok (by omega)
 have hfr:=h.fr
 have h2:=fun O=>zth O a s (by have:=h.sm.ed;simp only[zas];omega) (zdV h.pw) (fun e he=>by have:=hfr e he;omega) (by omega)
 have hrl:(outR a.edges s).length≤1000000:=by rw[zd1];have:=zer a.edges (s+1);have:=h.sm.ed;omega
 rw[← zsg h s]
 generalize outR a.edges s=row at *
 clear h hfr
 obtain⟨al,st,mk,es⟩:=a
 refine zau [10] Tk Tryz.func157 rfl Tryz.call157 Tryz.ntmps157 (Nat.le_of_ble_eq_true rfl) fun E=>?_
 refine zae Tk Tryz.func157 ?_
 refine zaf Tk Tryz.func157 (h1 _) rfl rfl rfl rfl rfl ?_
 refine gcF Tk Tryz.func157 rfl ?_
 refine zaf Tk Tryz.func157 (h2 _) rfl rfl rfl rfl rfl ?_
 refine zac ?_
 refine zaq (zcg 7 28 3 1 rfl rfl rfl) ?_
 refine zah (fun i:Nat=>[(7,.osl 0 28),(18,edgs row),(19,ii row.length),(20,ii i)]) (fun i=>[(28,zat ((row.take i).map fun e=>e.2.1))]) (fun _=>O) 31
  (fun i=>i≤row.length) (fun i=>row.length - i) 0 (Nat.zero_le _) ⟨rfl,rfl,rfl,rfl,trivial⟩ rfl ⟨rfl,trivial⟩ rfl rfl ?_
 rintro i hi ih
 refine zae Tk Tryz.func157 ?_
 refine zai Tk Tryz.func157 rfl (fun g1=>?_) (fun g1=>?_)
 ·have h3:i<row.length:=by simpa using g1
  have ge:(row.map edgI)[(i:Int).toNat]? = some (edgI row[i]):=zaj h3
  have htk:=zdd (f:=fun e:Edg=>e.2.1) h3
  have hl:((row.take i).map fun e=>e.2.1).length≤1000000:=by rw[List.length_map,List.length_take];omega
  generalize row[i]=e at *
  obtain⟨e1,e2,e3⟩:=e
  generalize (row.take i).map (fun e=>e.2.1)=L at *
  refine zag Tk Tryz.func157 (by exact⟨by omega,by show (i:Int)<(row.length:Int);omega⟩) ?_
  refine zap Tk Tryz.func157 (ge) ?_
  refine zag Tk Tryz.func157 (by exact⟨by show (L.length+1) * 8≤140737488355328;omega,by show L.length+1≤9223372036854775807;omega⟩) ?_
  refine zac ?_
  refine ih (i+1) _ _ h3 (by omega) ⟨rfl,rfl,rfl,congrArg ii (zaC (n:=1000001) (by omega) (by decide)),trivial⟩ rfl ⟨?_,trivial⟩ rfl rfl
  rw[htk]
  exact congrArg some (zaO L e2)
 ·have h3:row.length≤i:=by simpa using g1
  rw[List.take_of_length_le h3]
  refine zay ?_
  refine zaq (zao 28 rfl rfl) ?_
  refine zae Tk Tryz.func157 ?_
  refine g_go Tk Tryz.func157 ?_
  refine zak Tk (r:=.tup [ints (row.map fun e=>e.2.1),ii 0]) rfl rfl rfl trivial rfl rfl ?_
  rfl
structure stOk (x:Sys) (a:Aut) (ps:List (Int × Int)):Prop where
 hx:gSys x
 sm:smallS x
 ga:gAut a ps.length
 pin:∀ z∈ps,0≤z.1∧z.1<x.p.states
 len:ps.length≤4095
abbrev zeM (a:Aut) (st ev:Int):Bool:=decide (0≤stp3 a.edges st ev)
abbrev canF (x:Sys) (ps:List (Int × Int)) (st ev:Int):Bool:=decide (0≤stp3 x.p.edges ((ps.getD st.toNat (0,0)).1) ev)
abbrev refF (x:Sys) (a:Aut) (ps:List (Int × Int)) (st ev:Int):Bool:=canF x ps st ev && !zeM a st ev
theorem zgh (O:List Heap) (x:Sys) (a:Aut) (ps:List (Int × Int)) (o:Aut) (es:List (List Int)) (h:stOk x a ps) (st ev:Int) (hs:0≤st∧st<(ps.length:Int)):zan Tryz.prog 65 [zbB x a ps o es,ii st,ii ev] O (bb (zeM a st ev)) [] O:=by
 have h1:=fun O=>zo7 O a _ st ev h.ga hs
 unfold stpT at h1
 unfold zeM
 generalize stp3 a.edges st ev=t at *
 clear h
 obtain⟨al,n,mk,eds⟩:=a
 refine zad Tk Tryz.func65 rfl Tryz.call65 Tryz.ntmps65 (Nat.le_of_ble_eq_true rfl) fun E=>?_
 refine zae Tk Tryz.func65 ?_
 refine zap Tk Tryz.func65 (rfl) ?_
 refine zaf Tk Tryz.func65 (h1 _) rfl rfl rfl rfl rfl ?_
 refine zak Tk (r:=bb (decide (0≤t))) rfl rfl rfl trivial rfl rfl ?_
 rfl
theorem zjf (O:List Heap) (x:Sys) (a:Aut) (ps:List (Int × Int)) (o:Aut) (es:List (List Int)) (h:stOk x a ps) (st ev:Int) (hs:0≤st∧st<(ps.length:Int)):zan Tryz.prog 66 [zbB x a ps o es,ii st,ii ev] O (bb (refF x a ps st ev)) [] O:=by
 have h1:=fun O=>zgh O x a ps o es h st ev hs
 obtain⟨k,rfl⟩:∃ k:Nat,st=k:=⟨st.toNat,by omega⟩
 have hk:k<ps.length:=by omega
 have hg:ps.getD (k:Int).toNat (0,0)=ps[k]:=by rw[Int.toNat_natCast,List.getD_eq_getElem?_getD,List.getElem?_eq_getElem hk];rfl
 unfold refF canF
 rw[hg]
 have gp:(ps.map prI)[(k:Int).toNat]? = some (prI ps[k]):=zaj hk
 have hz:=h.pin _ (List.getElem_mem hk)
 generalize ps[k]=z at *
 obtain⟨z1,z2⟩:=z
 simp only at hz
 have hgp:gAut x.p x.p.states.toNat:=⟨by have:=(zaA h.hx.p).2.1;omega,h.sm.p,h.hx.p⟩
 have h2:=fun O=>zo7 O x.p _ z1 ev hgp (by omega)
 unfold stpT at h2
 simp only
 generalize stp3 x.p.edges z1 ev=t at *
 generalize zeM a k ev=b at *
 clear h hgp hz
 obtain⟨⟨al,st,mk,eds⟩,⟨al',st',mk',es'⟩,ob,ct⟩:=x
 refine zad Tk Tryz.func66 rfl Tryz.call66 Tryz.ntmps66 (Nat.le_of_ble_eq_true rfl) fun E=>?_
 refine zae Tk Tryz.func66 ?_
 refine zaF Tk Tryz.func66 zaM rfl ?_
 refine zaK Tk (rfl) ?_
 refine zaK Tk (rfl) ?_
 refine zaz Tk (by exact⟨by omega,by show (k:Int)<(ps.length:Int);omega⟩) ?_
 refine zaz Tk (by exact⟨by decide,by decide⟩) ?_
 refine zaK Tk (gp) ?_
 refine zaU Tk (fun _=>h2 _) rfl rfl rfl ?_
 refine zaQ Tk Tryz.func66 (by kernel_rfl) ?_
 refine zaW Tk Tryz.func66 rfl (fun c1=>?_) (fun c1=>?_)
 ·rw[c1,Bool.true_and]
  refine zaf Tk Tryz.func66 (h1 _) rfl rfl rfl rfl rfl ?_
  refine zak Tk (r:=bb (!b)) rfl rfl rfl trivial rfl rfl ?_
  rfl
 ·rw[c1,Bool.false_and]
  refine zak Tk (r:=bb false) rfl rfl rfl trivial rfl rfl ?_
  rfl
theorem zgS (f:Int→Bool) (l:List Int) (x:Int):(l++[x]).filter f=l.filter f++if f x=true then [x] else []:=by
 rw[List.filter_append]
 congr 1
 by_cases h:f x=true <;> simp[h]
theorem zmG (O:List Heap) (x:Sys) (a:Aut) (ps:List (Int × Int)) (o:Aut) (es:List (List Int)) (h:stOk x a ps) (est:List Int) (ev:Int) (hs:∀ s∈est,0≤s∧s<(ps.length:Int)) (hl:est.length≤1000000) :
  zan Tryz.prog 57 [zbB x a ps o es,ints est,ii ev] O (.tup [ints (est.filter fun s=>zeM a s ev),ints (est.filter fun s=>refF x a ps s ev)]) [] O:=by
 obtain⟨pf,hpf⟩:∃ pf:Int→Bool,pf=fun s=>zeM a s ev:=⟨_,rfl⟩
 obtain⟨rf,hrf⟩:∃ rf:Int→Bool,rf=fun s=>refF x a ps s ev:=⟨_,rfl⟩
 have h1:∀ O s,0≤s∧s<(ps.length:Int)→zan Tryz.prog 65 [zbB x a ps o es,ii s,ii ev] O (bb (pf s)) [] O:=fun O s hs=>by rw[hpf];exact zgh O x a ps o es h s ev hs
 have h2:∀ O s,0≤s∧s<(ps.length:Int)→zan Tryz.prog 66 [zbB x a ps o es,ii s,ii ev] O (bb (rf s)) [] O:=fun O s hs=>by rw[hrf];exact zjf O x a ps o es h s ev hs
 have hex:∀ s,pf s=true→rf s=false:=fun s hp=>by
  rw[hpf] at hp
  rw[hrf]
  show (canF x ps s ev && !zeM a s ev)=false
  rw[show zeM a s ev=true from hp];simp
 rw[← hpf,← hrf]
 clear hpf hrf h
 refine zau [9] Tk Tryz.func57 rfl Tryz.call57 Tryz.ntmps57 (Nat.le_of_ble_eq_true rfl) fun E=>?_
 refine zae Tk Tryz.func57 ?_
 refine zac ?_
 refine zaq (zcg 6 24 3 1 rfl rfl rfl) ?_
 refine zaq (zcg 7 33 3 1 rfl rfl rfl) ?_
 refine zah (fun i:Nat=>[(0,zbB x a ps o es),(2,ii ev),(6,.osl 0 24),(7,.osl 0 33),(10,ints est),(11,ii est.length),(12,ii i)]) (fun i=>[(24,zat ((est.take i).filter pf)),(33,zat ((est.take i).filter rf))]) (fun _=>O) 37
  (fun i=>i≤est.length) (fun i=>est.length - i) 0 (Nat.zero_le _) ⟨rfl,rfl,rfl,rfl,rfl,rfl,rfl,trivial⟩ rfl ⟨rfl,rfl,trivial⟩ rfl rfl ?_
 rintro i hi ih
 have hj1:ii (IntKind.i64.wrap ((i:Int)+1))=ii ((i+1:Nat):Int):=congrArg ii (zaC (n:=1000001) (by omega) (by decide))
 refine zae Tk Tryz.func57 ?_
 refine zai Tk Tryz.func57 rfl (fun g1=>?_) (fun g1=>?_)
 ·have h3:i<est.length:=by simpa using g1
  have ge:(est.map fun x=>[vi x])[(i:Int).toNat]? = some [vi est[i]]:=zaj (f:=fun x=>[vi x]) h3
  have htk:est.take (i+1)=est.take i++[est[i]]:=List.take_succ_eq_append_getElem h3
  have hsr:=hs _ (List.getElem_mem h3)
  have hA:=zgS pf (est.take i) est[i]
  have hB:=zgS rf (est.take i) est[i]
  rw[← htk] at hA hB
  have lA:((est.take i).filter pf).length≤1000000:=Nat.le_trans (List.length_filter_le _ _) (by rw[List.length_take];omega)
  have lB:((est.take i).filter rf).length≤1000000:=Nat.le_trans (List.length_filter_le _ _) (by rw[List.length_take];omega)
  generalize est[i]=s at *
  clear htk
  generalize (est.take i).filter pf=A at *
  generalize (est.take i).filter rf=B at *
  refine zag Tk Tryz.func57 (by exact⟨by omega,by show (i:Int)<(est.length:Int);omega⟩) ?_
  refine zap Tk Tryz.func57 (ge) ?_
  refine zaf Tk Tryz.func57 (h1 _ s hsr) rfl rfl rfl rfl rfl ?_
  refine zai Tk Tryz.func57 rfl (fun c1=>?_) (fun c1=>?_)
  ·have c1:pf s=true:=c1
   rw[if_pos c1] at hA
   rw[if_neg (by rw[hex s c1];decide),List.append_nil] at hB
   refine zag Tk Tryz.func57 (by exact⟨by show (A.length+1) * 8≤140737488355328;omega,by show A.length+1≤9223372036854775807;omega⟩) ?_
   refine zac ?_
   exact ih (i+1) _ _ h3 (by omega) ⟨rfl,rfl,rfl,rfl,rfl,rfl,hj1,trivial⟩ rfl ⟨by rw[hA];exact congrArg some (zaO A s),by rw[hB];rfl,trivial⟩ rfl rfl
  ·have c1:pf s=false:=c1
   rw[if_neg (by rw[c1];decide),List.append_nil] at hA
   refine zaf Tk Tryz.func57 (h2 _ s hsr) rfl rfl rfl rfl rfl ?_
   refine zai Tk Tryz.func57 rfl (fun c2=>?_) (fun c2=>?_)
   ·have c2:rf s=true:=c2
    rw[if_pos c2] at hB
    refine zag Tk Tryz.func57 (by exact⟨by show (B.length+1) * 8≤140737488355328;omega,by show B.length+1≤9223372036854775807;omega⟩) ?_
    refine zac ?_
    exact ih (i+1) _ _ h3 (by omega) ⟨rfl,rfl,rfl,rfl,rfl,rfl,hj1,trivial⟩ rfl ⟨by rw[hA];rfl,by rw[hB];exact congrArg some (zaO B s),trivial⟩ rfl rfl
   ·have c2:rf s=false:=c2
    rw[if_neg (by rw[c2];decide),List.append_nil] at hB
    refine zac ?_
    exact ih (i+1) _ _ h3 (by omega) ⟨rfl,rfl,rfl,rfl,rfl,rfl,hj1,trivial⟩ rfl ⟨by rw[hA];rfl,by rw[hB];rfl,trivial⟩ rfl rfl
 ·have h3:est.length≤i:=by simpa using g1
  rw[List.take_of_length_le h3]
  refine zay ?_
  refine zaq (zao 24 rfl rfl) ?_
  refine zaq (zao 33 rfl rfl) ?_
  refine zae Tk Tryz.func57 ?_
  refine g_go Tk Tryz.func57 ?_
  refine zak Tk (r:=.tup [ints (est.filter pf),ints (est.filter rf)]) rfl rfl rfl trivial rfl rfl ?_
  rfl
end Go.AI


namespace Go.Proofs
open Go.Shelf
def Tryz.lays112_ren:Go.Shelf.Ren:=⟨fun | 112=>194 | n=>n,fun | 28=>31 | 3=>3 | 4=>4 | 0=>0 | n=>n,fun | n=>n⟩
theorem Tryz.lays112:Go.Proofs.Lays.n112 Tryz.prog Tryz.lays112_ren:={
 mixed:=by kernel_rfl
 f112:=Tryz.func194.trans (congrArg some (by kernel_rfl))
 t0:=Tryz.underlying0
 a0:=Tryz.isAgg0
 z0:=Tryz.sizeOf0
 v0:=Tryz.zeroValue0
 t3:=Tryz.underlying3
 a3:=Tryz.isAgg3
 z3:=Tryz.sizeOf3
 v3:=Tryz.zeroValue3
 t4:=Tryz.underlying4
 a4:=Tryz.isAgg4
 z4:=Tryz.sizeOf4
 v4:=Tryz.zeroValue4
 t28:=Tryz.underlying31
 a28:=Tryz.isAgg31
 z28:=Tryz.sizeOf31
 v28:=Tryz.zeroValue31 }
open Go.RowKit Go.Lib Go.Sort in
theorem Tryz.slices_Reverse_int_cells (b off n c:Nat) (zs:List Int) (w:World) (hz:n≤zs.length) (hbig:n≤9223372036854775807) (hc:∀ j,j<zs.length→w.cell? ⟨b,off+j,none⟩=some (.int .i64 (zs.getD j 0))) (hf:∀ j,j<n→w.frozen? ⟨b,off+j,none⟩=false) :
  Calls Tryz.prog 194 #[.slice (some ⟨b,off,none⟩) n c] w fun e w'=>e = .returned (.tuple #[])∧∃ q,w' = (w.drewN q).setCells b off ((zs.take n).reverse.map (Value.int .i64)):=Any.slices_Reverse_int_cells Tryz.lays112 b off n c zs w hz hbig hc hf
end Go.Proofs


namespace Go.AI
open Go.Proofs
theorem zpw (O:List Heap) (d nm:Nat) (l:List Int) (hl:l.length≤zas) (ho:zaa O d nm=some (zat l)):zan Tryz.prog 194 [.osl d nm] O (.tup []) [] (setAt O d nm (zat l.reverse)):=by
 intro E K ρ w vs hw hrep
 obtain rfl:vs=[.slice (ρ d nm).base l.length (ρ d nm).cap]:=by
  cases hrep with
  | cons r rs=>
   cases rs
   rw[zce (es:=1) (len:=l.length) r (by simp[shape,ho,Ob.sh])]
 have hown:=hw.own _ _ _ ho
 obtain⟨ρ1,hρ1,hI⟩:=zcq hw
 have ho1:zaa (([]:Heap)::O) (d+1) nm=some (zat l):=zaD ho
 have hown1:=zc0 (s:={ σ:=[],S:=[]::O,n:=0 }) hI ho1
 have hfin:∀ w',HInv (.of K ρ w) K ρ1 (setAt ([]::O) (d+1) nm (zat l.reverse)) w' → ∃ K' ρ',HInv (.of K ρ w) K' ρ' ([]::setAt O d nm (zat l.reverse)) w' ∧ RepD K' ρ' (shape ([]::setAt O d nm (zat l.reverse))) (.tuple #[]) (.tup []):=
  fun w' h=>⟨K,ρ1,h,.tup .nil⟩
 refine .inl ⟨Tryz.call194 _ _,?_⟩
 obtain⟨h1,h2,h3,h4,h5⟩:=hown1
 have hloc:ρ1 (d+1) nm=ρ d nm:=by rw[hρ1]
 rw[hloc] at h3 h4 h5
 rcases h5 with ⟨h5,h6⟩ | ⟨h5,c,h6,h7,h8,h9,h10,h11⟩
 ·have hl0:l=[]:=by
   apply List.eq_nil_of_length_eq_zero
   omega
  subst hl0
  rw[h6,h5]
  refine (Any.slices_Reverse_int_empty Tryz.lays112 none 0 w).mono ?_
  rintro e w' ⟨rfl,rfl⟩
  refine⟨_,rfl,hfin _ (hI.sameS ?_)⟩
  exact zdC ho1
 ·have hcl:c.toList.take l.length=l.map (Value.int .i64):=by
   rw[Nat.mul_one] at h8
   exact zga h8
  have hsz:l.length≤c.size:=by rw[h7,Nat.mul_one];exact h3
  rw[h5]
  refine (Tryz.slices_Reverse_int_cells (ρ d nm).block 0 l.length (ρ d nm).cap l w (Nat.le_refl _) hl (fun j hj=>?_) (fun j hj=>?_)).mono ?_
  ·rw[Nat.zero_add,cell_of_heap h6]
   have:(c.toList.take l.length)[j]? = some (.int .i64 (l.getD j 0)):=by
    rw[hcl,List.getElem?_map,List.getElem?_eq_getElem hj,List.getD_eq_getElem?_getD,List.getElem?_eq_getElem hj]
    rfl
   rw[List.getElem?_take] at this
   rw[if_pos hj] at this
   simpa using this
  ·simp[World.frozen?,h6]
  ·rintro e w' ⟨rfl,q,rfl⟩
   rw[List.take_length]
   have hh:(w.drewN q).heap[(ρ d nm).block]? = some (.cells c 3 (0,0)):=h6
   obtain⟨a1,a2,a3,a4,a5,a6⟩:=zdf (l.reverse.map (Value.int .i64)) 0 (w.drewN q) c 3 (0,0) hh
   refine⟨_,rfl,hfin _ ?_⟩
   have hbk:zar (ρ1 (d+1) nm) (zat l):=by rw[hloc];show _≠none;rw[h5];simp
   refine hI.put ho1 (by simp[Ob.sh]) hbk (by rw[hloc];show _≠none;rw[h5];simp) a3 (fun b hb=>a2 b (by rw[← hloc];exact hb)) ⟨a4,a5,a6⟩ (fun o x hx=>?_) ?_
   ·rw[hloc] at hx ⊢
    rw[h9 rfl] at hx;cases hx
   ·rw[hloc]
    refine⟨by simp,by simp,by simpa using h3,h4,.inr ⟨h5,_,a1,by rw[zgi,h7],?_,fun _=>h9 rfl,fun o ho=>by rw[h9 rfl o],fun h=>by cases h⟩⟩
    have e:(over c 0 (l.reverse.map (Value.int .i64))).toList.take (l.reverse.length * 1)=l.reverse.map (Value.int .i64):=by
     apply List.ext_getElem?
     intro j
     rw[List.getElem?_take,Nat.mul_one]
     by_cases hj:j<l.reverse.length
     ·rw[if_pos hj]
      have:=zif (l.reverse.map (Value.int .i64)) c 0 j (by simpa using hsz)
      rw[if_pos (by simpa using hj)] at this
      simpa using this
     ·rw[if_neg hj]
      simp at hj
      simp[hj]
    rw[e]
    exact zgE _
end Go.AI


namespace Go.AI
open Go.Proofs
set_option maxRecDepth 20000
abbrev Vis:=Int × Int × Int × Int
abbrev visI (v:Vis):List I:=[vi v.1,vi v.2.1,vi v.2.2.1,vi v.2.2.2]
abbrev zvb (l:List Vis):I:=.sl 4 l.length (l.map visI)
abbrev ovis (l:List Vis):Ob:=.arr 244 4 l.length (l.map visI) true
theorem zmi (l:List Vis) (v:Vis):Ob.arr 244 4 (l.length+1) (l.map visI++[visI v]) true=ovis (l++[v]):=by simp
structure VOk {S:Type} (pr:Vis→S) (vl:List Vis) (wl:List (S × List Int)):Prop where
 len:vl.length=wl.length
 el:∀ (j:Nat) v,vl[j]? = some v→∃ w,wl[j]? = some (pr v,w)∧((v.2.2.1<0∧w=[])∨∃ k:Nat,v.2.2.1=(k:Int)∧k<j∧∃ z,wl[k]? = some z∧w=z.2++[v.2.2.2])
theorem zq7 {S:Type} (pr:Vis→S) (v:Vis) (h:v.2.2.1<0):VOk pr [v] [(pr v,[])]:=
 ⟨rfl,fun j w hj=>by
  cases j with
  | zero=>simp at hj;subst hj;exact⟨[],rfl,.inl ⟨h,rfl⟩⟩
  | succ j=>simp at hj⟩
theorem zq8 {S:Type} {pr:Vis→S} {vl:List Vis} {wl:List (S × List Int)} (h:VOk pr vl wl) {k:Nat} {z:S × List Int} (hk:wl[k]? = some z) {v:Vis} (hv:v.2.2.1=(k:Int)):VOk pr (vl++[v]) (wl++[(pr v,z.2++[v.2.2.2])]):=by
 have hl:=h.len
 have hkl:=(List.getElem?_eq_some_iff.1 hk).1
 refine⟨by simp[hl],fun j u hj=>?_⟩
 by_cases hjl:j<vl.length
 ·rw[List.getElem?_append_left hjl] at hj
  obtain⟨w,h1,h2⟩:=h.el j u hj
  refine⟨w,by rw[List.getElem?_append_left (by omega)];exact h1,?_⟩
  rcases h2 with h2 | ⟨k',a1,a2,z',a3,a4⟩
  ·exact .inl h2
  ·have:=(List.getElem?_eq_some_iff.1 a3).1
   exact .inr ⟨k',a1,a2,z',by rw[List.getElem?_append_left (by omega)];exact a3,a4⟩
 ·have hj2:j=vl.length:=by
   have:=(List.getElem?_eq_some_iff.1 hj).1
   simp at this;omega
  subst hj2
  simp at hj
  subst hj
  refine⟨_,by rw[List.getElem?_append_right (by omega),hl,Nat.sub_self];rfl,.inr ⟨k,hv,by omega,z,by rw[List.getElem?_append_left hkl];exact hk,rfl⟩⟩
theorem zoK {S:Type} {pr:Vis→S} (O:List Heap) (vl:List Vis) (wl:List (S × List Int)) (h:VOk pr vl wl) (hl:vl.length≤1000000) (i:Nat) (z:S × List Int) (hz:wl[i]? = some z) :
  zan Tryz.prog 156 [.i (zvb vl),ii i] O (ints z.2) [] O:=by
 obtain⟨R,hR⟩:∃ R,R=z.2:=⟨_,rfl⟩
 rw[← hR]
 have hno:R=z.2++([]:List Int).reverse:=by simpa using hR
 clear hR
 refine zau [5,6] Tk Tryz.func156 rfl Tryz.call156 Tryz.ntmps156 (Nat.le_of_ble_eq_true rfl) fun E=>?_
 refine zae Tk Tryz.func156 ?_
 refine zac ?_
 refine zaq (zcg 5 24 3 1 rfl rfl rfl) ?_
 refine zah (fun x:Nat × List Int=>[(0,.i (zvb vl)),(1,ii x.1),(5,.osl 0 24)]) (fun x=>[(24,zat x.2)]) (fun _=>O) 28
  (fun x=>x.2.length+x.1≤1000000∧∃ z,wl[x.1]? = some z∧R=z.2++x.2.reverse) (fun x=>x.1) (i,[])
  ⟨by have:=(List.getElem?_eq_some_iff.1 hz).1;have:=h.len;simp only[List.length_nil];omega,z,hz,hno⟩ ⟨rfl,rfl,rfl,trivial⟩ rfl ⟨rfl,trivial⟩ rfl rfl ?_
 clear hno hz
 rintro ⟨i,out⟩ ⟨hb,z,hz,hno⟩ ih
 simp only at hb hz hno
 have hi:i<vl.length:=by rw[h.len];exact (List.getElem?_eq_some_iff.1 hz).1
 have gv:(vl.map visI)[(i:Int).toNat]? = some (visI vl[i]):=zaj hi
 obtain⟨w,hw,hc⟩:=h.el i _ (List.getElem?_eq_getElem hi)
 rw[hz] at hw
 obtain rfl:=Option.some.inj hw
 generalize vl[i]=v at *
 obtain⟨v1,v2,v3,v4⟩:=v
 simp only at hc hno
 refine zae Tk Tryz.func156 ?_
 refine zag Tk Tryz.func156 (by exact⟨by omega,by show (i:Int)<(vl.length:Int);omega⟩) ?_
 refine zap Tk Tryz.func156 (gv) ?_
 refine zai Tk Tryz.func156 rfl (fun g1=>?_) (fun g1=>?_)
 ·have g1:v3 ≥ 0:=of_decide_eq_true g1
  rcases hc with hc | ⟨k,hk,hki,z',hz',hww⟩
  ·omega
  subst hk
  refine zag Tk Tryz.func156 (by exact⟨by omega,by show (i:Int)<(vl.length:Int);omega⟩) ?_
  refine zap Tk Tryz.func156 (gv) ?_
  refine zag Tk Tryz.func156 (by exact⟨by show (out.length+1) * 8≤140737488355328;omega,by show out.length+1≤9223372036854775807;omega⟩) ?_
  refine zag Tk Tryz.func156 (by exact⟨by omega,by show (i:Int)<(vl.length:Int);omega⟩) ?_
  refine zap Tk Tryz.func156 (gv) ?_
  refine zac ?_
  refine ih (k,out++[v4]) _ _ ⟨by simp only[List.length_append,List.length_singleton];omega,z',hz',?_⟩ (by simp only;omega) ⟨rfl,rfl,rfl,trivial⟩ rfl ⟨congrArg some (zaO out v4),trivial⟩ rfl rfl
  rw[hno,hww]
  simp
 ·have g1:¬ v3 ≥ 0:=of_decide_eq_false g1
  rcases hc with ⟨_,hc⟩ | ⟨k,hk,_⟩
  rotate_left
  ·omega
  rw[hc,List.nil_append] at hno
  subst hno
  refine zay ?_
  refine zae Tk Tryz.func156 ?_
  refine g_go Tk Tryz.func156 ?_
  refine zaf Tk Tryz.func156 (zpw _ 0 24 out (by simp only[zas];omega) rfl) rfl rfl rfl (zbn (ob:=zat out) rfl (by simp[Ob.sh])) rfl ?_
  refine zay ?_
  refine zaq (zao 24 rfl rfl) ?_
  refine zae Tk Tryz.func156 ?_
  refine g_go Tk Tryz.func156 ?_
  refine zak Tk (r:=ints out.reverse) rfl rfl rfl trivial rfl rfl ?_
  rfl
set_option maxHeartbeats 8000000 in
theorem zg9 (O:List Heap) (x:Sys) (a:Aut) (ps:List (Int × Int)) (o:Aut) (es:List (List Int)) (n:Nat) (ho:gAut o n) (hn:n≤4095) (hn0:0<n) (st:Int) (z:Int × List Int)
  (hz:bsr (stp3 o.edges) (fun _=>true) (evC o.edges) (fun s=>decide (s=st)) 4096 0 [((0:Int),([]:List Int))]=some z) :
  zan Tryz.prog 107 [zbB x a ps o es,ii st] O (ints z.2) [] O:=by
 have hto:=ho.to
 have hpw:=ho.pw
 have hed:=ho.sm.ed
 have hVl:=zgF n
 have hV0:(0:Int)∈zix n:=zdE.2 (by omega)
 have hB0:bOk (zix n) [((0:Int),([]:List Int))]:=zk5 hV0
 have hk0:zks (mset [] (.int .i64 0) true) ([((0:Int),([]:List Int))].map (·.1)):=zjw (l:=[]) zpY 0
 have hv0:VOk (fun v:Vis=>v.1) [((0,0,-1,0):Vis)] [((0:Int),([]:List Int))]:=zq7 _ (0,0,-1,0) (by decide)
 clear ho
 obtain⟨oal,ost,omk,oes⟩:=o
 simp only at hto hpw hed hz
 have hwd:=fun O vl wl h hl i y hy=>zoK (S:=Int) (pr:=fun v:Vis=>v.1) O vl wl h hl i y hy
 refine zau [5,100011] Tk Tryz.func107 rfl Tryz.call107 Tryz.ntmps107 (Nat.le_of_ble_eq_true rfl) fun E=>?_
 refine zae Tk Tryz.func107 ?_
 refine zac ?_
 refine zaq (zcV 11 62 rfl rfl rfl) ?_
 refine zah (fun y:Nat × Nat × List (Value × Bool) × List Vis × List (Int × List Int)=>[(0,zbB x a ps ⟨oal,ost,omk,oes⟩ es),(1,ii st),(5,.osl 0 62),(6,.osl 0 12),(7,ii y.1)])
  (fun y=>[(62,ovis y.2.2.2.1),(12,.mp (.int .i64) (.b y.2.2.1))]) (fun _=>O) 64
  (fun y=>y.1≤y.2.2.2.2.length∧bOk (zix n) y.2.2.2.2∧zks y.2.2.1 (y.2.2.2.2.map (·.1))∧VOk (fun v:Vis=>v.1) y.2.2.2.1 y.2.2.2.2∧y.2.1+y.1=4096∧bsr (stp3 oes) (fun _=>true) (evC oes) (fun s=>decide (s=st)) y.2.1 y.1 y.2.2.2.2=some z) (fun y=>y.2.1) (0,4096,mset [] (.int .i64 0) true,[(0,0,-1,0)],[(0,[])])
  ⟨Nat.zero_le _,hB0,hk0,hv0,rfl,hz⟩ ⟨rfl,rfl,rfl,rfl,rfl,trivial⟩ rfl ⟨rfl,rfl,trivial⟩ rfl rfl ?_
 clear hB0 hk0 hz hV0 hv0
 rintro ⟨i,fu,km,vl,wl⟩ ⟨hi,hb,hk,hv,hf,hno⟩ ih
 simp only at hi hb hk hv hf hno
 have hll:=zeC hb
 have hvl:=hv.len
 have h1:i<wl.length:=by
  rcases Nat.lt_or_ge i wl.length with h | h
  ·exact h
  ·rw[zmO h] at hno;cases hno
 obtain⟨fu,rfl⟩:∃ f',fu=f' + 1:=⟨fu - 1,by omega⟩
 have hgi:wl[i]? = some wl[i]:=List.getElem?_eq_getElem h1
 have hvi:vl[i]? = some vl[i]:=List.getElem?_eq_getElem (by omega)
 have gl:(vl.map visI)[(i:Int).toNat]? = some (visI vl[i]):=zaj (by omega)
 have hzV:=zdE.1 (hb.el _ (List.getElem_mem h1))
 simp only[bsr,hgi] at hno
 obtain⟨ww,hw1,_⟩:=hv.el i _ hvi
 generalize vl[i]=v at *
 generalize wl[i]=w at *
 rw[hgi] at hw1
 obtain rfl:=Option.some.inj hw1
 obtain⟨v1,v2,v3,v4⟩:=v
 simp only at hno hzV hgi
 refine zae Tk Tryz.func107 ?_
 refine zag Tk Tryz.func107 (by exact⟨by omega,by show (i:Int)<(vl.length:Int);omega⟩) ?_
 refine zap Tk Tryz.func107 (gl) ?_
 refine zai Tk Tryz.func107 rfl (fun c0=>?_) (fun c0=>?_)
 ·have c0:v1=st:=beqT c0
  rw[if_pos (decide_eq_true c0)] at hno
  obtain rfl:=Option.some.inj hno
  refine zay ?_
  refine zaq (zao 62 rfl rfl) ?_
  refine zae Tk Tryz.func107 ?_
  refine g_go Tk Tryz.func107 ?_
  refine zaf Tk Tryz.func107 (hwd _ vl wl hv (by omega) i _ hgi) rfl rfl rfl rfl rfl ?_
  refine zak Tk (r:=ints ww) rfl rfl rfl trivial rfl rfl ?_
  rfl
 have c0:¬ v1=st:=beqF c0
 rw[if_neg (by simpa using c0)] at hno
 have hno:bsr (stp3 oes) (fun _=>true) (evC oes) (fun s=>decide (s=st)) fu (i+1) (bvis (stp3 oes) (fun _=>true) (v1,ww) (((oes.drop 0).filter fun e=>e.1==v1).map fun e=>e.2.1) wl)=some z:=hno
 refine zap Tk Tryz.func107 (rfl) ?_
 refine zac ?_
 refine zah (fun y:Nat × List (Value × Bool) × List Vis × List (Int × List Int)=>[(0,zbB x a ps ⟨oal,ost,omk,oes⟩ es),(1,ii st),(5,.osl 0 62),(6,.osl 0 12),(7,ii i),(30,edgs oes),(31,ii oes.length),(32,ii y.1)])
  (fun y=>[(62,ovis y.2.2.1),(12,.mp (.int .i64) (.b y.2.1))]) (fun _=>O) 64
  (fun y=>y.1≤oes.length∧bOk (zix n) y.2.2.2∧zks y.2.1 (y.2.2.2.map (·.1))∧VOk (fun v:Vis=>v.1) y.2.2.1 y.2.2.2∧y.2.2.1[i]? = some (v1,v2,v3,v4)∧y.2.2.2[i]? = some (v1,ww)∧bsr (stp3 oes) (fun _=>true) (evC oes) (fun s=>decide (s=st)) fu (i+1) (bvis (stp3 oes) (fun _=>true) (v1,ww) (((oes.drop y.1).filter fun e=>e.1==v1).map fun e=>e.2.1) y.2.2.2)=some z) (fun y=>oes.length - y.1) (0,km,vl,wl)
  ⟨Nat.zero_le _,hb,hk,hv,hvi,hgi,hno⟩ ⟨rfl,rfl,rfl,rfl,rfl,rfl,rfl,rfl,trivial⟩ rfl ⟨rfl,rfl,trivial⟩ rfl rfl ?_
 clear hb hk hv hvi hgi hno gl hi hll hvl h1
 rintro ⟨j,km,vl,wl⟩ ⟨hj,hb,hk,hv,hvi,hgi,hno⟩ ih2
 simp only at hj hb hk hv hvi hgi hno
 have hll:=zeC hb
 have hvl:=hv.len
 have h1:i<vl.length:=(List.getElem?_eq_some_iff.1 hvi).1
 have gl:(vl.map visI)[(i:Int).toNat]? = some (visI (v1,v2,v3,v4)):=by rw[Int.toNat_natCast,List.getElem?_map,hvi];rfl
 have hj1:ii (IntKind.i64.wrap ((j:Int)+1))=ii ((j+1:Nat):Int):=congrArg ii (zaC (n:=1000001) (by omega) (by decide))
 refine zae Tk Tryz.func107 ?_
 refine zai Tk Tryz.func107 rfl (fun g1=>?_) (fun g1=>?_)
 ·have h2:j<oes.length:=by simpa using g1
  have ge:(oes.map edgI)[(j:Int).toNat]? = some (edgI oes[j]):=zaj h2
  have hte:=hto _ (List.getElem_mem h2)
  have hse:=zcs hpw (List.getElem_mem h2)
  rw[List.drop_eq_getElem_cons h2,List.filter_cons] at hno
  generalize oes[j]=e at *
  obtain⟨ef,ee,et⟩:=e
  simp only at hno hte hse
  have hkk:=hk et
  refine zag Tk Tryz.func107 (by exact⟨by omega,by show (j:Int)<(oes.length:Int);omega⟩) ?_
  refine zap Tk Tryz.func107 (ge) ?_
  refine zaF Tk Tryz.func107 zaM rfl ?_
  refine zaz Tk (by exact⟨by omega,by show (i:Int)<(vl.length:Int);omega⟩) ?_
  refine zaK Tk (gl) ?_
  refine zch Tk (fun d1=>?_) (fun d1=>?_)
  ·have d1:ef=v1:=beqT d1
   rw[if_pos (by simpa using d1)] at hno
   simp only[List.map_cons,bvis] at hno
   rw[← d1,hse] at hno
   refine zaQ Tk Tryz.func107 (by kernel_rfl) ?_
   refine zai Tk Tryz.func107 rfl (fun d2=>?_) (fun d2=>?_)
   ·have d2:zdu km (.int .i64 et)=false:=notT d2
    rw[hkk] at d2
    have d2:∀ y∈wl,y.1≠et:=fun y hy e=>of_decide_eq_false d2 (List.mem_map.2 ⟨y,hy,e⟩)
    rw[if_pos ⟨trivial,d2⟩] at hno
    refine zaF Tk Tryz.func107 zaM rfl ?_
    refine zvk Tk ?_
    refine zqR Tk (by exact⟨by show (vl.length+1) * 32≤140737488355328;omega,by show vl.length+1≤9223372036854775807;omega⟩) ?_
    refine zuV Tk (p:=⟨[(62,.osl 0 62),(54,.dead),(41,.dead),(40,.dead),(38,.dead),(5,.dead)],[(62,.arr 244 4 (vl.length+1) (vl.map visI++[visI (et,0,(i:Int),ee)]) true)],some 62⟩) rfl rfl rfl ?_
    refine zuV Tk (p:=⟨[],[(12,.mp (.int .i64) (.b (mset km (.int .i64 et) true)))],none⟩) rfl rfl rfl ?_
    refine zqS Tk Tryz.func107 (by kernel_rfl) (GM.h ?_)
    have hmk:zks (mset km (.int .i64 et) true) ((wl++[(et,ww++[ee])]).map (·.1)):=by
     rw[List.map_append]
     exact zjw hk et
    refine zac ?_
    rw[d1] at hno
    refine ih2 (j+1,mset km (.int .i64 et) true,vl++[(et,0,(i:Int),ee)],wl++[(et,ww++[ee])]) _ _ ⟨h2,zk6 hb hgi (zdE.2 hte) d2 ee,hmk,zq8 hv hgi rfl,by rw[List.getElem?_append_left h1];exact hvi,by rw[List.getElem?_append_left (by omega)];exact hgi,hno⟩ (by simp only;omega) ⟨rfl,rfl,rfl,rfl,rfl,rfl,rfl,hj1,trivial⟩ rfl ⟨congrArg some (zmi vl (et,0,(i:Int),ee)),rfl,trivial⟩ rfl rfl
   ·have d2:zdu km (.int .i64 et)=true:=notF d2
    rw[hkk] at d2
    obtain⟨y,hy,hye⟩:=List.mem_map.1 (of_decide_eq_true d2)
    rw[if_neg (fun h=>h.2 y hy hye)] at hno
    rw[d1] at hno
    refine zac ?_
    exact ih2 (j+1,km,vl,wl) _ _ ⟨h2,hb,hk,hv,hvi,hgi,hno⟩ (by simp only;omega) ⟨rfl,rfl,rfl,rfl,rfl,rfl,rfl,hj1,trivial⟩ rfl ⟨rfl,rfl,trivial⟩ rfl rfl
  ·have d1:¬ ef=v1:=beqF d1
   rw[if_neg (by simpa using d1)] at hno
   refine zaQ Tk Tryz.func107 (by kernel_rfl) ?_
   refine gcF Tk Tryz.func107 rfl ?_
   refine zac ?_
   exact ih2 (j+1,km,vl,wl) _ _ ⟨h2,hb,hk,hv,hvi,hgi,hno⟩ (by simp only;omega) ⟨rfl,rfl,rfl,rfl,rfl,rfl,rfl,hj1,trivial⟩ rfl ⟨rfl,rfl,trivial⟩ rfl rfl
 ·have h2:oes.length≤j:=by simpa using g1
  rw[List.drop_eq_nil_of_le h2] at hno
  simp only[List.filter_nil,List.map_nil,bvis] at hno
  refine zac ?_
  exact ih (i+1,fu,km,vl,wl) _ _ ⟨by simp only;omega,hb,hk,hv,by simp only;omega,hno⟩ (by simp only;omega) ⟨rfl,rfl,rfl,rfl,congrArg ii (zaC (n:=5000) (by omega) (by decide)),trivial⟩ rfl ⟨rfl,rfl,trivial⟩ rfl rfl
end Go.AI


namespace Go.AI
open Go.Proofs
set_option maxRecDepth 20000
abbrev LS:=Int × Int
def nxQ (es:List Edg) (ob:List Int) (y:LS) (ev:Int):LS:=(stp3 es y.1 ev,if ev∈ob then y.2+1 else y.2)
def okQ (ob obs:List Int) (k:Int) (ev:Int):Bool:=!decide (ev∈ob) || decide (obs[k.toNat]? = some ev)
def evQ (es:List Edg) (ob obs:List Int) (y:LS):List Int:=(evC es y.1).filter (okQ ob obs y.2)
def badQ (obs sts:List Int) (y:LS):Bool:=decide (y.2=(obs.length:Int)) && decide (y.1∈sts)
def zeT (es:List Edg) (ob obs sts:List Int):Option (LS × List Int):=bsr (nxQ es ob) (fun _=>true) (evQ es ob obs) (badQ obs sts) 100000 0 [(((0,0):LS),([]:List Int))]
def lsV (n m:Nat):List LS:=(List.range n).flatMap fun (i:Nat)=>(List.range (m+1)).map fun (j:Nat)=>((i:Int),(j:Int))
theorem zku (m:Nat):∀ n,(lsV n m).length=n * (m+1)
 | 0=>by simp[lsV]
 | n+1=>by
  have:=zku m n
  unfold lsV at *
  rw[List.range_succ (n:=n),List.flatMap_append,List.length_append,this]
  simp[Nat.succ_mul]
theorem zin {n m:Nat} {y:LS} (h:(0≤y.1∧y.1<(n:Int))∧0≤y.2∧y.2≤(m:Int)):y∈lsV n m:=by
 unfold lsV
 refine List.mem_flatMap.2 ⟨y.1.toNat,List.mem_range.2 (by omega),List.mem_map.2 ⟨y.2.toNat,List.mem_range.2 (by omega),?_⟩⟩
 rw[show ((y.1.toNat:Nat):Int)=y.1 by omega,show ((y.2.toNat:Nat):Int)=y.2 by omega]
theorem zp0 {n m:Nat} {y:LS} (h:y∈lsV n m):(0≤y.1∧y.1<(n:Int))∧0≤y.2∧y.2≤(m:Int):=by
 unfold lsV at h
 obtain⟨i,hi,h⟩:=List.mem_flatMap.1 h
 obtain⟨j,hj,rfl⟩:=List.mem_map.1 h
 have:=List.mem_range.1 hi
 have:=List.mem_range.1 hj
 simp only
 omega
def zgu (km:List (Value × Bool)) (l:List LS):Prop:=∀ y:LS,zdu km (pk y.1 y.2)=decide (y∈l)
theorem zhA {km:List (Value × Bool)} {l:List LS} (h:zgu km l) (y:LS):zgu (mset km (pk y.1 y.2) true) (l++[y]):=by
 intro u
 have h1:=h u
 unfold zdu at h1 ⊢
 rw[zfh]
 by_cases e:u.1=y.1∧u.2=y.2
 ·have:u=y:=Prod.ext e.1 e.2
  rw[if_pos e,this]
  simp
 ·have:u≠y:=fun h=>e (by rw[h];exact⟨rfl,rfl⟩)
  rw[if_neg e,h1]
  simp[this]
theorem znZ:zgu [] []:=fun y=>by simp[zdu,zbK]
abbrev prL (v:Vis):LS:=(v.1,v.2.1)
theorem zex {es:List Edg} (hp:es.Pairwise ltE) {s ev:Int} (h:ev∈evC es s):(s,ev,stp3 es s ev)∈es:=by
 unfold evC at h
 obtain⟨e,he,rfl⟩:=List.mem_map.1 h
 obtain⟨h1,h2⟩:=List.mem_filter.1 he
 have h2:e.1=s:=by simpa using h2
 have:=zcs hp h1
 rw[h2] at this
 rw[this,← h2]
 exact h1
set_option maxHeartbeats 16000000 in
theorem zsr (O:List Heap) (x:Sys) (a:Aut) (ps:List (Int × Int)) (o:Aut) (es:List (List Int)) (h:stOk x a ps) (h0:0<ps.length) (obs sts:List Int) (hso:sts.Pairwise (· < ·)) (hsl:sts.length≤1000000) (hol:obs.length≤4096) (hpl:ps.length≤12) (z:LS × List Int)
  (hz:zeT a.edges x.ob obs sts=some z) :
  zan Tryz.prog 108 [zbB x a ps o es,ints obs,ints sts] O (ints z.2) [] O:=by
 have hga:=h.ga
 obtain⟨n,hn⟩:∃ n,n=ps.length:=⟨_,rfl⟩
 rw[← hn] at hga h0 hpl
 have hst:=fun O s ev hs=>zo7 O a n s ev hga hs
 have hen:=fun O s hs=>zof O a n s hga hs
 have hto:=hga.to
 have hpw:=hga.pw
 have hed:=hga.sm.ed
 have hobs:=(zam h.hx.ob).1
 have hobl:=h.sm.ob
 have hcs:=fun O s=>zda O sts s (by simp only[zas];omega) hso
 have hco:=fun O e=>zda O x.ob e (by simp only[zas];omega) hobs
 have hVl:=zku obs.length n
 have hVb:n * (obs.length+1)≤12 * 4097:=Nat.mul_le_mul hpl (by omega)
 have hB0:bOk (lsV n obs.length) [(((0,0):LS),([]:List Int))]:=zk5 (zin ⟨⟨Int.le_refl _,by simpa using h0⟩,Int.le_refl _,by simp⟩)
 have hk0:zgu (mset [] (pk 0 0) true) ([(((0,0):LS),([]:List Int))].map (·.1)):=zhA (l:=[]) znZ (0,0)
 have hv0:VOk prL [((0,0,-1,0):Vis)] [(((0,0):LS),([]:List Int))]:=zq7 _ (0,0,-1,0) (by decide)
 have hwd:=fun O vl wl h hl i y hy=>zoK (S:=LS) (pr:=prL) O vl wl h hl i y hy
 have hrl:∀ s,(evC a.edges s).length≤1000000:=fun s=>by unfold evC;rw[List.length_map];exact Nat.le_trans (List.length_filter_le _ _) hed
 unfold zeT at hz
 unfold stpT at hst
 clear h hga hn
 obtain⟨al,st,mk,eds⟩:=a
 obtain⟨xp,xs,ob,ct⟩:=x
 simp only at hto hpw hed hz hen hst hobs hobl hco hrl
 refine zau [7,8,16,100020] Tk Tryz.func108 rfl Tryz.call108 Tryz.ntmps108 (Nat.le_of_ble_eq_true rfl) fun E=>?_
 refine zae Tk Tryz.func108 ?_
 refine zaF Tk Tryz.func108 zaM rfl ?_
 refine zvk Tk ?_
 refine zuV Tk (p:=⟨[],[(21,.mp (.pair .i64) (.b (mset [] (pk 0 0) true)))],none⟩) rfl rfl rfl ?_
 refine zqS Tk Tryz.func108 (by kernel_rfl) (GM.h ?_)
 refine zac ?_
 refine zaq (zcV 20 116 rfl rfl rfl) ?_
 refine zah (fun y:Nat × Nat × List (Value × Bool) × List Vis × List (LS × List Int)=>[(0,zbB ⟨xp,xs,ob,ct⟩ ⟨al,st,mk,eds⟩ ps o es),(1,ints obs),(2,ints sts),(7,.osl 0 116),(8,.osl 0 21),(9,ii y.1)])
  (fun y=>[(116,ovis y.2.2.2.1),(21,.mp (.pair .i64) (.b y.2.2.1))]) (fun _=>O) 118
  (fun y=>y.1≤y.2.2.2.2.length∧bOk (lsV n obs.length) y.2.2.2.2∧zgu y.2.2.1 (y.2.2.2.2.map (·.1))∧VOk prL y.2.2.2.1 y.2.2.2.2∧y.2.1+y.1=100000∧bsr (nxQ eds ob) (fun _=>true) (evQ eds ob obs) (badQ obs sts) y.2.1 y.1 y.2.2.2.2=some z) (fun y=>y.2.1) (0,100000,mset [] (pk 0 0) true,[(0,0,-1,0)],[((0,0),[])])
  ⟨Nat.zero_le _,hB0,hk0,hv0,rfl,hz⟩ ⟨rfl,rfl,rfl,rfl,rfl,rfl,trivial⟩ rfl ⟨rfl,rfl,trivial⟩ rfl rfl ?_
 clear hB0 hk0 hz hv0
 rintro ⟨i,fu,km,vl,wl⟩ ⟨hi,hb,hk,hv,hf,hno⟩ ih
 simp only at hi hb hk hv hf hno
 have hll:=zeC hb
 have hvl:=hv.len
 have h1:i<wl.length:=by
  rcases Nat.lt_or_ge i wl.length with h | h
  ·exact h
  ·rw[zmO h] at hno;cases hno
 obtain⟨fu,rfl⟩:∃ f',fu=f' + 1:=⟨fu - 1,by omega⟩
 have hgi:wl[i]? = some wl[i]:=List.getElem?_eq_getElem h1
 have hvi:vl[i]? = some vl[i]:=List.getElem?_eq_getElem (by omega)
 have gl:(vl.map visI)[(i:Int).toNat]? = some (visI vl[i]):=zaj (by omega)
 have hzV:=zp0 (hb.el _ (List.getElem_mem h1))
 simp only[bsr,hgi] at hno
 obtain⟨ww,hw1,_⟩:=hv.el i _ hvi
 generalize vl[i]=v at *
 generalize wl[i]=w at *
 rw[hgi] at hw1
 obtain rfl:=Option.some.inj hw1
 obtain⟨v1,v2,v3,v4⟩:=v
 simp only at hno hzV hgi
 have hj0:ii (IntKind.i64.wrap ((i:Int)+1))=ii ((i+1:Nat):Int):=congrArg ii (zaC (n:=1000001) (by omega) (by decide))
 have hcs1:=fun O=>hcs O v1
 have hbd:badQ obs sts (v1,v2)=(decide (v2=(obs.length:Int)) && decide (v1∈sts)):=rfl
 rw[hbd] at hno
 clear hbd
 refine zae Tk Tryz.func108 ?_
 refine zai Tk Tryz.func108 rfl (fun _=>?_) (fun h=>absurd h (by simp;omega))
 refine zag Tk Tryz.func108 (by exact⟨by omega,by show (i:Int)<(vl.length:Int);omega⟩) ?_
 refine zap Tk Tryz.func108 (gl) ?_
 apply zcj (P:=bsr (nxQ eds ob) (fun _=>true) (evQ eds ob obs) (badQ obs sts) fu (i+1) (bvis (nxQ eds ob) (fun _=>true) ((v1,v2),ww) (evQ eds ob obs (v1,v2)) wl)=some z) (s6:={ σ:=[(0,zbB ⟨xp,xs,ob,ct⟩ ⟨al,st,mk,eds⟩ ps o es),(1,ints obs),(2,ints sts),(7,.osl 0 116),(8,.osl 0 21),(9,ii i),(10,.own 0 10 0 0)],S:=[(116,ovis vl),(21,.mp (.pair .i64) (.b km)),(10,.box [ii v1,ii v2,ii v3,ii v4])]::O,n:=118 })
 ·intro J
  refine zaW Tk Tryz.func108 rfl (fun c0=>?_) (fun c0=>?_)
  ·have c0:v2=(obs.length:Int):=beqT c0
   rw[decide_eq_true c0,Bool.true_and] at hno
   refine zaf Tk Tryz.func108 (hcs1 _) rfl rfl rfl rfl rfl ?_
   refine zai Tk Tryz.func108 rfl (fun c1=>?_) (fun c1=>?_)
   ·have c1:decide (v1∈sts)=true:=c1
    rw[if_pos c1] at hno
    obtain rfl:=Option.some.inj hno
    refine zay ?_
    refine zaq (zao 116 rfl rfl) ?_
    refine zae Tk Tryz.func108 ?_
    refine g_go Tk Tryz.func108 ?_
    refine zaf Tk Tryz.func108 (hwd _ vl wl hv (by omega) i _ hgi) rfl rfl rfl rfl rfl ?_
    refine zak Tk (r:=ints ww) rfl rfl rfl trivial rfl rfl ?_
    rfl
   ·have c1:¬ decide (v1∈sts)=true:=by rw[show decide (v1∈sts)=false from c1];decide
    rw[if_neg c1] at hno
    refine zay ?_
    refine zaE (J hno) ⟨rfl,rfl,rfl,rfl,rfl,rfl,rfl,trivial⟩ rfl ⟨rfl,rfl,rfl,trivial⟩ rfl rfl
  ·have c0:¬ v2=(obs.length:Int):=beqF c0
   rw[decide_eq_false c0,Bool.false_and,if_neg (by decide)] at hno
   refine gcF Tk Tryz.func108 rfl ?_
   refine zay ?_
   refine zaE (J hno) ⟨rfl,rfl,rfl,rfl,rfl,rfl,rfl,trivial⟩ rfl ⟨rfl,rfl,rfl,trivial⟩ rfl rfl
 clear hno
 intro hno
 have hen1:=fun O=>hen O v1 hzV.1
 have hno:bsr (nxQ eds ob) (fun _=>true) (evQ eds ob obs) (badQ obs sts) fu (i+1) (bvis (nxQ eds ob) (fun _=>true) ((v1,v2),ww) (((evC eds v1).drop 0).filter (okQ ob obs v2)) wl)=some z:=hno
 have hrow:∀ e∈evC eds v1,(v1,e,stp3 eds v1 e)∈eds:=fun e he=>zex hpw he
 have hrl1:=hrl v1
 generalize evC eds v1=row at *
 refine zae Tk Tryz.func108 ?_
 refine g_go Tk Tryz.func108 ?_
 refine zaF Tk Tryz.func108 zaM rfl ?_
 refine zaK Tk (rfl) ?_
 refine zaU Tk (fun _=>hen1 _) rfl rfl rfl ?_
 refine zaQ Tk Tryz.func108 (by kernel_rfl) ?_
 refine zac ?_
 refine zah (fun y:Nat × List (Value × Bool) × List Vis × List (LS × List Int)=>[(0,zbB ⟨xp,xs,ob,ct⟩ ⟨al,st,mk,eds⟩ ps o es),(1,ints obs),(2,ints sts),(7,.osl 0 116),(8,.osl 0 21),(9,ii i),(10,.own 0 10 0 0),(58,ints row),(59,ii row.length),(60,ii y.1)])
  (fun y=>[(116,ovis y.2.2.1),(21,.mp (.pair .i64) (.b y.2.1)),(10,.box [ii v1,ii v2,ii v3,ii v4])]) (fun _=>O) 118
  (fun y=>y.1≤row.length∧bOk (lsV n obs.length) y.2.2.2∧zgu y.2.1 (y.2.2.2.map (·.1))∧VOk prL y.2.2.1 y.2.2.2∧y.2.2.2[i]? = some ((v1,v2),ww)∧bsr (nxQ eds ob) (fun _=>true) (evQ eds ob obs) (badQ obs sts) fu (i+1) (bvis (nxQ eds ob) (fun _=>true) ((v1,v2),ww) (((row.drop y.1)).filter (okQ ob obs v2)) y.2.2.2)=some z) (fun y=>row.length - y.1) (0,km,vl,wl)
  ⟨Nat.zero_le _,hb,hk,hv,hgi,hno⟩ ⟨rfl,rfl,rfl,rfl,rfl,rfl,rfl,rfl,rfl,rfl,trivial⟩ rfl ⟨rfl,rfl,rfl,trivial⟩ rfl rfl ?_
 clear hb hk hv hvi hgi hno gl hi hll hvl h1
 rintro ⟨j,km,vl,wl⟩ ⟨hj,hb,hk,hv,hgi,hno⟩ ih2
 simp only at hj hb hk hv hgi hno
 have hll:=zeC hb
 have hvl:=hv.len
 have h1:i<wl.length:=(List.getElem?_eq_some_iff.1 hgi).1
 have hj1:ii (IntKind.i64.wrap ((j:Int)+1))=ii ((j+1:Nat):Int):=congrArg ii (zaC (n:=1000001) (by omega) (by decide))
 refine zae Tk Tryz.func108 ?_
 refine zai Tk Tryz.func108 rfl (fun g1=>?_) (fun g1=>?_)
 ·have h2:j<row.length:=by simpa using g1
  have ge:(row.map fun x=>[vi x])[(j:Int).toNat]? = some [vi row[j]]:=zaj (f:=fun x=>[vi x]) h2
  have hre:=hrow _ (List.getElem_mem h2)
  rw[List.drop_eq_getElem_cons h2,List.filter_cons] at hno
  generalize row[j]=e at *
  have hte:=hto _ hre
  simp only at hte
  have hst1:=fun O=>hst O v1 e hzV.1
  rw[if_pos hte.1,decide_eq_true hte.1] at hst1
  have hco1:=fun O=>hco O e
  have hokq:okQ ob obs v2 e=(!decide (e∈ob) || decide (obs[v2.toNat]? = some e)):=rfl
  have hnx:nxQ eds ob (v1,v2) e=(stp3 eds v1 e,if e∈ob then v2+1 else v2):=rfl
  obtain⟨q,hq⟩:∃ q,q=if e∈ob then v2+1 else v2:=⟨_,rfl⟩
  rw[← hq] at hnx
  have hj2:ii (IntKind.i64.wrap (v2+1))=ii (v2+1):=congrArg ii (w64 (by omega) (by omega))
  generalize stp3 eds v1 e=t at *
  refine zag Tk Tryz.func108 (by exact⟨by omega,by show (j:Int)<(row.length:Int);omega⟩) ?_
  refine zap Tk Tryz.func108 (ge) ?_
  refine zap Tk Tryz.func108 (rfl) ?_
  refine zaf Tk Tryz.func108 (hco1 _) rfl rfl rfl rfl rfl ?_
  apply zcj (P:=okQ ob obs v2 e=true∧q≤(obs.length:Int)) (s6:={ σ:=[(0,zbB ⟨xp,xs,ob,ct⟩ ⟨al,st,mk,eds⟩ ps o es),(1,ints obs),(2,ints sts),(7,.osl 0 116),(8,.osl 0 21),(9,ii i),(10,.own 0 10 0 0),(58,ints row),(59,ii row.length),(60,ii j),(14,ii e),(15,ii q)],S:=[(116,ovis vl),(21,.mp (.pair .i64) (.b km)),(10,.box [ii v1,ii v2,ii v3,ii v4])]::O,n:=118 })
  ·intro J
   refine zai Tk Tryz.func108 rfl (fun c2=>?_) (fun c2=>?_)
   rotate_left
   ·have c2:e ∉ ob:=of_decide_eq_false c2
    rw[if_neg c2] at hq
    have hf:okQ ob obs v2 e=true:=by rw[hokq,decide_eq_false c2];rfl
    refine zay ?_
    refine zaE (J ⟨hf,by omega⟩) ⟨rfl,rfl,rfl,rfl,rfl,rfl,rfl,rfl,rfl,rfl,rfl,by rw[hq];rfl,trivial⟩ rfl ⟨rfl,rfl,rfl,trivial⟩ rfl rfl
   ·have c2:e∈ob:=of_decide_eq_true c2
    rw[if_pos c2] at hq
    rw[decide_eq_true c2,Bool.not_true,Bool.false_or] at hokq
    have hcon:∀ (hf:okQ ob obs v2 e=false),bsr (nxQ eds ob) (fun _=>true) (evQ eds ob obs) (badQ obs sts) fu (i+1) (bvis (nxQ eds ob) (fun _=>true) ((v1,v2),ww) (((row.drop (j+1))).filter (okQ ob obs v2)) wl)=some z:=fun hf=>by
     rw[if_neg (by rw[hf];decide)] at hno;exact hno
    refine zaW Tk Tryz.func108 rfl (fun c3=>?_) (fun c3=>?_)
    ·have c3:v2=(obs.length:Int):=beqT c3
     have hf:okQ ob obs v2 e=false:=by
      rw[hokq]
      have:obs[v2.toNat]? = none:=List.getElem?_eq_none (by omega)
      rw[this];simp
     refine gcT Tk Tryz.func108 rfl ?_
     refine zac ?_
     exact ih2 (j+1,km,vl,wl) _ _ ⟨h2,hb,hk,hv,hgi,hcon hf⟩ (by simp only;omega) ⟨rfl,rfl,rfl,rfl,rfl,rfl,rfl,rfl,rfl,hj1,trivial⟩ rfl ⟨rfl,rfl,rfl,trivial⟩ rfl rfl
    ·have c3:¬ v2=(obs.length:Int):=beqF c3
     have hvl2:v2.toNat<obs.length:=by omega
     obtain⟨u,hgo⟩:∃ u,obs[v2.toNat]? = some u:=⟨_,List.getElem?_eq_getElem hvl2⟩
     have go:(obs.map fun x=>[vi x])[v2.toNat]? = some [vi u]:=by rw[List.getElem?_map,hgo];rfl
     refine zag Tk Tryz.func108 (by exact⟨by omega,by show v2<(obs.length:Int);omega⟩) ?_
     refine zap Tk Tryz.func108 (go) ?_
     refine zai Tk Tryz.func108 rfl (fun c4=>?_) (fun c4=>?_)
     ·have c4:u≠e:=bneT c4
      have hf:okQ ob obs v2 e=false:=by
       rw[hokq,hgo];simp[c4]
      refine zac ?_
      exact ih2 (j+1,km,vl,wl) _ _ ⟨h2,hb,hk,hv,hgi,hcon hf⟩ (by simp only;omega) ⟨rfl,rfl,rfl,rfl,rfl,rfl,rfl,rfl,rfl,hj1,trivial⟩ rfl ⟨rfl,rfl,rfl,trivial⟩ rfl rfl
     ·have c4:u=e:=bneF c4
      have hf:okQ ob obs v2 e=true:=by rw[hokq,hgo,c4];simp
      refine zay ?_
      refine zaE (J ⟨hf,by omega⟩) ⟨rfl,rfl,rfl,rfl,rfl,rfl,rfl,rfl,rfl,rfl,rfl,by rw[hq];exact hj2,trivial⟩ rfl ⟨rfl,rfl,rfl,trivial⟩ rfl rfl
  rintro ⟨hf,hqb⟩
  have hq0:0≤q:=by rw[hq];split <;> omega
  rw[if_pos hf] at hno
  simp only[bvis] at hno
  rw[hnx] at hno
  have hkk:=hk (t,q)
  refine zae Tk Tryz.func108 ?_
  refine g_go Tk Tryz.func108 ?_
  refine zaF Tk Tryz.func108 zaM rfl ?_
  refine zaK Tk (rfl) ?_
  refine zaU Tk (fun _=>hst1 _) rfl rfl rfl ?_
  refine zaQ Tk Tryz.func108 (by kernel_rfl) ?_
  refine zai Tk Tryz.func108 rfl (fun d2=>?_) (fun d2=>?_)
  ·have d2:zdu km (pk t q)=false:=notT d2
   rw[hkk] at d2
   have d2:∀ y∈wl,y.1≠(t,q):=fun y hy e=>of_decide_eq_false d2 (List.mem_map.2 ⟨y,hy,e⟩)
   rw[if_pos ⟨trivial,d2⟩] at hno
   refine zag Tk Tryz.func108 (by exact⟨by show (vl.length+1) * 32≤140737488355328;omega,by show vl.length+1≤9223372036854775807;omega⟩) ?_
   have hmk:zgu (mset km (pk t q) true) ((wl++[((t,q),ww++[e])]).map (·.1)):=by
    rw[List.map_append]
    exact zhA hk (t,q)
   refine zac ?_
   refine ih2 (j+1,mset km (pk t q) true,vl++[(t,q,(i:Int),e)],wl++[((t,q),ww++[e])]) _ _ ⟨h2,zk6 hb hgi (zin ⟨hte,hq0,hqb⟩) d2 e,hmk,zq8 (v:=(t,q,(i:Int),e)) hv hgi rfl,by rw[List.getElem?_append_left h1];exact hgi,hno⟩ (by simp only;omega) ⟨rfl,rfl,rfl,rfl,rfl,rfl,rfl,rfl,rfl,hj1,trivial⟩ rfl ⟨congrArg some (zmi vl (t,q,(i:Int),e)),rfl,rfl,trivial⟩ rfl rfl
  ·have d2:zdu km (pk t q)=true:=notF d2
   rw[hkk] at d2
   obtain⟨y,hy,hye⟩:=List.mem_map.1 (of_decide_eq_true d2)
   rw[if_neg (fun h=>h.2 y hy hye)] at hno
   refine zac ?_
   exact ih2 (j+1,km,vl,wl) _ _ ⟨h2,hb,hk,hv,hgi,hno⟩ (by simp only;omega) ⟨rfl,rfl,rfl,rfl,rfl,rfl,rfl,rfl,rfl,hj1,trivial⟩ rfl ⟨rfl,rfl,rfl,trivial⟩ rfl rfl
 ·have h2:row.length≤j:=by simpa using g1
  rw[List.drop_eq_nil_of_le h2] at hno
  simp only[List.filter_nil,bvis] at hno
  refine zac ?_
  exact ih (i+1,fu,km,vl,wl) _ _ ⟨h1,hb,hk,hv,by simp only;omega,hno⟩ (by simp only;omega) ⟨rfl,rfl,rfl,rfl,rfl,hj0,trivial⟩ rfl ⟨rfl,rfl,trivial⟩ rfl rfl
end Go.AI


namespace Go.AI
open Go.Proofs
set_option maxRecDepth 20000
def obsQ (o:Aut) (i:Int):Option (Int × List Int):=bsr (stp3 o.edges) (fun _=>true) (evC o.edges) (fun s=>decide (s=i)) 4096 0 [((0:Int),([]:List Int))]
def obsW (o:Aut) (i:Int):List Int:=match obsQ o i with
 | some z=>z.2
 | none=>[]
def zdp (es:List Edg) (ob obs sts:List Int):List Int:=match zeT es ob obs sts with
 | some z=>z.2
 | none=>[]
abbrev divP (a:Aut) (est:List Int) (ev:Int):List Int:=est.filter fun s=>zeM a s ev
abbrev divR (x:Sys) (a:Aut) (ps:List (Int × Int)) (est:List Int) (ev:Int):List Int:=est.filter fun s=>refF x a ps s ev
abbrev Wit:=List Int × List Int × Int
def zeF (x:Sys) (a:Aut) (ps:List (Int × Int)) (o:Aut) (i:Int) (est:List Int):List Int→Option Wit
 | []=>none
 | e::r=>if 0<(divP a est e).length∧0<(divR x a ps est e).length then some (zdp a.edges x.ob (obsW o i) (divP a est e),zdp a.edges x.ob (obsW o i) (divR x a ps est e),e) else zeF x a ps o i est r
def zbh (x:Sys) (a:Aut) (ps:List (Int × Int)) (o:Aut):List (List Int)→Nat→Option Wit
 | [],_=>none
 | est::r,i=>match zeF x a ps o i est x.ct with
  | some w=>some w
  | none=>zbh x a ps o r (i+1)
structure tornOk (x:Sys) (a:Aut) (ps:List (Int × Int)) (o:Aut) (es:List (List Int)):Prop where
 st:stOk x a ps
 go:gAut o es.length
 el:es.length≤4095
 len:ps.length≤12
 srt:∀ est∈es,est.Pairwise (· < ·)
 rng:∀ est∈es,est≠[]∧est.length≤4096∧∀ s∈est,0≤s∧s<(ps.length:Int)
 h1:∀ (i:Nat) est,es[i]? = some est→(∃ z,obsQ o i=some z)∧(obsW o i).length≤4096
 h2:∀ (i:Nat) est,es[i]? = some est→∀ sts:List Int,(∀ s∈sts,s∈est)→0<sts.length→∃ z,zeT a.edges x.ob (obsW o i) sts=some z
abbrev witC (w:Wit):List D:=[ints w.1,ints w.2.1,ii w.2.2]
abbrev zWit:Wit:=([],[],0)
set_option maxHeartbeats 8000000 in
theorem zs7 (O:List Heap) (x:Sys) (a:Aut) (ps:List (Int × Int)) (o:Aut) (es:List (List Int)) (h:tornOk x a ps o es) :
  zan Tryz.prog 52 [zbB x a ps o es] O (.tup [.agg (witC ((zbh x a ps o es 0).getD zWit)),bb (zbh x a ps o es 0).isSome]) [] O:=by
 have hst:=h.st
 have hctl:=h.st.sm.ct
 have hdv:=fun O est ev (hm:est∈es)=>zmG O x a ps o es hst est ev (h.rng est hm).2.2 (by have:=(h.rng est hm).2.1;omega)
 have hob:∀ O (i:Nat) est,es[i]? = some est→zan Tryz.prog 107 [zbB x a ps o es,ii i] O (ints (obsW o i)) [] O:=fun O i est he=>by
  obtain⟨⟨z,hz⟩,_⟩:=h.h1 i est he
  have:=zg9 O x a ps o es es.length h.go h.el (by have:=(List.getElem?_eq_some_iff.1 he).1;omega) i z hz
  unfold obsW
  rw[hz]
  exact this
 have hle:∀ O (i:Nat) est,es[i]? = some est→∀ sts:List Int,sts.Pairwise (· < ·)→(∀ s∈sts,s∈est)→0<sts.length→sts.length≤4096→zan Tryz.prog 108 [zbB x a ps o es,ints (obsW o i),ints sts] O (ints (zdp a.edges x.ob (obsW o i) sts)) [] O:=fun O i est he sts hs hi h0 hl=>by
  obtain⟨z,hz⟩:=h.h2 i est he sts hi h0
  have hps:0<ps.length:=by
   cases hsts:sts with
   | nil=>rw[hsts] at h0;simp at h0
   | cons s r=>
    have:=(h.rng est (List.mem_of_getElem? he)).2.2 s (hi s (by rw[hsts];simp))
    omega
  have:=zsr O x a ps o es hst hps (obsW o i) sts hs (by omega) (h.h1 i est he).2 h.len z hz
  unfold zdp
  rw[hz]
  exact this
 have hsrt:=h.srt
 have hrng:=h.rng
 obtain⟨R,hR⟩:∃ R,R=zbh x a ps o (es.drop 0) 0:=⟨_,rfl⟩
 have e0:zbh x a ps o es 0=R:=hR.symm
 rw[e0]
 have hel:=h.el
 clear h hst e0
 refine zau [] Tk Tryz.func52 rfl Tryz.call52 Tryz.ntmps52 (Nat.le_of_ble_eq_true rfl) fun E=>?_
 refine zae Tk Tryz.func52 ?_
 refine zap Tk Tryz.func52 (rfl) ?_
 refine zac ?_
 refine zah (fun i:Nat=>[(0,zbB x a ps o es),(2,.own 0 2 0 0),(14,.i (zfb es)),(15,ii es.length),(16,ii i)]) (fun _=>[(2,.box [.i (.v (.slice none 0 0)),.i (.v (.slice none 0 0)),ii 0])]) (fun _=>O) 62
  (fun i=>i≤es.length∧R=zbh x a ps o (es.drop i) i) (fun i=>es.length - i) 0 ⟨Nat.zero_le _,hR⟩ ⟨rfl,rfl,rfl,rfl,rfl,trivial⟩ rfl ⟨rfl,trivial⟩ rfl rfl ?_
 clear hR
 rintro i ⟨hi,hno⟩ ih
 have hj0:ii (IntKind.i64.wrap ((i:Int)+1))=ii ((i+1:Nat):Int):=congrArg ii (zaC (n:=5000) (by omega) (by decide))
 refine zae Tk Tryz.func52 ?_
 refine zai Tk Tryz.func52 rfl (fun g1=>?_) (fun g1=>?_)
 ·have h2:i<es.length:=by simpa using g1
  have ge:(es.map fun r=>[zbE r])[(i:Int).toNat]? = some [zbE es[i]]:=zaj (f:=fun r=>[zbE r]) h2
  have hei:es[i]? = some es[i]:=List.getElem?_eq_getElem h2
  have hm:=List.getElem_mem h2
  rw[List.drop_eq_getElem_cons h2] at hno
  simp only[zbh] at hno
  generalize es[i]=est at *
  have hdv1:=fun O ev=>hdv O est ev hm
  have hob1:=fun O=>hob O i est hei
  have hle1:=fun O=>hle O i est hei
  have hs1:=hsrt est hm
  have hl1:=(hrng est hm).2.1
  have hno:R=match zeF x a ps o i est (x.ct.drop 0) with
   | some w=>some w
   | none=>zbh x a ps o (es.drop (i+1)) (i+1):=hno
  refine zag Tk Tryz.func52 (by exact⟨by omega,by show (i:Int)<(es.length:Int);omega⟩) ?_
  refine zap Tk Tryz.func52 (ge) ?_
  refine zap Tk Tryz.func52 (rfl) ?_
  refine zac ?_
  refine zah (fun j:Nat=>[(0,zbB x a ps o es),(2,.own 0 2 0 0),(14,.i (zfb es)),(15,ii es.length),(16,ii i),(4,ii i),(5,ints est),(25,ints x.ct),(26,ii x.ct.length),(27,ii j)]) (fun _=>[(2,.box [.i (.v (.slice none 0 0)),.i (.v (.slice none 0 0)),ii 0])]) (fun _=>O) 62
   (fun j=>j≤x.ct.length∧R=match zeF x a ps o i est (x.ct.drop j) with
    | some w=>some w
    | none=>zbh x a ps o (es.drop (i+1)) (i+1)) (fun j=>x.ct.length - j) 0 ⟨Nat.zero_le _,hno⟩ ⟨rfl,rfl,rfl,rfl,rfl,rfl,rfl,rfl,rfl,rfl,trivial⟩ rfl ⟨rfl,trivial⟩ rfl rfl ?_
  clear hno
  rintro j ⟨hj,hno⟩ ih2
  have hj1:ii (IntKind.i64.wrap ((j:Int)+1))=ii ((j+1:Nat):Int):=congrArg ii (zaC (n:=1000001) (by omega) (by decide))
  refine zae Tk Tryz.func52 ?_
  refine zai Tk Tryz.func52 rfl (fun g2=>?_) (fun g2=>?_)
  ·have h3:j<x.ct.length:=by simpa using g2
   have gc:(x.ct.map fun x=>[vi x])[(j:Int).toNat]? = some [vi x.ct[j]]:=zaj (f:=fun x=>[vi x]) h3
   rw[List.drop_eq_getElem_cons h3] at hno
   simp only[zeF] at hno
   generalize x.ct[j]=e at *
   have hdv2:=fun O=>hdv1 O e
   have lA:=hle1
   have pA:(divP a est e).Pairwise (· < ·):=hs1.filter _
   have pB:(divR x a ps est e).Pairwise (· < ·):=hs1.filter _
   have sA:∀ s∈divP a est e,s∈est:=fun s hs=>(List.mem_filter.1 hs).1
   have sB:∀ s∈divR x a ps est e,s∈est:=fun s hs=>(List.mem_filter.1 hs).1
   have nA:(divP a est e).length≤4096:=Nat.le_trans (List.length_filter_le _ _) hl1
   have nB:(divR x a ps est e).length≤4096:=Nat.le_trans (List.length_filter_le _ _) hl1
   have hA:=fun O h0=>hle1 O _ pA sA h0 nA
   have hB:=fun O h0=>hle1 O _ pB sB h0 nB
   have hdv2:∀ O,zan Tryz.prog 57 [zbB x a ps o es,ints est,ii e] O (.tup [ints (divP a est e),ints (divR x a ps est e)]) [] O:=hdv2
   generalize divP a est e=A at *
   generalize divR x a ps est e=B at *
   generalize zdp a.edges x.ob (obsW o i) A=wA at *
   generalize zdp a.edges x.ob (obsW o i) B=wB at *
   generalize obsW o i=w0 at *
   refine zag Tk Tryz.func52 (by exact⟨by omega,by show (j:Int)<(x.ct.length:Int);omega⟩) ?_
   refine zap Tk Tryz.func52 (gc) ?_
   refine zaf Tk Tryz.func52 (hdv2 _) rfl rfl rfl rfl rfl ?_
   refine zaW Tk Tryz.func52 rfl (fun c1=>?_) (fun c1=>?_)
   ·have c1:((A.length:Nat):Int)>0:=of_decide_eq_true c1
    have c1:0<A.length:=by omega
    refine zai Tk Tryz.func52 rfl (fun c2=>?_) (fun c2=>?_)
    ·have c2:((B.length:Nat):Int)>0:=of_decide_eq_true c2
     have c2:0<B.length:=by omega
     rw[if_pos ⟨c1,c2⟩] at hno
     simp only at hno
     subst hno
     refine zaf Tk Tryz.func52 (hob1 _) rfl rfl rfl rfl rfl ?_
     refine zaf Tk Tryz.func52 (hA _ c1) rfl rfl rfl rfl rfl ?_
     refine zaf Tk Tryz.func52 (hB _ c2) rfl rfl rfl rfl rfl ?_
     refine zak Tk (r:=.tup [.agg [ints wA,ints wB,ii e],bb true]) rfl rfl rfl trivial rfl rfl ?_
     rfl
    ·have c2:¬ ((B.length:Nat):Int)>0:=of_decide_eq_false c2
     rw[if_neg (fun h=>c2 (by omega))] at hno
     refine zac ?_
     exact ih2 (j+1) _ _ ⟨h3,hno⟩ (by omega) ⟨rfl,rfl,rfl,rfl,rfl,rfl,rfl,rfl,rfl,hj1,trivial⟩ rfl ⟨rfl,trivial⟩ rfl rfl
   ·have c1:¬ ((A.length:Nat):Int)>0:=of_decide_eq_false c1
    rw[if_neg (fun h=>c1 (by omega))] at hno
    refine gcF Tk Tryz.func52 rfl ?_
    refine zac ?_
    exact ih2 (j+1) _ _ ⟨h3,hno⟩ (by omega) ⟨rfl,rfl,rfl,rfl,rfl,rfl,rfl,rfl,rfl,hj1,trivial⟩ rfl ⟨rfl,trivial⟩ rfl rfl
  ·have h3:x.ct.length≤j:=by simpa using g2
   rw[List.drop_eq_nil_of_le h3] at hno
   simp only[zeF] at hno
   refine zac ?_
   exact ih (i+1) _ _ ⟨h2,hno⟩ (by omega) ⟨rfl,rfl,rfl,rfl,hj0,trivial⟩ rfl ⟨rfl,trivial⟩ rfl rfl
 ·have h2:es.length≤i:=by simpa using g1
  rw[List.drop_eq_nil_of_le h2] at hno
  simp only[zbh] at hno
  subst hno
  refine zb4 Tk (r:=.tup [.agg [.i (.v (.slice none 0 0)),.i (.v (.slice none 0 0)),ii 0],bb false]) rfl rfl rfl trivial rfl rfl ?_
  repeat' (first | refine zcT ?_ | refine zcU ?_ | refine zft ?_ | refine CoDL.cons ?_ ?_ | exact CoDL.nil | exact zb1 | refine zdO ?_ | refine CoLL.cons ?_ ?_ | exact CoLL.nil | refine CoL.cons ?_ ?_ | exact CoL.nil | exact CoI.refl _ | exact CoL.refl _ | exact CoLL.refl _ | exact CoDL.refl _ | exact CoD.refl _)
end Go.AI


namespace Go.AI
open Go.Proofs
set_option maxRecDepth 20000
structure obOk (x:Sys):Prop where
 sm:smallS x
 hx:gSys x
 h64:x.p.states≤64∧x.s.states≤64
 hV:(lpV x).length≤4095
 hn:(lpR x).2.length≤12
 tn:tornOk x (lpR x).1 (lpR x).2 (esR x).1 (esR x).2
abbrev zds (x:Sys):Option Wit:=zbh x (lpR x).1 (lpR x).2 (esR x).1 (esR x).2 0
theorem zcI {g:Nat} (hg:zfH g) {ty:TypeId} {fr:Nat × Nat} (O:List Heap) (x:Sys) (h:obOk x):ASpecT g (ptab ty fr) Tryz.prog 14 [sysD x] O (.tup [.agg (witC ((zds x).getD zWit)),bb (!(zds x).isSome),ii 0]) [] O:=by
 have h1:=fun O=>zpK hg (ty:=ty) (fr:=fr) O x h.sm h.hx h.h64 h.hV h.hn
 have h2:=fun O=>zs7 O x _ _ _ _ h.tn
 have h1:∀ O,ASpecT g (ptab ty fr) Tryz.prog 51 [sysD x] O (.tup [zbB x (lpR x).1 (lpR x).2 (esR x).1 (esR x).2,ii 0]) [] O:=h1
 show ASpecT g (ptab ty fr) Tryz.prog 14 [sysD x] O (.tup [.agg (witC ((zbh x (lpR x).1 (lpR x).2 (esR x).1 (esR x).2 0).getD zWit)),bb (!(zbh x (lpR x).1 (lpR x).2 (esR x).1 (esR x).2 0).isSome),ii 0]) [] O
 generalize zbh x (lpR x).1 (lpR x).2 (esR x).1 (esR x).2 0=T at *
 have h2:∀ O,zan Tryz.prog 52 [zbB x (lpR x).1 (lpR x).2 (esR x).1 (esR x).2] O (.tup [.agg (witC (T.getD zWit)),bb T.isSome]) [] O:=h2
 generalize (lpR x).1=a at *
 generalize (lpR x).2=ps at *
 generalize (esR x).1=o at *
 generalize (esR x).2=es at *
 generalize T.isSome=b at *
 generalize T.getD zWit=w at *
 obtain⟨w1,w2,w3⟩:=w
 clear h
 obtain⟨⟨al,st,mk,eds⟩,⟨al',st',mk',eds'⟩,ob,ct⟩:=x
 refine zaV [] Tk Tryz.func14 rfl Tryz.call14 Tryz.ntmps14 (Nat.le_of_ble_eq_true rfl) fun E hE=>?_
 refine zae Tk Tryz.func14 ?_
 refine zbe Tk Tryz.func14 hE (h1 _) rfl rfl rfl rfl rfl rfl ?_
 refine gcF Tk Tryz.func14 rfl ?_
 refine zaf Tk Tryz.func14 (h2 _) rfl rfl rfl rfl rfl ?_
 refine zak Tk (r:=.tup [.agg [ints w1,ints w2,ii w3],bb (!b),ii 0]) rfl rfl rfl trivial rfl rfl ?_
 rfl
def ctlR (x:Sys) (a:Aut) (es:List (List Int)):List (List Int):=es.map fun est=>x.ct.filter fun e=>decide (0<(divP a est e).length)
abbrev ctlD (o:Aut) (rows:List (List Int)):D:=.agg [ints o.alpha,ii o.states,ints o.marked,edgs o.edges,.i (zfb rows)]
set_option maxHeartbeats 8000000 in
theorem zkH {g:Nat} (hg:zfH g) {ty:TypeId} {fr:Nat × Nat} (O:List Heap) (x:Sys) (h:obOk x) (ht:(zds x).isSome=false):ASpecT g (ptab ty fr) Tryz.prog 19 [sysD x] O (.tup [ctlD (esR x).1 (ctlR x (lpR x).1 (esR x).2),ii 0]) [] O:=by
 have h1:∀ O,ASpecT g (ptab ty fr) Tryz.prog 51 [sysD x] O (.tup [zbB x (lpR x).1 (lpR x).2 (esR x).1 (esR x).2,ii 0]) [] O:=fun O=>zpK hg (ty:=ty) (fr:=fr) O x h.sm h.hx h.h64 h.hV h.hn
 have h2:=fun O=>zs7 O x _ _ _ _ h.tn
 have ht:(zbh x (lpR x).1 (lpR x).2 (esR x).1 (esR x).2 0).isSome=false:=ht
 simp only[ht] at h2
 have hdv:=fun O est ev (hm:est∈(esR x).2)=>zmG O x (lpR x).1 (lpR x).2 (esR x).1 (esR x).2 h.tn.st est ev (h.tn.rng est hm).2.2 (by have:=(h.tn.rng est hm).2.1;omega)
 have hdv:∀ O est ev,est∈(esR x).2→zan Tryz.prog 57 [zbB x (lpR x).1 (lpR x).2 (esR x).1 (esR x).2,ints est,ii ev] O (.tup [ints (divP (lpR x).1 est ev),ints (divR x (lpR x).1 (lpR x).2 est ev)]) [] O:=hdv
 have hel:=h.tn.el
 have hctl:=h.sm.ct
 unfold ctlR
 generalize (zbh x (lpR x).1 (lpR x).2 (esR x).1 (esR x).2 0).getD zWit=w at *
 clear ht h
 generalize (lpR x).1=a at *
 generalize (lpR x).2=ps at *
 generalize (esR x).1=o at *
 generalize (esR x).2=es at *
 obtain⟨w1,w2,w3⟩:=w
 obtain⟨pf,hpf⟩:∃ pf:List Int→Int→Bool,pf=fun est e=>decide (0<(divP a est e).length):=⟨_,rfl⟩
 have hpe:∀ est e,decide (0<(divP a est e).length)=pf est e:=fun est e=>by rw[hpf]
 simp only[hpe]
 have hpd:∀ est e,decide (((divP a est e).length:Int)>0)=pf est e:=fun est e=>by rw[hpf];exact decide_eq_decide.2 (by omega)
 clear hpf hpe
 obtain⟨oal,ost,omk,oes⟩:=o
 obtain⟨⟨al,st,mk,eds⟩,⟨al',st',mk',eds'⟩,ob,ct⟩:=x
 simp only at hctl hel
 refine zaV [19,21] Tk Tryz.func19 rfl Tryz.call19 Tryz.ntmps19 (Nat.le_of_ble_eq_true rfl) fun E hE=>?_
 refine zae Tk Tryz.func19 ?_
 refine zbe Tk Tryz.func19 hE (h1 _) rfl rfl rfl rfl rfl rfl ?_
 refine gcF Tk Tryz.func19 rfl ?_
 refine zaf Tk Tryz.func19 (h2 _) rfl rfl rfl rfl rfl ?_
 refine gcF Tk Tryz.func19 rfl ?_
 refine zap Tk Tryz.func19 (rfl) ?_
 refine zap Tk Tryz.func19 (rfl) ?_
 refine zac ?_
 refine zaq (zaR 8 72 31 1 (pre:=[ints oal,ii ost,ints omk,edgs oes]) (post:=[]) rfl rfl rfl) ?_
 refine zah (fun i:Nat=>[(1,.own 0 1 0 0),(2,.own 0 2 0 0),(4,zbB ⟨⟨al,st,mk,eds⟩,⟨al',st',mk',eds'⟩,ob,ct⟩ a ps ⟨oal,ost,omk,oes⟩ es),(8,.own 0 8 0 0),(40,.i (zfb es)),(41,ii es.length),(42,ii i)])
  (fun i=>[(1,.box (sysC ⟨⟨al,st,mk,eds⟩,⟨al',st',mk',eds'⟩,ob,ct⟩)),(2,.box [.i (.v (.slice none 0 0)),ii 0,.i (.v (.slice none 0 0)),.i (.v (.slice none 0 0)),.i (.v (.slice none 0 0))]),(8,.box [ints oal,ii ost,ints omk,edgs oes,.osl 0 72]),(72,zgl ((es.take i).map fun est=>ct.filter (pf est)))]) (fun _=>O) 76
  (fun i=>i≤es.length) (fun i=>es.length - i) 0 (Nat.zero_le _) ⟨rfl,rfl,rfl,rfl,rfl,rfl,rfl,trivial⟩ rfl ⟨rfl,rfl,rfl,rfl,trivial⟩ rfl rfl ?_
 rintro i hi ih
 have hj0:ii (IntKind.i64.wrap ((i:Int)+1))=ii ((i+1:Nat):Int):=congrArg ii (zaC (n:=5000) (by omega) (by decide))
 refine zae Tk Tryz.func19 ?_
 refine zai Tk Tryz.func19 rfl (fun g1=>?_) (fun g1=>?_)
 ·have hh2:i<es.length:=by simpa using g1
  have ge:(es.map fun r=>[zbE r])[(i:Int).toNat]? = some [zbE es[i]]:=zaj (f:=fun r=>[zbE r]) hh2
  have hm:=List.getElem_mem hh2
  have htk:=zdd (f:=fun est=>ct.filter (pf est)) hh2
  have hl0:((es.take i).map fun est=>ct.filter (pf est)).length=i:=by rw[List.length_map,List.length_take];omega
  generalize es[i]=est at *
  generalize hQ:(es.take i).map (fun est=>ct.filter (pf est))=Q at *
  have hdv1:=fun O ev=>hdv O est ev hm
  have hpd1:=hpd est
  generalize pf est=pf1 at *
  refine zag Tk Tryz.func19 (by exact⟨by omega,by show (i:Int)<(es.length:Int);omega⟩) ?_
  refine zap Tk Tryz.func19 (ge) ?_
  refine zac ?_
  refine zaq (zcg 11 66 3 1 rfl rfl rfl) ?_
  refine zah (fun j:Nat=>[(1,.own 0 1 0 0),(2,.own 0 2 0 0),(4,zbB ⟨⟨al,st,mk,eds⟩,⟨al',st',mk',eds'⟩,ob,ct⟩ a ps ⟨oal,ost,omk,oes⟩ es),(8,.own 0 8 0 0),(40,.i (zfb es)),(41,ii es.length),(42,ii i),(10,ints est),(11,.osl 0 66),(47,ints ct),(48,ii ct.length),(49,ii j)])
   (fun j=>[(1,.box (sysC ⟨⟨al,st,mk,eds⟩,⟨al',st',mk',eds'⟩,ob,ct⟩)),(2,.box [.i (.v (.slice none 0 0)),ii 0,.i (.v (.slice none 0 0)),.i (.v (.slice none 0 0)),.i (.v (.slice none 0 0))]),(8,.box [ints oal,ii ost,ints omk,edgs oes,.osl 0 72]),(72,zgl Q),(66,zat ((ct.take j).filter pf1))]) (fun _=>O) 76
   (fun j=>j≤ct.length) (fun j=>ct.length - j) 0 (Nat.zero_le _) ⟨rfl,rfl,rfl,rfl,rfl,rfl,rfl,rfl,rfl,rfl,rfl,rfl,trivial⟩ rfl ⟨rfl,rfl,rfl,rfl,rfl,trivial⟩ rfl rfl ?_
  rintro j hj ih2
  have hj1:ii (IntKind.i64.wrap ((j:Int)+1))=ii ((j+1:Nat):Int):=congrArg ii (zaC (n:=1000001) (by omega) (by decide))
  refine zae Tk Tryz.func19 ?_
  refine zai Tk Tryz.func19 rfl (fun g2=>?_) (fun g2=>?_)
  ·have h3:j<ct.length:=by simpa using g2
   have gc:(ct.map fun x=>[vi x])[(j:Int).toNat]? = some [vi ct[j]]:=zaj (f:=fun x=>[vi x]) h3
   have htk2:ct.take (j+1)=ct.take j++[ct[j]]:=List.take_succ_eq_append_getElem h3
   have hA:=zgS pf1 (ct.take j) ct[j]
   rw[← htk2] at hA
   have lA:((ct.take j).filter pf1).length≤1000000:=Nat.le_trans (List.length_filter_le _ _) (by rw[List.length_take];omega)
   generalize ct[j]=e at *
   clear htk2
   generalize (ct.take j).filter pf1=A at *
   refine zag Tk Tryz.func19 (by exact⟨by omega,by show (j:Int)<(ct.length:Int);omega⟩) ?_
   refine zap Tk Tryz.func19 (gc) ?_
   refine zaf Tk Tryz.func19 (hdv1 _ _) rfl rfl rfl rfl rfl ?_
   refine zai Tk Tryz.func19 rfl (fun c1=>?_) (fun c1=>?_)
   ·have c1:decide (((divP a est e).length:Int)>0)=true:=c1
    rw[hpd1] at c1
    rw[if_pos c1] at hA
    refine zag Tk Tryz.func19 (by exact⟨by show (A.length+1) * 8≤140737488355328;omega,by show A.length+1≤9223372036854775807;omega⟩) ?_
    refine zac ?_
    exact ih2 (j+1) _ _ h3 (by omega) ⟨rfl,rfl,rfl,rfl,rfl,rfl,rfl,rfl,rfl,rfl,rfl,hj1,trivial⟩ rfl ⟨rfl,rfl,rfl,rfl,by rw[hA];exact congrArg some (zaO A e),trivial⟩ rfl rfl
   ·have c1:decide (((divP a est e).length:Int)>0)=false:=c1
    rw[hpd1] at c1
    rw[if_neg (by rw[c1];decide),List.append_nil] at hA
    refine zac ?_
    exact ih2 (j+1) _ _ h3 (by omega) ⟨rfl,rfl,rfl,rfl,rfl,rfl,rfl,rfl,rfl,rfl,rfl,hj1,trivial⟩ rfl ⟨rfl,rfl,rfl,rfl,by rw[hA];rfl,trivial⟩ rfl rfl
  ·have h3:ct.length≤j:=by simpa using g2
   rw[List.take_of_length_le h3]
   refine zay ?_
   refine zaq (zao 66 rfl rfl) ?_
   refine zae Tk Tryz.func19 ?_
   refine g_go Tk Tryz.func19 ?_
   refine zag Tk Tryz.func19 (by exact⟨by show (Q.length+1) * 24≤140737488355328;omega,by show Q.length+1≤9223372036854775807;omega⟩) ?_
   refine zac ?_
   refine ih (i+1) _ _ hh2 (by omega) ⟨rfl,rfl,rfl,rfl,rfl,rfl,hj0,trivial⟩ rfl ⟨rfl,rfl,rfl,?_,trivial⟩ rfl rfl
   rw[htk]
   exact congrArg some (zgk Q (ct.filter pf1))
 ·have hh2:es.length≤i:=by simpa using g1
  rw[List.take_of_length_le hh2]
  refine zay ?_
  refine zaq (zao 72 rfl rfl) ?_
  refine zae Tk Tryz.func19 ?_
  refine g_go Tk Tryz.func19 ?_
  refine zak Tk (r:=.tup [ctlD ⟨oal,ost,omk,oes⟩ (es.map fun est=>ct.filter (pf est)),ii 0]) rfl rfl rfl trivial rfl rfl ?_
  rfl
end Go.AI
