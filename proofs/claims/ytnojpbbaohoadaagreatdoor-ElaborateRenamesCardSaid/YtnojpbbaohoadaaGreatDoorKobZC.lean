/- The layer of abstract runs, part 29. -/
import Derived.Test.YtnojpbbaohoadaaGreatDoorKobZB
import Derived.KernelRfl
set_option linter.unusedSimpArgs false
set_option linter.unusedVariables false
set_option linter.all false
set_option maxHeartbeats 4000000
namespace Go.AI
open Go.Proofs
set_option maxRecDepth 20000
theorem zjB (nm:ByteArray) (b:List Loc2):∀ (l:List (List Loc2)) (i:Nat),numX nm (l++[b]) i=numX nm l i++[⟨nm++⟨#[95]⟩++zcs ((i+l.length:Nat):Int),b⟩]
 | [],i=>rfl
 | a::r,i=>by
  simp only[List.cons_append,numX,zjB nm b r (i+1),List.length_cons]
  rw[show i+1+r.length=i+(r.length+1) by omega]
theorem ziy (nm:ByteArray):∀ (l:List (List Loc2)) (i:Nat),(numX nm l i).length=l.length
 | [],_=>rfl
 | a::r,i=>by simp[numX,ziy nm r]
theorem zus (l:List Chc) (x:Chc):Ob.arr 304 2 (l.length+1) (l.map chcI++[chcI x]) true=ochs (l++[x]):=by simp
set_option maxHeartbeats 8000000 in
theorem zsg {g:Nat} (hg:zfA g) {ty:TypeId} {fr:Nat × Nat} (O:List Heap) (m:Mdl) (x:NEx) (og:List (List Sta)) (most:Int) (hm:szOk m) (hl:x.locals.length≤12) (hlc:∀ y∈x.locals,lcOk m og y) (hmost:most≤32) (hxn:x.name.size≤1000) :
  zbg g (ptab ty fr) Tryz.prog 137 [mdlD m,nexD x,.i (zkM og),ii most] O (.tup [.i (zcH (expX m og x most).1),ii (expX m og x most).2]) [] O:=by
 have hf1:=fun O s=>zei O m 3 s hm
 rw[show namK m 3=m.comps.map (·.name) from rfl] at hf1
 obtain⟨xn,lcs⟩:=x
 simp only at hl hlc hxn
 generalize hR:expX m og ⟨xn,lcs⟩ most=R
 unfold expX at hR
 simp only at hR
 have hlen:(lcs.map (chcR m og)).length=lcs.length:=List.length_map ..
 generalize hL:lcs.map (chcR m og)=l at *
 have h1:=zi3 l (n:=1) (by decide) (by decide)
 refine za4 [200067,17,30] Tk Tryz.func137 rfl Tryz.call137 Tryz.ntmps137 (Nat.le_of_ble_eq_true rfl) fun E hE=>?_
 refine zag Tk Tryz.func137 ?_
 refine g_wk (zb2 10 59 304 2 rfl rfl rfl) ?_
 refine zae ?_
 refine zaj (fun i:Nat=>[(2,.i (zkM og)),(3,ii most),(4,.own 0 4 0 0),(5,.own 0 5 0 0),(10,.osl 0 59),(11,ii (chsN (l.take i) 1)),(29,.i (zrz lcs)),(30,ii lcs.length),(31,ii i)])
  (fun i=>[(4,.box (mdlC m)),(5,.box (nexC ⟨xn,lcs⟩)),(59,ochs (l.take i))]) (fun _=>O) 138
  (fun i=>i≤lcs.length) (fun i=>lcs.length - i) 0 (Nat.zero_le _) ⟨rfl,rfl,rfl,rfl,rfl,rfl,rfl,rfl,rfl,trivial⟩ rfl ⟨rfl,rfl,rfl,trivial⟩ rfl rfl ?_
 intro i hi ih
 have hi:i≤lcs.length:=hi
 refine zag Tk Tryz.func137 ?_
 refine zai Tk Tryz.func137 rfl (fun g1=>?_) (fun g1=>?_)
 ·have g1:i<lcs.length:=by simpa using g1
  have gs:(lcs.map nlcI)[(i:Int).toNat]? = some (nlcI lcs[i]):=zam (f:=nlcI) g1
  obtain⟨k,k2,c,t,s,e1,e2,e3,e4,e5,e6,e7,e8⟩:=(hlc lcs[i] (List.getElem_mem g1)).ex
  have hch:=zxw (x:=lcs[i]) e1 e2 e5 e7
  have ht:l.take (i+1)=l.take i++[((k:Int),stAt (nmIx t.locs lcs[i].2) s 0)]:=by
   rw[List.take_succ_eq_append_getElem (by rw[hlen];exact g1)]
   congr 2
   rw[← hch]
   subst hL
   simp
  have hN:=zsD (l.take i) ((k:Int),stAt (nmIx t.locs lcs[i].2) s 0) 1
  rw[← ht] at hN
  have hNb:=zi3 (l.take i) (n:=1) (by decide) (by decide)
  have hf2:=fun O=>hf1 O lcs[i].1
  rw[e1,ze6] at hf2
  have hT:=fun O=>zgk O m k k2 c t hm e2 e3 e4
  have hI:=fun O=>znh O t.locs lcs[i].2 (by simp only[zao];omega)
  have hA:=fun O=>zyN O s (nmIx t.locs lcs[i].2) (by omega)
  have hsl:=zil (nmIx t.locs lcs[i].2) s 0
  have gk:k<og.length:=(List.getElem?_eq_some_iff.1 e7).1
  have gg:(og.map fun s=>[I.sl 2 s.length (s.map staI)])[(k:Int).toNat]? = some [I.sl 2 s.length (s.map staI)]:=by rw[Int.toNat_natCast,List.getElem?_map,e7];rfl
  have hl2:(l.take i).length=i:=by rw[List.length_take,hlen];omega
  have hj1:ii (IntKind.i64.wrap ((i:Int)+1))=ii ((i+1:Nat):Int):=congrArg ii (zaB (n:=1000001) (by omega) (by decide))
  clear hch e1 e2 e3 e4 e5 e7 hf1 hlc hL
  generalize stAt (nmIx t.locs lcs[i].2) s 0=S at *
  generalize nmIx t.locs lcs[i].2=q at *
  generalize chsN (l.take i) 1=N at *
  generalize l.take i=L at *
  generalize lcs[i]=y at *
  obtain⟨cn,ln⟩:=y
  simp only at hf2 hI hN
  have hprod:0≤N * (S.length:Int)∧N * (S.length:Int)≤1048576 * 100000:=by
   refine⟨Int.mul_nonneg hNb.1 (by omega),?_⟩
   exact Int.mul_le_mul hNb.2 (by omega) (by omega) (by decide)
  have hw:IntKind.i64.wrap (N * (S.length:Int))=N * (S.length:Int):=w64 (by omega) (by omega)
  have hmin:(if (1048576:Int)<IntKind.i64.wrap (N * (S.length:Int)) then (1048576:Int) else IntKind.i64.wrap (N * (S.length:Int)))=chsN (l.take (i+1)) 1:=by
   rw[hN,hw]
   generalize N * (S.length:Int)=P at *
   split <;> split <;> omega
  refine zaf Tk Tryz.func137 (by exact⟨by omega,by show (i:Int)<(lcs.length:Int);omega⟩) ?_
  refine zaq Tk Tryz.func137 (gs) ?_
  refine zak Tk Tryz.func137 (hf2 _) rfl rfl rfl rfl rfl ?_
  refine zaw Tk Tryz.func137 zaG rfl ?_
  refine zar Tk (by exact⟨by omega,by show (k:Int)<(og.length:Int);omega⟩) ?_
  refine zaF Tk (gg) ?_
  refine za2 Tk (fun _=>hT _) rfl rfl rfl ?_
  refine za2 Tk (fun _=>hI _) rfl rfl rfl ?_
  refine za2 Tk (fun _=>hA _) rfl rfl rfl ?_
  refine zaH Tk Tryz.func137 (by kernel_rfl) ?_
  refine zaf Tk Tryz.func137 (by exact⟨by show (L.length+1) * 32≤140737488355328;omega,by show L.length+1≤9223372036854775807;omega⟩) ?_
  refine zae ?_
  refine ih (i+1) _ _ g1 (by omega) ⟨rfl,rfl,rfl,rfl,rfl,congrArg ii hmin,rfl,rfl,hj1,trivial⟩ rfl ⟨rfl,rfl,?_,trivial⟩ rfl rfl
  rw[ht]
  exact congrArg some (zus L (k,S))
 have g1:lcs.length≤i:=by simpa using g1
 rw[List.take_of_length_le (by rw[hlen];exact g1)]
 rw[← hlen] at hl
 clear ih hL hlc hf1 hi g1 hlen
 have hany:=fun O=>zlf O l 177 (fun y=>decide (y.2.length=0)) (by simp only[zao];omega) fun y _=>zwS _ y
 have hae:(l.any fun y=>decide (y.2.length=0))=l.any fun y=>y.2.isEmpty:=by
  congr 1
  funext y
  cases y.2 <;> rfl
 rw[hae] at hany
 have hP:=fun h=>znC (l:=l) h
 have hNP:=fun h=>zsE (l:=l) (n:=1) h (Nat.le_refl _)
 generalize (l.any fun y=>y.2.isEmpty)=A at *
 refine zcm Tk Tryz.func137 rfl rfl rfl rfl (zbq (hany []) (zfF _) (.osl (.f .nil)) rfl (show 67<138 by decide) rfl rfl) ?_
 refine zai Tk Tryz.func137 rfl (fun c1=>?_) (fun c1=>?_)
 ·have c1:A=true:=c1
  rw[if_pos c1] at hR
  subst hR
  refine zaz Tk (r:=.tup [.i (.v (.slice none 0 0)),ii 0]) rfl rfl rfl trivial rfl rfl ?_
  repeat' (first | refine zbE ?_ | refine zby ?_ | refine zco ?_ | refine CoDL.cons ?_ ?_ | exact CoDL.nil | exact zbb | refine zcp ?_ | refine CoLL.cons ?_ ?_ | exact CoLL.nil | refine CoL.cons ?_ ?_ | exact CoL.nil | exact CoI.refl _ | exact CoL.refl _ | exact CoLL.refl _ | exact CoDL.refl _ | exact CoD.refl _)
 have c1:A=false:=c1
 rw[if_neg (zgF c1)] at hR
 generalize hN:chsN l 1=N at *
 refine zai Tk Tryz.func137 rfl (fun c2=>?_) (fun c2=>?_)
 ·have c2:N>most:=of_decide_eq_true c2
  rw[if_pos c2] at hR
  subst hR
  refine zaz Tk (r:=.tup [.i (.v (.slice none 0 0)),ii 3]) rfl rfl rfl trivial rfl rfl ?_
  repeat' (first | refine zbE ?_ | refine zby ?_ | refine zco ?_ | refine CoDL.cons ?_ ?_ | exact CoDL.nil | exact zbb | refine zcp ?_ | refine CoLL.cons ?_ ?_ | exact CoLL.nil | refine CoL.cons ?_ ?_ | exact CoL.nil | exact CoI.refl _ | exact CoL.refl _ | exact CoLL.refl _ | exact CoDL.refl _ | exact CoD.refl _)
 have c2:¬ N>most:=of_decide_eq_false c2
 rw[if_neg c2] at hR
 have hP:=hP c1
 have hNP:=hNP c1 (by omega)
 rw[Nat.one_mul] at hNP
 have hpm:=zhB l
 rw[← zkl hpm] at hP hNP
 have hsl:=zeR l
 have h178:=fun O d ho=>zwc O d 59 l hl ho
 refine zak Tk Tryz.func137 (h178 _ 0 rfl) rfl rfl rfl (zbc (ob:=ochs l) rfl (by simp[Ob.sh,hsl])) rfl ?_
 rw[← hsl] at hl
 clear hpm h178 hsl
 generalize zdv l=sl at *
 refine zax ?_
 refine zas (zap 59 rfl rfl) ?_
 refine zas (ztK 73 (ys:=[[lcsI []]]) rfl rfl rfl (by simp;rfl) fun K vs h=>?_) ?_
 ·have h:RepL K vs [.v (.slice none 0 0)]:=h
  show RepL K vs [lcsI []]
  cases h with
  | cons h1 h=>
   cases h
   cases h1
   exact .cons .nil .nil
 refine zas (zap 73 rfl rfl) ?_
 refine zag Tk Tryz.func137 ?_
 refine g_go Tk Tryz.func137 ?_
 refine zae ?_
 refine zaj (fun i:Nat=>[(5,.own 0 5 0 0),(17,.i (llsI (chsR (sl.take i) [[]]))),(74,.i (.sl 2 sl.length (sl.map chcI))),(75,ii sl.length),(76,ii i)])
  (fun i=>[(5,.box (nexC ⟨xn,lcs⟩))]) (fun _=>O) 138
  (fun i=>i≤sl.length) (fun i=>sl.length - i) 0 (Nat.zero_le _) ⟨rfl,rfl,rfl,rfl,rfl,trivial⟩ rfl ⟨rfl,trivial⟩ rfl rfl ?_
 intro i hi ih
 have hi:i≤sl.length:=hi
 refine zag Tk Tryz.func137 ?_
 refine zai Tk Tryz.func137 rfl (fun g1=>?_) (fun g1=>?_)
 ·have g1:i<sl.length:=by simpa using g1
  have gs:(sl.map chcI)[(i:Int).toNat]? = some (chcI sl[i]):=zam (f:=chcI) g1
  have hs1:chsR (sl.take (i+1)) [[]]=(chsR (sl.take i) [[]]).flatMap fun b=>sl[i].2.map fun s=>b++[(sl[i].1,s)]:=by
   rw[List.take_succ_eq_append_getElem g1,zsC]
  have hlen1:(chsR (sl.take i) [[]]).length * sl[i].2.length≤32:=by
   have h2:=zfb (sl.take (i+1)) [[]]
   have h3:=zkk hP (i+1)
   rw[hs1] at h2
   have h4:((chsR (sl.take i) [[]]).flatMap fun b=>sl[i].2.map fun s=>b++[(sl[i].1,s)]).length=(chsR (sl.take i) [[]]).length * sl[i].2.length:=by
    generalize chsR (sl.take i) [[]]=Q
    induction Q with
    | nil=>simp
    | cons a q ihq=>rw[List.flatMap_cons,List.length_append,List.length_map,ihq,List.length_cons,Nat.add_mul];omega
   rw[h4] at h2
   rw[h2]
   simp only[List.length_singleton,Nat.one_mul]
   omega
  have hmem:∀ b∈chsR (sl.take i) [[]],b.length≤12:=by
   intro b hb
   have:=zi2 (sl.take i) (all:=[[]]) (k:=0) (by simp) b hb
   rw[List.length_take] at this
   omega
  have hal:(chsR (sl.take i) [[]]).length≤32:=by
   have h2:=zfb (sl.take i) [[]]
   have h3:=zkk hP i
   rw[h2]
   simp only[List.length_singleton,Nat.one_mul]
   omega
  have hj1:ii (IntKind.i64.wrap ((i:Int)+1))=ii ((i+1:Nat):Int):=congrArg ii (zaB (n:=1000001) (by omega) (by decide))
  generalize chsR (sl.take i) [[]]=all at *
  generalize sl[i]=y at *
  obtain⟨yc,st⟩:=y
  simp only at hs1 hlen1
  have hstl:all.length=0∨st.length≤32:=by
   rcases Nat.eq_zero_or_pos all.length with h | h
   ·exact .inl h
   ·right
    exact Nat.le_trans (Nat.le_mul_of_pos_left _ h) hlen1
  refine zaf Tk Tryz.func137 (by exact⟨by omega,by show (i:Int)<(sl.length:Int);omega⟩) ?_
  refine zaq Tk Tryz.func137 (gs) ?_
  refine g_wk (zb2 20 103 124 1 rfl rfl rfl) ?_
  refine zae ?_
  refine zaj (fun j:Nat=>[(5,.own 0 5 0 0),(19,.own 0 19 0 0),(20,.osl 0 103),(74,.i (.sl 2 sl.length (sl.map chcI))),(75,ii sl.length),(76,ii i),(80,.i (llsI all)),(81,ii all.length),(82,ii j)])
   (fun j=>[(5,.box (nexC ⟨xn,lcs⟩)),(19,.box [ii yc,ints st]),(103,olls ((all.take j).flatMap fun b=>st.map fun s=>b++[(yc,s)]))]) (fun _=>O) 138
   (fun j=>j≤all.length) (fun j=>all.length - j) 0 (Nat.zero_le _) ⟨rfl,rfl,rfl,rfl,rfl,rfl,rfl,rfl,rfl,trivial⟩ rfl ⟨rfl,rfl,rfl,trivial⟩ rfl rfl ?_
  intro j hj ih2
  have hj:j≤all.length:=hj
  refine zag Tk Tryz.func137 ?_
  refine zai Tk Tryz.func137 rfl (fun g2=>?_) (fun g2=>?_)
  ·have g2:j<all.length:=by simpa using g2
   have gb:(all.map fun b=>[lcsI b])[(j:Int).toNat]? = some [lcsI all[j]]:=zam (f:=fun b=>[lcsI b]) g2
   have hb12:=hmem all[j] (List.getElem_mem g2)
   have hs2:(all.take (j+1)).flatMap (fun b=>st.map fun s=>b++[(yc,s)])=((all.take j).flatMap fun b=>st.map fun s=>b++[(yc,s)])++st.map fun s=>all[j]++[(yc,s)]:=by
    rw[List.take_succ_eq_append_getElem g2,List.flatMap_append]
    simp
   have hacc:((all.take j).flatMap fun b=>st.map fun s=>b++[(yc,s)]).length=j * st.length:=by
    have:∀ Q:List (List Loc2),(Q.flatMap fun b=>st.map fun s=>b++[(yc,s)]).length=Q.length * st.length:=by
     intro Q
     induction Q with
     | nil=>simp
     | cons a q ihq=>rw[List.flatMap_cons,List.length_append,List.length_map,ihq,List.length_cons,Nat.add_mul];omega
    rw[this,List.length_take,Nat.min_eq_left hj]
   have hj2:ii (IntKind.i64.wrap ((j:Int)+1))=ii ((j+1:Nat):Int):=congrArg ii (zaB (n:=1000001) (by omega) (by decide))
   have hbd:j * st.length≤32:=Nat.le_trans (Nat.mul_le_mul_right _ (by omega)) hlen1
   generalize ((all.take j).flatMap fun b=>st.map fun s=>b++[(yc,s)])=acc at *
   generalize all[j]=b at *
   refine zaf Tk Tryz.func137 (by exact⟨by omega,by show (j:Int)<(all.length:Int);omega⟩) ?_
   refine zaq Tk Tryz.func137 (gb) ?_
   refine zae ?_
   refine zaj (fun k:Nat=>[(5,.own 0 5 0 0),(19,.own 0 19 0 0),(20,.osl 0 103),(22,.i (lcsI b)),(74,.i (.sl 2 sl.length (sl.map chcI))),(75,ii sl.length),(76,ii i),(80,.i (llsI all)),(81,ii all.length),(82,ii j),(87,ints st),(88,ii st.length),(89,ii k)])
    (fun k=>[(5,.box (nexC ⟨xn,lcs⟩)),(19,.box [ii yc,ints st]),(103,olls (acc++(st.take k).map fun s=>b++[(yc,s)]))]) (fun _=>O) 138
    (fun k=>k≤st.length) (fun k=>st.length - k) 0 (Nat.zero_le _) ⟨rfl,rfl,rfl,rfl,rfl,rfl,rfl,rfl,rfl,rfl,rfl,rfl,rfl,trivial⟩ rfl ⟨rfl,rfl,by show some (olls acc)=some (olls (acc++[]));rw[List.append_nil],trivial⟩ rfl rfl ?_
   intro k hk ih3
   have hk:k≤st.length:=hk
   refine zag Tk Tryz.func137 ?_
   refine zai Tk Tryz.func137 rfl (fun g3=>?_) (fun g3=>?_)
   ·have g3:k<st.length:=by simpa using g3
    have gk:(st.map fun x=>[vi x])[(k:Int).toNat]? = some [vi st[k]]:=zam (f:=fun x=>[vi x]) g3
    have hs3:acc++(st.take (k+1)).map (fun s=>b++[(yc,s)])=(acc++(st.take k).map fun s=>b++[(yc,s)])++[b++[(yc,st[k])]]:=by
     rw[List.take_succ_eq_append_getElem g3,List.map_append,List.append_assoc]
     rfl
    have hll:(acc++(st.take k).map fun s=>b++[(yc,s)]).length≤64:=by
     rw[List.length_append,List.length_map,List.length_take]
     have:=hstl
     omega
    have hk2:ii (IntKind.i64.wrap ((k:Int)+1))=ii ((k+1:Nat):Int):=congrArg ii (zaB (n:=1000001) (by omega) (by decide))
    have hc:=fun O=>zvc O b (by omega)
    generalize (acc++(st.take k).map fun s=>b++[(yc,s)])=A2 at *
    generalize st[k]=s at *
    refine zaf Tk Tryz.func137 (by exact⟨by omega,by show (k:Int)<(st.length:Int);omega⟩) ?_
    refine zaq Tk Tryz.func137 (gk) ?_
    refine zaw Tk Tryz.func137 zaG rfl ?_
    refine za2 Tk (fun _=>hc _) rfl rfl rfl ?_
    refine zxU Tk ⟨[(101,.osl 0 101),(95,.dead)],[(101,.arr 131 2 (b.length+1) ((b.map zbt)++[[vi yc,vi s]]) true)],some 95⟩ rfl rfl ?_ ?_
    ·refine zdM Tk (by exact⟨by show (b.length+1) * 16≤140737488355328;omega,by show b.length+1≤9223372036854775807;omega⟩) ?_
     refine zfw Tk (p:=⟨[(101,.osl 0 101),(95,.dead)],[(101,.arr 131 2 (b.length+1) ((b.map zbt)++[[vi yc,vi s]]) true)],some 95⟩) rfl rfl rfl ?_
     exact rfl
    refine zq9 Tk ?_
    refine zdM Tk (by exact⟨by show (A2.length+1) * 24≤140737488355328;omega,by show A2.length+1≤9223372036854775807;omega⟩) ?_
    refine zfw Tk (p:=⟨[(103,.osl 0 103),(93,.dead),(20,.dead)],[(103,.arr 124 1 (A2.length+1) ((A2.map fun b=>[lcsI b])++[[.sl 2 (b.length+1) ((b.map zbt)++[[vi yc,vi s]])]]) true)],some 103⟩) rfl rfl rfl ?_
    refine zh2 Tk Tryz.func137 (by kernel_rfl) (GM.h ?_)
    refine zae ?_
    refine ih3 (k+1) _ _ g3 (by omega) ⟨rfl,rfl,rfl,rfl,rfl,rfl,rfl,rfl,rfl,rfl,rfl,rfl,hk2,trivial⟩ rfl ⟨rfl,rfl,?_,trivial⟩ rfl rfl
    rw[hs3]
    show some (Ob.arr 124 1 (A2.length+1) ((A2.map fun b=>[lcsI b])++[[.sl 2 (b.length+1) ((b.map zbt)++[[vi yc,vi s]])]]) true)=some (olls (A2++[b++[(yc,s)]]))
    simp
   ·have g3:st.length≤k:=by simpa using g3
    rw[List.take_of_length_le g3]
    refine zae ?_
    refine ih2 (j+1) _ _ g2 (by omega) ⟨rfl,rfl,rfl,rfl,rfl,rfl,rfl,rfl,hj2,trivial⟩ rfl ⟨rfl,rfl,?_,trivial⟩ rfl rfl
    rw[hs2]
    rfl
  ·have g2:all.length≤j:=by simpa using g2
   rw[List.take_of_length_le g2,← hs1]
   refine zax ?_
   refine zas (zap 103 rfl rfl) ?_
   refine zag Tk Tryz.func137 ?_
   refine g_go Tk Tryz.func137 ?_
   refine zae ?_
   exact ih (i+1) _ _ g1 (by omega) ⟨rfl,rfl,rfl,rfl,hj1,trivial⟩ rfl ⟨rfl,trivial⟩ rfl rfl
 have g1:sl.length≤i:=by simpa using g1
 rw[List.take_of_length_le g1]
 have hall:=zfb sl [[]]
 rw[List.length_singleton,Nat.one_mul] at hall
 clear ih g1 hi
 generalize chsR sl [[]]=all at *
 by_cases h5:all.length=1
 ·obtain⟨one,rfl⟩:∃ one,all=[one]:=by
   cases all with
   | nil=>simp at h5
   | cons a r=>cases r with
    | nil=>exact⟨a,rfl⟩
    | cons=>simp at h5
  simp only at hR
  subst hR
  refine gcT Tk Tryz.func137 rfl ?_
  refine zaw Tk Tryz.func137 zaG rfl ?_
  refine zar Tk (by exact⟨by decide,by show (0:Int)<1;decide⟩) ?_
  refine zaF Tk (rfl) ?_
  refine zaH Tk Tryz.func137 (by kernel_rfl) ?_
  refine zah Tk (r:=.tup [.i (zcH [⟨xn,one⟩]),ii 0]) rfl rfl rfl trivial rfl rfl ?_
  rfl
 ·have hR:(numX xn all 0,(0:Int))=R:=by
   rw[← hR]
   cases all with
   | nil=>rfl
   | cons a r=>cases r with
    | nil=>simp at h5
    | cons=>rfl
  subst hR
  refine zai Tk Tryz.func137 rfl (fun h6=>?_) (fun h6=>?_)
  ·exact absurd (beqT h6) (by omega)
  refine g_wk (zb2 25 135 126 2 rfl rfl rfl) ?_
  refine zae ?_
  refine zaj (fun i:Nat=>[(5,.own 0 5 0 0),(25,.osl 0 135),(118,.i (llsI all)),(119,ii all.length),(120,ii i)])
   (fun i=>[(5,.box (nexC ⟨xn,lcs⟩)),(135,zro (numX xn (all.take i) 0))]) (fun _=>O) 138
   (fun i=>i≤all.length) (fun i=>all.length - i) 0 (Nat.zero_le _) ⟨rfl,rfl,rfl,rfl,rfl,trivial⟩ rfl ⟨rfl,rfl,trivial⟩ rfl rfl ?_
  intro i hi ih
  have hi:i≤all.length:=hi
  refine zag Tk Tryz.func137 ?_
  refine zai Tk Tryz.func137 rfl (fun g1=>?_) (fun g1=>?_)
  ·have g1:i<all.length:=by simpa using g1
   have gb:(all.map fun b=>[lcsI b])[(i:Int).toNat]? = some [lcsI all[i]]:=zam (f:=fun b=>[lcsI b]) g1
   have hs:numX xn (all.take (i+1)) 0=numX xn (all.take i) 0++[⟨xn++⟨#[95]⟩++zcs (i:Int),all[i]⟩]:=by
    rw[List.take_succ_eq_append_getElem g1,zjB,List.length_take,Nat.min_eq_left hi,Nat.zero_add]
   have hn:=ziy xn (all.take i) 0
   rw[List.length_take] at hn
   have hit:=fun O=>zjR hg (ty:=ty) (fr:=fr) O (i:Int) (by omega) (by omega)
   have hsz:=zcw (n:=(i:Int)) (by omega) (by omega)
   have hj1:ii (IntKind.i64.wrap ((i:Int)+1))=ii ((i+1:Nat):Int):=congrArg ii (zaB (n:=1000001) (by omega) (by decide))
   generalize numX xn (all.take i) 0=X at *
   generalize all[i]=b at *
   generalize zcs (i:Int)=T at *
   refine zaf Tk Tryz.func137 (by exact⟨by omega,by show (i:Int)<(all.length:Int);omega⟩) ?_
   refine zaq Tk Tryz.func137 (gb) ?_
   refine zaw Tk Tryz.func137 zaG rfl ?_
   refine zar Tk (by show xn.size+1≤9223372036854775807;omega) ?_
   refine zdw Tk hE (hit _) rfl rfl rfl rfl ?_
   refine zar Tk (by rw[ByteArray.size_append];show xn.size+1+T.size≤9223372036854775807;omega) ?_
   refine zfa Tk Tryz.func137 ([10,11]) (by kernel_rfl) (by kernel_rfl) ?_
   refine zaf Tk Tryz.func137 (by exact⟨by show (X.length+1) * 40≤140737488355328;omega,by show X.length+1≤9223372036854775807;omega⟩) ?_
   refine zae ?_
   refine ih (i+1) _ _ g1 (by omega) ⟨rfl,rfl,rfl,rfl,hj1,trivial⟩ rfl ⟨rfl,?_,trivial⟩ rfl rfl
   rw[hs]
   show some (Ob.arr 126 2 (X.length+1) (X.map xexI++[xexI ⟨xn++⟨#[95]⟩++T,b⟩]) true)=_
   simp[zro]
  ·have g1:all.length≤i:=by simpa using g1
   rw[List.take_of_length_le g1]
   refine za8 (zap 135 rfl rfl) ?_
   refine zah Tk (r:=.tup [.i (zcH (numX xn all 0)),ii 0]) rfl rfl rfl trivial rfl rfl ?_
   rfl
theorem znp (m:Mdl) (og:List (List Sta)) (x:NEx) (most:Int) (hmost:most≤32):(expX m og x most).1.length≤40:=by
 unfold expX
 simp only
 generalize x.locals.map (chcR m og)=l
 cases hA:(l.any fun y=>y.2.isEmpty) with
 | true=>rw[if_pos rfl];simp
 | false=>
  rw[if_neg (by decide)]
  by_cases h:chsN l 1>most
  ·rw[if_pos h];simp
  ·rw[if_neg h]
   have h1:=zsE (l:=l) (n:=1) hA (Nat.le_refl _) (by show chsN l 1≤32;omega)
   rw[Nat.one_mul,← zkl (zhB l)] at h1
   have h2:=zfb (zdv l) [[]]
   rw[List.length_singleton,Nat.one_mul] at h2
   generalize chsR (zdv l) [[]]=all at *
   cases all with
   | nil=>simp[numX]
   | cons a r=>cases r with
    | nil=>simp
    | cons b q=>
     show (numX x.name (a::b::q) 0).length≤40
     rw[ziy]
     omega
def excX (m:Mdl) (og:List (List Sta)):List XEx × Plc × Int:=match zcC m og m.excs 0 [] [] with
 | .error (i,e)=>([],(5,(i:Int)),e)
 | .ok out=>(out,(0,0),0)
abbrev excD (r:List XEx × Plc × Int):D:=.tup [.i (zcH r.1),.agg [ii r.2.1.1,ii r.2.1.2],ii r.2.2]
theorem zxq {a b c:Int}:CoD (.tup [.i (.v (.slice none 0 0)),.agg [ii a,ii b],ii c]) (excD ([],(a,b),c)):=by
 repeat' (first | refine zbE ?_ | refine zby ?_ | refine zco ?_ | refine CoDL.cons ?_ ?_ | exact CoDL.nil | exact zbb | refine zcp ?_ | refine CoLL.cons ?_ ?_ | exact CoLL.nil | refine CoL.cons ?_ ?_ | exact CoL.nil | exact CoI.refl _ | exact CoL.refl _ | exact CoLL.refl _ | exact CoDL.refl _ | exact CoD.refl _)
theorem zrn (a b:List XEx):Ob.arr 126 2 (a.length+b.length) (a.map xexI++b.map xexI) true=zro (a++b):=by simp
theorem zkf (O:List Heap) (b:List ByteArray) (s:ByteArray) (hl:b.length≤1000000):zan Tryz.prog 124 [.i (.sl 1 b.length (b.map fun s=>[strI s])),.i (strI s)] O (bb (hasB b s)) [] O:=zcc O b s (by simp only[zao];omega)
theorem zj9 {g:Nat} (hg:zfA g) {ty:TypeId} {fr:Nat × Nat} (O:List Heap) (m:Mdl) (og:List (List Sta)) (hm:szOk m) (hlen:m.excs.length≤32) (hx:∀ x∈m.excs,x.locals.length≤12∧(∀ y∈x.locals,lcOk m og y)∧x.name.size≤1000) :
  zbg g (ptab ty fr) Tryz.prog 56 [mdlD m,.i (zkM og)] O (excD (excX m og)) [] O:=by
 have he:=fun O x (h:x∈m.excs) most (h2:most≤32)=>zsg hg (ty:=ty) (fr:=fr) O m x og most hm (hx x h).1 (hx x h).2.1 h2 (hx x h).2.2
 have hxl:=fun x most (h2:most≤32)=>znp m og x most h2
 unfold excX
 generalize hK:zcC m og m.excs 0 [] []=K
 clear hx
 have hex:∀ (x:NEx) (most:Int),∃ l e,expX m og x most=(l,e):=fun x most=>⟨_,_,rfl⟩
 have hun:∀ x r i seen out,zcC m og (x::r) i seen out=if (expX m og x (32 - (out.length:Int))).2≠0 then .error (i,(expX m og x (32 - (out.length:Int))).2)
  else if (expX m og x (32 - (out.length:Int))).1.any (fun y=>decide (y.name.size>32))=true then .error (i,7)
  else match dupX seen (expX m og x (32 - (out.length:Int))).1 with
   | .error _=>.error (i,8)
   | .ok seen'=>zcC m og r (i+1) seen' (out++(expX m og x (32 - (out.length:Int))).1):=fun x r i seen out=>rfl
 have hnil:∀ i seen out,zcC m og [] i seen out = .ok out:=fun _ _ _=>rfl
 generalize expX m og=fX at *
 generalize zcC m og=fR at *
 obtain⟨nm,evs,tpls,comps,reqs,l,cons⟩:=m
 simp only at hlen he hK
 refine za4 [200050] Tk Tryz.func56 rfl Tryz.call56 Tryz.ntmps56 (Nat.le_of_ble_eq_true rfl) fun E hE=>?_
 refine zag Tk Tryz.func56 ?_
 refine g_wk (zb2 7 57 9 1 rfl rfl rfl) ?_
 refine g_wk (zb2 4 61 126 2 rfl rfl rfl) ?_
 refine zae ?_
 refine zaj (fun x:Nat × List ByteArray × List XEx=>[(1,.i (zkM og)),(2,.own 0 2 0 0),(4,.osl 0 61),(5,.own 0 5 0 0),(7,.osl 0 57),(15,.i (zeV l)),(16,ii l.length),(17,ii x.1)])
  (fun x=>[(2,.box (mdlC ⟨nm,evs,tpls,comps,reqs,l,cons⟩)),(5,plcN),(61,zro x.2.2),(57,oss x.2.1)]) (fun _=>O) 65
  (fun x=>x.1≤l.length∧x.2.1.length≤40 * x.1∧x.2.2.length≤40 * x.1∧fR (l.drop x.1) x.1 x.2.1 x.2.2=K) (fun x=>l.length - x.1) (0,[],[]) ⟨Nat.zero_le _,Nat.le_refl _,Nat.le_refl _,hK⟩ ⟨rfl,rfl,rfl,rfl,rfl,rfl,rfl,rfl,trivial⟩ rfl ⟨rfl,rfl,rfl,rfl,trivial⟩ rfl rfl ?_
 clear hK
 rintro ⟨i,seen,out⟩ ⟨hi,hse,hou,hno⟩ ih
 simp only at hi hse hou hno
 refine zag Tk Tryz.func56 ?_
 refine zai Tk Tryz.func56 rfl (fun g1=>?_) (fun g1=>?_)
 ·have g1:i<l.length:=by simpa using g1
  have gs:(l.map nexI)[(i:Int).toNat]? = some (nexI l[i]):=zam (f:=nexI) g1
  have hw:IntKind.i64.wrap (32 - (out.length:Int))=32 - (out.length:Int):=w64 (by omega) (by omega)
  have hc:=fun O=>he O l[i] (List.getElem_mem g1) (32 - (out.length:Int)) (by omega)
  rw[← hw] at hc
  have hX:=hxl l[i] (32 - (out.length:Int)) (by omega)
  rw[List.drop_eq_getElem_cons g1,hun] at hno
  have hj1:ii (IntKind.i64.wrap ((i:Int)+1))=ii ((i+1:Nat):Int):=congrArg ii (zaB (n:=1000001) (by omega) (by decide))
  rw[← hw] at hno hX
  clear he hxl hun
  generalize l[i]=x at *
  obtain⟨xl,xe,hx⟩:=hex x (IntKind.i64.wrap (32 - (out.length:Int)))
  rw[hx] at hc hX hno
  clear hx hex
  obtain⟨xn,xlc⟩:=x
  simp only at hc hX hno
  have hany:=fun O=>zli O xl 139 (fun y=>decide (y.name.size>32)) (by simp only[zao];omega) fun y _=>zw4 _ y
  generalize (xl.any fun y=>decide (y.name.size>32))=A at *
  refine zaf Tk Tryz.func56 (by exact⟨by omega,by show (i:Int)<(l.length:Int);omega⟩) ?_
  refine zaq Tk Tryz.func56 (gs) ?_
  refine zbr Tk Tryz.func56 hE (hc _) rfl rfl rfl rfl rfl rfl ?_
  refine zai Tk Tryz.func56 rfl (fun c1=>?_) (fun c1=>?_)
  ·have c1:xe≠0:=bneT c1
   rw[if_pos c1] at hno
   subst hno
   refine zaz Tk (r:=.tup [.i (.v (.slice none 0 0)),.agg [ii 5,ii i],ii xe]) rfl rfl rfl trivial rfl rfl ?_
   exact zxq
  have c1:¬ xe≠0:=fun h=>h (bneF c1)
  rw[if_neg c1] at hno
  refine zak Tk Tryz.func56 (hany _) rfl rfl rfl rfl rfl ?_
  refine zai Tk Tryz.func56 rfl (fun c2=>?_) (fun c2=>?_)
  ·have c2:A=true:=c2
   rw[if_pos c2] at hno
   subst hno
   refine zaz Tk (r:=.tup [.i (.v (.slice none 0 0)),.agg [ii 5,ii i],ii 7]) rfl rfl rfl trivial rfl rfl ?_
   exact zxq
  have c2:¬ A=true:=zgF c2
  rw[if_neg c2] at hno
  clear hc hany
  generalize hD:dupX seen xl=Dp at hno
  refine zae ?_
  refine zaj (fun x:Nat × List ByteArray=>[(1,.i (zkM og)),(2,.own 0 2 0 0),(4,.osl 0 61),(5,.own 0 5 0 0),(7,.osl 0 57),(8,ii i),(10,.i (zcH xl)),(15,.i (zeV l)),(16,ii l.length),(17,ii i),(41,.i (zcH xl)),(42,ii xl.length),(43,ii x.1)])
   (fun x=>[(2,.box (mdlC ⟨nm,evs,tpls,comps,reqs,l,cons⟩)),(5,plcN),(61,zro out),(57,oss x.2)]) (fun _=>O) 65
   (fun x=>x.1≤xl.length∧x.2.length=seen.length+x.1∧dupX x.2 (xl.drop x.1)=Dp) (fun x=>xl.length - x.1) (0,seen) ⟨Nat.zero_le _,rfl,hD⟩ ⟨rfl,rfl,rfl,rfl,rfl,rfl,rfl,rfl,rfl,rfl,rfl,rfl,rfl,trivial⟩ rfl ⟨rfl,rfl,rfl,rfl,trivial⟩ rfl rfl ?_
  clear hD
  rintro ⟨k,sk⟩ ⟨hk,hskl,hdk⟩ ih2
  simp only at hk hskl hdk
  refine zag Tk Tryz.func56 ?_
  refine zai Tk Tryz.func56 rfl (fun g2=>?_) (fun g2=>?_)
  ·have g2:k<xl.length:=by simpa using g2
   have gk:(xl.map xexI)[(k:Int).toNat]? = some (xexI xl[k]):=zam (f:=xexI) g2
   have hk1:ii (IntKind.i64.wrap ((k:Int)+1))=ii ((k+1:Nat):Int):=congrArg ii (zaB (n:=1000001) (by omega) (by decide))
   rw[List.drop_eq_getElem_cons g2] at hdk
   simp only[dupX] at hdk
   generalize xl[k]=y at *
   obtain⟨yn,yl⟩:=y
   simp only at hdk
   have hh:=zkf [] sk yn (by omega)
   generalize hasB sk yn=hb at *
   refine zaf Tk Tryz.func56 (by exact⟨by omega,by show (k:Int)<(xl.length:Int);omega⟩) ?_
   refine zaq Tk Tryz.func56 (gk) ?_
   refine zcm Tk Tryz.func56 rfl rfl rfl rfl (zbq hh (zfF _) (.osl (.i .nil)) rfl (show 50<65 by decide) rfl rfl) ?_
   refine zai Tk Tryz.func56 rfl (fun c3=>?_) (fun c3=>?_)
   ·have c3:hb=true:=c3
    rw[if_pos c3] at hdk
    subst hdk
    simp only at hno
    subst hno
    refine zaz Tk (r:=.tup [.i (.v (.slice none 0 0)),.agg [ii 5,ii i],ii 8]) rfl rfl rfl trivial rfl rfl ?_
    exact zxq
   have c3:¬ hb=true:=zgF c3
   rw[if_neg c3] at hdk
   refine zaf Tk Tryz.func56 (by exact⟨by show (sk.length+1) * 16≤140737488355328;omega,by show sk.length+1≤9223372036854775807;omega⟩) ?_
   refine zae ?_
   exact ih2 (k+1,sk++[yn]) _ _ ⟨g2,by simp only[List.length_append,List.length_singleton];omega,hdk⟩ (by simp only;omega) ⟨rfl,rfl,rfl,rfl,rfl,rfl,rfl,rfl,rfl,rfl,rfl,rfl,hk1,trivial⟩ rfl ⟨rfl,rfl,rfl,congrArg some (zbG sk yn),trivial⟩ rfl rfl
  ·have g2:xl.length≤k:=by simpa using g2
   rw[List.drop_eq_nil_of_le g2] at hdk
   have hdk:Except.ok sk=Dp:=hdk
   subst hdk
   simp only at hno
   refine zaf Tk Tryz.func56 (by exact⟨by show (out.length+xl.length) * 40≤140737488355328;omega,by show out.length+xl.length≤9223372036854775807;omega⟩) ?_
   refine zae ?_
   exact ih (i+1,sk,out++xl) _ _ ⟨g1,by simp only;omega,by simp only[List.length_append];omega,hno⟩ (by simp only;omega) ⟨rfl,rfl,rfl,rfl,rfl,rfl,rfl,hj1,trivial⟩ rfl ⟨rfl,rfl,congrArg some (zrn out xl),rfl,trivial⟩ rfl rfl
 ·have g1:l.length≤i:=by simpa using g1
  rw[List.drop_eq_nil_of_le g1,hnil] at hno
  subst hno
  refine za8 (zap 61 rfl rfl) ?_
  refine zah Tk (r:=excD (out,(0,0),0)) rfl rfl rfl trivial rfl rfl ?_
  rfl
end Go.AI
namespace Go.AI
open Go.Proofs
section
variable {σ:Type} {eq:σ→σ→Bool} {step:σ→Int→σ × Bool × Int} {mkd:σ→Bool}
theorem zoS {lim:Bool} {i:Nat} {s:σ} {ev:Int} {U:Unf σ} {e:Int} (h:zdr eq lim step i s ev U = .error e):e≠0:=by
 unfold zdr at h
 by_cases h1:(step s ev).2.2≠0
 ·rw[if_pos h1] at h;cases h;exact h1
 rw[if_neg h1] at h
 by_cases h2:(step s ev).2.1=false
 ·rw[if_pos h2] at h;cases h
 rw[if_neg h2] at h
 by_cases h3:U.sts.findIdx (eq (step s ev).1)<U.sts.length
 ·rw[if_pos h3] at h;cases h
 rw[if_neg h3] at h
 by_cases h4:lim=true∧U.sts.length=4096
 ·rw[if_pos h4] at h;cases h;decide
 rw[if_neg h4] at h;cases h
theorem zgh {lim:Bool} {i:Nat} {s:σ} {e:Int}:∀ {l:List Int} {U:Unf σ},zbl eq lim step i s l U = .error e→e≠0
 | [],_,h=>by cases h
 | ev::r,U,h=>by
  simp only[zbl] at h
  cases hv:zdr eq lim step i s ev U with
  | error e'=>rw[hv] at h;cases h;exact zoS hv
  | ok U'=>rw[hv] at h;exact zgh h
theorem zje {lim:Bool} {alpha:List Int} {e:Int}:∀ {f i:Nat} {U:Unf σ},zeL eq lim step mkd alpha f i U = .error e→e≠0
 | 0,_,_,h=>by cases h
 | f+1,i,U,h=>by
  simp only[zeL] at h
  cases hg:U.sts[i]? with
  | none=>rw[hg] at h;cases h
  | some s=>
   rw[hg] at h
   simp only at h
   cases hv:zbl eq lim step i s alpha (zeK mkd i s U) with
   | error e'=>rw[hv] at h;cases h;exact zgh hv
   | ok U'=>rw[hv] at h;exact zje h
theorem zoR {i:Nat} {s:σ} {ev:Int} {U V:Unf σ} (h:zdr eq true step i s ev U = .ok V) (hU:U.sts.length≤4096):V.sts.length≤4096:=by
 unfold zdr at h
 by_cases h1:(step s ev).2.2≠0
 ·rw[if_pos h1] at h;cases h
 rw[if_neg h1] at h
 by_cases h2:(step s ev).2.1=false
 ·rw[if_pos h2] at h;cases h;exact hU
 rw[if_neg h2] at h
 by_cases h3:U.sts.findIdx (eq (step s ev).1)<U.sts.length
 ·rw[if_pos h3] at h;cases h;exact hU
 rw[if_neg h3] at h
 by_cases h4:true=true∧U.sts.length=4096
 ·rw[if_pos h4] at h;cases h
 rw[if_neg h4] at h
 cases h
 have:U.sts.length≠4096:=fun e=>h4 ⟨rfl,e⟩
 simp only[List.length_append,List.length_singleton]
 omega
theorem zgg {i:Nat} {s:σ} {V:Unf σ}:∀ {l:List Int} {U:Unf σ},zbl eq true step i s l U = .ok V→U.sts.length≤4096→V.sts.length≤4096
 | [],_,h,hU=>by cases h;exact hU
 | ev::r,U,h,hU=>by
  simp only[zbl] at h
  cases hv:zdr eq true step i s ev U with
  | error e'=>rw[hv] at h;cases h
  | ok U'=>rw[hv] at h;exact zgg h (zoR hv hU)
theorem zjd {alpha:List Int} {V:Unf σ}:∀ {f i:Nat} {U:Unf σ},zeL eq true step mkd alpha f i U = .ok V→U.sts.length≤4096→V.sts.length≤4096
 | 0,_,_,h,hU=>by cases h;exact hU
 | f+1,i,U,h,hU=>by
  simp only[zeL] at h
  cases hg:U.sts[i]? with
  | none=>rw[hg] at h;cases h;exact hU
  | some s=>
   rw[hg] at h
   simp only at h
   cases hv:zbl eq true step i s alpha (zeK mkd i s U) with
   | error e'=>rw[hv] at h;cases h
   | ok U'=>rw[hv] at h;exact zjd h (zgg hv (by rw[(zgj mkd i s U).1];exact hU))
end
theorem zel {m:Ext} {e:Int} (h:zbJ m = .error e):e≠0:=by
 unfold zbJ at h
 by_cases h1:chk m≠0
 ·rw[if_pos h1] at h;cases h;exact h1
 ·rw[if_neg h1] at h
  exact zje h
theorem zkw {m:Ext} {U:Unf Sta} (h:zbJ m = .ok U):U.sts.length≤4096:=by
 unfold zbJ at h
 by_cases h1:chk m≠0
 ·rw[if_pos h1] at h;cases h
 ·rw[if_neg h1] at h
  exact zjd h (by simp[unf0])
theorem zfl {α:Type} [DecidableEq α]:∀ {l m:List α},l.Nodup→(∀ x∈l,x∈m)→l.length≤m.length
 | [],_,_,_=>Nat.zero_le _
 | x::r,m,hn,hs=>by
  obtain⟨h1,h2⟩:=List.nodup_cons.1 hn
  have hx:=hs x (by simp)
  have h3:=zfl (m:=m.erase x) h2 fun y hy=>(List.mem_erase_of_ne (fun e=>h1 (by rw[← e];exact hy))).2 (hs y (by simp[hy]))
  rw[List.length_erase_of_mem hx] at h3
  have:=List.length_pos_of_mem hx
  rw[List.length_cons]
  omega
theorem ziN {l:List ByteArray} {s:ByteArray}:hasB l s=true ↔ s∈l:=by
 unfold hasB
 rw[List.any_eq_true]
 constructor
 ·rintro ⟨x,hx,he⟩
  rw[zcy] at he
  subst he
  exact hx
 ·exact fun h=>⟨s,h,zcy.2 rfl⟩
theorem zkZ {l:List ByteArray} {s:ByteArray} (h:¬ hasB l s=true):s ∉ l:=fun h2=>h (ziN.2 h2)
theorem zgG {s:ByteArray} (h:zaT s=true):s.size≤32:=by
 unfold zaT at h
 simp only[Bool.and_eq_true,decide_eq_true_eq] at h
 exact h.2
theorem zvw {b:List ByteArray} {s:ByteArray} (h:nmE b s=0):zaT s=true∧s ∉ b:=by
 unfold nmE at h
 by_cases h1:zaT s=false
 ·rw[if_pos h1] at h;cases h
 rw[if_neg h1] at h
 by_cases h2:hasB b s=true
 ·rw[if_pos h2] at h;cases h
 exact⟨by simpa using h1,zkZ h2⟩
theorem ziY {α:Type} {nm:α→ByteArray} {err:α→Int}:∀ {l:List α} {b:List ByteArray} {i:Nat},zaU nm err b l i=none→(∀ x∈l,zaT (nm x)=true∧nm x ∉ b)∧(l.map nm).Nodup
 | [],_,_,_=>⟨by simp,by simp⟩
 | y::r,b,i,h=>by
  simp only[zaU] at h
  by_cases h1:nmE b (nm y)≠0
  ·rw[if_pos h1] at h;cases h
  rw[if_neg h1] at h
  by_cases h2:err y≠0
  ·rw[if_pos h2] at h;cases h
  rw[if_neg h2] at h
  obtain⟨h3,h4⟩:=ziY h
  have h1:=zvw (Classical.byContradiction h1)
  refine⟨fun x hx=>?_,?_⟩
  ·rcases List.mem_cons.1 hx with rfl | hx
   ·exact h1
   ·exact⟨(h3 x hx).1,fun hb=>(h3 x hx).2 (by simp[hb])⟩
  ·rw[List.map_cons,List.nodup_cons]
   refine⟨fun hm=>?_,h4⟩
   obtain⟨x,hx,e⟩:=List.mem_map.1 hm
   exact (h3 x hx).2 (by rw[e];simp)
theorem zrK {m:Mdl}:∀ {l:List NLc} {b:List ByteArray},lcsE m b l=0→(∀ y∈l,y.1 ∉ b∧∃ c t,m.comps.find? (fun c=>sB c.name y.1)=some c∧zbS m c=some t∧y.2∈t.locs)∧(l.map (·.1)).Nodup
 | [],_,_=>⟨by simp,by simp⟩
 | y::r,b,h=>by
  simp only[lcsE] at h
  cases h1:m.comps.find? (fun c=>sB c.name y.1) with
  | none=>rw[h1] at h;cases h
  | some c=>
   rw[h1] at h
   simp only at h
   by_cases h2:hasB b y.1=true
   ·rw[if_pos h2] at h;cases h
   rw[if_neg h2] at h
   cases h3:zbS m c with
   | none=>rw[h3] at h;cases h
   | some t=>
    rw[h3] at h
    simp only at h
    by_cases h5:hasB t.locs y.2=false
    ·rw[if_pos h5] at h;cases h
    rw[if_neg h5] at h
    obtain⟨h6,h7⟩:=zrK h
    refine⟨fun x hx=>?_,?_⟩
    ·rcases List.mem_cons.1 hx with rfl | hx
     ·exact⟨zkZ h2,c,t,h1,h3,ziN.1 (by simpa using h5)⟩
     ·exact⟨fun hb=>(h6 x hx).1 (by simp[hb]),(h6 x hx).2⟩
    ·rw[List.map_cons,List.nodup_cons]
     refine⟨fun hm=>?_,h7⟩
     obtain⟨x,hx,e⟩:=List.mem_map.1 hm
     exact (h6 x hx).1 (by rw[e];simp)
theorem zqM {m:Mdl}:∀ {l:List NTm} {b:List ByteArray},tmsE m b l=0→(∀ y∈l,y.1 ∉ b∧y.1∈m.comps.map (·.name))∧(l.map (·.1)).Nodup
 | [],_,_=>⟨by simp,by simp⟩
 | y::r,b,h=>by
  simp only[tmsE] at h
  by_cases h1:hasB (m.comps.map (·.name)) y.1=false
  ·rw[if_pos h1] at h;cases h
  rw[if_neg h1] at h
  by_cases h2:hasB b y.1=true
  ·rw[if_pos h2] at h;cases h
  rw[if_neg h2] at h
  by_cases h3:y.2=0∨bigB y.2=true
  ·rw[if_pos h3] at h;cases h
  rw[if_neg h3] at h
  obtain⟨h6,h7⟩:=zqM h
  refine⟨fun x hx=>?_,?_⟩
  ·rcases List.mem_cons.1 hx with rfl | hx
   ·exact⟨zkZ h2,ziN.1 (by simpa using h1)⟩
   ·exact⟨fun hb=>(h6 x hx).1 (by simp[hb]),(h6 x hx).2⟩
  ·rw[List.map_cons,List.nodup_cons]
   refine⟨fun hm=>?_,h7⟩
   obtain⟨x,hx,e⟩:=List.mem_map.1 hm
   exact (h6 x hx).1 (by rw[e];simp)
theorem zh5 {m:Mdl} (h:(chkC m).2=0):m.excs.length≤32∧zaU NEx.name (excE m) [] m.excs 0=none∧m.cons.length≤32∧zaU NCn.name (conE m) [] m.cons 0=none:=by
 unfold chkC at h
 by_cases h2:m.excs.length>32
 ·rw[if_pos h2] at h;simp at h
 rw[if_neg h2] at h
 obtain⟨h4,h5⟩:=zfG (fun _ _ h=>zbH h) h
 rw[h5] at h
 by_cases h3:m.cons.length>32
 ·rw[if_pos h3] at h;simp at h
 rw[if_neg h3] at h
 exact⟨by omega,h4,by omega,(zfG (fun _ _ h=>zbH h) h).1⟩
theorem zi4 {m:Mdl} (h:(chkI m).2=0):m.comps.length≤8∧0<m.comps.length∧m.comps.length+m.reqs.length≤12:=by
 unfold chkI at h
 by_cases h2:m.comps.length=0
 ·rw[if_pos h2] at h;simp at h
 rw[if_neg h2] at h
 by_cases h3:m.comps.length>8
 ·rw[if_pos h3] at h;simp at h
 rw[if_neg h3] at h
 by_cases h4:m.comps.length+m.reqs.length>12
 ·rw[if_pos h4] at h;simp at h
 omega
theorem zsb {m:Mdl} {s:ByteArray} {c:Ins} (h:m.comps.find? (fun c=>sB c.name s)=some c):s∈m.comps.map (·.name):=by
 have h1:=List.find?_some h
 rw[zcy] at h1
 rw[← h1]
 exact List.mem_map.2 ⟨c,List.mem_of_find?_eq_some h,rfl⟩
theorem zxj {m:Mdl} (hm:mdlOk m) (h:(mdlE m).2=0) {og:List (List Sta)} (hog:og.length=m.comps.length) (hs:∀ s∈og,s.length≤100000):m.excs.length≤32∧∀ x∈m.excs,x.locals.length≤12∧(∀ y∈x.locals,lcOk m og y)∧x.name.size≤1000:=by
 obtain⟨_,_,_,h4,h5,_⟩:=zdY h
 obtain⟨c1,c2,_⟩:=zh5 h5
 obtain⟨d1,_⟩:=zi4 h4
 refine⟨c1,fun x hx=>?_⟩
 have hn:=zgG ((ziY c2).1 x hx).1
 have he:=zd7 c2 x hx
 unfold excE at he
 by_cases h6:x.locals.length=0
 ·rw[if_pos h6] at he;cases he
 rw[if_neg h6] at he
 obtain⟨e1,e2⟩:=zrK he
 refine⟨?_,fun y hy=>?_,by omega⟩
 ·have:=zfl (m:=m.comps.map (·.name)) e2 fun s hs=>by
   obtain⟨y,hy,rfl⟩:=List.mem_map.1 hs
   obtain⟨_,c,t,h7,_⟩:=e1 y hy
   exact zsb h7
  rw[List.length_map,List.length_map] at this
  omega
 ·obtain⟨_,c,t,h7,h8,_⟩:=e1 y hy
  rcases zfK Ins.name m.comps y.1 with ⟨f1,_⟩ | ⟨k,c',f1,f2,f3⟩
  ·rw[f1] at h7;cases h7
  rw[f2] at h7
  cases h7
  have h8':=h8
  unfold zbS at h8'
  rcases zfK Tpl.name m.tpls c.tpl with ⟨g1,_⟩ | ⟨k2,t',g1,g2,g3⟩
  ·rw[g1] at h8';cases h8'
  rw[g2] at h8'
  cases h8'
  have hk:k<og.length:=by rw[hog];exact (List.getElem?_eq_some_iff.1 f1).1
  exact⟨k,k2,c,t,og[k],f3,f1,g3,g1,h8,(hm.tpk t (List.mem_of_getElem? g1)).ll,List.getElem?_eq_getElem hk,hs _ (List.getElem_mem hk)⟩
theorem zxp {m:Mdl} (h:(mdlE m).2=0):m.cons.length≤32∧∀ x∈m.cons,x.terms.length≤12:=by
 obtain⟨_,_,_,h4,h5,_⟩:=zdY h
 obtain⟨_,_,c3,c4⟩:=zh5 h5
 obtain⟨d1,_⟩:=zi4 h4
 refine⟨c3,fun x hx=>?_⟩
 have he:=zd7 c4 x hx
 unfold conE at he
 by_cases h6:x.terms.length=0
 ·omega
 rw[if_neg h6] at he
 by_cases h7:tmsE m [] x.terms≠0
 ·rw[if_pos h7] at he;exact absurd he h7
 obtain⟨e1,e2⟩:=zqM (Classical.byContradiction h7)
 have:=zfl (m:=m.comps.map (·.name)) e2 fun s hs=>by
  obtain⟨y,hy,rfl⟩:=List.mem_map.1 hs
  exact (e1 y hy).2
 rw[List.length_map,List.length_map] at this
 omega
theorem zqU {x:Mv} {l:List Mv}:x∈zdu l ↔ x∈l:=by
 have hi:∀ (y:Mv) (l:List Mv),x∈zea y l ↔ x=y∨x∈l:=by
  intro y l
  induction l with
  | nil=>simp[zea]
  | cons z r ih=>
   unfold zea
   split
   ·simp
   ·simp only[List.mem_cons,ih]
    constructor
    ·rintro (h | h | h)
     ·exact .inr (.inl h)
     ·exact .inl h
     ·exact .inr (.inr h)
    ·rintro (h | h | h)
     ·exact .inr (.inl h)
     ·exact .inl h
     ·exact .inr (.inr h)
 have:∀ (r acc:List Mv),x∈r.foldl (fun acc x=>zea x acc) acc ↔ x∈acc∨x∈r:=by
  intro r
  induction r with
  | nil=>simp
  | cons y r ih=>
   intro acc
   rw[List.foldl_cons,ih,hi,List.mem_cons]
   constructor
   ·rintro ((h | h) | h)
    ·exact .inr (.inl h)
    ·exact .inl h
    ·exact .inr (.inr h)
   ·rintro (h | h | h)
    ·exact .inl (.inr h)
    ·exact .inl (.inl h)
    ·exact .inr h
 unfold zdu
 rw[this]
 simp
theorem zrH {m:Mdl} (hm:mdlOk m) {x:Ins} {t:Tpl} (hx:x.evs.length≤1000000) (h:mchOk m x t):extOk (mchE m x t):=by
 have ho:=(hm.tpk t h.mem).mo
 refine⟨?_,ho.ma,ho.va,ho.na,?_,?_⟩
 ·show (srtZ _).length≤zao
  rw[(zeP _).length_eq,List.length_map]
  simp only[zao];omega
 ·show (zdu _).length≤zao
  rw[zeQ,List.length_map]
  exact ho.mo
 ·intro y hy
  have hy:y∈zdu _:=hy
  rw[zqU] at hy
  obtain⟨z,hz,rfl⟩:=List.mem_map.1 hy
  exact ho.mv z hz
end Go.AI
namespace Go.AI
open Go.Proofs
set_option maxRecDepth 20000
abbrev olTm (l:List Loc2):Ob:=.arr 160 2 l.length (l.map zbt) true
def zsz (x y:Loc2):Int:=cmpI x.1 y.1
abbrev ltTm (x y:Loc2):Prop:=x.1<y.1
theorem zu9 {x y:Loc2}:zsz x y<0 ↔ ltTm x y:=by
 unfold zsz cmpI ltTm
 by_cases h1:x.1<y.1
 ·rw[if_pos h1];exact⟨fun _=>h1,fun _=>by decide⟩
 rw[if_neg h1]
 by_cases h2:x.1>y.1
 ·rw[if_pos h2];exact⟨fun h=>absurd h (by decide),fun h=>absurd h h1⟩
 ·rw[if_neg h2];exact⟨fun h=>absurd h (by decide),fun h=>absurd h h1⟩
abbrev zfU (l:List Loc2):List Loc2:=l.foldl (fun acc x=>zex x acc) []
abbrev zxD (l:List Loc2):Prop:=l.Pairwise fun x y=>¬ ltTm y x
theorem zew {x:Loc2}:∀ {P S:List Loc2},(∀ p∈P,¬ ltTm x p)→(∀ s∈S,ltTm x s)→zex x (P++S)=P++x::S
 | [],[],_,_=>rfl
 | [],s::r,_,h=>by
  have:=h s (by simp)
  simp only[List.nil_append,zex]
  rw[if_pos this]
 | p::P,S,h,h2=>by
  have:=h p (by simp)
  simp only[List.cons_append,zex]
  rw[if_neg this,zew (fun q hq=>h q (by simp[hq])) h2]
theorem zjl {x:Loc2} {P S:List Loc2} (h:zxD (P++S)) (hp:∀ p∈P,¬ ltTm x p) (hs:∀ s∈S,ltTm x s):zxD (P++x::S):=by
 obtain⟨h1,h2,h3⟩:=List.pairwise_append.1 h
 refine List.pairwise_append.2 ⟨h1,List.pairwise_cons.2 ⟨fun s hs'=>?_,h2⟩,fun a ha b hb=>?_⟩
 ·have:=hs s hs'
  unfold ltTm at *
  omega
 ·rcases List.mem_cons.1 hb with rfl | hb
  ·exact hp a ha
  ·exact h3 a ha b hb
theorem zvr:∀ (P:List Loc2) (p x:Loc2) (T:List Loc2),(((P++p::x::T).map zbt).set (P.length+1) (zbt p)).set P.length (zbt x)=(P++x::p::T).map zbt
 | [],p,x,T=>rfl
 | q::P,p,x,T=>by
  have:=zvr P p x T
  simp only[List.cons_append,List.map_cons,List.length_cons,List.set_cons_succ,this]
theorem zxO (P:List Loc2):P=[]∨∃ Q p,P=Q++[p]:=by
 by_cases h:P=[]
 ·exact .inl h
 ·exact .inr ⟨P.dropLast,P.getLast h,(List.dropLast_concat_getLast h).symm⟩
theorem zo0 (A:List Loc2) (x:Loc2):zfU (A++[x])=zex x (zfU A):=by simp[zfU,List.foldl_append]
theorem zx9 (O:List Heap) (x y:Loc2):zan Tryz.prog 58 [.agg [ii x.1,ii x.2],.agg [ii y.1,ii y.2]] O (ii (zsz x y)) [] O:=by
 have h1:=fun O=>znz O x.1 y.1
 unfold zsz
 generalize cmpI x.1 y.1=a at *
 refine zaa Tk Tryz.func58 rfl Tryz.call58 Tryz.ntmps58 (Nat.le_of_ble_eq_true rfl) fun E=>?_
 refine zag Tk Tryz.func58 ?_
 refine zak Tk Tryz.func58 (h1 _) rfl rfl rfl rfl rfl ?_
 refine zah Tk (r:=ii a) rfl rfl rfl trivial rfl rfl ?_
 rfl
abbrev fn58:D:=.fn (.func 58) [] []
theorem zyk {A:List Loc2} {x:Loc2} {T:List Loc2} {k:Nat} (hk:k=A.length):((A++x::T).map zbt)[((k:Nat):Int).toNat]? = some (zbt x):=by
 subst hk
 simp
set_option maxHeartbeats 8000000 in
theorem zyi (O:List Heap) (d nm:Nat) (l:List Loc2) (hl:l.length≤1000) (ho:zab O d nm=some (olTm l)):zan Tryz.prog 182 [.osl d nm,ii 0,ii l.length,fn58] O (.tup []) [] (setAt O d nm (olTm (zfU l))):=by
 have hc:=fun O x y=>zx9 O x y
 cases l with
 | nil=>
  refine zaa Tk Tryz.func182 rfl Tryz.call182 Tryz.ntmps182 (Nat.le_of_ble_eq_true rfl) fun E=>?_
  refine zag Tk Tryz.func182 ?_
  refine zae ?_
  refine zag Tk Tryz.func182 ?_
  refine gcF Tk Tryz.func182 rfl ?_
  refine za8 (wk_S (S':=_::setAt O d nm (olTm [])) (zaE (zbj ho))) ?_
  refine zah Tk (r:=.tup []) rfl rfl rfl trivial rfl rfl ?_
  rfl
 | cons z r=>
 generalize hL:z::r=l at *
 have hpos:1≤l.length:=by rw[← hL];simp
 refine zaa Tk Tryz.func182 rfl Tryz.call182 Tryz.ntmps182 (Nat.le_of_ble_eq_true rfl) fun E=>?_
 refine zag Tk Tryz.func182 ?_
 refine g_wk (wk_S (S':=_::setAt O d nm (olTm ([z]++r))) (zaE (zbj (by rw[ho,← hL];rfl)))) ?_
 refine zae ?_
 refine zaj (fun x:List Loc2 × List Loc2=>[(0,.osl (d+1) nm),(1,ii 0),(2,ii l.length),(3,fn58),(8,ii x.1.length)]) (fun _=>[]) (fun x=>setAt O d nm (olTm (x.1++x.2))) 53
  (fun x=>zxD x.1∧(∃ T,T++x.2=l∧zfU T=x.1)∧x.1.length+x.2.length=l.length) (fun x=>x.2.length) ([z],r) ⟨List.pairwise_singleton _ _,⟨[z],hL,rfl⟩,by rw[← hL];simp;omega⟩ ⟨rfl,rfl,rfl,rfl,rfl,trivial⟩ rfl trivial rfl rfl ?_
 rintro ⟨A,R⟩ ⟨hA,hp,hlen⟩ ih
 simp only at hA hp hlen
 refine zag Tk Tryz.func182 ?_
 refine zai Tk Tryz.func182 rfl (fun g1=>?_) (fun g1=>?_)
 ·have g1:A.length<l.length:=by simpa using g1
  obtain⟨x,R',rfl⟩:∃ x R',R=x::R':=by
   cases R with
   | nil=>simp at hlen;omega
   | cons x R'=>exact⟨x,R',rfl⟩
  obtain⟨T,hT,hTA⟩:=hp
  have hTn:(T++[x])++R' = l:=by rw[← hT];simp
  have hTs:zfU (T++[x])=zex x A:=by rw[zo0,hTA]
  rw[List.length_cons] at hlen
  refine zae ?_
  refine zaj (fun y:List Loc2 × List Loc2=>[(0,.osl (d+1) nm),(1,ii 0),(2,ii l.length),(3,fn58),(8,ii A.length),(9,ii y.1.length)]) (fun _=>[]) (fun y=>setAt O d nm (olTm (y.1++x::(y.2++R')))) 53
   (fun y=>(∀ s∈y.2,ltTm x s)∧y.1++y.2=A) (fun y=>y.1.length) (A,[]) ⟨by simp,by simp⟩ ⟨rfl,rfl,rfl,rfl,rfl,rfl,trivial⟩ rfl trivial rfl rfl ?_
  rintro ⟨P,S⟩ ⟨hS,hA2⟩ ih2
  simp only at hS hA2
  rcases zxO P with rfl | ⟨Q,p,rfl⟩
  ·rw[List.nil_append] at hA2
   subst hA2
   have hi1:ii (IntKind.i64.wrap ((S.length:Int)+1))=ii ((x::S:List Loc2).length:Int):=congrArg ii (zaB (n:=1000001) (by omega) (by decide))
   refine zag Tk Tryz.func182 ?_
   refine zaw Tk Tryz.func182 zaG rfl ?_
   refine zbT Tk (fun h=>absurd h (by simp)) (fun _=>?_)
   refine zaH Tk Tryz.func182 (by kernel_rfl) ?_
   refine zai Tk Tryz.func182 rfl (fun h=>absurd h (by simp)) (fun _=>?_)
   refine zae ?_
   have e1:zex x S=x::S:=zew (P:=[]) (by simp) hS
   refine ih (x::S,R') _ _ ⟨zjl (P:=[]) hA (by simp) hS,⟨T++[x],hTn,hTs.trans e1⟩,by simp only[List.length_cons];omega⟩ (by simp) ⟨rfl,rfl,rfl,rfl,hi1,trivial⟩ rfl trivial rfl rfl
  ·have e1:(Q++[p])++x::(S++R')=Q++p::x::(S++R'):=by simp
   have e2:((Q++[p]).length:Int)=((Q.length+1:Nat):Int):=by simp
   have hQA:Q.length+1+S.length=A.length:=by rw[← hA2];simp;omega
   have w1:IntKind.i64.wrap (((Q.length+1:Nat):Int) - 1)=(Q.length:Int):=by rw[w64 (by omega) (by omega)];omega
   have gx:((Q++p::x::(S++R')).map zbt)[(((Q.length+1:Nat):Int)).toNat]? = some (zbt x):=by
    have:=zyk (A:=Q++[p]) (x:=x) (T:=S++R') (k:=Q.length+1) (by simp)
    rwa [e1] at this
   have gp:((Q++p::x::(S++R')).map zbt)[(IntKind.i64.wrap (((Q.length+1:Nat):Int) - 1)).toNat]? = some (zbt p):=by rw[w1];exact zyk rfl
   have hlt:=zu9 (x:=x) (y:=p)
   have hcc:=fun O=>hc O x p
   rw[e2,e1]
   have hll:(Q++p::x::(S++R')).length=l.length:=by simp;omega
   generalize zsz x p=cw at *
   refine zag Tk Tryz.func182 ?_
   refine zaw Tk Tryz.func182 zaG rfl ?_
   refine zbT Tk (fun _=>?_) (fun h=>absurd h (by simp))
   refine zb5 Tk (zav (H:=([]:Heap)) (zad ho)) ?_
   refine zar Tk (by exact⟨by omega,by show ((Q.length+1:Nat):Int)<((Q++p::x::(S++R')).length:Int);rw[hll];omega⟩) ?_
   refine zb5 Tk (zav (H:=([]:Heap)) (zad ho)) ?_
   refine zaF Tk (gx) ?_
   refine zb5 Tk (zav (H:=([]:Heap)) (zad ho)) ?_
   refine zar Tk (by exact⟨by show (0:Int)≤IntKind.i64.wrap (((Q.length+1:Nat):Int) - 1);rw[w1];omega,by show IntKind.i64.wrap (((Q.length+1:Nat):Int) - 1)<((Q++p::x::(S++R')).length:Int);rw[w1,hll];omega⟩) ?_
   refine zb5 Tk (zav (H:=([]:Heap)) (zad ho)) ?_
   refine zaF Tk (gp) ?_
   refine za2 Tk (fun _=>hcc _) rfl rfl rfl ?_
   refine zaH Tk Tryz.func182 (by kernel_rfl) ?_
   refine zai Tk Tryz.func182 rfl (fun c1=>?_) (fun c1=>?_)
   ·have c1:cw<0:=of_decide_eq_true c1
    have hrk:=hlt.1 c1
    have e3:Ob.arr 160 2 (Q++p::x::(S++R')).length ((((Q++p::x::(S++R')).map zbt).set (((Q.length+1:Nat):Int)).toNat (zbt p)).set (IntKind.i64.wrap (((Q.length+1:Nat):Int) - 1)).toNat (zbt x)) true=olTm (Q++x::(p::S++R')):=by
     rw[w1]
     show Ob.arr 160 2 _ ((((Q++p::x::(S++R')).map zbt).set (Q.length+1) (zbt p)).set Q.length (zbt x)) true=_
     rw[zvr]
     simp[olTm]
    refine ziQ Tk 15 rfl ?_
    refine zb5 Tk (zav (H:=([]:Heap)) (zad ho)) ?_
    refine zar Tk (by exact⟨by show (0:Int)≤IntKind.i64.wrap (((Q.length+1:Nat):Int) - 1);rw[w1];omega,by show IntKind.i64.wrap (((Q.length+1:Nat):Int) - 1)<((Q++p::x::(S++R')).length:Int);rw[w1,hll];omega⟩) ?_
    refine zb5 Tk (zav (H:=([]:Heap)) (zad ho)) ?_
    refine zaF Tk (gp) ?_
    refine zb5 Tk (zav (H:=([]:Heap)) (zad ho)) ?_
    refine zar Tk (by exact⟨by omega,by show ((Q.length+1:Nat):Int)<((Q++p::x::(S++R')).length:Int);rw[hll];omega⟩) ?_
    refine zb5 Tk (zav (H:=([]:Heap)) (zad ho)) ?_
    refine zaF Tk (gx) ?_
    refine zb5 Tk (zav (H:=([]:Heap)) (zad ho)) ?_
    refine zar Tk (by exact⟨by omega,by show ((Q.length+1:Nat):Int)<((Q++p::x::(S++R')).length:Int);rw[hll];omega⟩) ?_
    refine zxn Tk Tryz.func182 zaG (N:=15) [16,17] [2,3,4] (by kernel_rfl) rfl rfl rfl rfl rfl rfl rfl rfl rfl rfl (zad ho) (by kernel_rfl) (by kernel_rfl) ?_ (by kernel_rfl) ?_
    ·intro i hi
     simp only[List.mem_cons,List.not_mem_nil,or_false] at hi
     rcases hi with rfl | rfl | rfl
     ·exact⟨_,_,_,rfl,rfl,rfl,rfl,rfl,rfl,rfl⟩
     ·exact⟨_,_,_,rfl,rfl,rfl,rfl,rfl,rfl,rfl⟩
     ·exact⟨_,_,_,rfl,rfl,rfl,rfl,rfl,rfl,rfl⟩
    refine zbz Tk Tryz.func182 (zav (H:=([]:Heap)) (zad (zad ho))) ?_
    refine zaf Tk Tryz.func182 (by exact⟨by show (0:Int)≤IntKind.i64.wrap (((Q.length+1:Nat):Int) - 1);rw[w1];omega,by show IntKind.i64.wrap (((Q.length+1:Nat):Int) - 1)<((Q++p::x::(S++R')).length:Int);rw[w1,hll];omega⟩) ?_
    refine zbz Tk Tryz.func182 (zav (H:=([]:Heap)) (zad (zad ho))) ?_
    refine g_wk (wk_S (S':=_::setAt O d nm (olTm (Q++x::(p::S++R')))) (zaE fun d' n'=>by rw[← e3];exact (zbC d' n').trans (zbC d' n'))) ?_
    refine zae ?_
    refine ih2 (Q,p::S) _ _ ⟨fun s hs=>?_,by simpa using hA2⟩ (by simp) ⟨rfl,rfl,rfl,rfl,rfl,congrArg ii w1,trivial⟩ rfl trivial rfl rfl
    rcases List.mem_cons.1 hs with rfl | hs
    ·exact hrk
    ·exact hS s hs
   ·have c1:¬ cw<0:=of_decide_eq_false c1
    have hrk:¬ ltTm x p:=fun h=>c1 (hlt.2 h)
    have hall:∀ q∈Q++[p],¬ ltTm x q:=by
     rw[← hA2] at hA
     have h1:=(List.pairwise_append.1 hA).1
     intro q hq
     rcases List.mem_append.1 hq with hq | hq
     ·have:=(List.pairwise_append.1 h1).2.2 q hq p (by simp)
      unfold ltTm at *
      omega
     ·rw[List.mem_singleton] at hq;subst hq;exact hrk
    have e4:zex x A=(Q++[p])++x::S:=by rw[← hA2];exact zew hall hS
    have hi1:ii (IntKind.i64.wrap ((A.length:Int)+1))=ii (((Q++[p])++x::S:List Loc2).length:Int):=by
     rw[zaB (n:=1000001) (by omega) (by decide),← hA2]
     simp
     omega
    refine zae ?_
    refine ih ((Q++[p])++x::S,R') _ _ ⟨zjl (by rw[hA2];exact hA) hall hS,⟨T++[x],hTn,hTs.trans e4⟩,by simp;omega⟩ (by simp) ⟨rfl,rfl,rfl,rfl,hi1,trivial⟩ (congrArg (fun L=>_::setAt O d nm (olTm L)) (by simp:Q++p::x::(S++R')=((Q++[p])++x::S)++R')) trivial rfl rfl
 ·have g1:l.length≤A.length:=by simpa using g1
  obtain rfl:R=[]:=List.eq_nil_of_length_eq_zero (by omega)
  obtain⟨T,hT,hTA⟩:=hp
  rw[List.append_nil] at hT ⊢
  subst hT
  rw[← hTA]
  refine zah Tk (r:=.tup []) rfl rfl rfl trivial rfl rfl ?_
  rfl
theorem zgT (x:Loc2):∀ l,(zex x l).length=l.length+1
 | []=>rfl
 | y::r=>by
  unfold zex
  split
  ·simp
  ·simp[zgT x r]
theorem zgm (l:List Loc2):(zfU l).length=l.length:=by
 have:∀ (r acc:List Loc2),(r.foldl (fun acc x=>zex x acc) acc).length=acc.length+r.length:=by
  intro r
  induction r with
  | nil=>simp
  | cons x r ih=>intro acc;rw[List.foldl_cons,ih,zgT,List.length_cons];omega
 have:=this l []
 simpa [zfU] using this
theorem zxZ (O:List Heap) (d nm:Nat) (l:List Loc2) (q:Int) (hl:l.length≤12) (ho:zab O d nm=some (olTm l)):zan Tryz.prog 140 [.osl d nm,ii 0,ii l.length,ii q,fn58] O (.tup []) [] (setAt O d nm (olTm (zfU l))):=by
 have h:=fun O d ho=>zyi O d nm l (by omega) ho
 have hsl:=zgm l
 have w:IntKind.i64.wrap ((l.length:Int) - 0)=(l.length:Int):=by rw[w64 (by omega) (by omega)];omega
 refine zaa Tk Tryz.func140 rfl Tryz.call140 Tryz.ntmps140 (Nat.le_of_ble_eq_true rfl) fun E=>?_
 refine zag Tk Tryz.func140 ?_
 refine zae ?_
 refine zag Tk Tryz.func140 ?_
 refine zai Tk Tryz.func140 rfl (fun _=>?_) (fun h=>absurd h (by rw[w];simp;omega))
 refine zak Tk Tryz.func140 (h _ (d+1) (zav (H:=([]:Heap)) ho)) rfl rfl rfl (zaN (zav (H:=([]:Heap)) ho) (by simp[Ob.sh,hsl])) rfl ?_
 refine zah Tk (r:=.tup []) rfl rfl rfl trivial rfl rfl ?_
 rfl
theorem zxM (O:List Heap) (d nm:Nat) (l:List Loc2) (hl:l.length≤12) (ho:zab O d nm=some (olTm l)):zan Tryz.prog 57 [.osl d nm,fn58] O (.tup []) [] (setAt O d nm (olTm (zfU l))):=by
 obtain⟨q,hb⟩:=zh8 l.length (by omega)
 have h:=fun O d q ho=>zxZ O d nm l q hl ho
 have hsl:=zgm l
 refine zaa Tk Tryz.func57 rfl Tryz.call57 Tryz.ntmps57 (Nat.le_of_ble_eq_true rfl) fun E=>?_
 refine zag Tk Tryz.func57 ?_
 refine zbz Tk Tryz.func57 (zav ho) ?_
 refine zak Tk Tryz.func57 (hb _) rfl rfl rfl rfl rfl ?_
 refine zak Tk Tryz.func57 (h _ (d+1) _ (zav (H:=([]:Heap)) ho)) rfl rfl rfl (zaN (zav (H:=([]:Heap)) ho) (by simp[Ob.sh,hsl])) rfl ?_
 refine zah Tk (r:=.tup []) rfl rfl rfl trivial rfl rfl ?_
 rfl
theorem zxu (O:List Heap) (l:List Evt) (hl:l.length≤1000000):zan Tryz.prog 54 [.i (za3 l)] O (.i (za3 l)) [] O:=by
 refine zaa Tk Tryz.func54 rfl Tryz.call54 Tryz.ntmps54 (Nat.le_of_ble_eq_true rfl) fun E=>?_
 refine zag Tk Tryz.func54 ?_
 refine znk Tk Tryz.func54 rfl rfl fun b hb=>?_
 refine zai Tk Tryz.func54 rfl (fun h1=>?_) (fun h1=>?_)
 ·have hl0:l=[]:=List.eq_nil_of_length_eq_zero (hb h1)
  subst hl0
  refine zaz Tk (r:=.i (.v (.slice none 0 0))) rfl rfl rfl trivial rfl rfl ?_
  exact zco zbb
 ·refine zaf Tk Tryz.func54 (by exact⟨by show (0+l.length) * 32≤140737488355328;omega,by show 0+l.length≤9223372036854775807;omega⟩) ?_
  refine za8 (zcW (l:=[(2,.osl 0 7)]) (Hv:=[(7,.arr 101 5 (0+l.length) ([]++l.map evtI) true)]) ⟨rfl,trivial⟩ rfl ⟨rfl,trivial⟩ rfl rfl) ?_
  rw[Nat.zero_add,List.nil_append]
  refine za8 (zap 7 rfl rfl) ?_
  refine zah Tk (r:=.i (za3 l)) rfl rfl rfl trivial rfl rfl ?_
  rfl
abbrev zur (l:List Itm):Ob:=.arr 76 5 l.length (l.map itmI) true
abbrev zbu (l:List Itm):I:=.sl 5 l.length (l.map itmI)
abbrev zx0 (l:List (List Sta)):Ob:=.arr 62 1 l.length (l.map fun s=>[I.sl 2 s.length (s.map staI)]) true
abbrev zwM (l:List XCn):Ob:=.arr 158 3 l.length (l.map xcnI) true
abbrev zqA:List D:=[.i (.v (.slice none 0 0)),.i (.v (.slice none 0 0)),.i (.v (.slice none 0 0)),.i (.v (.slice none 0 0)),.i (.v (.slice none 0 0))]
abbrev zxx (r:Cel × Plc × Int):D:=.tup [celD r.1,.agg [ii r.2.1.1,ii r.2.1.2],ii r.2.2]
theorem zu7 {a b c:Int}:CoD (.tup [.agg zqA,.agg [ii a,ii b],ii c]) (zxx (zCel,(a,b),c)):=by
 repeat' (first | refine zbE ?_ | refine zby ?_ | refine zco ?_ | refine CoDL.cons ?_ ?_ | exact CoDL.nil | exact zbb | refine zcp ?_ | refine CoLL.cons ?_ ?_ | exact CoLL.nil | refine CoL.cons ?_ ?_ | exact CoL.nil | exact CoI.refl _ | exact CoL.refl _ | exact CoLL.refl _ | exact CoDL.refl _ | exact CoD.refl _)
def exAp (A:List Itm) (G:List (List Sta)):Except (Nat × Int) (List Itm × List (List Sta))→Except (Nat × Int) (List Itm × List (List Sta))
 | .error e=>.error e
 | .ok (a,o)=>.ok (A++a,G++o)
theorem znu (R:Except (Nat × Int) (List Itm × List (List Sta))):exAp [] [] R=R:=by
 cases R with
 | error e=>rfl
 | ok p=>rfl
theorem znv (A:List Itm) (G:List (List Sta)) (x:Itm) (s:List Sta) (R:Except (Nat × Int) (List Itm × List (List Sta))):exAp A G (match R with
  | .error e=>.error e
  | .ok (a,o)=>.ok (x::a,s::o))=exAp (A++[x]) (G++[s]) R:=by
 cases R with
 | error e=>rfl
 | ok p=>simp[exAp]
def celK (m:Mdl) (A B:List Itm) (og:List (List Sta)):Cel × Plc × Int:=match zcC m og m.excs 0 [] [] with
 | .error (i,e)=>(zCel,(5,(i:Int)),e)
 | .ok out=>(⟨m.evs,A,B,out,m.cons.map (zeF m)⟩,(0,0),0)
theorem zj8 {m:Mdl} {og:List (List Sta)}:∀ {l:List NEx} {i:Nat} {seen:List ByteArray} {out:List XEx} {j:Nat} {e:Int},zcC m og l i seen out = .error (j,e)→e≠0
 | [],_,_,_,_,_,h=>by cases h
 | x::r,i,seen,out,j,e,h=>by
  simp only[zcC] at h
  by_cases h1:(expX m og x (32 - (out.length:Int))).2≠0
  ·rw[if_pos h1] at h;cases h;exact h1
  rw[if_neg h1] at h
  by_cases h2:(expX m og x (32 - (out.length:Int))).1.any (fun y=>decide (y.name.size>32))=true
  ·rw[if_pos h2] at h;cases h;decide
  rw[if_neg h2] at h
  cases h3:dupX seen (expX m og x (32 - (out.length:Int))).1 with
  | error u=>rw[h3] at h;cases h;decide
  | ok s=>rw[h3] at h;exact zj8 h
theorem zvh (m:Mdl) (A B:List Itm) (og:List (List Sta)):celK m A B og=if (excX m og).2.2≠0 then (zCel,(excX m og).2) else (⟨m.evs,A,B,(excX m og).1,m.cons.map (zeF m)⟩,(0,0),0):=by
 unfold celK excX
 cases h:zcC m og m.excs 0 [] [] with
 | error p=>
  obtain⟨j,e⟩:=p
  have he:=zj8 h
  simp only
  rw[if_pos he]
 | ok out=>rfl
set_option maxHeartbeats 8000000 in
theorem ztG {g:Nat} (hg:zfA g) {ty:TypeId} {fr:Nat × Nat} (O:List Heap) (m:Mdl) (hm:mdlOk m) (hmv:∀ t∈m.tpls,t.mach.moves.length≤19) :
  zbg g (ptab ty fr) Tryz.prog 16 [mdlD m] O (zxx (celR m)) [] O:=by
 have h14:=fun O=>ztF O m hm
 have hMU:(mdlE m).2=0→∀ x,x∈m.comps∨x∈m.reqs→(∀ O,zan Tryz.prog 55 [mdlD m,insD x] O (extD (mchR m x)) [] O)∧∀ O,zbg g (ptab ty fr) Tryz.prog 32 [extD (mchR m x)] O (unfD (mchR m x).alpha (zbJ (mchR m x))) [] O:=fun hv x hx=>by
  obtain⟨t,ht,he,_⟩:=zge hmv hv hx
  have hxl:=ziL hm hx
  rw[he]
  exact⟨fun O=>zjJ O m x t hm hxl ht,fun O=>zvl hg O _ (zrH hm hxl ht)⟩
 have hEx:(mdlE m).2=0→∀ og:List (List Sta),og.length=m.comps.length→(∀ s∈og,s.length≤100000)→∀ O,zbg g (ptab ty fr) Tryz.prog 56 [mdlD m,.i (zkM og)] O (excD (excX m og)) [] O:=fun hv og h1 h2 O=>by
  obtain⟨e1,e2⟩:=zxj hm hv h1 h2
  exact zj9 hg O m og hm.toszOk e1 e2
 have hCn:=fun hv=>zxp (m:=m) hv
 have hIl:=fun hv=>zi4 (m:=m) (zdY hv).2.2.2.1
 have hevl:=hm.ev
 have hf1:=fun O s=>zei O m 3 s hm.toszOk
 rw[show namK m 3=m.comps.map (·.name) from rfl] at hf1
 have hr0:∀ i,zb1 m [] i = .ok ([],[]):=fun _=>rfl
 have hrs:∀ x r i,zb1 m (x::r) i=match zbJ (mchR m x) with
  | .error e=>.error (i,e)
  | .ok U=>match zb1 m r (i+1) with
   | .error e=>.error e
   | .ok (a,o)=>.ok (⟨x.name,⟨(mchR m x).alpha,U.sts.length,U.mkl,U.eds⟩⟩::a,U.sts::o):=fun _ _ _=>rfl
 generalize hR:celR m=R
 have hR:(if (mdlE m).2≠0 then (zCel,mdlE m) else match zb1 m m.comps 0 with
  | .error (i,e)=>(zCel,(3,(i:Int)),e)
  | .ok (a,og)=>match zb1 m m.reqs 0 with
   | .error (i,e)=>(zCel,(4,(i:Int)),e)
   | .ok (b,_)=>celK m a b og)=R:=hR
 generalize hE0:mdlE m=E0 at *
 obtain⟨⟨q1,q2⟩,q3⟩:=E0
 simp only at hR hMU hEx hCn hIl
 generalize hRA:zb1 m m.comps 0=RA at hR
 generalize hRB:zb1 m m.reqs 0=RB at hR
 generalize hiR:zb1 m=iR at *
 clear hiR hE0
 refine za4 [36] Tk Tryz.func16 rfl Tryz.call16 Tryz.ntmps16 (Nat.le_of_ble_eq_true rfl) fun E hE=>?_
 refine zag Tk Tryz.func16 ?_
 refine zak Tk Tryz.func16 (h14 _) rfl rfl rfl rfl rfl ?_
 refine zai Tk Tryz.func16 rfl (fun c1=>?_) (fun c1=>?_)
 ·have c1:q3≠0:=bneT c1
  rw[if_pos c1] at hR
  subst hR
  refine zaw Tk Tryz.func16 zaG rfl ?_
  refine zcY Tk rfl rfl rfl ?_
  refine zcY Tk rfl rfl rfl ?_
  refine zaH Tk Tryz.func16 (by kernel_rfl) ?_
  refine zaz Tk (r:=.tup [.agg zqA,.agg [ii q1,ii q2],ii q3]) rfl rfl rfl trivial rfl rfl ?_
  exact zu7
 have c1:q3=0:=bneF c1
 rw[if_neg (fun h=>h c1)] at hR
 have hMU:=hMU c1
 have hEx:=hEx c1
 obtain⟨hcn1,hcn2⟩:=hCn c1
 obtain⟨hcl,hcl0,hql⟩:=hIl c1
 have h54:=fun O=>zxu O m.evs hevl
 clear hCn hIl
 refine zak Tk Tryz.func16 (h54 _) rfl rfl rfl rfl rfl ?_
 refine g_wk (zay 2 68 76 5 (pre:=[.i (za3 m.evs)]) (post:=[.i (.v (.slice none 0 0)),.i (.v (.slice none 0 0)),.i (.v (.slice none 0 0))]) rfl rfl rfl) ?_
 refine g_wk (zb2 7 72 62 1 rfl rfl rfl) ?_
 refine zae ?_
 refine zaj (fun x:Nat × List Itm × List (List Sta)=>[(1,.own 0 1 0 0),(2,.own 0 2 0 0),(3,.own 0 3 0 0),(7,.osl 0 72),(40,.i (zaV m.comps)),(41,ii m.comps.length),(42,ii x.1)])
  (fun x=>[(1,.box (mdlC m)),(2,.box [.i (za3 m.evs),.osl 0 68,.i (.v (.slice none 0 0)),.i (.v (.slice none 0 0)),.i (.v (.slice none 0 0))]),(3,plcN),(68,zur x.2.1),(72,zx0 x.2.2)]) (fun _=>O) 168
  (fun x=>x.1≤m.comps.length∧x.2.1.length=x.1∧x.2.2.length=x.1∧(∀ s∈x.2.2,s.length≤100000)∧exAp x.2.1 x.2.2 (iR (m.comps.drop x.1) x.1)=RA) (fun x=>m.comps.length - x.1) (0,[],[]) ⟨Nat.zero_le _,rfl,rfl,by simp,by rw[znu];exact hRA⟩ ⟨rfl,rfl,rfl,rfl,rfl,rfl,rfl,trivial⟩ rfl ⟨rfl,rfl,rfl,rfl,rfl,trivial⟩ rfl rfl ?_
 clear hRA
 rintro ⟨i,A,G⟩ ⟨hi,hA,hG,hGs,hno⟩ ih
 simp only at hi hA hG hGs hno
 refine zag Tk Tryz.func16 ?_
 refine zai Tk Tryz.func16 rfl (fun g1=>?_) (fun g1=>?_)
 ·have g1:i<m.comps.length:=by simpa using g1
  have gs:(m.comps.map insI)[(i:Int).toNat]? = some (insI m.comps[i]):=zam (f:=insI) g1
  obtain⟨hM,hU⟩:=hMU m.comps[i] (.inl (List.getElem_mem g1))
  have hj1:ii (IntKind.i64.wrap ((i:Int)+1))=ii ((i+1:Nat):Int):=congrArg ii (zaB (n:=1000001) (by omega) (by decide))
  rw[List.drop_eq_getElem_cons g1,hrs] at hno
  generalize m.comps[i]=x at *
  generalize mchR m x=X at *
  obtain⟨xn,xt,xe⟩:=x
  simp only at hno
  cases hu:zbJ X with
  | error e=>
   have he:=zel hu
   have hU2:∀ O,zbg g (ptab ty fr) Tryz.prog 32 [extD X] O (.tup [autD ⟨[],0,[],[]⟩,zjk [],ii e]) [] O:=fun O=>by have:=hU O;rw[hu] at this;exact this
   rw[hu] at hno
   have hno:Except.error (i,e)=RA:=hno
   subst hno
   simp only at hR
   subst hR
   refine zaf Tk Tryz.func16 (by exact⟨by omega,by show (i:Int)<(m.comps.length:Int);omega⟩) ?_
   refine zaq Tk Tryz.func16 (gs) ?_
   refine zak Tk Tryz.func16 (hM _) rfl rfl rfl rfl rfl ?_
   refine zbr Tk Tryz.func16 hE (hU2 _) rfl rfl rfl rfl rfl rfl ?_
   refine zai Tk Tryz.func16 rfl (fun _=>?_) (fun h=>absurd h (by simpa using he))
   refine zaz Tk (r:=.tup [.agg zqA,.agg [ii 3,ii i],ii e]) rfl rfl rfl trivial rfl rfl ?_
   exact zu7
  | ok U=>
   have hsl:=zkw hu
   have hU2:∀ O,zbg g (ptab ty fr) Tryz.prog 32 [extD X] O (.tup [autD ⟨X.alpha,U.sts.length,U.mkl,U.eds⟩,zjk U.sts,ii 0]) [] O:=fun O=>by have:=hU O;rw[hu] at this;exact this
   rw[hu] at hno
   simp only at hno
   rw[znv] at hno
   clear hU
   refine zaf Tk Tryz.func16 (by exact⟨by omega,by show (i:Int)<(m.comps.length:Int);omega⟩) ?_
   refine zaq Tk Tryz.func16 (gs) ?_
   refine zak Tk Tryz.func16 (hM _) rfl rfl rfl rfl rfl ?_
   refine zbr Tk Tryz.func16 hE (hU2 _) rfl rfl rfl rfl rfl rfl ?_
   refine gcF Tk Tryz.func16 rfl ?_
   refine zaf Tk Tryz.func16 (by exact⟨by show (A.length+1) * 96≤140737488355328;omega,by show A.length+1≤9223372036854775807;omega⟩) ?_
   refine zaf Tk Tryz.func16 (by exact⟨by show (G.length+1) * 24≤140737488355328;omega,by show G.length+1≤9223372036854775807;omega⟩) ?_
   refine zae ?_
   refine ih (i+1,A++[⟨xn,⟨X.alpha,U.sts.length,U.mkl,U.eds⟩⟩],G++[U.sts]) _ _ ⟨g1,by simp[hA],by simp[hG],fun s hs=>?_,hno⟩ (by simp only;omega) ⟨rfl,rfl,rfl,rfl,rfl,rfl,hj1,trivial⟩ rfl ⟨rfl,rfl,rfl,?_,?_,trivial⟩ rfl rfl
   ·rcases List.mem_append.1 hs with hs | hs
    ·exact hGs s hs
    ·rw[List.mem_singleton] at hs;subst hs;omega
   ·show some (Ob.arr 76 5 (A.length+1) (A.map itmI++[itmI ⟨xn,⟨X.alpha,U.sts.length,U.mkl,U.eds⟩⟩]) true)=_
    simp[zur]
   ·show some (Ob.arr 62 1 (G.length+1) ((G.map fun s=>[I.sl 2 s.length (s.map staI)])++[[I.sl 2 U.sts.length (U.sts.map staI)]]) true)=_
    simp[zx0]
 have g1:m.comps.length≤i:=by simpa using g1
 rw[List.drop_eq_nil_of_le g1,hr0] at hno
 have hno:Except.ok (A++[],G++[])=RA:=hno
 rw[List.append_nil,List.append_nil] at hno
 subst hno
 simp only at hR
 have hEx:=hEx G (by omega) hGs
 clear ih
 refine g_wk (zap 68 rfl rfl) ?_
 refine g_wk (zap 72 rfl rfl) ?_
 refine g_wk (zaZ rfl) ?_
 refine g_wk (zay 2 104 76 5 (pre:=[.i (za3 m.evs),.i (zbu A)]) (post:=[.i (.v (.slice none 0 0)),.i (.v (.slice none 0 0))]) rfl rfl rfl) ?_
 refine zae ?_
 refine zaj (fun x:Nat × List Itm × List (List Sta)=>[(1,.own 0 1 0 0),(2,.own 0 2 0 0),(3,.own 0 3 0 0),(7,.i (zkM G)),(76,.i (zaV m.reqs)),(77,ii m.reqs.length),(78,ii x.1)])
  (fun x=>[(1,.box (mdlC m)),(2,.box [.i (za3 m.evs),.i (zbu A),.osl 0 104,.i (.v (.slice none 0 0)),.i (.v (.slice none 0 0))]),(3,plcN),(104,zur x.2.1)]) (fun _=>O) 168
  (fun x=>x.1≤m.reqs.length∧x.2.1.length=x.1∧exAp x.2.1 x.2.2 (iR (m.reqs.drop x.1) x.1)=RB) (fun x=>m.reqs.length - x.1) (0,[],[]) ⟨Nat.zero_le _,rfl,by rw[znu];exact hRB⟩ ⟨rfl,rfl,rfl,rfl,rfl,rfl,rfl,trivial⟩ rfl ⟨rfl,rfl,rfl,rfl,trivial⟩ rfl rfl ?_
 clear hRB
 rintro ⟨i,B,G2⟩ ⟨hi,hB,hno⟩ ih
 simp only at hi hB hno
 refine zag Tk Tryz.func16 ?_
 refine zai Tk Tryz.func16 rfl (fun g2=>?_) (fun g2=>?_)
 ·have g2:i<m.reqs.length:=by simpa using g2
  have gs:(m.reqs.map insI)[(i:Int).toNat]? = some (insI m.reqs[i]):=zam (f:=insI) g2
  obtain⟨hM,hU⟩:=hMU m.reqs[i] (.inr (List.getElem_mem g2))
  have hj1:ii (IntKind.i64.wrap ((i:Int)+1))=ii ((i+1:Nat):Int):=congrArg ii (zaB (n:=1000001) (by omega) (by decide))
  rw[List.drop_eq_getElem_cons g2,hrs] at hno
  generalize m.reqs[i]=x at *
  generalize mchR m x=X at *
  obtain⟨xn,xt,xe⟩:=x
  simp only at hno
  cases hu:zbJ X with
  | error e=>
   have he:=zel hu
   have hU2:∀ O,zbg g (ptab ty fr) Tryz.prog 32 [extD X] O (.tup [autD ⟨[],0,[],[]⟩,zjk [],ii e]) [] O:=fun O=>by have:=hU O;rw[hu] at this;exact this
   rw[hu] at hno
   have hno:Except.error (i,e)=RB:=hno
   subst hno
   simp only at hR
   subst hR
   refine zaf Tk Tryz.func16 (by exact⟨by omega,by show (i:Int)<(m.reqs.length:Int);omega⟩) ?_
   refine zaq Tk Tryz.func16 (gs) ?_
   refine zak Tk Tryz.func16 (hM _) rfl rfl rfl rfl rfl ?_
   refine zbr Tk Tryz.func16 hE (hU2 _) rfl rfl rfl rfl rfl rfl ?_
   refine zai Tk Tryz.func16 rfl (fun _=>?_) (fun h=>absurd h (by simpa using he))
   refine zaz Tk (r:=.tup [.agg zqA,.agg [ii 4,ii i],ii e]) rfl rfl rfl trivial rfl rfl ?_
   exact zu7
  | ok U=>
   have hU2:∀ O,zbg g (ptab ty fr) Tryz.prog 32 [extD X] O (.tup [autD ⟨X.alpha,U.sts.length,U.mkl,U.eds⟩,zjk U.sts,ii 0]) [] O:=fun O=>by have:=hU O;rw[hu] at this;exact this
   rw[hu] at hno
   simp only at hno
   rw[znv] at hno
   clear hU
   refine zaf Tk Tryz.func16 (by exact⟨by omega,by show (i:Int)<(m.reqs.length:Int);omega⟩) ?_
   refine zaq Tk Tryz.func16 (gs) ?_
   refine zak Tk Tryz.func16 (hM _) rfl rfl rfl rfl rfl ?_
   refine zbr Tk Tryz.func16 hE (hU2 _) rfl rfl rfl rfl rfl rfl ?_
   refine gcF Tk Tryz.func16 rfl ?_
   refine zaf Tk Tryz.func16 (by exact⟨by show (B.length+1) * 96≤140737488355328;omega,by show B.length+1≤9223372036854775807;omega⟩) ?_
   refine zae ?_
   refine ih (i+1,B++[⟨xn,⟨X.alpha,U.sts.length,U.mkl,U.eds⟩⟩],G2++[U.sts]) _ _ ⟨g2,by simp[hB],hno⟩ (by simp only;omega) ⟨rfl,rfl,rfl,rfl,rfl,rfl,hj1,trivial⟩ rfl ⟨rfl,rfl,rfl,?_,trivial⟩ rfl rfl
   show some (Ob.arr 76 5 (B.length+1) (B.map itmI++[itmI ⟨xn,⟨X.alpha,U.sts.length,U.mkl,U.eds⟩⟩]) true)=_
   simp[zur]
 have g2:m.reqs.length≤i:=by simpa using g2
 rw[List.drop_eq_nil_of_le g2,hr0] at hno
 have hno:Except.ok (B++[],G2++[])=RB:=hno
 rw[List.append_nil,List.append_nil] at hno
 subst hno
 simp only at hR
 rw[zvh] at hR
 clear ih hMU
 generalize excX m G=rx at *
 obtain⟨xs,⟨p1,p2⟩,e⟩:=rx
 simp only at hR hEx
 refine zbr Tk Tryz.func16 hE (hEx _) rfl rfl rfl rfl rfl rfl ?_
 refine zai Tk Tryz.func16 rfl (fun c2=>?_) (fun c2=>?_)
 ·have c2:e≠0:=bneT c2
  rw[if_pos c2] at hR
  subst hR
  refine zaw Tk Tryz.func16 zaG rfl ?_
  refine zcY Tk rfl rfl rfl ?_
  refine zcY Tk rfl rfl rfl ?_
  refine zaH Tk Tryz.func16 (by kernel_rfl) ?_
  refine zaz Tk (r:=.tup [.agg zqA,.agg [ii p1,ii p2],ii e]) rfl rfl rfl trivial rfl rfl ?_
  exact zu7
 have c2:e=0:=bneF c2
 rw[if_neg (fun h=>h c2)] at hR
 subst c2
 refine g_wk (zap 104 rfl rfl) ?_
 refine g_wk (zaZ rfl) ?_
 refine g_wk (zay 2 163 158 3 (pre:=[.i (za3 m.evs),.i (zbu A),.i (zbu B),.i (zcH xs)]) (post:=[]) rfl rfl rfl) ?_
 refine zae ?_
 refine zaj (fun i:Nat=>[(1,.own 0 1 0 0),(2,.own 0 2 0 0),(3,.own 0 3 0 0),(121,.i (zd9 m.cons)),(122,ii m.cons.length),(123,ii i)])
  (fun i=>[(1,.box (mdlC m)),(2,.box [.i (za3 m.evs),.i (zbu A),.i (zbu B),.i (zcH xs),.osl 0 163]),(3,.box [ii p1,ii p2]),(163,zwM ((m.cons.take i).map (zeF m)))]) (fun _=>O) 168
  (fun i=>i≤m.cons.length) (fun i=>m.cons.length - i) 0 (Nat.zero_le _) ⟨rfl,rfl,rfl,rfl,rfl,rfl,trivial⟩ rfl ⟨rfl,rfl,rfl,rfl,trivial⟩ rfl rfl ?_
 intro i hi ih
 have hi:i≤m.cons.length:=hi
 refine zag Tk Tryz.func16 ?_
 refine zai Tk Tryz.func16 rfl (fun g3=>?_) (fun g3=>?_)
 ·have g3:i<m.cons.length:=by simpa using g3
  have gs:(m.cons.map ncnI)[(i:Int).toNat]? = some (ncnI m.cons[i]):=zam (f:=ncnI) g3
  have ht:=zaM (zeF m) g3
  have hcl3:((m.cons.take i).map (zeF m)).length≤32:=by rw[List.length_map,List.length_take];omega
  have htl:=hcn2 m.cons[i] (List.getElem_mem g3)
  have hj1:ii (IntKind.i64.wrap ((i:Int)+1))=ii ((i+1:Nat):Int):=congrArg ii (zaB (n:=1000001) (by omega) (by decide))
  generalize (m.cons.take i).map (zeF m)=L at *
  generalize m.cons[i]=x at *
  obtain⟨xn,ts,bd⟩:=x
  simp only at htl
  have hcr:zeF m ⟨xn,ts,bd⟩=⟨xn,zfU (ts.map fun t=>(fndI (m.comps.map (·.name)) t.1,t.2)),bd⟩:=rfl
  rw[hcr] at ht
  clear hcr
  refine zaf Tk Tryz.func16 (by exact⟨by omega,by show (i:Int)<(m.cons.length:Int);omega⟩) ?_
  refine zaq Tk Tryz.func16 (gs) ?_
  refine g_wk (zay 20 153 160 2 (pre:=[sD xn]) (post:=[ii bd]) rfl rfl rfl) ?_
  refine zae ?_
  refine zaj (fun j:Nat=>[(1,.own 0 1 0 0),(2,.own 0 2 0 0),(3,.own 0 3 0 0),(20,.own 0 20 0 0),(121,.i (zd9 m.cons)),(122,ii m.cons.length),(123,ii i),(133,.i (zwQ ts)),(134,ii ts.length),(135,ii j)])
   (fun j=>[(1,.box (mdlC m)),(2,.box [.i (za3 m.evs),.i (zbu A),.i (zbu B),.i (zcH xs),.osl 0 163]),(3,.box [ii p1,ii p2]),(163,zwM L),(20,.box [sD xn,.osl 0 153,ii bd]),(153,olTm ((ts.take j).map fun t=>(fndI (m.comps.map (·.name)) t.1,t.2)))]) (fun _=>O) 168
   (fun j=>j≤ts.length) (fun j=>ts.length - j) 0 (Nat.zero_le _) ⟨rfl,rfl,rfl,rfl,rfl,rfl,rfl,rfl,rfl,rfl,trivial⟩ rfl ⟨rfl,rfl,rfl,rfl,rfl,rfl,trivial⟩ rfl rfl ?_
  intro j hj ih2
  have hj:j≤ts.length:=hj
  refine zag Tk Tryz.func16 ?_
  refine zai Tk Tryz.func16 rfl (fun g4=>?_) (fun g4=>?_)
  ·have g4:j<ts.length:=by simpa using g4
   have gt:(ts.map ntmI)[(j:Int).toNat]? = some (ntmI ts[j]):=zam (f:=ntmI) g4
   have ht2:=zaM (fun t:NTm=>(fndI (m.comps.map (·.name)) t.1,t.2)) g4
   have hl2:((ts.take j).map fun t=>(fndI (m.comps.map (·.name)) t.1,t.2)).length≤12:=by rw[List.length_map,List.length_take];omega
   have hf2:=fun O=>hf1 O ts[j].1
   have hq:fndI (m.comps.map (·.name)) ts[j].1=fnd0 (nmIx (m.comps.map (·.name)) ts[j].1):=rfl
   have hk1:ii (IntKind.i64.wrap ((j:Int)+1))=ii ((j+1:Nat):Int):=congrArg ii (zaB (n:=1000001) (by omega) (by decide))
   rw[hq] at ht2
   clear hq
   generalize ((ts.take j).map fun t=>(fndI (m.comps.map (·.name)) t.1,t.2))=T at *
   generalize nmIx (m.comps.map (·.name)) ts[j].1=q at *
   generalize ts[j]=y at *
   obtain⟨yn,yf⟩:=y
   simp only at hf2 ht2
   refine zaf Tk Tryz.func16 (by exact⟨by omega,by show (j:Int)<(ts.length:Int);omega⟩) ?_
   refine zaq Tk Tryz.func16 (gt) ?_
   refine zak Tk Tryz.func16 (hf2 _) rfl rfl rfl rfl rfl ?_
   refine zaf Tk Tryz.func16 (by exact⟨by show (T.length+1) * 16≤140737488355328;omega,by show T.length+1≤9223372036854775807;omega⟩) ?_
   refine zae ?_
   refine ih2 (j+1) _ _ g4 (by omega) ⟨rfl,rfl,rfl,rfl,rfl,rfl,rfl,rfl,rfl,hk1,trivial⟩ rfl ⟨rfl,rfl,rfl,rfl,rfl,?_,trivial⟩ rfl rfl
   rw[ht2]
   show some (Ob.arr 160 2 (T.length+1) (T.map zbt++[zbt (fnd0 q,yf)]) true)=_
   simp[olTm]
  ·have g4:ts.length≤j:=by simpa using g4
   rw[List.take_of_length_le g4]
   have hl2:(ts.map fun t=>(fndI (m.comps.map (·.name)) t.1,t.2)).length≤12:=by rw[List.length_map];exact htl
   generalize (ts.map fun t=>(fndI (m.comps.map (·.name)) t.1,t.2))=T at *
   have h57:=fun O d ho=>zxM O d 153 T hl2 ho
   refine zak Tk Tryz.func16 (h57 _ 0 rfl) rfl rfl rfl (zbc (ob:=olTm T) rfl (by simp[Ob.sh,zgm])) rfl ?_
   refine zax ?_
   refine zas (zap 153 rfl rfl) ?_
   refine zas (zaZ rfl) ?_
   refine zag Tk Tryz.func16 ?_
   refine g_go Tk Tryz.func16 ?_
   refine zaf Tk Tryz.func16 (by exact⟨by show (L.length+1) * 48≤140737488355328;omega,by show L.length+1≤9223372036854775807;omega⟩) ?_
   refine zae ?_
   refine ih (i+1) _ _ g3 (by omega) ⟨rfl,rfl,rfl,rfl,rfl,hj1,trivial⟩ rfl ⟨rfl,rfl,rfl,?_,trivial⟩ rfl rfl
   rw[ht]
   show some (Ob.arr 158 3 (L.length+1) (L.map xcnI++[xcnI ⟨xn,zfU T,bd⟩]) true)=_
   simp[zwM]
 ·have g3:m.cons.length≤i:=by simpa using g3
  rw[List.take_of_length_le g3]
  subst hR
  refine za8 (zap 163 rfl rfl) ?_
  refine za8 (zaZ rfl) ?_
  refine zah Tk (r:=zxx (⟨m.evs,A,B,xs,m.cons.map (zeF m)⟩,(0,0),0)) rfl rfl rfl trivial rfl rfl ?_
  rfl
theorem zwY {m:Mdl} {p:Plc} (hm:mdlOk m) (hmv:∀ t∈m.tpls,t.mach.moves.length≤19) (h:(mchA m p).2=0):∃ x t,(mdlE m).2=0∧zc0 m p = .ok x∧(mchA m p).1=mchR m x∧mchOk m x t∧mchR m x=mchE m x t∧extOk (mchR m x)∧(t.locs.length:Int)=t.mach.locs∧nmsE [] t.locs=0:=by
 unfold mchA at h ⊢
 by_cases h1:(mdlE m).2≠0
 ·rw[if_pos h1] at h;exact absurd h h1
 rw[if_neg h1] at h ⊢
 have h1:(mdlE m).2=0:=Classical.byContradiction h1
 cases hp:zc0 m p with
 | error e=>rw[hp] at h;exact absurd h (zfk hp)
 | ok x=>
  obtain⟨t,a1,a2,a3,a4,_⟩:=zge hmv h1 (zfj hp)
  exact⟨x,t,h1,rfl,rfl,a1,a2,by rw[a2];exact zrH hm (ziL hm (zfj hp)) a1,a3,a4⟩
theorem zjD:∀ {l b:List ByteArray},nmsE b l=0→∀ s∈l,s.size≤32
 | [],_,_,s,hs=>by simp at hs
 | x::r,b,h,s,hs=>by
  simp only[nmsE] at h
  by_cases h1:nmE b x≠0
  ·rw[if_pos h1] at h;exact absurd h h1
  rw[if_neg h1] at h
  rcases List.mem_cons.1 hs with rfl | hs
  ·exact zgG (zvw (Classical.byContradiction h1)).1
  ·exact zjD h s hs
theorem zhc {all:List Vr}:∀ {l:List Vr} {i:Nat},zbd all l i=0→∀ v∈l,v.name.size≤32
 | [],_,_,v,hv=>by simp at hv
 | x::r,i,h,v,hv=>by
  simp only[zbd] at h
  split at h
  ·rename_i e he
   subst h
   unfold checkVr at he
   split at he;· cases he
   split at he;· cases he
   split at he;· cases he
   split at he;· cases he
   split at he <;> cases he
  ·rename_i he
   rcases List.mem_cons.1 hv with rfl | hv
   ·unfold checkVr at he
    split at he;· cases he
    rename_i h1
    exact zgG (by simpa using h1)
   ·exact zhc h v hv
theorem zvY {l:List Vr} (h:zbx l=0):∀ v∈l,v.name.size≤32:=by
 unfold zbx at h
 split at h
 ·cases h
 ·exact zhc h
abbrev stgD (s:ByteArray) (e:Int):D:=.tup [.i (.v (.string s)),ii e]
theorem zxF {g:Nat} (hg:zfA g) {ty:TypeId} {fr:Nat × Nat} (O:List Heap) (m:Mdl) (p:Plc) (s:Sta) (hm:mdlOk m) (hmv:∀ t∈m.tpls,t.mach.moves.length≤19) :
  zbg g (ptab ty fr) Tryz.prog 20 [mdlD m,.agg [ii p.1,ii p.2],staD s] O (stgD (labR m p s).1 (labR m p s).2) [] O:=by
 have h18:=fun O=>ztC O m p hm hmv
 have hk:=fun h=>zwY (p:=p) hm hmv h
 have h61:=fun O=>zhR O m p hm.toszOk
 have hf:=fun O nm=>zei O m 2 nm hm.toszOk
 rw[show namK m 2=m.tpls.map (·.name) from rfl] at hf
 generalize hR:labR m p s=R
 have hR:(if (mchA m p).2≠0 then ((⟨#[]⟩:ByteArray),(mchA m p).2) else match zc0 m p with
  | .error e=>(⟨#[]⟩,e)
  | .ok x=>if ckS (mchR m x) s≠0 then (⟨#[]⟩,ckS (mchR m x) s) else match zbS m x with
   | none=>(⟨#[]⟩,0)
   | some t=>(labT (mchR m x).vars s.vals (t.locs.getD s.loc.toNat ⟨#[]⟩),0))=R:=by
  rw[← hR]
  unfold labR mchA
  by_cases h1:(mdlE m).2≠0
  ·rw[if_pos h1,if_pos h1,if_pos h1]
  ·rw[if_neg h1,if_neg h1]
   cases hp:zc0 m p with
   | error e=>simp only;rw[if_pos (zfk hp)]
   | ok x=>simp only;rw[if_neg (by decide)];rfl
 generalize hAA:mchA m p=A at *
 obtain⟨X,e⟩:=A
 obtain⟨a,b⟩:=p
 obtain⟨sl,sv⟩:=s
 simp only at h18 hk hR h61
 refine za4 [] Tk Tryz.func20 rfl Tryz.call20 Tryz.ntmps20 (Nat.le_of_ble_eq_true rfl) fun E hE=>?_
 refine zag Tk Tryz.func20 ?_
 refine zak Tk Tryz.func20 (h18 _) rfl rfl rfl rfl rfl ?_
 refine zai Tk Tryz.func20 rfl (fun c1=>?_) (fun c1=>?_)
 ·have c1:e≠0:=bneT c1
  rw[if_pos c1] at hR
  subst hR
  refine zah Tk (r:=stgD ⟨#[]⟩ e) rfl rfl rfl trivial rfl rfl ?_
  rfl
 have c1:e=0:=bneF c1
 rw[if_neg (fun h=>h c1)] at hR
 obtain⟨x,t,_,hp,hX,hmo,hme,hok,hlo,hnm⟩:=hk c1
 rw[hp] at hR
 simp only at hR
 have hck:=@zkj (mchR m x) ⟨sl,sv⟩
 have h34:=fun O=>zfN O (mchR m x) ⟨sl,sv⟩ hok
 rw[← hX] at hR hck h34
 rw[show zhq m (a,b)=(x,0) from by unfold zhq;rw[hp]] at h61
 have htp:=hmo.tp
 rw[htp] at hR
 simp only at hR
 have hXv:X.vars=t.mach.vars:=by rw[hX,hme];rfl
 have hXl:X.locs=t.mach.locs:=by rw[hX,hme];rfl
 have hvr:=hmo.right.vars
 have hv16:t.mach.vars.length≤16:=by
  have:=hmo.right.vars
  unfold zbx at this
  by_cases hc:t.mach.vars.length>16
  ·rw[if_pos hc] at this;cases this
  ·omega
 unfold zbS at htp
 rcases zfK Tpl.name m.tpls x.tpl with ⟨h1,_⟩ | ⟨k,t',h1,h2,h3⟩
 ·rw[h1] at htp;cases htp
 rw[h2] at htp
 cases htp
 have hf2:=fun O=>hf O x.tpl
 rw[h3,ze6] at hf2
 have hkl:k<m.tpls.length:=(List.getElem?_eq_some_iff.1 h1).1
 have gt:(m.tpls.map tplI)[(k:Int).toNat]? = some (tplI t):=by rw[Int.toNat_natCast,List.getElem?_map,h1];rfl
 rw[← hXl] at hlo
 rw[← hXv] at hvr hv16
 clear h2 h3 hf hmo hme hok hXv hXl hp h18 hk hAA
 generalize hC:ckS X ⟨sl,sv⟩=C at *
 refine zak Tk Tryz.func20 (h34 _) rfl rfl rfl rfl rfl ?_
 refine zai Tk Tryz.func20 rfl (fun c2=>?_) (fun c2=>?_)
 ·have c2:C≠0:=bneT c2
  rw[if_pos c2] at hR
  subst hR
  refine zah Tk (r:=stgD ⟨#[]⟩ C) rfl rfl rfl trivial rfl rfl ?_
  rfl
 have c2:C=0:=bneF c2
 rw[if_neg (fun h=>h c2)] at hR
 obtain⟨_,k2,k3,k4,k5⟩:=hck c2
 simp only at k2 k3 k4 k5
 have hsl:sl.toNat<t.locs.length:=by omega
 have gl:(t.locs.map fun s=>[strI s])[sl.toNat]? = some [strI (t.locs.getD sl.toNat ⟨#[]⟩)]:=by
  rw[List.getElem?_map,List.getD_eq_getElem?_getD,List.getElem?_eq_getElem hsl];rfl
 have hs0:(t.locs.getD sl.toNat ⟨#[]⟩).size≤32:=by
  rw[List.getD_eq_getElem?_getD,List.getElem?_eq_getElem hsl]
  exact zjD hnm _ (List.getElem_mem hsl)
 generalize t.locs.getD sl.toNat ⟨#[]⟩=s0 at *
 have hvn:=zvY hvr
 have hvb:∀ v∈sv,-65536≤v∧v≤65536:=by
  intro v hv
  obtain⟨i,hi,rfl⟩:=List.getElem_of_mem hv
  have:=(within_iff.1 k3).2 i (by omega) hi
  have hb:=zku hvr X.vars[i] (List.getElem_mem (by omega))
  omega
 obtain⟨xn,xt,xe⟩:=x
 simp only at hf2
 refine zak Tk Tryz.func20 (h61 _) rfl rfl rfl rfl rfl ?_
 refine zak Tk Tryz.func20 (hf2 _) rfl rfl rfl rfl rfl ?_
 refine zaw Tk Tryz.func20 zaG rfl ?_
 refine zar Tk (by exact⟨by omega,by show (k:Int)<(m.tpls.length:Int);omega⟩) ?_
 refine zaF Tk (gt) ?_
 refine zar Tk (by exact⟨k4,by show sl<(t.locs.length:Int);omega⟩) ?_
 refine zaF Tk (gl) ?_
 refine zaH Tk Tryz.func20 (by kernel_rfl) ?_
 generalize hT:labT X.vars sv s0=T at hR
 subst hR
 refine zae ?_
 refine zaj (fun x:Nat × ByteArray=>[(5,.own 0 5 0 0),(15,sD x.2),(57,vrs X.vars),(58,ii X.vars.length),(59,ii x.1)])
  (fun _=>[(5,.box [ii sl,ints sv])]) (fun _=>O) 79
  (fun x=>x.1≤X.vars.length∧x.2.size≤100+100 * x.1∧labT (X.vars.drop x.1) (sv.drop x.1) x.2=T) (fun x=>X.vars.length - x.1) (0,s0) ⟨Nat.zero_le _,by simp only;omega,hT⟩ ⟨rfl,rfl,rfl,rfl,rfl,trivial⟩ rfl ⟨rfl,trivial⟩ rfl rfl ?_
 clear hT
 rintro ⟨i,acc⟩ ⟨hi,has,hno⟩ ih
 simp only at hi has hno
 refine zag Tk Tryz.func20 ?_
 refine zai Tk Tryz.func20 rfl (fun g1=>?_) (fun g1=>?_)
 ·have g1:i<X.vars.length:=by simpa using g1
  have g1':i<sv.length:=by omega
  have gv:(X.vars.map vrI)[(i:Int).toNat]? = some (vrI X.vars[i]):=zam (f:=vrI) g1
  have gn:(sv.map fun x=>[vi x])[(i:Int).toNat]? = some [vi sv[i]]:=zam (f:=fun x=>[vi x]) g1'
  have hvi:=hvn X.vars[i] (List.getElem_mem g1)
  have hni:=hvb sv[i] (List.getElem_mem g1')
  rw[List.drop_eq_getElem_cons g1,List.drop_eq_getElem_cons g1'] at hno
  simp only[labT] at hno
  have hit:=fun O=>zjR hg (ty:=ty) (fr:=fr) O sv[i] (by omega) (by omega)
  have hsz:=zcw (n:=sv[i]) (by omega) (by omega)
  have hj1:ii (IntKind.i64.wrap ((i:Int)+1))=ii ((i+1:Nat):Int):=congrArg ii (zaB (n:=1000001) (by omega) (by decide))
  generalize X.vars[i]=v at *
  generalize zcs sv[i]=tx at *
  generalize sv[i]=n at *
  obtain⟨vn,vlo,vhi,vin⟩:=v
  simp only at hno hvi
  have hs1:((⟨#[32]⟩:ByteArray)++vn).size=1+vn.size:=ByteArray.size_append
  have hs2:((⟨#[32]⟩:ByteArray)++vn++⟨#[61]⟩).size=1+vn.size+1:=by rw[ByteArray.size_append,hs1];rfl
  have hs3:((⟨#[32]⟩:ByteArray)++vn++⟨#[61]⟩++tx).size=1+vn.size+1+tx.size:=by rw[ByteArray.size_append,hs2]
  refine zaf Tk Tryz.func20 (by exact⟨by omega,by show (i:Int)<(X.vars.length:Int);omega⟩) ?_
  refine zaq Tk Tryz.func20 (gv) ?_
  refine zaw Tk Tryz.func20 zaG rfl ?_
  refine zar Tk (by show 1+vn.size≤9223372036854775807;omega) ?_
  refine zar Tk (by show ((⟨#[32]⟩:ByteArray)++vn).size+1≤9223372036854775807;rw[hs1];omega) ?_
  refine zar Tk (by exact⟨by omega,by show (i:Int)<(sv.length:Int);omega⟩) ?_
  refine zaF Tk (gn) ?_
  refine zdw Tk hE (hit _) rfl rfl rfl rfl ?_
  refine zar Tk (by show ((⟨#[32]⟩:ByteArray)++vn++⟨#[61]⟩).size+tx.size≤9223372036854775807;rw[hs2];omega) ?_
  refine zar Tk (by show acc.size+((⟨#[32]⟩:ByteArray)++vn++⟨#[61]⟩++tx).size≤9223372036854775807;rw[hs3];omega) ?_
  refine zaH Tk Tryz.func20 (by kernel_rfl) ?_
  refine zae ?_
  exact ih (i+1,acc++(⟨#[32]⟩++vn++⟨#[61]⟩++tx)) _ _ ⟨g1,by simp only;rw[ByteArray.size_append,hs3];omega,hno⟩ (by simp only;omega) ⟨rfl,rfl,rfl,rfl,hj1,trivial⟩ rfl ⟨rfl,trivial⟩ rfl rfl
 ·have g1:X.vars.length≤i:=by simpa using g1
  rw[List.drop_eq_nil_of_le g1] at hno
  have hno:acc=T:=by rw[← hno];simp[labT]
  subst hno
  refine zah Tk (r:=stgD acc 0) rfl rfl rfl trivial rfl rfl ?_
  rfl
end Go.AI
namespace Go.AI
def valB:Value→Value→Bool
 | .string a,.string b=>a.data.toList==b.data.toList
 | .int k a,.int k' b=>decide (k=k') && a==b
 | .bool a,.bool b=>a==b
 | .slice none 0 0,.slice none 0 0=>true
 | _,_=>false
theorem zv0:∀ {x y:Value},valB x y=true→x=y:=by
 intro x y h
 unfold valB at h
 split at h
 ·rw[beq_iff_eq] at h
  exact congrArg Value.string (ByteArray.ext (Array.ext' h))
 ·simp only[Bool.and_eq_true,decide_eq_true_eq,beq_iff_eq] at h
  rw[h.1,h.2]
 ·rw[beq_iff_eq] at h
  rw[h]
 ·rfl
 ·cases h
mutual
def coIB:I→I→Bool
 | .v x,.v y=>valB x y
 | .v (.slice none 0 0),.sl _ 0 []=>true
 | .sl es n xs,.sl es' n' ys=>es==es' && (n==n' && zpP xs ys)
 | _,_=>false
def coLB:List I→List I→Bool
 | [],[]=>true
 | x::xs,y::ys=>coIB x y && coLB xs ys
 | _,_=>false
def zpP:List (List I)→List (List I)→Bool
 | [],[]=>true
 | x::xs,y::ys=>coLB x y && zpP xs ys
 | _,_=>false
end
mutual
theorem zlk:∀ {x y:I},coIB x y=true→CoI x y
 | .v x,.v y,h=>by
  simp only[coIB] at h
  rw[zv0 h]
  exact CoI.refl _
 | .v x,.sl es n ys,h=>by
  unfold coIB at h
  split at h
  ·rename_i e1 e2;cases e2
  ·rename_i e1 e2;cases e1;cases e2;exact zbb
  ·rename_i e1 e2;cases e1
  ·cases h
 | .sl es n xs,.sl es' n' ys,h=>by
  simp only[coIB,Bool.and_eq_true,beq_iff_eq] at h
  obtain⟨rfl,rfl,h⟩:=h
  exact zcp (zny h)
 | .v x,.ptr _ _ _ _,h=>by simp[coIB] at h
 | .sl _ _ _,.v _,h=>by simp[coIB] at h
 | .sl _ _ _,.ptr _ _ _ _,h=>by simp[coIB] at h
 | .ptr _ _ _ _,_,h=>by simp[coIB] at h
theorem zsx:∀ {x y:List I},coLB x y=true→CoL x y
 | [],[],_=>.nil
 | x::xs,y::ys,h=>by
  simp only[coLB,Bool.and_eq_true] at h
  exact .cons (zlk h.1) (zsx h.2)
 | [],_::_,h=>by simp[coLB] at h
 | _::_,[],h=>by simp[coLB] at h
theorem zny:∀ {x y:List (List I)},zpP x y=true→CoLL x y
 | [],[],_=>.nil
 | x::xs,y::ys,h=>by
  simp only[zpP,Bool.and_eq_true] at h
  exact .cons (zsx h.1) (zny h.2)
 | [],_::_,h=>by simp[zpP] at h
 | _::_,[],h=>by simp[zpP] at h
end
def coDB:List D→List D→Bool
 | [],[]=>true
 | .i x::xs,.i y::ys=>coIB x y && coDB xs ys
 | .osl a b::xs,.osl c d::ys=>a==c && (b==d && coDB xs ys)
 | _,_=>false
theorem zg9:∀ {x y:List D},coDB x y=true→CoDL x y
 | [],[],_=>.nil
 | .i x::xs,.i y::ys,h=>by
  simp only[coDB,Bool.and_eq_true] at h
  exact .cons (zco (zlk h.1)) (zg9 h.2)
 | .osl a b::xs,.osl c d::ys,h=>by
  simp only[coDB,Bool.and_eq_true,beq_iff_eq] at h
  obtain⟨rfl,rfl,h⟩:=h
  exact .cons (CoD.refl _) (zg9 h)
 | x::xs,y::ys,h=>by
  unfold coDB at h
  split at h
  ·rename_i e1 e2;cases e1
  ·rename_i e1 e2
   cases e1;cases e2
   simp only[Bool.and_eq_true] at h
   exact .cons (zco (zlk h.1)) (zg9 h.2)
  ·rename_i e1 e2
   cases e1;cases e2
   simp only[Bool.and_eq_true,beq_iff_eq] at h
   obtain⟨rfl,rfl,h⟩:=h
   exact .cons (CoD.refl _) (zg9 h)
  ·cases h
 | [],_::_,h=>by simp[coDB] at h
 | _::_,[],h=>by simp[coDB] at h
theorem zu8 {x y:List D} (h:coDB x y=true):CoD (.agg x) (.agg y):=zby (zg9 h)
end Go.AI
namespace Go.AI
open Go.Proofs
set_option maxRecDepth 20000
mutual
def nilJ:I→I
 | .sl es n xs=>match xs with
  | []=>.v (.slice none 0 0)
  | x::r=>.sl es n (nilL x::zx2 r)
 | d=>d
def nilL:List I→List I
 | []=>[]
 | x::r=>nilJ x::nilL r
def zx2:List (List I)→List (List I)
 | []=>[]
 | x::r=>nilL x::zx2 r
end
def nilD:D→D
 | .i x=>.i (nilJ x)
 | d=>d
theorem ztY:CoD (.agg ((mdlC shopM).map nilD)) (mdlD shopM):=zu8 (by kernel_rfl)
set_option maxHeartbeats 8000000 in
theorem zxS (O:List Heap):zan Tryz.prog 26 [] O (mdlD shopM) [] O:=by
 refine zaa Tk Tryz.func26 rfl Tryz.call26 Tryz.ntmps26 (Nat.le_of_ble_eq_true rfl) fun E=>?_
 refine zag Tk Tryz.func26 ?_
 refine zaz Tk (r:=.agg ((mdlC shopM).map nilD)) rfl rfl rfl trivial (by kernel_rfl) rfl ?_
 exact ztY
theorem zsr (O:List Heap) (es:List Edg) (he:es.length≤zao):zan Tryz.prog 115 [edgs es,edgs es] O (bb true) [] O:=by
 refine zaa Tk Tryz.func115 rfl Tryz.call115 Tryz.ntmps115 (Nat.le_of_ble_eq_true rfl) fun E=>?_
 refine zag Tk Tryz.func115 ?_
 refine zai Tk Tryz.func115 rfl (fun g1=>?_) (fun g1=>?_)
 ·exact absurd rfl (bneT g1)
 refine zae ?_
 refine zaj (fun i:Nat=>[(0,edgs es),(1,edgs es),(12,ii es.length),(13,ii i)]) (fun _=>[]) (fun _=>O) 26
  (fun i=>i≤es.length) (fun i=>es.length - i) 0 (Nat.zero_le _) ⟨rfl,rfl,rfl,rfl,trivial⟩ rfl trivial rfl rfl ?_
 rintro i hi ih
 refine zag Tk Tryz.func115 ?_
 refine zai Tk Tryz.func115 rfl (fun g3=>?_) (fun g3=>?_)
 ·have h3:i<es.length:=by simpa using g3
  have ge:(es.map edgI)[(i:Int).toNat]? = some (edgI es[i]):=zam h3
  generalize es[i]=e at *
  refine zaw Tk Tryz.func115 zaG rfl ?_
  refine zar Tk (by exact⟨by omega,by show (i:Int)<(es.length:Int);omega⟩) ?_
  refine zaF Tk (ge) ?_
  refine zar Tk (by exact⟨by omega,by show (i:Int)<(es.length:Int);omega⟩) ?_
  refine zaF Tk (ge) ?_
  refine zaH Tk Tryz.func115 (by kernel_rfl) ?_
  refine zai Tk Tryz.func115 rfl (fun g4=>?_) (fun g4=>?_)
  ·simp at g4
  ·refine zae ?_
   exact ih (i+1) _ _ h3 (by omega) ⟨rfl,rfl,rfl,congrArg ii (zaB h3 he),trivial⟩ rfl trivial rfl rfl
 ·refine zah Tk (r:=bb true) rfl rfl rfl trivial rfl rfl ?_
  rfl
theorem zke (O:List Heap) (a:Aut) (ha:a.alpha.length≤zao) (hm:a.marked.length≤zao) (he:a.edges.length≤zao):zan Tryz.prog 42 [autD a,autD a] O (bb true) [] O:=by
 obtain⟨al,n,mk,es⟩:=a
 simp only at ha hm he
 have h1:∀ O,zan Tryz.prog 67 [ints al,ints al] O (bb true) [] O:=fun O=>by
  have h:=zss O al al ha
  rwa [decide_eq_true rfl] at h
 have h2:∀ O,zan Tryz.prog 67 [ints mk,ints mk] O (bb true) [] O:=fun O=>by
  have h:=zss O mk mk hm
  rwa [decide_eq_true rfl] at h
 have h3:=fun O=>zsr O es he
 refine zaa Tk Tryz.func42 rfl Tryz.call42 Tryz.ntmps42 (Nat.le_of_ble_eq_true rfl) fun E=>?_
 refine zag Tk Tryz.func42 ?_
 refine zaC Tk Tryz.func42 rfl (fun c1=>?_) (fun c1=>?_)
 rotate_left
 ·exact absurd rfl (beqF c1)
 refine zak Tk Tryz.func42 (h1 _) rfl rfl rfl rfl rfl ?_
 refine gkT Tk Tryz.func42 rfl ?_
 refine zak Tk Tryz.func42 (h2 _) rfl rfl rfl rfl rfl ?_
 refine gkT Tk Tryz.func42 rfl ?_
 refine zak Tk Tryz.func42 (h3 _) rfl rfl rfl rfl rfl ?_
 refine zah Tk (r:=bb true) rfl rfl rfl trivial rfl rfl ?_
 rfl
end Go.AI
