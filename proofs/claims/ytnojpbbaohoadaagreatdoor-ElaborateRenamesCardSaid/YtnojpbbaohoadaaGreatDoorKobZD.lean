/- The layer of abstract runs, part 30. -/
import Derived.Test.YtnojpbbaohoadaaGreatDoorKobZC
set_option linter.unusedSimpArgs false
set_option linter.unusedVariables false
set_option linter.all false
set_option maxHeartbeats 4000000
namespace Go.AI
open Go.Proofs
set_option maxRecDepth 20000
theorem zxG:exOk yesX:=by simp[yesX,exOk,zkb,zao]
theorem zuA:extOk zrI:=by
 refine⟨by decide,by decide,by decide,by simp[zrI],by decide,?_⟩
 intro x hx
 simp only[zrI,List.mem_cons,List.not_mem_nil,or_false] at hx
 rcases hx with rfl | rfl <;> exact⟨zxG,by decide,by simp⟩
theorem zvj:extOk zvk:=by
 refine⟨by decide,by decide,by decide,?_,by decide,?_⟩
 ·intro v hv
  simp only[zvk,List.mem_cons,List.not_mem_nil,or_false] at hv
  subst hv;decide
 ·intro x hx
  simp only[zvk,List.mem_cons,List.not_mem_nil,or_false] at hx
  subst hx
  refine⟨by simp[exOk,zkb,zao],by decide,?_⟩
  intro u hu
  simp only[List.mem_cons,List.not_mem_nil,or_false] at hu
  subst hu
  simp[exOk,zkb,zao]
theorem zv4:tplOk tplX:=⟨by decide,by decide,by
  intro s hs
  simp only[tplX,List.mem_cons,List.not_mem_nil,or_false] at hs
  rcases hs with rfl | rfl <;> decide,by decide,by
  intro s hs
  simp only[tplX,List.mem_cons,List.not_mem_nil,or_false] at hs
  rcases hs with rfl | rfl <;> decide,zuA⟩
theorem zgp:∀ t∈shopM.tpls,tplOk t∧t.mach.moves.length≤19:=by
 intro t ht
 simp only[shopM,List.mem_cons,List.not_mem_nil,or_false] at ht
 rcases ht with rfl | rfl
 ·exact⟨zv4,by decide⟩
 ·refine⟨⟨by decide,by decide,?_,by decide,?_,zvj⟩,by decide⟩
  ·intro s hs
   simp only[List.mem_cons,List.not_mem_nil,or_false] at hs
   subst hs;decide
  ·intro s hs
   simp only[List.mem_cons,List.not_mem_nil,or_false] at hs
   subst hs;decide
theorem zwj:szOk shopM:=⟨by decide,by decide,by decide,by decide,by decide,by decide⟩
theorem ztX:∀ x∈shopM.evs,x.name.size≤zao:=by
 intro x hx
 simp only[shopM,List.mem_cons,List.not_mem_nil,or_false] at hx
 rcases hx with rfl | rfl <;> decide
theorem zo7:∀ x∈shopM.comps,insOk x:=by
 intro x hx
 simp only[shopM,List.mem_cons,List.not_mem_nil,or_false] at hx
 rcases hx with rfl | rfl <;> exact⟨by decide,by decide⟩
theorem zq6:∀ x∈shopM.excs,x.name.size≤zao∧x.locals.length≤1000000:=by
 intro x hx
 simp only[shopM,List.mem_cons,List.not_mem_nil,or_false] at hx
 subst hx;exact⟨by decide,by decide⟩
theorem zq5:mdlOk shopM:={ toszOk:=zwj,nm:=by decide,evn:=ztX,tpk:=fun t ht=>(zgp t ht).1,cok:=zo7,rqk:=fun x hx=>(by cases hx),exk:=zq6,cnk:=fun x hx=>(by cases hx) }
theorem zw9 {g:Nat} (hg:zfA g) {ty:TypeId} {fr:Nat × Nat} (O:List Heap):zbg g (ptab ty fr) Tryz.prog 11 [] O (bb true) [] O:=by
 have hs:=fun O=>zxS O
 have hC:=fun O=>ztG hg (ty:=ty) (fr:=fr) O shopM zq5 fun t ht=>(zgp t ht).2
 rw[zq7] at hC
 have hL:=fun O=>zxF hg (ty:=ty) (fr:=fr) O shopM (3,1) ⟨0,[2]⟩ zq5 fun t ht=>(zgp t ht).2
 rw[zo6] at hL
 have hEq:=fun O=>zke O ⟨[0,1],2,[0],[(0,1,1),(1,0,0)]⟩ (by decide) (by decide) (by decide)
 refine za4 [] Tk Tryz.func11 rfl Tryz.call11 Tryz.ntmps11 (Nat.le_of_ble_eq_true rfl) fun E hE=>?_
 refine zag Tk Tryz.func11 ?_
 refine zak Tk Tryz.func11 (hs _) rfl rfl rfl rfl rfl ?_
 refine zbr Tk Tryz.func11 hE (hC _) rfl rfl rfl rfl rfl rfl ?_
 repeat (first | refine gcT Tk Tryz.func11 rfl ?_ | refine gkT Tk Tryz.func11 rfl ?_ | refine skT Tk ?_ | refine gcF Tk Tryz.func11 rfl ?_ | refine gkF Tk Tryz.func11 rfl ?_ | refine skF Tk ?_)
 refine zaf Tk Tryz.func11 (by decide) ?_
 refine zaq Tk Tryz.func11 (rfl) ?_
 refine zak Tk Tryz.func11 (hs _) rfl rfl rfl rfl rfl ?_
 refine zbr Tk Tryz.func11 hE (hL _) rfl rfl rfl rfl rfl rfl ?_
 refine zaf Tk Tryz.func11 (by decide) ?_
 refine zaq Tk Tryz.func11 (rfl) ?_
 refine zak Tk Tryz.func11 (hEq _) rfl rfl rfl rfl rfl ?_
 refine gkT Tk Tryz.func11 rfl ?_
 refine zaf Tk Tryz.func11 (by decide) ?_
 refine zaq Tk Tryz.func11 (rfl) ?_
 refine gkT Tk Tryz.func11 rfl ?_
 refine zaC Tk Tryz.func11 rfl (fun _=>?_) (fun h=>absurd h (by rw[za7];decide))
 refine gkT Tk Tryz.func11 rfl ?_
 refine zaf Tk Tryz.func11 (by decide) ?_
 refine zaq Tk Tryz.func11 (rfl) ?_
 refine gkT Tk Tryz.func11 rfl ?_
 refine zaf Tk Tryz.func11 (by decide) ?_
 refine zaq Tk Tryz.func11 (rfl) ?_
 refine gkT Tk Tryz.func11 rfl ?_
 refine zaC Tk Tryz.func11 rfl (fun _=>?_) (fun h=>absurd h (by rw[za7];decide))
 refine zah Tk (r:=bb true) rfl rfl rfl trivial rfl rfl ?_
 rfl
abbrev zpl (l:List Tpl):Ob:=.arr 87 9 l.length (l.map tplI) true
abbrev zfV (l:List NEx):Ob:=.arr 91 2 l.length (l.map nexI) true
theorem zhH (c:UInt8) (i:Nat) (h:i≤1000):(za0 c i).size≤22:=by
 unfold za0
 rw[ByteArray.size_append]
 have:=zcw (n:=(i:Int)) (by omega) (by omega)
 show 1+_≤_
 omega
abbrev zcj (l:List Ins):Ob:=.arr 107 3 l.length (l.map insI) true
abbrev zpo (l:List NLc):Ob:=.arr 103 2 l.length (l.map nlcI) true
abbrev zwP (l:List NTm):Ob:=.arr 93 2 l.length (l.map ntmI) true
abbrev zeI:List D:=[.i (strI ⟨#[]⟩),.i (.v (.slice none 0 0)),.i (.v (.slice none 0 0)),.i (.v (.slice none 0 0)),.i (.v (.slice none 0 0)),.i (.v (.slice none 0 0)),.i (.v (.slice none 0 0))]
theorem zoW {l:List Sk} {i:Nat} (h:i<l.length):zeM l (i+1)=zeM l i++[zqL i l[i]]:=by
 unfold zeM
 rw[List.range_succ,List.map_append]
 simp[h]
theorem zrU {nt:Nat} {l:List Use22} {i:Nat} (h:i<l.length):insN nt l (i+1)=zpD nt (insN nt l i) i l[i]:=by simp[insN,h]
theorem zv9 (l:List ByteArray) (j:Nat) (hjl:j<l.length):D.i (.sl 1 (0+(j:Int).toNat+(l.length - ((j+1:Nat):Int).toNat)) ([]++(l.map fun s=>[strI s]).take (j:Int).toNat++(l.map fun s=>[strI s]).drop ((j+1:Nat):Int).toNat))=ssD (l.take j++l.drop (j+1)):=by
 rw[Int.toNat_natCast,Int.toNat_natCast,List.nil_append,← List.map_take,← List.map_drop,← List.map_append]
 have:0+j+(l.length - (j+1))=(l.take j++l.drop (j+1)).length:=by rw[List.length_append,List.length_take,List.length_drop];omega
 rw[this]
theorem zgB (o:Int):∀ k,(ordS o k).1.length=k
 | 0=>rfl
 | k+1=>by simp only[ordS,List.length_append,List.length_singleton,zgB o k]
theorem zuE (nt:Nat) (l:List Use22) (i:Nat):∀ x∈(insN nt l i).1++(insN nt l i).2,x.evs.length=3:=znf (P:=fun x=>x.evs.length=3) nt l (fun _=>zgB _ 3) i
theorem zpI {T:List Tpl} {C:List Ins} {l:List (Whr × Whr)} {i:Nat} (h:i<l.length):zeB T C l (i+1)=zeB T C l i++[zuZ T C i l[i]]:=by
 unfold zeB
 rw[List.range_succ,List.map_append]
 simp[h]
theorem zsh (T:List Tpl) (C:List Ins) (l:List (Whr × Whr)) (i:Nat):(zeB T C l i).length=i:=by simp[zeB]
theorem zsi {T:List Tpl} {C R:List Ins} (hT:∀ t∈T,1≤t.locs.length∧t.locs.length≤1000) (htpl:∀ x∈C++R,∃ t∈T,T.find? (fun t=>sB t.name x.tpl)=some t) (hC:0<C.length∧C.length≤3) {wc wl:Int} (hw:zhh (wc,wl)) :
  ∃ (c:Ins) (t:Tpl) (s:ByteArray),(C.map insI)[((IntKind.i64.wrap wc).tmod (C.length:Int)).toNat]? = some (insI c)∧(0≤(IntKind.i64.wrap wc).tmod (C.length:Int)∧(IntKind.i64.wrap wc).tmod (C.length:Int)<(C.length:Int))∧T.find? (fun t=>sB t.name c.tpl)=some t∧1≤t.locs.length ∧
   (t.locs.map fun s=>[strI s])[((IntKind.i64.wrap wl).tmod (t.locs.length:Int)).toNat]? = some [strI s]∧(0≤(IntKind.i64.wrap wl).tmod (t.locs.length:Int)∧(IntKind.i64.wrap wl).tmod (t.locs.length:Int)<(t.locs.length:Int)) ∧
   ∀ acc,excA T C acc (wc,wl)=if (match acc with | []=>false | a::_=>sB a.1 c.name)=true then acc else acc++[(c.name,s)]:=by
 obtain⟨h1,h2⟩:=hw
 simp only at h1 h2
 have w1:IntKind.i64.wrap wc=wc:=w64 (by omega) (by omega)
 have w2:IntKind.i64.wrap wl=wl:=w64 (by omega) (by omega)
 have m1:=Int.emod_nonneg wc (show (C.length:Int)≠0 by omega)
 have m2:=Int.emod_lt_of_pos wc (show 0<(C.length:Int) by omega)
 rw[w1,w2,Int.tmod_eq_emod_of_nonneg h1.1]
 obtain⟨j,hj⟩:∃ j:Nat,(j:Int)=wc % (C.length:Int):=⟨(wc % (C.length:Int)).toNat,by omega⟩
 have hjl:j<C.length:=by omega
 have hgd:C.getD j zfT=C[j]:=by simp[hjl]
 obtain⟨t,ht,hf⟩:=htpl C[j] (List.mem_append_left _ (List.getElem_mem hjl))
 obtain⟨hl1,hl2⟩:=hT t ht
 have n1:=Int.emod_nonneg wl (show (t.locs.length:Int)≠0 by omega)
 have n2:=Int.emod_lt_of_pos wl (show 0<(t.locs.length:Int) by omega)
 obtain⟨q,hq⟩:∃ q:Nat,(q:Int)=wl % (t.locs.length:Int):=⟨(wl % (t.locs.length:Int)).toNat,by omega⟩
 have hql:q<t.locs.length:=by omega
 have htf:zds T C[j]=t:=by unfold zds;rw[hf];rfl
 refine⟨C[j],t,t.locs[q],?_,by omega,hf,hl1,?_,by rw[Int.tmod_eq_emod_of_nonneg h2.1];omega,fun acc=>?_⟩
 ·rw[← hj]
  exact zam (f:=insI) hjl
 ·rw[Int.tmod_eq_emod_of_nonneg h2.1,← hq]
  exact zam (f:=fun s=>[strI s]) hql
 ·unfold excA
  simp only
  rw[← hj,Int.toNat_natCast,hgd,htf,← hq,Int.toNat_natCast]
  rcases acc with _ | ⟨a,r⟩ <;> simp[hql]
theorem zdQ (C:List Ins):(zcI C).length=C.length:=by simp[zcI]
theorem zkA {C:List Ins} {r:Nat} (h:r<C.length):(zcI C).take (r+1)=(zcI C).take r++[(C[C.length - 1 - r].name,1+((C.length - 1 - r:Nat):Int))]:=by
 have hl:=zdQ C
 rw[List.take_succ_eq_append_getElem (by omega)]
 congr 2
 unfold zcI
 rw[List.getElem_reverse]
 simp only[List.getElem_map,List.length_map,List.length_range,List.getElem_range]
 rw[List.getD_eq_getElem?_getD,List.getElem?_eq_getElem (by omega)]
 rfl
theorem zqK (l:List Sk) (i:Nat):(zeM l i).length=i:=by simp[zeM]
theorem zx6 {g:Nat} (hg:zfA g) {ty:TypeId} {fr:Nat × Nat} (O:List Heap) (k:Sk22) (hk:sk22Ok k):zbg g (ptab ty fr) Tryz.prog 13 [zwi k] O (mdlD (zcl k)) [] O:=by
  have hio:∀ n:Nat,n≤1000→∀ O,zbg g (ptab ty fr) Tryz.prog 27 [ii (n:Int)] O (.i (.v (.string (zcs (n:Int))))) [] O:=fun n hn O=>zjR hg (ty:=ty) (fr:=fr) O (n:Int) (by omega) (by omega)
  have hsz:∀ n:Nat,n≤1000→(zcs (n:Int)).size≤21:=fun n hn=>by
    have:=zcw (n:=(n:Int)) (by omega) (by omega)
    omega
  generalize hR:zcl k=R
  unfold zcl at hR
  have hMT:mkT k=zeM k.tpls (min k.tpls.length 3):=rfl
  have hTl:=zdd k
  have hMI:mkI k=insN (mkT k).length k.ins (ze2 k):=rfl
  have hIC:=zdG k
  have htpl:=zwV k hk
  have hTloc:∀ t∈mkT k,1≤t.locs.length∧t.locs.length≤1000:=fun t h=>by
    obtain⟨j,_,hj,rfl⟩:=ziC h
    have h1:=(hk.t _ (zcN (d:=zSk) hj)).locs
    show 1≤((List.range _).map _).length∧((List.range _).map _).length≤1000
    simp only[List.length_map,List.length_range]
    unfold zbW
    omega
  have hICe:ze2 k=if (mkT k).length=0 then 0 else min k.ins.length 5:=rfl
  obtain⟨htl,ht,hil,huse,hel,he,hb⟩:=hk
  obtain⟨kt,ki,kx,kb⟩:=k
  simp only at htl ht hil huse hel he hb hMT hTl hMI hIC hICe hR
  generalize ze2 ⟨kt,ki,kx,kb⟩=IC at *
  generalize mkT ⟨kt,ki,kx,kb⟩=T at *
  generalize mkI ⟨kt,ki,kx,kb⟩=CR at *
  refine za4 [12,29,44,51,11,25,43,27,200161,50] Tk Tryz.func13 rfl Tryz.call13 Tryz.ntmps13 (Nat.le_of_ble_eq_true rfl) fun E hE=>?_
  refine zag Tk Tryz.func13 ?_
  apply zch (P:=True) (s6:={ σ:=[(1,.own 0 1 0 0),(2,.own 0 2 0 0),(3,.own 0 3 0 0)],S:=[(1,.box (zen ⟨kt,ki,kx,kb⟩)),(2,.box zeI),(3,.box [.i (strI ⟨#[109]⟩),.i (za3 evs4),.i (zcg T),.i (.v (.slice none 0 0)),.i (.v (.slice none 0 0)),.i (.v (.slice none 0 0)),.i (.v (.slice none 0 0))])]::O,n:=295 })
  · intro J
    refine g_wk (zay 3 69 87 9 (pre:=[.i (strI ⟨#[109]⟩),.i (za3 evs4)]) (post:=[.i (.v (.slice none 0 0)),.i (.v (.slice none 0 0)),.i (.v (.slice none 0 0)),.i (.v (.slice none 0 0))]) rfl rfl rfl) ?_
    refine zae ?_
    refine zaj (fun i:Nat=>[(1,.own 0 1 0 0),(2,.own 0 2 0 0),(3,.own 0 3 0 0),(4,ii i)])
      (fun i=>[(1,.box (zen ⟨kt,ki,kx,kb⟩)),(2,.box zeI),(3,.box [.i (strI ⟨#[109]⟩),.i (za3 evs4),.osl 0 69,.i (.v (.slice none 0 0)),.i (.v (.slice none 0 0)),.i (.v (.slice none 0 0)),.i (.v (.slice none 0 0))]),(69,zpl (zeM kt i))]) (fun _=>O) 295
      (fun i=>i≤min kt.length 3) (fun i=>min kt.length 3 - i) 0 (Nat.zero_le _) ⟨rfl,rfl,rfl,rfl,trivial⟩ rfl ⟨rfl,rfl,rfl,rfl,trivial⟩ rfl rfl ?_
    intro i hi ih
    have hi:i≤min kt.length 3:=hi
    have hend:i=min kt.length 3→zeM kt i=T:=fun e=>by rw[e,hMT]
    have hTN:=zqK kt i
    refine zag Tk Tryz.func13 ?_
    refine zaC Tk Tryz.func13 rfl (fun c1=>?_) (fun c1=>?_)
    · have c1:i<kt.length:=by simpa using c1
      refine zai Tk Tryz.func13 rfl (fun c2=>?_) (fun c2=>?_)
      · have c2:i<3:=by have:(i:Int)<3:=of_decide_eq_true c2;omega
        have gs:(kt.map skI)[(i:Int).toNat]? = some (skI kt[i]):=zam (f:=skI) c1
        have hmk:=fun O=>zx5 O kt[i] (ht kt[i] (List.getElem_mem c1))
        have hsucc:=zoW c1
        unfold zqL at hsucc
        have hX:(ziF kt[i]).locs=(zbW kt[i]:Int):=rfl
        have hLb:zbW kt[i]≤4:=by have:=(ht kt[i] (List.getElem_mem c1)).locs;unfold zbW;omega
        have hit:=hio i (by omega)
        have hsi:=hsz i (by omega)
        have hj1:ii (IntKind.i64.wrap ((i:Int)+1))=ii ((i+1:Nat):Int):=congrArg ii (zaB (n:=1000001) (by omega) (by decide))
        generalize ziF kt[i]=X at *
        generalize zbW kt[i]=L at *
        generalize kt[i]=y at *
        generalize zeM kt i=A at *
        clear J hend
        obtain⟨al,lo,ini,mk,vr,mo⟩:=X
        simp only at hX
        subst hX
        refine zaf Tk Tryz.func13 (by exact⟨by omega,by show (i:Int)<(kt.length:Int);omega⟩) ?_
        refine zaq Tk Tryz.func13 (gs) ?_
        refine zak Tk Tryz.func13 (hmk _) rfl rfl rfl rfl rfl ?_
        refine zaw Tk Tryz.func13 zaG rfl ?_
        refine zdw Tk hE (hit _) rfl rfl rfl rfl ?_
        refine zar Tk (by show 1+(zcs (i:Int)).size≤9223372036854775807;omega) ?_
        refine zcY Tk rfl rfl rfl ?_
        refine zaH Tk Tryz.func13 (by kernel_rfl) ?_
        refine g_wk (zay 6 63 9 1 (pre:=[.i (strI (za0 116 i))]) (post:=[ssD abc3,ints al,ii L,ii ini,ints mk,vrs vr,mvs mo]) rfl rfl rfl) ?_
        refine zae ?_
        refine zaj (fun s:Nat=>[(1,.own 0 1 0 0),(2,.own 0 2 0 0),(3,.own 0 3 0 0),(4,ii i),(5,.own 0 5 0 0),(6,.own 0 6 0 0),(7,ii s)])
          (fun s=>[(1,.box (zen ⟨kt,ki,kx,kb⟩)),(2,.box zeI),(3,.box [.i (strI ⟨#[109]⟩),.i (za3 evs4),.osl 0 69,.i (.v (.slice none 0 0)),.i (.v (.slice none 0 0)),.i (.v (.slice none 0 0)),.i (.v (.slice none 0 0))]),(69,zpl A),
            (5,.box [ints al,ii L,ii ini,ints mk,vrs vr,mvs mo]),(6,.box [.i (strI (za0 116 i)),.osl 0 63,ssD abc3,ints al,ii L,ii ini,ints mk,vrs vr,mvs mo]),(63,oss ((List.range s).map (za0 115)))]) (fun _=>O) 295
          (fun s=>s≤L) (fun s=>L - s) 0 (Nat.zero_le _) ⟨rfl,rfl,rfl,rfl,rfl,rfl,rfl,trivial⟩ rfl ⟨rfl,rfl,rfl,rfl,rfl,rfl,rfl,trivial⟩ rfl rfl ?_
        intro s hs ih2
        have hs:s≤L:=hs
        refine zag Tk Tryz.func13 ?_
        refine zai Tk Tryz.func13 rfl (fun c3=>?_) (fun c3=>?_)
        · have c3:s<L:=by simpa using c3
          have hit2:=hio s (by omega)
          have hsi2:=hsz s (by omega)
          have hs2:(List.range (s+1)).map (za0 115)=(List.range s).map (za0 115)++[za0 115 s]:=by rw[List.range_succ,List.map_append];rfl
          have hll:((List.range s).map (za0 115)).length=s:=by simp
          have hj2:ii (IntKind.i64.wrap ((s:Int)+1))=ii ((s+1:Nat):Int):=congrArg ii (zaB (n:=1000001) (by omega) (by decide))
          generalize (List.range s).map (za0 115)=Q at *
          refine zaw Tk Tryz.func13 zaG rfl ?_
          refine zdw Tk hE (hit2 _) rfl rfl rfl rfl ?_
          refine zar Tk (by show 1+(zcs (s:Int)).size≤9223372036854775807;omega) ?_
          refine zfa Tk Tryz.func13 ([6,7,8]) (by kernel_rfl) (by kernel_rfl) ?_
          refine zaf Tk Tryz.func13 (by exact⟨by show (Q.length+1) * 16≤140737488355328;omega,by show Q.length+1≤9223372036854775807;omega⟩) ?_
          refine zae ?_
          refine ih2 (s+1) _ _ c3 (by omega) ⟨rfl,rfl,rfl,rfl,rfl,rfl,hj2,trivial⟩ rfl ⟨rfl,rfl,rfl,rfl,rfl,rfl,?_,trivial⟩ rfl rfl
          rw[hs2]
          exact congrArg some (zbG Q (za0 115 s))
        · have c3:L≤s:=by simpa using c3
          have c3:s=L:=by omega
          rw[c3]
          refine zax ?_
          refine zas (zap 63 rfl rfl) ?_
          refine zas (zaZ rfl) ?_
          refine zag Tk Tryz.func13 ?_
          refine g_go Tk Tryz.func13 ?_
          refine zaf Tk Tryz.func13 (by exact⟨by show (A.length+1) * 176≤140737488355328;omega,by show A.length+1≤9223372036854775807;omega⟩) ?_
          refine zae ?_
          refine ih (i+1) _ _ (by show i+1≤_;omega) (by omega) ⟨rfl,rfl,rfl,hj1,trivial⟩ rfl ⟨rfl,rfl,rfl,?_,trivial⟩ rfl rfl
          rw[hsucc]
          show some (Ob.arr 87 9 (A.length+1) (A.map tplI++[tplI ⟨za0 116 i,(List.range L).map (za0 115),abc3,⟨al,L,ini,mk,vr,mo⟩⟩]) true)=_
          simp[zpl]
      · have c2:¬ i<3:=by have:¬ (i:Int)<3:=of_decide_eq_false c2;omega
        rw[hend (by omega)]
        refine zax ?_
        refine zas (zap 69 rfl rfl) ?_
        refine zas (zaZ rfl) ?_
        exact zaI (J trivial) ⟨rfl,rfl,rfl,trivial⟩ rfl ⟨rfl,rfl,rfl,trivial⟩ rfl rfl
    · have c1:kt.length≤i:=by simpa using c1
      rw[hend (by omega)]
      refine gcF Tk Tryz.func13 rfl ?_
      refine zax ?_
      refine zas (zap 69 rfl rfl) ?_
      refine zas (zaZ rfl) ?_
      exact zaI (J trivial) ⟨rfl,rfl,rfl,trivial⟩ rfl ⟨rfl,rfl,rfl,trivial⟩ rfl rfl
  intro _
  have hTb:T.length≤3:=by omega
  clear hMT hTl ht htl
  refine zag Tk Tryz.func13 ?_
  refine g_go Tk Tryz.func13 ?_
  apply zch (P:=True) (s6:={ σ:=[(1,.own 0 1 0 0),(2,.own 0 2 0 0),(3,.own 0 3 0 0)],S:=[(1,.box (zen ⟨kt,ki,kx,kb⟩)),(2,.box zeI),(3,.box [.i (strI ⟨#[109]⟩),.i (za3 evs4),.i (zcg T),.i (zaV CR.1),.i (zaV CR.2),.i (.v (.slice none 0 0)),.i (.v (.slice none 0 0))])]::O,n:=295 })
  · intro J
    refine g_wk (zay 3 155 107 3 (pre:=[.i (strI ⟨#[109]⟩),.i (za3 evs4),.i (zcg T)]) (post:=[.i (.v (.slice none 0 0)),.i (.v (.slice none 0 0)),.i (.v (.slice none 0 0))]) rfl rfl rfl) ?_
    refine g_wk (zay 3 172 107 3 (pre:=[.i (strI ⟨#[109]⟩),.i (za3 evs4),.i (zcg T),.osl 0 155]) (post:=[.i (.v (.slice none 0 0)),.i (.v (.slice none 0 0))]) rfl rfl rfl) ?_
    refine zae ?_
    refine zaj (fun i:Nat=>[(1,.own 0 1 0 0),(2,.own 0 2 0 0),(3,.own 0 3 0 0),(8,ii i)])
      (fun i=>[(1,.box (zen ⟨kt,ki,kx,kb⟩)),(2,.box zeI),(3,.box [.i (strI ⟨#[109]⟩),.i (za3 evs4),.i (zcg T),.osl 0 155,.osl 0 172,.i (.v (.slice none 0 0)),.i (.v (.slice none 0 0))]),(155,zcj (insN T.length ki i).1),(172,zcj (insN T.length ki i).2)]) (fun _=>O) 295
      (fun i=>i≤IC) (fun i=>IC - i) 0 (Nat.zero_le _) ⟨rfl,rfl,rfl,rfl,trivial⟩ rfl ⟨rfl,rfl,rfl,rfl,rfl,trivial⟩ rfl rfl ?_
    intro i hi ih
    have hi:i≤IC:=hi
    have hend:i=IC→insN T.length ki i=CR:=fun e=>by rw[e,hMI]
    have hlen:=zf5 T.length ki i
    refine zag Tk Tryz.func13 ?_
    refine zaC Tk Tryz.func13 rfl (fun c1=>?_) (fun c1=>?_)
    rotate_left
    · have c1:ki.length≤i:=by simpa using c1
      rw[hend (by omega)]
      refine gkF Tk Tryz.func13 rfl ?_
      refine gcF Tk Tryz.func13 rfl ?_
      refine zax ?_
      refine zas (zap 155 rfl rfl) ?_
      refine zas (zaZ rfl) ?_
      refine zas (zap 172 rfl rfl) ?_
      refine zas (zaZ rfl) ?_
      exact zaI (J trivial) ⟨rfl,rfl,rfl,trivial⟩ rfl ⟨rfl,rfl,rfl,trivial⟩ rfl rfl
    have c1:i<ki.length:=by simpa using c1
    refine zaC Tk Tryz.func13 rfl (fun c2=>?_) (fun c2=>?_)
    rotate_left
    · have c2:¬ i<5:=by have:¬ (i:Int)<5:=of_decide_eq_false c2;omega
      rw[hend (by omega)]
      refine gcF Tk Tryz.func13 rfl ?_
      refine zax ?_
      refine zas (zap 155 rfl rfl) ?_
      refine zas (zaZ rfl) ?_
      refine zas (zap 172 rfl rfl) ?_
      refine zas (zaZ rfl) ?_
      exact zaI (J trivial) ⟨rfl,rfl,rfl,trivial⟩ rfl ⟨rfl,rfl,rfl,trivial⟩ rfl rfl
    have c2:i<5:=by have:(i:Int)<5:=of_decide_eq_true c2;omega
    refine zai Tk Tryz.func13 rfl (fun c3=>?_) (fun c3=>?_)
    rotate_left
    · have c3:T.length=0:=by simpa using c3
      rw[if_pos c3] at hICe
      rw[hend (by omega)]
      refine zax ?_
      refine zas (zap 155 rfl rfl) ?_
      refine zas (zaZ rfl) ?_
      refine zas (zap 172 rfl rfl) ?_
      refine zas (zaZ rfl) ?_
      exact zaI (J trivial) ⟨rfl,rfl,rfl,trivial⟩ rfl ⟨rfl,rfl,rfl,trivial⟩ rfl rfl
    have c3:0<T.length:=by simpa using c3
    rw[if_neg (by omega)] at hICe
    clear J hend
    have gs:(ki.map useI)[(i:Int).toNat]? = some (useI ki[i]):=zam (f:=useI) c1
    have hu:=huse ki[i] (List.getElem_mem c1)
    have hsucc:=zrU (nt:=T.length) c1
    have hit:=hio i (by omega)
    have hsi:=hsz i (by omega)
    have hj1:ii (IntKind.i64.wrap ((i:Int)+1))=ii ((i+1:Nat):Int):=congrArg ii (zaB (n:=1000001) (by omega) (by decide))
    generalize ki[i]=u at *
    obtain⟨ut,uo,ur⟩:=u
    simp only at hu
    obtain⟨q,hq⟩:∃ q:Nat,q=(ut % (T.length:Int)).toNat:=⟨_,rfl⟩
    have hq1:=Int.emod_nonneg ut (show (T.length:Int)≠0 by omega)
    have hq2:=Int.emod_lt_of_pos ut (show 0<(T.length:Int) by omega)
    have hw:(IntKind.i64.wrap ut).tmod (T.length:Int)=(q:Int):=by
      rw[w64 (by omega) (by omega),Int.tmod_eq_emod_of_nonneg hu.1.1]
      omega
    have hit2:∀ O,zbg g (ptab ty fr) Tryz.prog 27 [ii ((IntKind.i64.wrap ut).tmod (T.length:Int))] O (.i (.v (.string (zcs (q:Int))))) [] O:=by
      rw[hw]
      exact hio q (by omega)
    have hsq:=hsz q (by omega)
    unfold zpD zjT at hsucc
    simp only[← hq] at hsucc
    have hxe:∀ x∈(insN T.length ki i).1,x.evs.length≤1000000:=fun x hx=>by
      rw[zuE T.length ki i x (List.mem_append_left _ hx)]
      decide
    generalize insN T.length ki i=CRi at *
    refine zaf Tk Tryz.func13 (by exact⟨by omega,by show (i:Int)<(ki.length:Int);omega⟩) ?_
    refine zaq Tk Tryz.func13 (gs) ?_
    refine zaw Tk Tryz.func13 zaG rfl ?_
    refine zdw Tk hE (hit _) rfl rfl rfl rfl ?_
    refine zar Tk (by show 1+(zcs (i:Int)).size≤9223372036854775807;omega) ?_
    refine zar Tk (by show (T.length:Int)≠0;omega) ?_
    refine zdw Tk hE (hit2 _) rfl rfl rfl rfl ?_
    refine zar Tk (by show 1+(zcs (q:Int)).size≤9223372036854775807;omega) ?_
    refine zcY Tk rfl rfl rfl ?_
    refine zaH Tk Tryz.func13 (by kernel_rfl) ?_
    clear hit hit2 hio
    have hwo:IntKind.i64.wrap uo=uo:=w64 (by omega) (by omega)
    generalize hev:(ordS uo 3).1=ev at *
    refine g_wk (zap 106 rfl rfl) ?_
    refine g_wk (zay 10 123 9 1 (pre:=[.i (strI (za0 105 i)),.i (strI (za0 116 q))]) (post:=[]) rfl rfl rfl) ?_
    refine zae ?_
    refine zaj (fun k:Nat=>[(1,.own 0 1 0 0),(2,.own 0 2 0 0),(3,.own 0 3 0 0),(8,ii i),(9,.own 0 9 0 0),(10,.own 0 10 0 0),(11,ssD (ordS uo k).2.1),(12,ii (ordS uo k).2.2),(13,ii (4 - (k:Int)))])
      (fun k=>[(1,.box (zen ⟨kt,ki,kx,kb⟩)),(2,.box zeI),(3,.box [.i (strI ⟨#[109]⟩),.i (za3 evs4),.i (zcg T),.osl 0 155,.osl 0 172,.i (.v (.slice none 0 0)),.i (.v (.slice none 0 0))]),(155,zcj CRi.1),(172,zcj CRi.2),
        (9,.box [.i (u8J ut),.i (u8J uo),.i (bI ur)]),(10,.box [.i (strI (za0 105 i)),.i (strI (za0 116 q)),.osl 0 123]),(123,oss (ordS uo k).1)]) (fun _=>O) 295
      (fun k=>k≤3) (fun k=>3 - k) 0 (Nat.zero_le _) ⟨rfl,rfl,rfl,rfl,rfl,rfl,rfl,congrArg ii hwo,rfl,trivial⟩ rfl ⟨rfl,rfl,rfl,rfl,rfl,rfl,rfl,rfl,trivial⟩ rfl rfl ?_
    intro k hk ih2
    have hk:k≤3:=hk
    have hol:=zf3 uo hu.2 k hk
    refine zag Tk Tryz.func13 ?_
    refine zai Tk Tryz.func13 rfl (fun c4=>?_) (fun c4=>?_)
    · have c4:k<3:=by have:(4:Int) - k>1:=of_decide_eq_true c4;omega
      have hS1:(ordS uo (k+1)).1=(ordS uo k).1++[(ordS uo k).2.1.getD ((ordS uo k).2.2 % (4 - (k:Int))).toNat ⟨#[]⟩]:=rfl
      have hS2:(ordS uo (k+1)).2.1=(ordS uo k).2.1.take ((ordS uo k).2.2 % (4 - (k:Int))).toNat++(ordS uo k).2.1.drop (((ordS uo k).2.2 % (4 - (k:Int))).toNat+1):=rfl
      have hS3:(ordS uo (k+1)).2.2=(ordS uo k).2.2 / (4 - (k:Int)):=rfl
      generalize ordS uo k=W at *
      obtain⟨out,l,a⟩:=W
      simp only at hol hS1 hS2 hS3
      obtain⟨o1,o2,o3,o4⟩:=hol
      have hm1:=Int.emod_nonneg a (show 4 - (k:Int)≠0 by omega)
      have hm2:=Int.emod_lt_of_pos a (show 0<4 - (k:Int) by omega)
      have htm:a.tmod (4 - (k:Int))=a % (4 - (k:Int)):=Int.tmod_eq_emod_of_nonneg o3
      obtain⟨j,hj⟩:∃ j:Nat,(j:Int)=a % (4 - (k:Int)):=⟨(a % (4 - (k:Int))).toNat,by omega⟩
      rw[← hj,Int.toNat_natCast] at hS1 hS2
      have htj:a.tmod (4 - (k:Int))=(j:Int):=by rw[htm,hj]
      have hjl:j<l.length:=by omega
      have gl:(l.map fun s=>[strI s])[(a.tmod (4 - (k:Int))).toNat]? = some [strI (l.getD j ⟨#[]⟩)]:=by
        rw[htj,Int.toNat_natCast,List.getElem?_map,List.getD_eq_getElem?_getD,List.getElem?_eq_getElem hjl]
        rfl
      refine zaw Tk Tryz.func13 zaG rfl ?_
      refine zar Tk (by show 4 - (k:Int)≠0;omega) ?_
      refine zar Tk (by exact⟨by show (0:Int)≤a.tmod (4 - (k:Int));omega,by show a.tmod (4 - (k:Int))<(l.length:Int);omega⟩) ?_
      refine zaF Tk (gl) ?_
      refine zfa Tk Tryz.func13 ([9,10,11]) (by kernel_rfl) (by kernel_rfl) ?_
      refine zaf Tk Tryz.func13 (by exact⟨by show (out.length+1) * 16≤140737488355328;omega,by show out.length+1≤9223372036854775807;omega⟩) ?_
      have hfr:=zv9 l j
      have hwj:IntKind.i64.wrap ((a.tmod (4 - (k:Int)))+1)=((j+1:Nat):Int):=by rw[htj,w64 (by omega) (by omega)];omega
      have hdv:IntKind.i64.wrap (a.tdiv (4 - (k:Int)))=a / (4 - (k:Int)):=by
        rw[Int.tdiv_eq_ediv_of_nonneg o3]
        have h7:=Int.ediv_nonneg o3 (show 0≤4 - (k:Int) by omega)
        have h8:=Int.ediv_le_self (4 - (k:Int)) o3
        exact w64 (by omega) (by omega)
      have hk1:IntKind.i64.wrap (4 - (k:Int) - 1)=4 - ((k+1:Nat):Int):=by rw[w64 (by omega) (by omega)];omega
      refine zaw Tk Tryz.func13 zaG rfl ?_
      refine zar Tk (by show 4 - (k:Int)≠0;omega) ?_
      refine zar Tk (by exact⟨by show (0:Int)≤a.tmod (4 - (k:Int));omega,by show a.tmod (4 - (k:Int))≤(l.length:Int);omega⟩) ?_
      refine zq9 Tk ?_
      refine zdM Tk (by exact⟨by show (0+(a.tmod (4 - (k:Int))).toNat) * 16≤140737488355328;omega,by show 0+(a.tmod (4 - (k:Int))).toNat≤9223372036854775807;omega⟩) ?_
      refine zfw Tk (p:=⟨[(131,.osl 0 131),(125,.dead)],[(131,.arr 9 1 (0+(a.tmod (4 - (k:Int))).toNat) ([]++(l.map fun s=>[strI s]).take (a.tmod (4 - (k:Int))).toNat) true)],some 125⟩) rfl rfl rfl ?_
      refine zdM Tk (by show 4 - (k:Int)≠0;omega) ?_
      refine zdM Tk (by exact⟨by show (0:Int)≤IntKind.i64.wrap ((a.tmod (4 - (k:Int)))+1);omega,by show IntKind.i64.wrap ((a.tmod (4 - (k:Int)))+1)≤(l.length:Int);omega⟩) ?_
      refine zdM Tk (by exact⟨by show (0+(a.tmod (4 - (k:Int))).toNat+(l.length - (IntKind.i64.wrap ((a.tmod (4 - (k:Int)))+1)).toNat)) * 16≤140737488355328;omega,by show 0+(a.tmod (4 - (k:Int))).toNat+(l.length - (IntKind.i64.wrap ((a.tmod (4 - (k:Int)))+1)).toNat)≤9223372036854775807;omega⟩) ?_
      refine zfw Tk (p:=⟨[(138,.osl 0 138),(131,.dead)],[(138,.arr 9 1 (0+(a.tmod (4 - (k:Int))).toNat+(l.length - (IntKind.i64.wrap ((a.tmod (4 - (k:Int)))+1)).toNat)) ([]++(l.map fun s=>[strI s]).take (a.tmod (4 - (k:Int))).toNat++(l.map fun s=>[strI s]).drop (IntKind.i64.wrap ((a.tmod (4 - (k:Int)))+1)).toNat) true)],some 131⟩) rfl rfl rfl ?_
      refine zh2 Tk Tryz.func13 (by kernel_rfl) (GM.h ?_)
      refine zaf Tk Tryz.func13 (by show 4 - (k:Int)≠0;omega) ?_
      refine zae ?_
      refine zas (zap 138 rfl rfl) ?_
      refine ih2 (k+1) _ _ (by show k+1≤3;omega) (by omega) ⟨rfl,rfl,rfl,rfl,rfl,rfl,?_,?_,congrArg ii hk1,trivial⟩ rfl ⟨rfl,rfl,rfl,rfl,rfl,rfl,rfl,?_,trivial⟩ rfl rfl
      · show D.i (.sl 1 (0+(a.tmod (4 - (k:Int))).toNat+(l.length - (IntKind.i64.wrap ((a.tmod (4 - (k:Int)))+1)).toNat)) ([]++(l.map fun s=>[strI s]).take (a.tmod (4 - (k:Int))).toNat++(l.map fun s=>[strI s]).drop (IntKind.i64.wrap ((a.tmod (4 - (k:Int)))+1)).toNat))=ssD (ordS uo (k+1)).2.1
        rw[hS2,← hfr hjl,hwj,htj]
      · show ii (IntKind.i64.wrap (a.tdiv (4 - (k:Int))))=ii (ordS uo (k+1)).2.2
        rw[hS3,hdv]
      · show some (Ob.arr 9 1 (out.length+1) (out.map (fun s=>[strI s])++[[strI (l.getD j ⟨#[]⟩)]]) true)=some (oss (ordS uo (k+1)).1)
        rw[hS1]
        exact congrArg some (zbG out _)
    · have c4:¬ k<3:=by have:¬ (4:Int) - k>1:=of_decide_eq_false c4;omega
      have hk3:k=3:=by omega
      subst hk3
      rw[hev]
      refine zax ?_
      refine zas (zap 123 rfl rfl) ?_
      refine zas (zaZ rfl) ?_
      refine zag Tk Tryz.func13 ?_
      refine g_go Tk Tryz.func13 ?_
      have hev3:ev.length=3:=by rw[← hev];exact (zf3 uo hu.2 3 (by decide)).1
      have hcov:=fun O=>zu5 O CRi.1 ev (by omega) (by omega) hxe
      clear ih2 hol hev
      apply zch (P:=¬ (ur=false∧CRi.1.length<3)) (s6:={ σ:=[(1,.own 0 1 0 0),(2,.own 0 2 0 0),(3,.own 0 3 0 0),(8,ii i),(10,.own 0 10 0 0)],S:=[(1,.box (zen ⟨kt,ki,kx,kb⟩)),(2,.box zeI),(3,.box [.i (strI ⟨#[109]⟩),.i (za3 evs4),.i (zcg T),.osl 0 155,.osl 0 172,.i (.v (.slice none 0 0)),.i (.v (.slice none 0 0))]),(155,zcj CRi.1),(172,zcj CRi.2),(10,.box [.i (strI (za0 105 i)),.i (strI (za0 116 q)),ssD ev])]::O,n:=295 })
      · intro J
        refine zaC Tk Tryz.func13 rfl (fun d1=>?_) (fun d1=>?_)
        · have d1:ur=false:=by simpa using d1
          refine zai Tk Tryz.func13 rfl (fun d2=>?_) (fun d2=>?_)
          · have d2:CRi.1.length<3:=by have:(CRi.1.length:Int)<3:=of_decide_eq_true d2;omega
            rw[if_pos ⟨d1,d2⟩] at hsucc
            refine zaf Tk Tryz.func13 (by exact⟨by show (CRi.1.length+1) * 56≤140737488355328;omega,by show CRi.1.length+1≤9223372036854775807;omega⟩) ?_
            refine zae ?_
            refine ih (i+1) _ _ (by show i+1≤IC;omega) (by omega) ⟨rfl,rfl,rfl,hj1,trivial⟩ rfl ⟨rfl,rfl,rfl,?_,?_,trivial⟩ rfl rfl
            · show some (Ob.arr 107 3 (CRi.1.length+1) (CRi.1.map insI++[insI ⟨za0 105 i,za0 116 q,ev⟩]) true)=some (zcj (insN T.length ki (i+1)).1)
              rw[hsucc]
              simp[zcj]
            · show some (zcj CRi.2)=some (zcj (insN T.length ki (i+1)).2)
              rw[hsucc]
          · have d2:¬ CRi.1.length<3:=by have:¬ (CRi.1.length:Int)<3:=of_decide_eq_false d2;omega
            refine zax ?_
            exact zaI (J fun h=>d2 h.2) ⟨rfl,rfl,rfl,rfl,rfl,trivial⟩ rfl ⟨rfl,rfl,rfl,rfl,rfl,rfl,trivial⟩ rfl rfl
        · have d1:ur=true:=by simpa using d1
          refine gcF Tk Tryz.func13 rfl ?_
          refine zax ?_
          exact zaI (J fun h=>by rw[d1] at h;cases h.1) ⟨rfl,rfl,rfl,rfl,rfl,trivial⟩ rfl ⟨rfl,rfl,rfl,rfl,rfl,rfl,trivial⟩ rfl rfl
      intro hP
      rw[if_neg hP] at hsucc
      refine zag Tk Tryz.func13 ?_
      refine g_go Tk Tryz.func13 ?_
      refine zcm Tk Tryz.func13 rfl rfl rfl rfl (zbq (hcov []) (zfF _) (.osl (.i .nil)) rfl (show 161<295 by decide) rfl rfl) ?_
      generalize covB CRi.1 ev=cb at *
      refine zaC Tk Tryz.func13 rfl (fun d1=>?_) (fun d1=>?_)
      · have d1:cb=true:=d1
        refine zai Tk Tryz.func13 rfl (fun d2=>?_) (fun d2=>?_)
        · have d2:CRi.2.length<2:=by have:(CRi.2.length:Int)<2:=of_decide_eq_true d2;omega
          rw[if_pos ⟨d1,d2⟩] at hsucc
          refine zaf Tk Tryz.func13 (by exact⟨by show (CRi.2.length+1) * 56≤140737488355328;omega,by show CRi.2.length+1≤9223372036854775807;omega⟩) ?_
          refine zae ?_
          refine ih (i+1) _ _ (by show i+1≤IC;omega) (by omega) ⟨rfl,rfl,rfl,hj1,trivial⟩ rfl ⟨rfl,rfl,rfl,?_,?_,trivial⟩ rfl rfl
          · show some (zcj CRi.1)=some (zcj (insN T.length ki (i+1)).1)
            rw[hsucc]
          · show some (Ob.arr 107 3 (CRi.2.length+1) (CRi.2.map insI++[insI ⟨za0 105 i,za0 116 q,ev⟩]) true)=some (zcj (insN T.length ki (i+1)).2)
            rw[hsucc]
            simp[zcj]
        · have d2:¬ CRi.2.length<2:=by have:¬ (CRi.2.length:Int)<2:=of_decide_eq_false d2;omega
          rw[if_neg (fun h=>d2 h.2)] at hsucc
          refine zae ?_
          refine ih (i+1) _ _ (by show i+1≤IC;omega) (by omega) ⟨rfl,rfl,rfl,hj1,trivial⟩ rfl ⟨rfl,rfl,rfl,?_,?_,trivial⟩ rfl rfl
          · show some (zcj CRi.1)=some (zcj (insN T.length ki (i+1)).1)
            rw[hsucc]
          · show some (zcj CRi.2)=some (zcj (insN T.length ki (i+1)).2)
            rw[hsucc]
      · have d1:cb=false:=d1
        rw[if_neg (fun h=>by rw[d1] at h;cases h.1)] at hsucc
        refine gcF Tk Tryz.func13 rfl ?_
        refine zae ?_
        refine ih (i+1) _ _ (by show i+1≤IC;omega) (by omega) ⟨rfl,rfl,rfl,hj1,trivial⟩ rfl ⟨rfl,rfl,rfl,?_,?_,trivial⟩ rfl rfl
        · show some (zcj CRi.1)=some (zcj (insN T.length ki (i+1)).1)
          rw[hsucc]
        · show some (zcj CRi.2)=some (zcj (insN T.length ki (i+1)).2)
          rw[hsucc]
  intro _
  have hCl:=zf5 T.length ki IC
  rw[← hMI] at hCl
  clear hMI hIC hICe huse hil
  obtain⟨C,Q⟩:=CR
  simp only at hCl hR htpl
  refine zag Tk Tryz.func13 ?_
  refine g_go Tk Tryz.func13 ?_
  refine zai Tk Tryz.func13 rfl (fun z1=>?_) (fun z1=>?_)
  · have z1:C.length=0:=by simpa using z1
    rw[if_pos z1] at hR
    subst hR
    refine zaz Tk (r:=.agg [.i (strI ⟨#[109]⟩),.i (za3 evs4),.i (zcg T),.i (zaV C),.i (zaV Q),.i (.v (.slice none 0 0)),.i (.v (.slice none 0 0))]) rfl rfl rfl trivial rfl rfl ?_
    repeat' (first | refine zbE ?_ | refine zby ?_ | refine zco ?_ | refine CoDL.cons ?_ ?_ | exact CoDL.nil | exact zbb | refine zcp ?_ | refine CoLL.cons ?_ ?_ | exact CoLL.nil | refine CoL.cons ?_ ?_ | exact CoL.nil | exact CoI.refl _ | exact CoL.refl _ | exact CoLL.refl _ | exact CoDL.refl _ | exact CoD.refl _)
  have z1:¬ C.length=0:=by simpa using z1
  rw[if_neg z1] at hR
  have hCb:0<C.length∧C.length≤3:=by omega
  apply zch (P:=True) (s6:={ σ:=[(1,.own 0 1 0 0),(2,.own 0 2 0 0),(3,.own 0 3 0 0)],S:=[(1,.box (zen ⟨kt,ki,kx,kb⟩)),(2,.box zeI),(3,.box [.i (strI ⟨#[109]⟩),.i (za3 evs4),.i (zcg T),.i (zaV C),.i (zaV Q),.i (zeV (zeB T C kx (min kx.length 2))),.i (.v (.slice none 0 0))])]::O,n:=295 })
  · intro J
    refine g_wk (zay 3 256 91 2 (pre:=[.i (strI ⟨#[109]⟩),.i (za3 evs4),.i (zcg T),.i (zaV C),.i (zaV Q)]) (post:=[.i (.v (.slice none 0 0))]) rfl rfl rfl) ?_
    refine zae ?_
    refine zaj (fun i:Nat=>[(1,.own 0 1 0 0),(2,.own 0 2 0 0),(3,.own 0 3 0 0),(14,ii i)])
      (fun i=>[(1,.box (zen ⟨kt,ki,kx,kb⟩)),(2,.box zeI),(3,.box [.i (strI ⟨#[109]⟩),.i (za3 evs4),.i (zcg T),.i (zaV C),.i (zaV Q),.osl 0 256,.i (.v (.slice none 0 0))]),(256,zfV (zeB T C kx i))]) (fun _=>O) 295
      (fun i=>i≤min kx.length 2) (fun i=>min kx.length 2 - i) 0 (Nat.zero_le _) ⟨rfl,rfl,rfl,rfl,trivial⟩ rfl ⟨rfl,rfl,rfl,rfl,trivial⟩ rfl rfl ?_
    intro i hi ih
    have hi:i≤min kx.length 2:=hi
    have hend:i=min kx.length 2→zeB T C kx i=zeB T C kx (min kx.length 2):=fun e=>by rw[e]
    have hlen:=zsh T C kx i
    refine zag Tk Tryz.func13 ?_
    refine zaC Tk Tryz.func13 rfl (fun c1=>?_) (fun c1=>?_)
    rotate_left
    · have c1:kx.length≤i:=by simpa using c1
      rw[hend (by omega)]
      refine gcF Tk Tryz.func13 rfl ?_
      refine zax ?_
      refine zas (zap 256 rfl rfl) ?_
      refine zas (zaZ rfl) ?_
      exact zaI (J trivial) ⟨rfl,rfl,rfl,trivial⟩ rfl ⟨rfl,rfl,rfl,trivial⟩ rfl rfl
    have c1:i<kx.length:=by simpa using c1
    refine zai Tk Tryz.func13 rfl (fun c2=>?_) (fun c2=>?_)
    rotate_left
    · have c2:¬ i<2:=by have:¬ (i:Int)<2:=of_decide_eq_false c2;omega
      rw[hend (by omega)]
      refine zax ?_
      refine zas (zap 256 rfl rfl) ?_
      refine zas (zaZ rfl) ?_
      exact zaI (J trivial) ⟨rfl,rfl,rfl,trivial⟩ rfl ⟨rfl,rfl,rfl,trivial⟩ rfl rfl
    have c2:i<2:=by have:(i:Int)<2:=of_decide_eq_true c2;omega
    clear J hend
    have gs:(kx.map whrI)[(i:Int).toNat]? = some (whrI kx[i]):=zam (f:=whrI) c1
    have hwo:=he kx[i] (List.getElem_mem c1)
    have hsucc:=zpI (T:=T) (C:=C) c1
    unfold zuZ at hsucc
    have hit:=hio i (by omega)
    have hsi:=hsz i (by omega)
    have hj1:ii (IntKind.i64.wrap ((i:Int)+1))=ii ((i+1:Nat):Int):=congrArg ii (zaB (n:=1000001) (by omega) (by decide))
    generalize kx[i]=w at *
    obtain⟨⟨wc,wl⟩,⟨vc,vl⟩⟩:=w
    simp only at hwo hsucc
    obtain⟨x,t,s,g1,g2,g3,g4,g5,g6,g7⟩:=zsi hTloc htpl hCb hwo.1
    obtain⟨x',t',s',f1,f2,f3,f4,f5,f6,f7⟩:=zsi hTloc htpl hCb hwo.2
    rw[g7 []] at hsucc
    simp only[Bool.false_eq_true,if_false,List.nil_append] at hsucc
    rw[f7] at hsucc
    simp only at hsucc
    have hto:=fun O=>zeN O ⟨⟨#[109]⟩,evs4,T,C,Q,[],[]⟩ 0 256 x t (by show T.length≤1000000;omega) g3
    have hto':=fun O=>zeN O ⟨⟨#[109]⟩,evs4,T,C,Q,[],[]⟩ 0 256 x' t' (by show T.length≤1000000;omega) f3
    clear g7 f7 g3 f3
    generalize zeB T C kx i=A at *
    obtain⟨xn,xt,xe⟩:=x
    obtain⟨yn,yt,ye⟩:=x'
    obtain⟨tn,tl,te,⟨tal,tlo,tini,tmk,tvr,tmo⟩⟩:=t
    obtain⟨un,ul,ue,⟨ual,ulo,uini,umk,uvr,umo⟩⟩:=t'
    simp only at hsucc g4 g5 g6 f4 f5 f6
    refine zbr Tk Tryz.func13 hE (hit _) rfl rfl rfl rfl rfl rfl ?_
    refine zaf Tk Tryz.func13 (by show 1+(zcs (i:Int)).size≤9223372036854775807;omega) ?_
    refine g_wk (zay 15 250 103 2 (pre:=[.i (strI (za0 120 i))]) (post:=[]) rfl rfl rfl) ?_
    refine zae ?_
    refine zas (zcW (l:=[(1,.own 0 1 0 0),(2,.own 0 2 0 0),(3,.own 0 3 0 0),(14,ii i),(15,.own 0 15 0 0),(16,ii 0)]) (Hv:=[(1,.box (zen ⟨kt,ki,kx,kb⟩)),(2,.box zeI),(3,.box [.i (strI ⟨#[109]⟩),.i (za3 evs4),.i (zcg T),.i (zaV C),.i (zaV Q),.osl 0 256,.i (.v (.slice none 0 0))]),(256,zfV A),(15,.box [.i (strI (za0 120 i)),.osl 0 250]),(250,zpo [])]) ⟨rfl,rfl,rfl,rfl,rfl,rfl,trivial⟩ rfl ⟨rfl,rfl,rfl,rfl,rfl,rfl,trivial⟩ rfl rfl) ?_
    refine zag Tk Tryz.func13 ?_
    refine gcT Tk Tryz.func13 rfl ?_
    refine zaf Tk Tryz.func13 (by exact⟨by omega,by show (i:Int)<(kx.length:Int);omega⟩) ?_
    refine zaf Tk Tryz.func13 (by decide) ?_
    refine zaq Tk Tryz.func13 (gs) ?_
    refine zaw Tk Tryz.func13 zaG rfl ?_
    refine zar Tk (by show (C.length:Int)≠0;omega) ?_
    refine zar Tk (by exact g2) ?_
    refine zaF Tk (g1) ?_
    refine zcY Tk rfl rfl rfl ?_
    refine zaH Tk Tryz.func13 (by kernel_rfl) ?_
    refine zaw Tk Tryz.func13 zaG rfl ?_
    refine skF Tk ?_
    refine zaH Tk Tryz.func13 (by kernel_rfl) ?_
    refine gcF Tk Tryz.func13 rfl ?_
    refine zak Tk Tryz.func13 (hto _) rfl rfl rfl rfl rfl ?_
    refine zaw Tk Tryz.func13 zaG rfl ?_
    refine zar Tk (by show (tl.length:Int)≠0;omega) ?_
    refine zar Tk (by exact g6) ?_
    refine zaF Tk (g5) ?_
    refine zfa Tk Tryz.func13 ([17,18,19]) (by kernel_rfl) (by kernel_rfl) ?_
    refine zaf Tk Tryz.func13 (by decide) ?_
    refine zae ?_
    refine zas (zcW (l:=[(1,.own 0 1 0 0),(2,.own 0 2 0 0),(3,.own 0 3 0 0),(14,ii i),(15,.own 0 15 0 0),(16,ii 1)]) (Hv:=[(1,.box (zen ⟨kt,ki,kx,kb⟩)),(2,.box zeI),(3,.box [.i (strI ⟨#[109]⟩),.i (za3 evs4),.i (zcg T),.i (zaV C),.i (zaV Q),.osl 0 256,.i (.v (.slice none 0 0))]),(256,zfV A),(15,.box [.i (strI (za0 120 i)),.osl 0 250]),(250,zpo [(xn,s)])]) ⟨rfl,rfl,rfl,rfl,rfl,rfl,trivial⟩ rfl ⟨rfl,rfl,rfl,rfl,rfl,rfl,trivial⟩ rfl rfl) ?_
    refine zag Tk Tryz.func13 ?_
    refine gcT Tk Tryz.func13 rfl ?_
    refine zaf Tk Tryz.func13 (by exact⟨by omega,by show (i:Int)<(kx.length:Int);omega⟩) ?_
    refine zaf Tk Tryz.func13 (by decide) ?_
    refine zaq Tk Tryz.func13 (gs) ?_
    refine zaw Tk Tryz.func13 zaG rfl ?_
    refine zar Tk (by show (C.length:Int)≠0;omega) ?_
    refine zar Tk (by exact f2) ?_
    refine zaF Tk (f1) ?_
    refine zcY Tk rfl rfl rfl ?_
    refine zaH Tk Tryz.func13 (by kernel_rfl) ?_
    refine zaw Tk Tryz.func13 zaG rfl ?_
    refine skT Tk ?_
    refine zar Tk (by exact⟨Int.le_refl _,Int.zero_lt_one⟩) ?_
    refine zaF Tk (rfl) ?_
    refine zaH Tk Tryz.func13 (by kernel_rfl) ?_
    refine zai Tk Tryz.func13 rfl (fun e1=>?_) (fun e1=>?_)
    · have e1:(xn.toList==yn.toList)=true:=e1
      rw[za7] at e1
      rw[if_pos e1] at hsucc
      refine zae ?_
      refine zas (zcW (l:=[(1,.own 0 1 0 0),(2,.own 0 2 0 0),(3,.own 0 3 0 0),(14,ii i),(15,.own 0 15 0 0),(16,ii 2)]) (Hv:=[(1,.box (zen ⟨kt,ki,kx,kb⟩)),(2,.box zeI),(3,.box [.i (strI ⟨#[109]⟩),.i (za3 evs4),.i (zcg T),.i (zaV C),.i (zaV Q),.osl 0 256,.i (.v (.slice none 0 0))]),(256,zfV A),(15,.box [.i (strI (za0 120 i)),.osl 0 250]),(250,zpo [(xn,s)])]) ⟨rfl,rfl,rfl,rfl,rfl,rfl,trivial⟩ rfl ⟨rfl,rfl,rfl,rfl,rfl,rfl,trivial⟩ rfl rfl) ?_
      refine zag Tk Tryz.func13 ?_
      refine gcF Tk Tryz.func13 rfl ?_
      refine zax ?_
      refine zas (zap 250 rfl rfl) ?_
      refine zas (zaZ rfl) ?_
      refine zag Tk Tryz.func13 ?_
      refine g_go Tk Tryz.func13 ?_
      refine zaf Tk Tryz.func13 (by exact⟨by show (A.length+1) * 40≤140737488355328;omega,by show A.length+1≤9223372036854775807;omega⟩) ?_
      refine zae ?_
      refine ih (i+1) _ _ (by show i+1≤_;omega) (by omega) ⟨rfl,rfl,rfl,hj1,trivial⟩ rfl ⟨rfl,rfl,rfl,?_,trivial⟩ rfl rfl
      show some (Ob.arr 91 2 (A.length+1) (A.map nexI++[nexI ⟨za0 120 i,[(xn,s)]⟩]) true)=some (zfV (zeB T C kx (i+1)))
      rw[hsucc]
      simp[zfV]
    · have e1:(xn.toList==yn.toList)=false:=e1
      rw[za7] at e1
      rw[if_neg (zgF e1)] at hsucc
      refine zak Tk Tryz.func13 (hto' _) rfl rfl rfl rfl rfl ?_
      refine zaw Tk Tryz.func13 zaG rfl ?_
      refine zar Tk (by show (ul.length:Int)≠0;omega) ?_
      refine zar Tk (by exact f6) ?_
      refine zaF Tk (f5) ?_
      refine zfa Tk Tryz.func13 ([17,18,19]) (by kernel_rfl) (by kernel_rfl) ?_
      refine zaf Tk Tryz.func13 (by exact⟨by show (1+1) * 32≤140737488355328;decide,by show 1+1≤9223372036854775807;decide⟩) ?_
      refine zae ?_
      refine zas (zcW (l:=[(1,.own 0 1 0 0),(2,.own 0 2 0 0),(3,.own 0 3 0 0),(14,ii i),(15,.own 0 15 0 0),(16,ii 2)]) (Hv:=[(1,.box (zen ⟨kt,ki,kx,kb⟩)),(2,.box zeI),(3,.box [.i (strI ⟨#[109]⟩),.i (za3 evs4),.i (zcg T),.i (zaV C),.i (zaV Q),.osl 0 256,.i (.v (.slice none 0 0))]),(256,zfV A),(15,.box [.i (strI (za0 120 i)),.osl 0 250]),(250,zpo [(xn,s),(yn,s')])]) ⟨rfl,rfl,rfl,rfl,rfl,rfl,trivial⟩ rfl ⟨rfl,rfl,rfl,rfl,rfl,rfl,trivial⟩ rfl rfl) ?_
      refine zag Tk Tryz.func13 ?_
      refine gcF Tk Tryz.func13 rfl ?_
      refine zax ?_
      refine zas (zap 250 rfl rfl) ?_
      refine zas (zaZ rfl) ?_
      refine zag Tk Tryz.func13 ?_
      refine g_go Tk Tryz.func13 ?_
      refine zaf Tk Tryz.func13 (by exact⟨by show (A.length+1) * 40≤140737488355328;omega,by show A.length+1≤9223372036854775807;omega⟩) ?_
      refine zae ?_
      refine ih (i+1) _ _ (by show i+1≤_;omega) (by omega) ⟨rfl,rfl,rfl,hj1,trivial⟩ rfl ⟨rfl,rfl,rfl,?_,trivial⟩ rfl rfl
      show some (Ob.arr 91 2 (A.length+1) (A.map nexI++[nexI ⟨za0 120 i,[(xn,s),(yn,s')]⟩]) true)=some (zfV (zeB T C kx (i+1)))
      rw[hsucc]
      simp[zfV]
  intro _
  clear hTloc htpl he hel hsz hio
  generalize zeB T C kx (min kx.length 2)=X at *
  refine zag Tk Tryz.func13 ?_
  refine g_go Tk Tryz.func13 ?_
  refine zai Tk Tryz.func13 rfl (fun b1=>?_) (fun b1=>?_)
  rotate_left
  · have b1:¬ kb>0:=by simpa using b1
    rw[if_neg b1] at hR
    subst hR
    refine zax ?_
    refine zag Tk Tryz.func13 ?_
    refine g_go Tk Tryz.func13 ?_
    refine zaz Tk (r:=.agg [.i (strI ⟨#[109]⟩),.i (za3 evs4),.i (zcg T),.i (zaV C),.i (zaV Q),.i (zeV X),.i (.v (.slice none 0 0))]) rfl rfl rfl trivial rfl rfl ?_
    repeat' (first | refine zbE ?_ | refine zby ?_ | refine zco ?_ | refine CoDL.cons ?_ ?_ | exact CoDL.nil | exact zbb | refine zcp ?_ | refine CoLL.cons ?_ ?_ | exact CoLL.nil | refine CoL.cons ?_ ?_ | exact CoL.nil | exact CoI.refl _ | exact CoL.refl _ | exact CoLL.refl _ | exact CoDL.refl _ | exact CoD.refl _)
  have b1:kb>0:=by simpa using b1
  rw[if_pos b1] at hR
  unfold zyq at hR
  have hkb:IntKind.i64.wrap (kb.tmod 5)=kb % 5:=by rw[Int.tmod_eq_emod_of_nonneg (by omega),w64 (by omega) (by omega)]
  have hn1:IntKind.i64.wrap ((C.length:Int) - 1)=(C.length:Int) - 1:=w64 (by omega) (by omega)
  refine zaf Tk Tryz.func13 (by decide) ?_
  refine g_wk (zay 20 286 93 2 (pre:=[.i (strI ⟨#[99]⟩)]) (post:=[ii (IntKind.i64.wrap (kb.tmod 5))]) rfl rfl rfl) ?_
  refine zae ?_
  refine zaj (fun r:Nat=>[(1,.own 0 1 0 0),(2,.own 0 2 0 0),(3,.own 0 3 0 0),(20,.own 0 20 0 0),(21,ii ((C.length:Int) - 1 - r))])
    (fun r=>[(1,.box (zen ⟨kt,ki,kx,kb⟩)),(2,.box zeI),(3,.box [.i (strI ⟨#[109]⟩),.i (za3 evs4),.i (zcg T),.i (zaV C),.i (zaV Q),.i (zeV X),.i (.v (.slice none 0 0))]),(20,.box [.i (strI ⟨#[99]⟩),.osl 0 286,ii (IntKind.i64.wrap (kb.tmod 5))]),(286,zwP ((zcI C).take r))]) (fun _=>O) 295
    (fun r=>r≤C.length) (fun r=>C.length - r) 0 (Nat.zero_le _) ⟨rfl,rfl,rfl,rfl,by rw[show (C.length:Int) - 1 - ((0:Nat):Int)=(C.length:Int) - 1 by omega];exact congrArg ii hn1,trivial⟩ rfl ⟨rfl,rfl,rfl,rfl,rfl,trivial⟩ rfl rfl ?_
  intro r hr ih
  have hr:r≤C.length:=hr
  refine zag Tk Tryz.func13 ?_
  refine zai Tk Tryz.func13 rfl (fun c1=>?_) (fun c1=>?_)
  · have c1:(C.length:Int) - 1 - r ≥ 0:=of_decide_eq_true c1
    have c1:r<C.length:=by omega
    have gs:(C.map insI)[((C.length:Int) - 1 - r).toNat]? = some (insI C[C.length - 1 - r]):=by
      rw[show ((C.length:Int) - 1 - r)=((C.length - 1 - r:Nat):Int) by omega]
      exact zam (f:=insI) (by omega)
    have ht:=zkA c1
    have hll:((zcI C).take r).length≤3:=by
      rw[List.length_take,zdQ]
      omega
    have hw1:IntKind.i64.wrap (1+((C.length:Int) - 1 - r))=1+((C.length - 1 - r:Nat):Int):=by rw[w64 (by omega) (by omega)];omega
    have hw2:ii (IntKind.i64.wrap ((C.length:Int) - 1 - r - 1))=ii ((C.length:Int) - 1 - ((r+1:Nat):Int)):=by
      rw[w64 (by omega) (by omega),show (C.length:Int) - 1 - r - 1=(C.length:Int) - 1 - ((r+1:Nat):Int) by omega]
    generalize (zcI C).take r=A at *
    generalize C[C.length - 1 - r]=x at *
    obtain⟨xn,xt,xe⟩:=x
    simp only at ht
    refine zaw Tk Tryz.func13 zaG rfl ?_
    refine zar Tk (by exact⟨by omega,by show (C.length:Int) - 1 - r<(C.length:Int);omega⟩) ?_
    refine zaF Tk (gs) ?_
    refine zfa Tk Tryz.func13 ([12,13,14]) (by kernel_rfl) (by kernel_rfl) ?_
    refine zaf Tk Tryz.func13 (by exact⟨by show (A.length+1) * 24≤140737488355328;omega,by show A.length+1≤9223372036854775807;omega⟩) ?_
    refine zae ?_
    refine ih (r+1) _ _ c1 (by omega) ⟨rfl,rfl,rfl,rfl,hw2,trivial⟩ rfl ⟨rfl,rfl,rfl,rfl,?_,trivial⟩ rfl rfl
    show some (Ob.arr 93 2 (A.length+1) (A.map ntmI++[ntmI (xn,IntKind.i64.wrap (1+((C.length:Int) - 1 - r)))]) true)=some (zwP ((zcI C).take (r+1)))
    rw[ht,hw1]
    simp[zwP]
  · have c1:¬ (C.length:Int) - 1 - r ≥ 0:=of_decide_eq_false c1
    have hrC:(zcI C).take r=zcI C:=List.take_of_length_le (by rw[zdQ];omega)
    rw[hrC]
    refine zax ?_
    refine zas (zap 286 rfl rfl) ?_
    refine zas (zaZ rfl) ?_
    refine zas (zay 3 292 96 3 (pre:=[.i (strI ⟨#[109]⟩),.i (za3 evs4),.i (zcg T),.i (zaV C),.i (zaV Q),.i (zeV X)]) (post:=[]) rfl rfl rfl) ?_
    refine zag Tk Tryz.func13 ?_
    refine g_go Tk Tryz.func13 ?_
    refine zaf Tk Tryz.func13 (by decide) ?_
    refine zax ?_
    refine zas (zap 292 rfl rfl) ?_
    refine zas (zaZ rfl) ?_
    refine zag Tk Tryz.func13 ?_
    refine g_go Tk Tryz.func13 ?_
    refine zah Tk (r:=mdlD ⟨⟨#[109]⟩,evs4,T,C,Q,X,[⟨⟨#[99]⟩,zcI C,IntKind.i64.wrap (kb.tmod 5)⟩]⟩) rfl rfl rfl trivial rfl rfl ?_
    rw[hkb]
    exact congrArg mdlD hR
mutual
def esz:Ex→Nat
 | .mk _ _ _ args=>1+eszs args
def eszs:List Ex→Nat
 | []=>0
 | e::r=>esz e+eszs r
end
mutual
def edep:Ex→Nat
 | .mk _ _ _ args=>1+zld args
def zld:List Ex→Nat
 | []=>0
 | e::r=>max (edep e) (zld r)
end
mutual
theorem znl:∀ (x:Ex) (n:Int) (lvl c:Nat),wfE n x→c+esz x≤64→lvl+edep x≤9→zcn x n lvl c=(0,((c+esz x:Nat):Int))
 | .mk op v ix args,n,lvl,c,hw,hc,hl=>by
  simp only[esz] at hc ⊢
  simp only[edep] at hl
  simp only[wfE] at hw
  simp only[zcn]
  rw[if_neg (by omega),if_neg (by rw[hw.1];simp)]
  have:=zj2 args n (lvl+1) (c+1) hw.2 (by omega) (by omega)
  rw[show ((lvl:Int)+1)=((lvl+1:Nat):Int) by omega,show ((c:Int)+1)=((c+1:Nat):Int) by omega,this]
  rw[show c+(1+eszs args)=c+1+eszs args by omega]
theorem zj2:∀ (l:List Ex) (n:Int) (lvl c:Nat),wfEs n l→c+eszs l≤64→lvl+zld l≤9→zcO l n lvl c=(0,((c+eszs l:Nat):Int))
 | [],n,lvl,c,_,_,_=>rfl
 | e::r,n,lvl,c,hw,hc,hl=>by
  simp only[eszs] at hc ⊢
  simp only[zld] at hl
  simp only[wfEs] at hw
  simp only[zcO]
  have h1:=znl e n lvl c hw.1 (by omega) (by omega)
  rw[h1]
  simp only[ne_eq,not_true_eq_false,if_false]
  rw[zj2 r n lvl (c+esz e) hw.2 (by omega) (by omega)]
  rw[show c+(esz e+eszs r)=c+esz e+eszs r by omega]
end
mutual
theorem zsm:∀ (x:Ex) (n:Int),wfE n x→exOk x
 | .mk op v ix args,n,h=>by
  simp only[wfE] at h
  obtain⟨_,h2,_⟩:=zbZ h.1
  have:=zga op
  exact⟨by simp only[zao];omega,znt args n h.2⟩
theorem znt:∀ (l:List Ex) (n:Int),wfEs n l→zkb l
 | [],_,_=>trivial
 | e::r,n,h=>by
  simp only[wfEs] at h
  exact⟨zsm e n h.1,znt r n h.2⟩
end
theorem zmG {x:Ex} {n k:Int} (hn:0≤n) (hn2:n≤16) (hw:wfE n x) (hs:esz x≤64) (hd:edep x≤8) (hk:zbe x=k) (hk0:k≠0):zbk x n k=0:=by
 have h1:=znl x n 1 0 hw (by omega) (by omega)
 have h2:zb3 x n=(k,0):=by
  unfold zb3
  have h1':zcn x n 1 0=(0,((0+esz x:Nat):Int)):=h1
  rw[if_neg (by omega),h1']
  rw[if_neg (by simp),if_neg (by rw[hk];exact hk0),hk]
 unfold zbk
 rw[h2,if_neg (by simp)]
theorem fh2 {op n:Int} (h:op=2∨op=3∨op=4∨op=6∨op=7∨op=8∨op=9∨op=11∨op=12):zaW op 0 0 2 n=0:=by
 rcases h with rfl | rfl | rfl | rfl | rfl | rfl | rfl | rfl | rfl <;> rfl
theorem fh1 {op n:Int} (h:op=5∨op=10):zaW op 0 0 1 n=0:=by
 rcases h with rfl | rfl <;> rfl
theorem fh3 {n:Int}:zaW 13 0 0 3 n=0:=rfl
structure grown (vars:Int) (lv:Nat) (t:Bool) (k:Nat) (r:Ex × List Int × Nat):Prop where
 wf:wfE vars r.1
 kind:zbe r.1=tyOf t
 dep:edep r.1≤lv+2
 cnt:k<r.2.2
 sz:esz r.1+3 * min k 12≤3 * min r.2.2 12+(if 12≤k then 3 else if r.2.2≤12 then 0 else 6 * lv+3)
theorem zig (t:Bool):tyOf t≠0:=by cases t <;> decide
theorem zyH {op:Int} {a:Ex} {t:Bool} {ka:Int} (ha:zbe a=ka) (h0:ka≠0) (hk:zbQ op [ka]=tyOf t):zbe (.mk op 0 0 [a])=tyOf t:=by
 simp only[zbe,za5,ha,if_neg h0,Option.map_some]
 exact hk
theorem zyG {op:Int} {a b:Ex} {t:Bool} {ka:Int} (ha:zbe a=ka) (hb:zbe b=ka) (h0:ka≠0) (hk:zbQ op [ka,ka]=tyOf t):zbe (.mk op 0 0 [a,b])=tyOf t:=by
 simp only[zbe,za5,ha,hb,if_neg h0,Option.map_some]
 exact hk
theorem zyF {a b c:Ex} {t:Bool} (ha:zbe a=2) (hb:zbe b=tyOf t) (hc:zbe c=tyOf t):zbe (.mk 13 0 0 [a,b,c])=tyOf t:=by
 simp only[zbe,za5,ha,hb,hc,if_neg (zig t),Option.map_some]
 cases t <;> rfl
theorem zd3 {vars b:Int} (hv:0≤vars) (hb:bytG b):wfE vars (zfW vars b)∧zbe (zfW vars b)=1∧edep (zfW vars b)=1∧esz (zfW vars b)=1:=by
 have:=hb.h0
 have:=hb.h1
 unfold zfW
 split
 ·rename_i h
  have h1:=Int.emod_nonneg (b / 8) (show vars≠0 by omega)
  have h2:=Int.emod_lt_of_pos (b / 8) h.2
  refine⟨⟨?_,trivial⟩,rfl,rfl,rfl⟩
  show zaW 1 0 (b / 8 % vars) 0 vars=0
  unfold zaW
  rw[if_neg (by decide),if_neg (by decide),if_neg (by simp),if_neg (by omega)]
 ·refine⟨⟨?_,trivial⟩,rfl,rfl,rfl⟩
  show zaW 0 (b / 8 - 8) 0 0 vars=0
  unfold zaW
  rw[if_neg (by decide),if_neg (by decide),if_neg (by simp),if_neg (by omega)]
theorem zkz {vars:Int} (t:Bool):wfE vars (zfC t)∧zbe (zfC t)=2∧edep (zfC t)=2∧esz (zfC t)=3:=by
 cases t
 ·exact⟨⟨rfl,⟨rfl,trivial⟩,⟨rfl,trivial⟩,trivial⟩,rfl,rfl,rfl⟩
 ·exact⟨⟨rfl,⟨rfl,trivial⟩,⟨rfl,trivial⟩,trivial⟩,rfl,rfl,rfl⟩
theorem zjY {vars:Int} {lv:Nat} {bs:List Int} {k:Nat} (h:12≤k):zal vars lv true bs k=(zfW vars (b0 bs),bs.tail,k+1):=by
 cases lv with
 | zero=>simp only[zal]
 | succ lv=>simp only[zal];rw[if_pos (by omega)]
theorem zuO {vars:Int} (hv:0≤vars):∀ (lv:Nat) (t:Bool) (bs:List Int) (k:Nat),zcq bs→grown vars lv t k (zal vars lv t bs k):=by
 intro lv
 induction lv with
 | zero=>
  intro t bs k hb
  have hby:bytG (b0 bs):=⟨(zff hb).1,(zff hb).2⟩
  cases t with
  | true=>
   obtain⟨a,b,c,d⟩:=zd3 hv hby
   simp only[zal]
   exact⟨a,b,by simp only;omega,by simp only;omega,by simp only;split <;> (try split) <;> omega⟩
  | false=>
   obtain⟨a,b,c,d⟩:=zkz (vars:=vars) (decide (b0 bs % 2=0))
   simp only[zal]
   exact⟨a,b,by simp only;omega,by simp only;omega,by simp only;split <;> (try split) <;> omega⟩
 | succ lv ih=>
  intro t bs k hb
  have hby:bytG (b0 bs):=⟨(zff hb).1,(zff hb).2⟩
  have hbt:=zcd hb
  have ok:=ziO vars lv
  have q3:b0 bs / 8 % 3=0∨b0 bs / 8 % 3=1∨b0 bs / 8 % 3=2:=by omega
  have q4:b0 bs / 8 % 4=0∨b0 bs / 8 % 4=1∨b0 bs / 8 % 4=2∨b0 bs / 8 % 4=3:=by omega
  have q2:b0 bs / 8 % 2=0∨b0 bs / 8 % 2=1:=by omega
  have one:∀ (t2:Bool) (op:Int),op=5∨op=10→k<12→zbQ op [tyOf t2]=tyOf t→grown vars (lv+1) t k (.mk op 0 0 [(zal vars lv t2 bs.tail (k+1)).1],(zal vars lv t2 bs.tail (k+1)).2):=by
   intro t2 op hop hk hkind
   have h1:=ih t2 bs.tail (k+1) hbt
   have hsz:=h1.sz
   have hcn:=h1.cnt
   have hdp:=h1.dep
   refine⟨⟨fh1 hop,h1.wf,trivial⟩,zyH h1.kind (zig _) hkind,?_,by simp only;omega,?_⟩
   ·simp only[edep,zld];omega
   ·simp only[esz,eszs]
    split at hsz <;> (try split at hsz) <;> split <;> (try split) <;> omega
  have two:∀ (t2:Bool) (op:Int),(op=2∨op=3∨op=4∨op=6∨op=7∨op=8∨op=9∨op=11∨op=12)→(12≤k→t2=true)→zbQ op [tyOf t2,tyOf t2]=tyOf t→grown vars (lv+1) t k (.mk op 0 0 [(zal vars lv t2 bs.tail (k+1)).1,(zal vars lv t2 (zal vars lv t2 bs.tail (k+1)).2.1 (zal vars lv t2 bs.tail (k+1)).2.2).1],(zal vars lv t2 (zal vars lv t2 bs.tail (k+1)).2.1 (zal vars lv t2 bs.tail (k+1)).2.2).2):=by
   intro t2 op hop hk hkind
   have h1:=ih t2 bs.tail (k+1) hbt
   have o1:=ok t2 bs.tail (k+1) hbt
   have l1:12≤k→esz (zal vars lv t2 bs.tail (k+1)).1=1:=fun h=>by
    rw[hk h,zjY (by omega)]
    exact (zd3 hv ⟨(zff hbt).1,(zff hbt).2⟩).2.2.2
   generalize zal vars lv t2 bs.tail (k+1)=A at *
   have hcn:=h1.cnt
   have h2:=ih t2 A.2.1 A.2.2 o1.b
   have l2:12≤k→esz (zal vars lv t2 A.2.1 A.2.2).1=1:=fun h=>by
    rw[hk h,zjY (by omega)]
    exact (zd3 hv ⟨(zff o1.b).1,(zff o1.b).2⟩).2.2.2
   generalize zal vars lv t2 A.2.1 A.2.2=B at *
   have hsz:=h1.sz
   have hdp:=h1.dep
   have hsz2:=h2.sz
   have hcn2:=h2.cnt
   have hdp2:=h2.dep
   refine⟨⟨fh2 hop,h1.wf,h2.wf,trivial⟩,zyG h1.kind h2.kind (zig _) hkind,?_,by simp only;omega,?_⟩
   ·simp only[edep,zld];omega
   ·simp only[esz,eszs]
    by_cases hk12:12≤k
    ·rw[l1 hk12,l2 hk12,if_pos hk12]
     omega
    ·rw[if_neg hk12]
     split at hsz <;> (try split at hsz) <;> split at hsz2 <;> (try split at hsz2) <;> split <;> omega
  have three:∀ (t2:Bool),t2=t→k<12→grown vars (lv+1) t k (.mk 13 0 0 [(zal vars lv false bs.tail (k+1)).1,(zal vars lv t2 (zal vars lv false bs.tail (k+1)).2.1 (zal vars lv false bs.tail (k+1)).2.2).1,
    (zal vars lv t2 (zal vars lv t2 (zal vars lv false bs.tail (k+1)).2.1 (zal vars lv false bs.tail (k+1)).2.2).2.1 (zal vars lv t2 (zal vars lv false bs.tail (k+1)).2.1 (zal vars lv false bs.tail (k+1)).2.2).2.2).1],
    (zal vars lv t2 (zal vars lv t2 (zal vars lv false bs.tail (k+1)).2.1 (zal vars lv false bs.tail (k+1)).2.2).2.1 (zal vars lv t2 (zal vars lv false bs.tail (k+1)).2.1 (zal vars lv false bs.tail (k+1)).2.2).2.2).2):=by
   intro t2 e hk12
   subst e
   have h1:=ih false bs.tail (k+1) hbt
   have o1:=ok false bs.tail (k+1) hbt
   generalize zal vars lv false bs.tail (k+1)=A at *
   have h2:=ih t2 A.2.1 A.2.2 o1.b
   have o2:=ok t2 A.2.1 A.2.2 o1.b
   generalize zal vars lv t2 A.2.1 A.2.2=B at *
   have h3:=ih t2 B.2.1 B.2.2 o2.b
   generalize zal vars lv t2 B.2.1 B.2.2=C at *
   have hsz:=h1.sz
   have hcn:=h1.cnt
   have hdp:=h1.dep
   have hsz2:=h2.sz
   have hcn2:=h2.cnt
   have hdp2:=h2.dep
   have hsz3:=h3.sz
   have hcn3:=h3.cnt
   have hdp3:=h3.dep
   refine⟨⟨fh3,h1.wf,h2.wf,h3.wf,trivial⟩,zyF h1.kind h2.kind h3.kind,?_,by simp only;omega,?_⟩
   ·simp only[edep,zld];omega
   ·simp only[esz,eszs]
    rw[if_neg (by omega)]
    split at hsz <;> (try split at hsz) <;> split at hsz2 <;> (try split at hsz2) <;> split at hsz3 <;> (try split at hsz3) <;> split <;> omega
  cases t with
  | true=>
   simp only[zal]
   split
   ·rename_i h
    obtain⟨a,b,c,d⟩:=zd3 hv hby
    exact⟨a,b,by simp only;omega,by simp only;omega,by simp only;split <;> (try split) <;> omega⟩
   ·rename_i h
    split
    ·exact one true 5 (.inl rfl) (by omega) rfl
    split
    ·exact three true rfl (by omega)
    ·refine two true _ (by omega) (fun _=>rfl) ?_
     rcases q3 with q | q | q <;> rw[q] <;> rfl
  | false=>
   simp only[zal]
   split
   ·refine two true _ (by omega) (fun _=>rfl) ?_
    rcases q4 with q | q | q | q <;> rw[q] <;> rfl
   ·rename_i h
    split
    ·exact one false 10 (.inr rfl) (by omega) rfl
    split
    ·exact three false rfl (by omega)
    ·refine two false _ (by omega) (by omega) ?_
     rcases q2 with q | q <;> rw[q] <;> rfl
theorem zfp {vars:Int} (hv:0≤vars) (hv2:vars≤16) (t:Bool) {bs:List Int} (hb:zcq bs):zbk (zgX vars t bs) vars (tyOf t)=0∧exOk (zgX vars t bs):=by
 have h:=zuO hv 4 t (bs.take 60) 0 fun b hm=>hb b (List.mem_of_mem_take hm)
 have hs:=h.sz
 have hd:=h.dep
 unfold zgX
 refine⟨zmG hv hv2 h.wf ?_ (by omega) h.kind (zig t),zsm _ _ h.wf⟩
 rw[if_neg (by omega)] at hs
 split at hs <;> omega
theorem zfO {n:Int}:∀ {l:List Int} {p:Option Int},l.Pairwise (· < ·)→(∀ x∈l,0≤x∧x<n)→(∀ y,p=some y→∀ x∈l,y<x)→zaK n l p=0
 | [],_,_,_,_=>rfl
 | x::r,p,hs,hr,hp=>by
  simp only[zaK]
  have h1:=hr x (by simp)
  rw[if_neg (by omega),if_neg]
  ·rw[List.pairwise_cons] at hs
   refine zfO hs.2 (fun y hy=>hr y (by simp[hy])) (fun y e z hz=>?_)
   simp only[Option.some.injEq] at e
   subst e
   exact hs.1 z hz
  ·cases p with
   | none=>simp
   | some y=>
    have:=hp y rfl x (by simp)
    simp only[Option.any_some,decide_eq_true_eq]
    omega
theorem zuu (marks:Int) (L:Nat):zaK (L:Int) (mrks marks L) none=0:=by
 refine zfO ?_ (fun x hx=>?_) (by simp)
 ·unfold mrks
  rw[List.pairwise_map]
  exact (List.Pairwise.filter _ List.pairwise_lt_range).imp fun h=>by omega
 ·unfold mrks at hx
  simp only[List.mem_map,List.mem_filter,List.mem_range] at hx
  obtain⟨i,⟨h1,_⟩,rfl⟩:=hx
  omega
structure vrOk (v:Vr):Prop where
 lo:-4≤v.low
 hi:v.high≤7
 w:v.low≤v.high∧v.high≤v.low+3
 ini:v.low≤v.init∧v.init≤v.high
 nm:v.name.size=2
theorem zwu (i:Nat) {p:Int × Int} (hp:zfH p):vrOk (rngV i p):=by
 have h1:=Int.tmod_lt_of_pos p.1 (show (0:Int)<5 by decide)
 have h2:=Int.lt_tmod_of_pos p.1 (show (0:Int)<5 by decide)
 have h3:=Int.emod_nonneg (p.2 % 256 / 4) (show p.2 % 256 % 4+1≠0 by omega)
 have h4:=Int.emod_lt_of_pos (p.2 % 256 / 4) (show 0<p.2 % 256 % 4+1 by omega)
 refine⟨?_,?_,?_,?_,zhI i⟩ <;> simp only[rngV] <;> omega
theorem zmL {l:List (Int × Int)} (h:∀ p∈l,zfH p):∀ v∈zdn l,vrOk v:=by
 intro v hv
 simp only[zdn,List.mem_map,List.mem_range] at hv
 obtain⟨i,hi,rfl⟩:=hv
 have:l.getD i (0,0)=l[i]'(by omega):=by simp[show i<l.length by omega]
 rw[this]
 exact zwu i (h _ (List.getElem_mem _))
theorem zfy {ds:List Vr} {v:Vr} (hn:zaT v.name=true) (hd:ds.any (fun x=>x.name.toList==v.name.toList)=false) (h:vrOk v):checkVr ds v=none:=by
 have:=h.lo
 have:=h.hi
 have:=h.w
 have:=h.ini
 unfold checkVr
 rw[if_neg (by rw[hn];simp),if_neg (by rw[hd];simp),if_neg,if_neg (by omega),if_neg (by omega)]
 simp only[checkVr.large,Bool.or_eq_true,decide_eq_true_eq]
 omega
theorem ztZ {l:List (Int × Int)} (hl:l.length≤2) (h:∀ p∈l,zfH p):zbx (zdn l)=0:=by
 have hlen:(zdn l).length≤2:=by rw[zgt];omega
 unfold zbx
 rw[if_neg (by omega)]
 have hok:=zmL h
 have n0:zaT (zjF 0)=true:=by kernel_rfl
 have n1:zaT (zjF 1)=true:=by kernel_rfl
 have n2:((zjF 0).toList==(zjF 1).toList)=false:=by kernel_rfl
 match l,hl with
 | [],_=>rfl
 | [a],_=>
  have e:zdn [a]=[rngV 0 a]:=rfl
  rw[e] at hok ⊢
  simp only[zbd]
  rw[zfy n0 (by simp) (hok _ (by simp))]
 | [a,b],_=>
  have e:zdn [a,b]=[rngV 0 a,rngV 1 b]:=rfl
  rw[e] at hok ⊢
  simp only[zbd]
  rw[zfy n0 (by simp) (hok _ (by simp))]
  simp only
  rw[zfy n1 ?_ (hok _ (by simp))]
  simp only[List.take_succ_cons,List.take_zero,List.any_cons,List.any_nil,Bool.or_false]
  exact n2
def leMv (x y:Mv):Prop:=¬ (y.frm<x.frm∨(y.frm=x.frm∧y.ev<x.ev))
theorem zhO {x y z:Mv} (h:leMv x y) (h':leMv y z):leMv x z:=by unfold leMv at *;omega
theorem znj {x y:Mv}:gtMv x y=true ↔ ¬ leMv x y:=by
 unfold gtMv leMv
 rw[decide_eq_true_eq]
 omega
theorem zhF {l:List Mv} {y:Mv} (hs:l.Pairwise leMv):∀ n,n≤l.length→(∀ x∈l.drop n,leMv y x)→(∀ x∈l.take (posR l y n),leMv x y)∧∀ x∈l.drop (posR l y n),leMv y x
 | 0,_,h=>⟨by simp[posR],h⟩
 | n+1,hn,h=>by
  simp only[posR]
  rw[List.getElem?_eq_getElem (by omega)]
  simp only
  cases hg:gtMv l[n] y with
  | true=>
   rw[cond_true]
   refine zhF hs n (by omega) fun x hx=>?_
   rw[List.drop_eq_getElem_cons (by omega)] at hx
   rcases List.mem_cons.1 hx with rfl | hx
   ·have:=znj.1 hg
    unfold leMv at *
    omega
   ·exact h x hx
  | false=>
   rw[cond_false]
   refine⟨fun x hx=>?_,h⟩
   have hle:leMv l[n] y:=by
    apply Classical.byContradiction
    intro hc
    rw[znj.2 hc] at hg;cases hg
   rw[List.take_add_one,List.getElem?_eq_getElem (by omega)] at hx
   simp only[List.mem_append,Option.toList,List.mem_singleton] at hx
   rcases hx with hx | rfl
   ·obtain⟨j,hj,rfl⟩:=List.mem_take_iff_getElem.1 hx
    have hjn:j<n:=by omega
    exact zhO (List.pairwise_iff_getElem.1 hs j n (by omega) (by omega) hjn) hle
   ·exact hle
theorem zpC {l:List Mv} {y:Mv} (hs:l.Pairwise leMv):(ziM l y).Pairwise leMv:=by
 have h:=zhF (y:=y) hs l.length (Nat.le_refl _) (by simp)
 unfold ziM
 rw[List.pairwise_append]
 refine⟨hs.sublist (List.take_sublist _ _),?_,?_⟩
 ·rw[List.pairwise_cons]
  exact⟨h.2,hs.sublist (List.drop_sublist _ _)⟩
 ·intro a ha b hb
  rcases List.mem_cons.1 hb with rfl | hb
  ·exact h.1 a ha
  ·exact zhO (h.1 a ha) (h.2 b hb)
theorem zxg {l:List Mv} {y x:Mv}:x∈ziM l y→x∈l∨x=y:=by
 unfold ziM
 intro h
 simp only[List.mem_append,List.mem_cons] at h
 rcases h with h | rfl | h
 ·exact .inl (List.mem_of_mem_take h)
 ·exact .inr rfl
 ·exact .inl (List.mem_of_mem_drop h)
theorem zm4 {P:Mv→Prop} {locs n:Int} {l:List Lin} (h:∀ x∈l,P (mvOf locs n x)):∀ i,i≤l.length→(mvsL locs n l i).Pairwise leMv∧∀ y∈mvsL locs n l i,P y
 | 0,_=>by simp[mvsL]
 | i+1,hi=>by
  obtain⟨h1,h2⟩:=zm4 h i (by omega)
  rw[zgH (by omega)]
  refine⟨zpC h1,fun y hy=>?_⟩
  rcases zxg hy with hy | rfl
  ·exact h2 y hy
  ·exact h _ (List.getElem_mem _)
structure mvGood (L n:Int) (x:Mv):Prop where
 frm:0≤x.frm∧x.frm<L
 to:0≤x.to∧x.to<L
 ev:x.ev=0∨x.ev=1∨x.ev=2
 g:zbk x.g n 2=0
 us:x.us=[]∨∃ u,x.us=[u]∧0≤u.v∧u.v<n∧zbk u.x n 1=0∧exOk u.x
 gok:exOk x.g
theorem zoV {n:Int} (h:0≤n) (h2:n≤16):zbk trueE n 2=0:=zmG h h2 ⟨rfl,⟨rfl,trivial⟩,⟨rfl,trivial⟩,trivial⟩ (by decide) (by decide) rfl (by decide)
theorem zv3:exOk trueE:=⟨by simp[zao],⟨Nat.zero_le _,trivial⟩,⟨Nat.zero_le _,trivial⟩,trivial⟩
theorem zrB {L n:Int} (hL:0<L) (hn:0≤n) (hn2:n≤16) {x:Lin} (hx:linOk x):mvGood L n (mvOf L n x):=by
 obtain⟨h0,h1,h2,hg,hgl,hu,hul⟩:=hx
 have hb0:=zff hu
 refine⟨⟨Int.emod_nonneg _ (by omega),Int.emod_lt_of_pos _ hL⟩,⟨Int.emod_nonneg _ (by omega),Int.emod_lt_of_pos _ hL⟩,?_,?_,?_,?_⟩
 ·show x.a1 % 3=0∨x.a1 % 3=1∨x.a1 % 3=2
  omega
 ·show zbk (zfJ n x.g) n 2=0
  unfold zfJ
  split
  ·exact (zfp hn hn2 false fun b hb=>hg b (List.mem_of_mem_take hb)).1
  ·exact zoV hn hn2
 ·show zjb n x.u=[]∨_
  unfold zjb
  split
  ·rename_i h
   have ht:=zfp hn hn2 true (bs:=(x.u.take 12).drop 1) fun b hb=>hu b (List.mem_of_mem_take (List.mem_of_mem_drop hb))
   have h2:0<n:=h.2
   exact .inr ⟨⟨b0 x.u % n,zgX n true ((x.u.take 12).drop 1)⟩,(by show zjb n x.u=_;unfold zjb;rw[if_pos h]),Int.emod_nonneg _ (by omega),Int.emod_lt_of_pos _ h2,ht.1,ht.2⟩
  ·exact .inl rfl
 ·show exOk (zfJ n x.g)
  unfold zfJ
  split
  ·exact (zfp hn hn2 false fun b hb=>hg b (List.mem_of_mem_take hb)).2
  ·exact zv3
structure made (m:Ext):Prop where
 al:m.alpha=[0,1,2]
 lo:1≤m.locs∧m.locs≤4
 ini:m.init=0
 vl:m.vars.length≤2
 v:∀ v∈m.vars,vrOk v
 ml:m.moves.length≤8
 mv:∀ x∈m.moves,mvGood m.locs m.vars.length x
 sorted:m.moves.Pairwise leMv
 ve:zbx m.vars=0
 ma:zaK m.locs m.marked none=0
 mal:m.marked.length≤4
theorem zjI {k:Sk} (hk:skOk k):made (ziF k):=by
 have hl:=hk.locs
 have hL:1≤zbW k∧zbW k≤4:=by unfold zbW;omega
 have hp:∀ p∈k.rngs.take 2,zfH p:=fun p h=>hk.r p (List.mem_of_mem_take h)
 have hv2:(zdn (k.rngs.take 2)).length≤2:=by rw[zgt,List.length_take];omega
 have hall:=zm4 (P:=mvGood (zbW k) (zdn (k.rngs.take 2)).length) (locs:=zbW k) (n:=(zdn (k.rngs.take 2)).length) (l:=k.lines) (fun x hx=>zrB (by omega) (by omega) (by omega) (hk.l x hx)) (min k.lines.length 8) (by omega)
 have hml:=zm5 k.marks (zbW k)
 refine⟨rfl,⟨?_,?_⟩,rfl,hv2,zmL hp,?_,hall.2,hall.1,ztZ (by rw[List.length_take];omega) hp,zuu _ _,?_⟩
 ·show (1:Int)≤(zbW k:Int);omega
 ·show (zbW k:Int)≤4;omega
 ·show (mvsL _ _ _ _).length≤8
  rw[ziB (by omega)];omega
 ·show (mrks _ _).length≤4;omega
theorem zwZ {m:Ext} (h:made m):extOk m:=by
 refine⟨by rw[h.al];simp[zao],?_,?_,fun v hv=>?_,?_,fun x hx=>?_⟩
 ·have:=h.mal;simp only[zao];omega
 ·have:=h.vl;simp only[zao];omega
 ·have:=(h.v v hv).nm;simp only[zao];omega
 ·have:=h.ml;simp only[zao];omega
 ·have hg:=h.mv x hx
  refine⟨hg.gok,?_,fun u hu=>?_⟩
  ·rcases hg.us with e | ⟨u,e,_⟩ <;> rw[e] <;> simp[zao]
  ·rcases hg.us with e | ⟨u',e,h1⟩
   ·rw[e] at hu;simp at hu
   ·rw[e] at hu
    simp only[List.mem_singleton] at hu
    subst hu
    exact h1.2.2.2
theorem zut {m:Ext} (h:made m) {p:Option Mv} {x:Mv} (hx:mvGood m.locs m.vars.length x) (hp:∀ y,p=some y→leMv y x):zho m p x=0:=by
 have h1:=hx.frm
 have h2:=hx.to
 have h3:=hx.ev
 unfold zho
 rw[if_neg (by omega),if_neg,if_neg,hx.g]
 ·simp only[ne_eq,not_true_eq_false,if_false]
  rcases hx.us with e | ⟨u,e,h4,h5,h6,_⟩
  ·rw[e];rfl
  ·rw[e]
   simp only[zcx]
   rw[if_neg (by omega),if_neg (by simp),h6]
   simp
 ·cases p with
  | none=>simp
  | some y=>
   have:=hp y rfl
   unfold leMv at this
   simpa using this
 ·rw[h.al]
  simp only[List.mem_cons,List.mem_nil_iff,or_false]
  exact not_not_intro h3
theorem zjG {m:Ext} (h:made m):∀ {l:List Mv} {p:Option Mv},(∀ x∈l,mvGood m.locs m.vars.length x)→l.Pairwise leMv→(∀ y,p=some y→∀ x∈l,leMv y x)→zeW m p l=0
 | [],_,_,_,_=>rfl
 | x::r,p,hx,hs,hp=>by
  rw[List.pairwise_cons] at hs
  simp only[zeW]
  rw[zut h (hx x (by simp)) fun y e=>hp y e x (by simp)]
  simp only[ne_eq,not_true_eq_false,if_false]
  refine zjG h (fun y hy=>hx y (by simp[hy])) hs.2 fun y e z hz=>?_
  simp only[Option.some.injEq] at e
  subst e
  exact hs.1 z hz
theorem zuz {m:Ext} (h:made m):chk m=0:=by
 have h1:=h.lo
 have h2:=h.ml
 unfold chk
 rw[h.al,h.ini,h.ma,h.ve,zjG h h.mv h.sorted (by simp)]
 rw[if_neg (by decide),if_neg (by omega),if_neg (by decide),if_neg (by decide),if_neg (by omega)]
end Go.AI
namespace Go.AI
open Go.Proofs
theorem zdX (c:UInt8) (i:Nat) (h:i≤1000):(za0 c i).size≤zao:=by
 have:=zhH c i h
 simp only[zao];omega
theorem zbP (k:Sk22):(zcl k).tpls=mkT k:=by unfold zcl;split <;> rfl
theorem zdf (k:Sk22):(zcl k).comps=(mkI k).1:=by unfold zcl;split <;> rfl
theorem zd0 (k:Sk22):(zcl k).reqs=(mkI k).2:=by unfold zcl;split <;> rfl
theorem zcB (k:Sk22):(zcl k).evs=evs4:=by unfold zcl;split <;> rfl
theorem zpv (k:Sk22):(zcl k).name=⟨#[109]⟩:=by unfold zcl;split <;> rfl
theorem zns (T:List Tpl) (C:List Ins) (acc:List NLc) (w:Whr):(excA T C acc w).length≤acc.length+1:=by
 unfold excA
 by_cases h:(match acc with | []=>false | a::_=>sB a.1 (C.getD (w.1 % (C.length:Int)).toNat zfT).name)=true
 ·rcases acc with _ | ⟨a,r⟩
  ·cases h
  ·have h:sB a.1 (C.getD (w.1 % (C.length:Int)).toNat zfT).name=true:=h
   simp only[h,if_true]
   omega
 ·rcases acc with _ | ⟨a,r⟩
  ·simp
  ·have h:¬ sB a.1 (C.getD (w.1 % (C.length:Int)).toNat zfT).name=true:=h
   simp only[h,if_false,Bool.false_eq_true,List.length_append,List.length_singleton]
   omega
theorem zhK {k:Sk22}:(zcl k).excs.length≤2∧∀ x∈(zcl k).excs,x.name.size≤zao∧x.locals.length≤2:=by
 unfold zcl
 split
 ·simp
 ·refine⟨by simp only[zeB,List.length_map,List.length_range];omega,fun x hx=>?_⟩
  obtain⟨i,hi,rfl⟩:=List.mem_map.1 hx
  have hi:=List.mem_range.1 hi
  refine⟨zdX 120 i (by omega),?_⟩
  have h1:=zns (mkT k) (mkI k).1 (excA (mkT k) (mkI k).1 [] (k.excs.getD i zWhr).1) (k.excs.getD i zWhr).2
  have h2:=zns (mkT k) (mkI k).1 [] (k.excs.getD i zWhr).1
  unfold zuZ
  simp only
  simp only[List.length_nil] at h2
  omega
theorem zrE (k:Sk22):(mkI k).1.length≤3∧(mkI k).2.length≤2:=zf5 _ _ _
theorem zpw {k:Sk22}:(zcl k).cons.length≤1∧∀ x∈(zcl k).cons,x.name.size≤zao∧x.terms.length≤3:=by
 have hl:=(zrE k).1
 unfold zcl
 split
 ·simp
 ·simp only
  split
  ·refine⟨by simp,fun x hx=>?_⟩
   rw[List.mem_singleton.1 hx]
   refine⟨by show (1:Nat)≤zao;decide,?_⟩
   show (zcI _).length≤3
   rw[zdQ]
   exact hl
  ·simp
theorem zvB (k:Sk22):∀ x∈(mkI k).1++(mkI k).2,insOk x:=by
 refine zc3 (P:=insOk) _ _ _ fun i hi=>?_
 have:=zdG k
 refine⟨zdX 105 i (by omega),?_⟩
 show (ordS _ 3).1.length≤1000000
 rw[zgB]
 decide
theorem zvA {k:Sk22} (hk:sk22Ok k):∀ t∈mkT k,tplOk t∧t.mach.moves.length≤19:=by
 intro t h
 obtain⟨j,h1,h2,rfl⟩:=ziC h
 have hs:=hk.t _ (zcN (d:=zSk) h2)
 have hm:=zjI hs
 have hl:zbW (k.tpls.getD j zSk)≤4:=by have:=hs.locs;unfold zbW;omega
 have ht3:=zdd k
 have hml:=hm.ml
 refine⟨⟨zdX 116 j (by omega),?_,fun s hsm=>?_,by show (3:Nat)≤1000000;decide,fun s hsm=>?_,zwZ hm⟩,by show (ziF _).moves.length≤19;omega⟩
 ·show ((List.range _).map _).length≤1000000
  simp only[List.length_map,List.length_range]
  omega
 ·obtain⟨i,hi,rfl⟩:=List.mem_map.1 hsm
  have hi:=List.mem_range.1 hi
  exact zdX 115 i (by omega)
 ·have hsm:s∈abc3:=hsm
  unfold abc3 at hsm
  simp only[List.mem_cons,List.mem_nil_iff,or_false] at hsm
  rcases hsm with rfl | rfl | rfl <;> (show (1:Nat)≤zao;decide)
theorem zux {k:Sk22} (hk:sk22Ok k):mdlOk (zcl k):=by
 have ht3:=zdd k
 have hI:=zrE k
 have hex:=zhK (k:=k)
 have hcn:=zpw (k:=k)
 refine { ev:=?_,tp:=?_,co:=?_,rq:=?_,ex:=?_,cn:=?_,nm:=?_,evn:=?_,tpk:=?_,cok:=?_,rqk:=?_,exk:=?_,cnk:=?_ }
 ·rw[zcB];decide
 ·rw[zbP];omega
 ·rw[zdf];omega
 ·rw[zd0];omega
 ·omega
 ·omega
 ·rw[zpv];show (1:Nat)≤zao;decide
 ·rw[zcB]
  intro x hx
  unfold evs4 at hx
  simp only[List.mem_cons,List.mem_nil_iff,or_false] at hx
  rcases hx with rfl | rfl | rfl | rfl <;> (show (2:Nat)≤zao;decide)
 ·rw[zbP];exact fun t h=>(zvA hk t h).1
 ·rw[zdf];exact fun x h=>zvB k x (List.mem_append_left _ h)
 ·rw[zd0];exact fun x h=>zvB k x (List.mem_append_right _ h)
 ·exact fun x h=>⟨(hex.2 x h).1,by have:=(hex.2 x h).2;omega⟩
 ·exact fun x h=>⟨(hcn.2 x h).1,by have:=(hcn.2 x h).2;omega⟩
theorem zuy {k:Sk22} (hk:sk22Ok k):∀ t∈(zcl k).tpls,t.mach.moves.length≤19:=by
 rw[zbP]
 exact fun t h=>(zvA hk t h).2
end Go.AI
namespace Go.AI
open Go.Proofs
set_option maxRecDepth 20000
end Go.AI
namespace Go.AI
end Go.AI
namespace Go.AI
open Go.Proofs
end Go.AI
namespace Go.AI
open Go.Proofs
set_option maxRecDepth 20000
end Go.AI
namespace Go.AI
open Go.Proofs
end Go.AI
set_option maxRecDepth 20000
namespace Go.AI
open Go.Proofs
def othB:ByteArray:=⟨#[111,116,104,101,114]⟩
def pfU (s:ByteArray):ByteArray:=⟨#[117]⟩++s
def pfL (s:ByteArray):ByteArray:=⟨#[108]⟩++s
def renS (nm s:ByteArray):ByteArray:=if sB s nm=true then othB else s
def renI (nm:ByteArray) (x:Ins):Ins:=⟨x.name,pfU x.tpl,x.evs.map (renS nm)⟩
def renT (t:Tpl):Tpl:=⟨pfU t.name,t.locs.map pfL,t.evs,t.mach⟩
def renX (x:NEx):NEx:=⟨x.name,x.locals.map fun y=>(y.1,pfL y.2)⟩
def renE (j:Nat) (l:List Evt):List Evt:=match l[j]? with
 | none=>l
 | some e=>l.set j ⟨othB,e.c,e.o,e.f,e.fault⟩
def renM (m:Mdl) (j:Nat) (nm:ByteArray):Mdl:=⟨m.name,renE j m.evs,(m.tpls.map renT).reverse,m.comps.map (renI nm),m.reqs.map (renI nm),m.excs.map renX,m.cons⟩
theorem znE {c:UInt8} {s t:ByteArray} (h:(⟨#[c]⟩:ByteArray)++s=⟨#[c]⟩++t):s=t:=by
 have h2:=congrArg (fun b:ByteArray=>b.data.toList) h
 simp only[ByteArray.data_append,Array.toList_append,List.append_cancel_left_eq] at h2
 exact ByteArray.ext (Array.ext' h2)
theorem zwL {s t:ByteArray} (h:pfU s=pfU t):s=t:=znE h
theorem zrl {s t:ByteArray} (h:pfL s=pfL t):s=t:=znE h
theorem zf2 {nm s t:ByteArray} (hs:s≠othB) (ht:t≠othB) (h:renS nm s=renS nm t):s=t:=by
 unfold renS at h
 by_cases c1:sB s nm=true
 ·rw[if_pos c1] at h
  by_cases c2:sB t nm=true
  ·exact (zcy.1 c1).trans (zcy.1 c2).symm
  ·rw[if_neg c2] at h;exact absurd h.symm ht
 ·rw[if_neg c1] at h
  by_cases c2:sB t nm=true
  ·rw[if_pos c2] at h;exact absurd h hs
  ·rwa [if_neg c2] at h
def zvm (f:ByteArray→ByteArray) (l:List ByteArray) (s:ByteArray):Prop:=∀ x∈l,f x=f s→x=s
theorem zrb {f:ByteArray→ByteArray} {x s:ByteArray} (h:f x=f s→x=s):sB (f x) (f s)=sB x s:=by
 rw[Bool.eq_iff_iff,zcy,zcy]
 exact⟨h,congrArg f⟩
theorem ze3 {f:ByteArray→ByteArray} {s:ByteArray}:∀ {l:List ByteArray},zvm f l s→hasB (l.map f) (f s)=hasB l s
 | [],_=>rfl
 | x::r,h=>by
  have ih:=ze3 (l:=r) fun y hy=>h y (by simp[hy])
  unfold hasB at ih ⊢
  rw[List.map_cons,List.any_cons,List.any_cons,ih,zrb (h x (by simp))]
theorem zfM {f:ByteArray→ByteArray} {s:ByteArray}:∀ {l:List ByteArray} {i:Nat},zvm f l s→zat (fun x=>sB x (f s)) (l.map f) i=zat (fun x=>sB x s) l i
 | [],_,_=>rfl
 | x::r,i,h=>by
  have ih:=zfM (l:=r) (i:=i+1) fun y hy=>h y (by simp[hy])
  simp only[List.map_cons,zat,ih,zrb (h x (by simp))]
theorem zm2 {f:ByteArray→ByteArray} {l:List ByteArray} {s:ByteArray} (h:zvm f l s):nmIx (l.map f) (f s)=nmIx l s:=zfM h
theorem zuT {f:ByteArray→ByteArray} {l:List ByteArray} {s:ByteArray} (h:zvm f l s):fndI (l.map f) (f s)=fndI l s:=by
 unfold fndI;rw[zm2 h]
theorem zg4 {α β:Type} {f:α→β} {p:α→Bool} {q:β→Bool}:∀ {l:List α},(∀ x∈l,q (f x)=p x)→(l.map f).find? q=(l.find? p).map f
 | [],_=>rfl
 | x::r,h=>by
  have ih:=zg4 (l:=r) fun y hy=>h y (by simp[hy])
  rw[List.map_cons,List.find?_cons,List.find?_cons,h x (by simp),ih]
  cases p x <;> rfl
theorem zjC {α β:Type} {f:α→β}:∀ {l:List α},(l.map f).Nodup→∀ a∈l,∀ b∈l,f a=f b→a=b
 | [],_,_,h,_,_,_=>by cases h
 | x::r,hn,a,ha,b,hb,he=>by
  rw[List.map_cons,List.nodup_cons] at hn
  rcases List.mem_cons.1 ha with rfl | ha'
  ·rcases List.mem_cons.1 hb with rfl | hb'
   ·rfl
   ·exact absurd (List.mem_map.2 ⟨b,hb',he.symm⟩) hn.1
  ·rcases List.mem_cons.1 hb with rfl | hb'
   ·exact absurd (List.mem_map.2 ⟨a,ha',he⟩) hn.1
   ·exact zjC hn.2 a ha' b hb' he
theorem zuU {l:List Tpl} {s:ByteArray} (h:(l.map (·.name)).Nodup):l.reverse.find? (fun t=>sB t.name s)=l.find? fun t=>sB t.name s:=by
 cases h1:l.find? fun t=>sB t.name s with
 | none=>
  rw[List.find?_eq_none] at h1 ⊢
  exact fun x hx=>h1 x (List.mem_reverse.1 hx)
 | some a=>
  cases h2:l.reverse.find? fun t=>sB t.name s with
  | none=>
   rw[List.find?_eq_none] at h2
   exact absurd (List.find?_some h1) (h2 a (List.mem_reverse.2 (List.mem_of_find?_eq_some h1)))
  | some b=>
   have e1:sB a.name s=true:=by have:=List.find?_some h1;exact this
   have e2:sB b.name s=true:=by have:=List.find?_some h2;exact this
   have e1:=zcy.1 e1
   have e2:=zcy.1 e2
   rw[zjC h a (List.mem_of_find?_eq_some h1) b (List.mem_reverse.1 (List.mem_of_find?_eq_some h2)) (e1.trans e2.symm)]
theorem zia {α:Type} {p q:α→Bool}:∀ {l:List α},(∀ x∈l,p x=q x)→l.any p=l.any q
 | [],_=>rfl
 | x::r,h=>by rw[List.any_cons,List.any_cons,h x (by simp),zia fun y hy=>h y (by simp[hy])]
theorem ziJ {m:Mdl}:∀ {l:List Ins} {i:Nat} {p:Nat × Int},zb1 m l i = .error p→p.2≠0
 | [],_,_,h=>by cases h
 | x::r,i,p,h=>by
  simp only[zb1] at h
  cases hu:zbJ (mchR m x) with
  | error e=>rw[hu] at h;cases h;exact zel hu
  | ok U=>
   rw[hu] at h
   simp only at h
   cases hr:zb1 m r (i+1) with
   | error q=>rw[hr] at h;cases h;exact ziJ hr
   | ok q=>rw[hr] at h;cases h
theorem znr {m:Mdl} {og:List (List Sta)}:∀ {l:List NEx} {i:Nat} {seen:List ByteArray} {out:List XEx} {p:Nat × Int},zcC m og l i seen out = .error p→p.2≠0
 | [],_,_,_,_,h=>by cases h
 | x::r,i,seen,out,p,h=>by
  simp only[zcC] at h
  by_cases c1:(expX m og x (32 - (out.length:Int))).2≠0
  ·rw[if_pos c1] at h;cases h;exact c1
  rw[if_neg c1] at h
  by_cases c2:((expX m og x (32 - (out.length:Int))).1.any fun y=>decide (y.name.size>32))=true
  ·rw[if_pos c2] at h;cases h;exact (show (7:Int)≠0 by decide)
  rw[if_neg c2] at h
  cases hd:dupX seen (expX m og x (32 - (out.length:Int))).1 with
  | error e=>rw[hd] at h;cases h;exact (show (8:Int)≠0 by decide)
  | ok s=>rw[hd] at h;exact znr h
structure renOk (m:Mdl) (j:Nat) (nm:ByteArray):Prop where
 tn:(m.tpls.map (·.name)).Nodup
 eo:∀ s∈m.evs.map (·.name),s≠othB
 co:∀ x∈m.comps,∀ s∈x.evs,s≠othB
 ro:∀ x∈m.reqs,∀ s∈x.evs,s≠othB
 en:(renE j m.evs).map (·.name)=(m.evs.map (·.name)).map (renS nm)
 e1:evsP [] m.evs 0=none
 e2:evsP [] (renE j m.evs) 0=none
 t1:zaU Tpl.name tplE [] m.tpls 0=none
 t2:zaU Tpl.name tplE [] (m.tpls.map renT).reverse 0=none
section
variable {m:Mdl} {j:Nat} {nm:ByteArray} (h:renOk m j nm)
include h
theorem zit (x:Ins):zbS (renM m j nm) (renI nm x)=(zbS m x).map renT:=by
 show (m.tpls.map renT).reverse.find? (fun t=>sB t.name (pfU x.tpl))=(m.tpls.find? fun t=>sB t.name x.tpl).map renT
 rw[← List.map_reverse,zg4 (p:=fun t:Tpl=>sB t.name x.tpl) fun t _=>zrb (fun e=>zwL e),zuU h.tn]
theorem zwB {l:List ByteArray} (hl:∀ s∈l,s≠othB):∀ {b:List ByteArray},(∀ s∈b,s≠othB)→zc4 (renM m j nm) (b.map (renS nm)) (l.map (renS nm))=zc4 m b l:=by
 induction l with
 | nil=>intro b _;rfl
 | cons s r ih=>
  intro b hb
  have hs:=hl s (by simp)
  have h1:hasB ((renM m j nm).evs.map (·.name)) (renS nm s)=hasB (m.evs.map (·.name)) s:=by
   show hasB ((renE j m.evs).map (·.name)) (renS nm s)=_
   rw[h.en]
   exact ze3 fun y hy=>zf2 (h.eo y hy) hs
  have h2:hasB (b.map (renS nm)) (renS nm s)=hasB b s:=ze3 fun y hy=>zf2 (hb y hy) hs
  have h3:=ih (fun y hy=>hl y (by simp[hy])) (b:=b++[s]) (fun y hy=>by
   rcases List.mem_append.1 hy with hy | hy
   ·exact hb y hy
   ·rw[List.mem_singleton.1 hy];exact hs)
  rw[List.map_append] at h3
  simp only[List.map_cons,zc4,h1,h2]
  rw[show [renS nm s]=[s].map (renS nm) from rfl,h3]
theorem zmS {x:Ins} (hx:∀ s∈x.evs,s≠othB):insE (renM m j nm) (renI nm x)=insE m x:=by
 have h1:(renM m j nm).tpls.find? (fun t=>sB t.name (renI nm x).tpl)=(zbS m x).map renT:=zit h x
 have h2:m.tpls.find? (fun t=>sB t.name x.tpl)=zbS m x:=rfl
 have h3:=zwB h hx (b:=[]) (by simp)
 unfold insE
 rw[h1,h2]
 cases zbS m x with
 | none=>rfl
 | some t=>
  show (if (x.evs.map (renS nm)).length≠t.evs.length then (4:Int) else zc4 (renM m j nm) [] (x.evs.map (renS nm)))=_
  rw[List.length_map,show zc4 (renM m j nm) [] (x.evs.map (renS nm))=zc4 m [] x.evs from h3]
theorem zt8 {x:Ins} (hx:∀ s∈x.evs,s≠othB):reqE (renM m j nm) (renI nm x)=reqE m x:=by
 have h1:=zmS h hx
 have h2:((renI nm x).evs.any fun s=>!hasB ((renM m j nm).comps.flatMap (·.evs)) s)=x.evs.any fun s=>!hasB (m.comps.flatMap (·.evs)) s:=by
  show ((x.evs.map (renS nm)).any fun s=>!hasB ((m.comps.map (renI nm)).flatMap (·.evs)) s)=_
  have e:(m.comps.map (renI nm)).flatMap (·.evs)=(m.comps.flatMap (·.evs)).map (renS nm):=by
   rw[List.flatMap_map,List.map_flatMap];rfl
  rw[e,List.any_map]
  refine zia fun s hs=>?_
  simp only[Function.comp]
  rw[ze3 fun y hy=>by
   obtain⟨c,hc,hy⟩:=List.mem_flatMap.1 hy
   exact zf2 (h.co c hc y hy) (hx s hs)]
 unfold reqE
 rw[h1,h2]
end
theorem ze9 {α β:Type} {nm:α→ByteArray} {nm':β→ByteArray} {err:α→Int} {err':β→Int} {f:α→β}:∀ {l:List α} {b:List ByteArray} {i:Nat},(∀ x∈l,nm' (f x)=nm x∧err' (f x)=err x)→zaU nm' err' b (l.map f) i=zaU nm err b l i
 | [],_,_,_=>rfl
 | x::r,b,i,h=>by
  obtain⟨h1,h2⟩:=h x (by simp)
  have ih:=ze9 (l:=r) (b:=b++[nm x]) (i:=i+1) fun y hy=>h y (by simp[hy])
  simp only[List.map_cons,zaU,h1,h2,ih]
section
variable {m:Mdl} {j:Nat} {nm:ByteArray} (h:renOk m j nm)
include h
theorem zub (s:ByteArray):(renM m j nm).comps.find? (fun c=>sB c.name s)=(m.comps.find? fun c=>sB c.name s).map (renI nm):=by
 show (m.comps.map (renI nm)).find? _=_
 exact zg4 fun _ _=>rfl
theorem zmR:∀ {l:List NLc} {b:List ByteArray},lcsE (renM m j nm) b (l.map fun y=>(y.1,pfL y.2))=lcsE m b l
 | [],_=>rfl
 | y::r,b=>by
  have ih:=zmR (l:=r) (b:=b++[y.1])
  simp only[List.map_cons,lcsE]
  rw[zub h]
  cases m.comps.find? fun c=>sB c.name y.1 with
  | none=>rfl
  | some c=>
   simp only[Option.map]
   rw[zit h]
   cases zbS m c with
   | none=>rfl
   | some t=>
    simp only[Option.map]
    rw[ih,show hasB (renT t).locs (pfL y.2)=hasB t.locs y.2 from ze3 fun _ _=>zrl]
theorem zuc (x:NEx):excE (renM m j nm) (renX x)=excE m x:=by
 unfold excE
 show (if (x.locals.map fun y:NLc=>((y.1,pfL y.2):NLc)).length=0 then (12:Int) else lcsE (renM m j nm) [] (x.locals.map fun y=>(y.1,pfL y.2)))=_
 rw[List.length_map,zmR h]
theorem zeT:(renM m j nm).comps.map (·.name)=m.comps.map (·.name):=by
 show (m.comps.map (renI nm)).map (·.name)=_
 rw[List.map_map];rfl
theorem zmQ:∀ {l:List NTm} {b:List ByteArray},tmsE (renM m j nm) b l=tmsE m b l
 | [],_=>rfl
 | y::r,b=>by
  have ih:=zmQ (l:=r) (b:=b++[y.1])
  simp only[tmsE,zeT h,ih]
theorem zud (x:NCn):conE (renM m j nm) x=conE m x:=by
 unfold conE
 rw[zmQ h]
theorem zt9:mdlE (renM m j nm)=mdlE m:=by
 have c1:zaU Ins.name (insE (renM m j nm)) [] (m.comps.map (renI nm)) 0=zaU Ins.name (insE m) [] m.comps 0:=ze9 fun x hx=>⟨rfl,zmS h (h.co x hx)⟩
 have c2:∀ b,zaU Ins.name (reqE (renM m j nm)) b (m.reqs.map (renI nm)) 0=zaU Ins.name (reqE m) b m.reqs 0:=fun b=>ze9 fun x hx=>⟨rfl,zt8 h (h.ro x hx)⟩
 have c3:zaU NEx.name (excE (renM m j nm)) [] (m.excs.map renX) 0=zaU NEx.name (excE m) [] m.excs 0:=ze9 fun x _=>⟨rfl,zuc h x⟩
 have c4:zaU NCn.name (conE (renM m j nm)) [] m.cons 0=zaU NCn.name (conE m) [] m.cons 0:=by rw[show conE (renM m j nm)=conE m from funext fun x=>zud h x]
 have c5:=zeT h
 have c6:(m.tpls.map renT).reverse.length=m.tpls.length:=by rw[List.length_reverse,List.length_map]
 unfold mdlE
 show (if zaT m.name=false then ((0,0),7) else plc 1 (evsP [] (renE j m.evs) 0) (
  if (m.tpls.map renT).reverse.length>16 then ((2,16),3) else
  plc 2 (zaU Tpl.name tplE [] (m.tpls.map renT).reverse 0) (
   if (m.comps.map (renI nm)).length=0 then ((3,0),12) else if (m.comps.map (renI nm)).length>8 then ((3,8),3) else if (m.comps.map (renI nm)).length+(m.reqs.map (renI nm)).length>12 then ((4,12 - ((m.comps.map (renI nm)).length:Int)),3) else
   plc 3 (zaU Ins.name (insE (renM m j nm)) [] (m.comps.map (renI nm)) 0) (
    plc 4 (zaU Ins.name (reqE (renM m j nm)) ((renM m j nm).comps.map (·.name)) (m.reqs.map (renI nm)) 0) (
     if (m.excs.map renX).length>32 then ((5,32),3) else
     plc 5 (zaU NEx.name (excE (renM m j nm)) [] (m.excs.map renX) 0) (
      if m.cons.length>32 then ((6,32),3) else
      plc 6 (zaU NCn.name (conE (renM m j nm)) [] m.cons 0) ((0,0),0) id) id) id) id) id) id)=_
 rw[c1,c2,c3,c4,c5,c6,h.t2,h.t1,h.e2,h.e1,List.length_map,List.length_map,List.length_map]
theorem zwz {x:Ins} (hx:∀ s∈x.evs,s≠othB):mchR (renM m j nm) (renI nm x)=mchR m x:=by
 unfold mchR
 rw[zit h]
 cases zbS m x with
 | none=>rfl
 | some t=>
  simp only[Option.map]
  have e:(renI nm x).evs.map (fun s=>fndI ((renM m j nm).evs.map (·.name)) s)=x.evs.map fun s=>fndI (m.evs.map (·.name)) s:=by
   show (x.evs.map (renS nm)).map (fun s=>fndI ((renE j m.evs).map (·.name)) s)=_
   rw[List.map_map,h.en]
   refine List.map_congr_left fun s hs=>?_
   simp only[Function.comp]
   exact zuT fun y hy=>zf2 (h.eo y hy) (hx s hs)
  unfold mchE
  simp only[e]
  rfl
theorem ziu:∀ {l:List Ins} {i:Nat},(∀ x∈l,∀ s∈x.evs,s≠othB)→zb1 (renM m j nm) (l.map (renI nm)) i=zb1 m l i
 | [],_,_=>rfl
 | x::r,i,hl=>by
  have ih:=ziu (l:=r) (i:=i+1) fun y hy=>hl y (by simp[hy])
  simp only[List.map_cons,zb1]
  rw[zwz h (hl x (by simp)),ih]
  rfl
theorem zwD (og:List (List Sta)) (y:NLc):chcR (renM m j nm) og (y.1,pfL y.2)=chcR m og y:=by
 unfold chcR
 simp only
 rw[zeT h]
 have e:(renM m j nm).comps[(fndI (m.comps.map (·.name)) y.1).toNat]? = (m.comps[(fndI (m.comps.map (·.name)) y.1).toNat]?).map (renI nm):=by
  show (m.comps.map (renI nm))[_]? = _
  rw[List.getElem?_map]
 rw[e]
 cases m.comps[(fndI (m.comps.map (·.name)) y.1).toNat]? with
 | none=>rfl
 | some c=>
  simp only[Option.map]
  rw[zit h]
  cases zbS m c with
  | none=>rfl
  | some t=>
   simp only[Option.map]
   rw[show nmIx (renT t).locs (pfL y.2)=nmIx t.locs y.2 from zm2 fun _ _=>zrl]
theorem zwA (og:List (List Sta)) (x:NEx) (most:Int):expX (renM m j nm) og (renX x) most=expX m og x most:=by
 have e:(renX x).locals.map (chcR (renM m j nm) og)=x.locals.map (chcR m og):=by
  show (x.locals.map fun y:NLc=>((y.1,pfL y.2):NLc)).map _=_
  rw[List.map_map]
  exact List.map_congr_left fun y _=>zwD h og y
 unfold expX
 simp only[e]
 rfl
theorem zmT (og:List (List Sta)):∀ {l:List NEx} {i:Nat} {seen:List ByteArray} {out:List XEx},zcC (renM m j nm) og (l.map renX) i seen out=zcC m og l i seen out
 | [],_,_,_=>rfl
 | x::r,i,seen,out=>by
  simp only[List.map_cons,zcC,zwA h]
  split
  ·rfl
  ·split
   ·rfl
   ·cases dupX seen (expX m og x (32 - (out.length:Int))).1 with
    | error e=>rfl
    | ok s=>exact zmT og
theorem zwC (x:NCn):zeF (renM m j nm) x=zeF m x:=by
 unfold zeF
 rw[zeT h]
theorem zwE:celR (renM m j nm)=if (celR m).2.2≠0 then celR m else (⟨renE j m.evs,(celR m).1.comps,(celR m).1.reqs,(celR m).1.excs,(celR m).1.cons⟩,(celR m).2):=by
 have c1:zb1 (renM m j nm) (renM m j nm).comps 0=zb1 m m.comps 0:=ziu h h.co
 have c2:zb1 (renM m j nm) (renM m j nm).reqs 0=zb1 m m.reqs 0:=ziu h h.ro
 have c3:∀ og,zcC (renM m j nm) og (renM m j nm).excs 0 [] []=zcC m og m.excs 0 [] []:=fun og=>zmT h og
 have c4:(renM m j nm).cons.map (zeF (renM m j nm))=m.cons.map (zeF m):=List.map_congr_left fun x _=>zwC h x
 unfold celR
 rw[zt9 h]
 by_cases hv:(mdlE m).2≠0
 ·rw[if_pos hv,if_pos hv,if_pos hv]
 rw[if_neg hv,if_neg hv,c1,c2]
 cases h1:zb1 m m.comps 0 with
 | error p=>
  have:=ziJ h1
  simp only[if_pos this]
 | ok p=>
  obtain⟨a,og⟩:=p
  simp only
  cases h2:zb1 m m.reqs 0 with
  | error p=>
   have:=ziJ h2
   simp only[if_pos this]
  | ok p=>
   obtain⟨b,og2⟩:=p
   simp only
   rw[c3]
   cases h3:zcC m og m.excs 0 [] [] with
   | error p=>
    have:=znr h3
    simp only[if_pos this]
   | ok out=>
    simp only[if_neg (show ¬ (0:Int)≠0 by decide),c4]
    rfl
end
end Go.AI
namespace Go.AI
open Go.Proofs
set_option maxRecDepth 20000
abbrev obs (l:List Bool):Ob:=.arr 4 1 l.length (l.map fun b=>[bI b]) true
end Go.AI
namespace Go.AI
open Go.Proofs
inductive FrzC (nm:Nat) (d:I):List D→List D→Prop
 | nil:FrzC nm d [] []
 | i {x:I} {l m:List D}:FrzC nm d l m→FrzC nm d (.i x::l) (.i x::m)
 | f {k:FuncId} {l m:List D}:FrzC nm d l m→FrzC nm d (.fn (.func k) [] []::l) (.fn (.func k) [] []::m)
 | osl {l m:List D}:FrzC nm d l m→FrzC nm d (.osl 0 nm::l) (.i d::m)
 | agg {a b l m:List D}:FrzC nm d a b→FrzC nm d l m→FrzC nm d (.agg a::l) (.agg b::m)
end Go.AI
namespace Go.AI
open Go.Proofs
set_option maxRecDepth 20000
instance staDec:DecidableEq Sta:=fun a b=>decidable_of_iff (a.loc=b.loc∧a.vals=b.vals) ⟨fun ⟨h1,h2⟩=>by cases a;cases b;cases h1;cases h2;rfl,fun h=>by subst h;exact⟨rfl,rfl⟩⟩
end Go.AI
set_option maxRecDepth 20000
namespace Go.AI
open Go.Proofs
end Go.AI
namespace Go.AI
open Go.Proofs
set_option maxRecDepth 20000
end Go.AI
