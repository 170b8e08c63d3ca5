/- The layer of abstract runs, part 31. -/
import Derived.Test.YtnojpbbaohoadaaGreatDoorKobZD
import Derived.Test.YtnojpbbaohoadaaGreatDoorRows
import Derived.KernelRfl
import Derived.JoinedOf
import Derived.SevenTiedAt
set_option linter.unusedSimpArgs false
set_option linter.unusedVariables false
set_option linter.all false
set_option maxRecDepth 20000
set_option maxHeartbeats 4000000
namespace Go.AI
open Go.Proofs
theorem zfu {α:Type} {nm:α→ByteArray} {err:α→Int}:∀ {l:List α} {b:List ByteArray} {i:Nat},(∀ x∈l,err x=0)→zaU nm err b l i=zaU (fun s:ByteArray=>s) (fun _=>0) b (l.map nm) i
 | [],_,_,_=>rfl
 | x::r,b,i,h=>by
  have ih:=zfu (nm:=nm) (l:=r) (b:=b++[nm x]) (i:=i+1) fun y hy=>h y (by simp[hy])
  simp only[List.map_cons,zaU,h x (by simp),ih]
theorem zmX (o:Int) (ho:0≤o∧o≤255):∀ k,k≤3→(∀ s∈(ordS o k).1,s∈nms4)∧∀ s∈(ordS o k).2.1,s∈nms4
 | 0,_=>⟨by simp[ordS],fun s h=>h⟩
 | k+1,hk=>by
  obtain⟨h1,h2⟩:=zmX o ho k (by omega)
  obtain⟨_,l2,l3,l4⟩:=zf3 o ho k (by omega)
  have h5:=Int.emod_nonneg (ordS o k).2.2 (show 4 - (k:Int)≠0 by omega)
  have h6:=Int.emod_lt_of_pos (ordS o k).2.2 (show 0<4 - (k:Int) by omega)
  simp only[ordS]
  refine⟨fun s hs=>?_,fun s hs=>?_⟩
  ·rcases List.mem_append.1 hs with hs | hs
   ·exact h1 s hs
   ·rw[List.mem_singleton.1 hs]
    exact h2 _ (zcN (by omega))
  ·rcases List.mem_append.1 hs with hs | hs
   ·exact h2 s (List.mem_of_mem_take hs)
   ·exact h2 s (List.mem_of_mem_drop hs)
theorem ziz {s:ByteArray} (h:s∈nms4):s≠othB:=by
 unfold nms4 at h
 simp only[List.mem_cons,List.mem_nil_iff,or_false] at h
 rcases h with rfl | rfl | rfl | rfl <;> exact fun e=>absurd (zcy.2 e) (by decide)
theorem zrF {k:Sk22} (hk:sk22Ok k):∀ x∈(mkI k).1++(mkI k).2,∀ s∈x.evs,s∈nms4:=by
 refine zc3 (P:=fun x=>∀ s∈x.evs,s∈nms4) _ _ _ fun i hi=>?_
 have:=zdG k
 have hu:=hk.i (k.ins.getD i zUse) (zcN (by omega))
 exact (zmX _ hu.2 3 (by decide)).1
theorem zjg {L:List ByteArray} {x:Tpl} (h1:(x.locs.length:Int)=x.mach.locs) (h2:nmsE [] x.locs=0) (h3:x.evs=abc3) (h4:made x.mach):tplE x=0:=by
 unfold tplE
 rw[if_neg (fun h=>h h1),if_neg (fun h=>h h2),h3,if_neg (show ¬ nmsE [] abc3≠0 from fun h=>h (by kernel_rfl)),h4.al,if_neg (show ¬ ([0,1,2]:List Int).length≠abc3.length from fun h=>h rfl),if_neg (show ¬ ([0,1,2]:List Int)≠(List.range abc3.length).map (fun k=>((k:Nat):Int)) from fun h=>h rfl)]
 exact zuz h4
theorem zrJ:∀ n,n≤4→nmsE [] ((List.range n).map (za0 115))=0
 | 0,_=>rfl
 | 1,_=>by kernel_rfl
 | 2,_=>by kernel_rfl
 | 3,_=>by kernel_rfl
 | 4,_=>by kernel_rfl
 | n+5,h=>by omega
theorem zpx:∀ n,n≤4→nmsE [] (((List.range n).map (za0 115)).map pfL)=0
 | 0,_=>rfl
 | 1,_=>by kernel_rfl
 | 2,_=>by kernel_rfl
 | 3,_=>by kernel_rfl
 | 4,_=>by kernel_rfl
 | n+5,h=>by omega
theorem zm6 {k:Sk22} (hk:sk22Ok k) {t:Tpl} (h:t∈mkT k):tplE t=0∧tplE (renT t)=0:=by
 obtain⟨j,h1,h2,rfl⟩:=ziC h
 have hs:=hk.t _ (zcN (d:=zSk) h2)
 have hl:zbW (k.tpls.getD j zSk)≤4:=by have:=hs.locs;unfold zbW;omega
 have hm:=zjI hs
 refine⟨zjg (L:=[]) ?_ (zrJ _ hl) rfl hm,zjg (L:=[]) ?_ (zpx _ hl) rfl hm⟩
 ·show ((((List.range (zbW _)).map _).length:Nat):Int)=(zbW _:Int)
  rw[List.length_map,List.length_range]
 ·show (((((List.range (zbW _)).map _).map _).length:Nat):Int)=(zbW _:Int)
  rw[List.length_map,List.length_map,List.length_range]
theorem zjH (k:Sk22):(mkT k).map (·.name)=(List.range (mkT k).length).map (za0 116):=by
 rw[zdd]
 unfold mkT zeM
 rw[List.map_map];rfl
theorem zyy:∀ n,n≤3→zaU (fun s:ByteArray=>s) (fun _=>0) [] ((List.range n).map (za0 116)) 0=none
 | 0,_=>rfl
 | 1,_=>by kernel_rfl
 | 2,_=>by kernel_rfl
 | 3,_=>by kernel_rfl
 | n+4,h=>by omega
theorem zxJ:∀ n,n≤3→zaU (fun s:ByteArray=>s) (fun _=>0) [] (((List.range n).map (za0 116)).map pfU).reverse 0=none
 | 0,_=>rfl
 | 1,_=>by kernel_rfl
 | 2,_=>by kernel_rfl
 | 3,_=>by kernel_rfl
 | n+4,h=>by omega
theorem zpe:∀ j,j<4→(renE j evs4).map (·.name)=(evs4.map (·.name)).map (renS (za0 101 j))
 | 0,_=>by kernel_rfl
 | 1,_=>by kernel_rfl
 | 2,_=>by kernel_rfl
 | 3,_=>by kernel_rfl
 | n+4,h=>by omega
theorem zwI:∀ j,j<4→evsP [] (renE j evs4) 0=none
 | 0,_=>by kernel_rfl
 | 1,_=>by kernel_rfl
 | 2,_=>by kernel_rfl
 | 3,_=>by kernel_rfl
 | n+4,h=>by omega
theorem zua {k:Sk22} (hk:sk22Ok k) {j:Nat} (hj:j<4):renOk (zcl k) j (za0 101 j):=by
 have hT:=zdd k
 have t1:zaU Tpl.name tplE [] (mkT k) 0=none:=by
  rw[zfu fun x hx=>(zm6 hk hx).1,zjH]
  exact zyy _ (by omega)
 refine { tn:=?_,eo:=?_,co:=?_,ro:=?_,en:=?_,e1:=?_,e2:=?_,t1:=?_,t2:=?_ }
 ·rw[zbP];exact (ziY t1).2
 ·rw[zcB];exact fun s hs=>ziz hs
 ·rw[zdf];exact fun x hx s hs=>ziz (zrF hk x (List.mem_append_left _ hx) s hs)
 ·rw[zd0];exact fun x hx s hs=>ziz (zrF hk x (List.mem_append_right _ hx) s hs)
 ·rw[zcB];exact zpe j hj
 ·rw[zcB];kernel_rfl
 ·rw[zcB];exact zwI j hj
 ·rw[zbP];exact t1
 ·rw[zbP,zfu fun x hx=>by
   obtain⟨t,ht,rfl⟩:=List.mem_map.1 (List.mem_reverse.1 hx)
   exact (zm6 hk ht).2,List.map_reverse,List.map_map,show (Tpl.name ∘ renT)=(pfU ∘ fun t:Tpl=>t.name) from rfl,← List.map_map,zjH]
  exact zxJ _ (by omega)
end Go.AI
namespace Go.AI
open Go.Proofs
set_option maxRecDepth 20000
theorem zre (O:List Heap) (l:List Ins) (nm:ByteArray) (hl:l.length≤1000000) (hx:∀ x∈l,x.tpl.size≤1000∧x.evs.length≤1000000):zan Tryz.prog 29 [.i (zaV l),.i (strI nm)] O (.i (zaV (l.map (renI nm)))) [] O:=by
 refine zaR [13,15] Tk Tryz.func29 rfl Tryz.call29 Tryz.ntmps29 (Nat.le_of_ble_eq_true rfl) fun E=>?_
 refine zag Tk Tryz.func29 ?_
 refine g_wk (zb2 5 43 107 3 rfl rfl rfl) ?_
 refine zae ?_
 refine zaj (fun i:Nat=>[(1,.i (strI nm)),(5,.osl 0 43),(11,.i (zaV l)),(12,ii l.length),(13,ii i)]) (fun i=>[(43,zcj ((l.take i).map (renI nm)))]) (fun _=>O) 46
  (fun i=>i≤l.length) (fun i=>l.length - i) 0 (Nat.zero_le _) ⟨rfl,rfl,rfl,rfl,rfl,trivial⟩ rfl ⟨rfl,trivial⟩ rfl rfl ?_
 intro i hi ih
 have hi:i≤l.length:=hi
 refine zag Tk Tryz.func29 ?_
 refine zai Tk Tryz.func29 rfl (fun g1=>?_) (fun g1=>?_)
 rotate_left
 ·have g1:l.length≤i:=by simpa using g1
  rw[List.take_of_length_le g1]
  refine zax ?_
  refine zas (zap 43 rfl rfl) ?_
  refine zas (zaZ rfl) ?_
  refine zag Tk Tryz.func29 ?_
  refine g_go Tk Tryz.func29 ?_
  refine zah Tk (r:=.i (zaV (l.map (renI nm)))) rfl rfl rfl trivial rfl rfl ?_
  rfl
 have g1:i<l.length:=by simpa using g1
 have gx:(l.map insI)[(i:Int).toNat]? = some (insI l[i]):=zam (f:=insI) g1
 have hi1:ii (IntKind.i64.wrap ((i:Int)+1))=ii ((i+1:Nat):Int):=congrArg ii (zaB (n:=1000001) (by omega) (by decide))
 obtain⟨hxt,hxe⟩:=hx l[i] (List.getElem_mem g1)
 have hts:=zaM (renI nm) g1
 have hYl:((l.take i).map (renI nm)).length≤1000000:=by rw[List.length_map,List.length_take];omega
 generalize (l.take i).map (renI nm)=Y at *
 generalize l[i]=x at *
 obtain⟨xn,xt,ev⟩:=x
 simp only at hxt hxe
 have hts:(l.take (i+1)).map (renI nm)=Y++[⟨xn,pfU xt,ev.map (renS nm)⟩]:=hts
 refine zaf Tk Tryz.func29 (by exact⟨by omega,by show (i:Int)<(l.length:Int);omega⟩) ?_
 refine zaq Tk Tryz.func29 (gx) ?_
 refine zaf Tk Tryz.func29 (by show 1+xt.size≤9223372036854775807;omega) ?_
 refine g_wk (zay 8 37 9 1 (pre:=[.i (strI xn),.i (strI (pfU xt))]) (post:=[]) rfl rfl rfl) ?_
 refine zae ?_
 refine zaj (fun j:Nat=>[(1,.i (strI nm)),(5,.osl 0 43),(8,.own 0 8 0 0),(11,.i (zaV l)),(12,ii l.length),(13,ii i),(24,.i (zhi ev)),(25,ii ev.length),(26,ii j)]) (fun j=>[(43,zcj Y),(8,.box [.i (strI xn),.i (strI (pfU xt)),.osl 0 37]),(37,oss ((ev.take j).map (renS nm)))]) (fun _=>O) 46
  (fun j=>j≤ev.length) (fun j=>ev.length - j) 0 (Nat.zero_le _) ⟨rfl,rfl,rfl,rfl,rfl,rfl,rfl,rfl,rfl,trivial⟩ rfl ⟨rfl,rfl,rfl,trivial⟩ rfl rfl ?_
 intro j hj ih2
 have hj:j≤ev.length:=hj
 refine zag Tk Tryz.func29 ?_
 refine zai Tk Tryz.func29 rfl (fun g2=>?_) (fun g2=>?_)
 rotate_left
 ·have g2:ev.length≤j:=by simpa using g2
  rw[List.take_of_length_le g2]
  generalize ev.map (renS nm)=Z at *
  refine zax ?_
  refine zas (zap 37 rfl rfl) ?_
  refine zas (zaZ rfl) ?_
  refine zag Tk Tryz.func29 ?_
  refine g_go Tk Tryz.func29 ?_
  refine zaf Tk Tryz.func29 (by exact⟨by show (Y.length+1) * 56≤140737488355328;omega,by show Y.length+1≤9223372036854775807;omega⟩) ?_
  refine zae ?_
  refine ih (i+1) _ _ g1 (by omega) ⟨rfl,rfl,rfl,rfl,hi1,trivial⟩ rfl ⟨?_,trivial⟩ rfl rfl
  rw[hts]
  show some (Ob.arr 107 3 (Y.length+1) (Y.map insI++[insI ⟨xn,pfU xt,Z⟩]) true)=_
  simp[zcj]
 have g2:j<ev.length:=by simpa using g2
 have ge:(ev.map fun s=>[strI s])[(j:Int).toNat]? = some [strI ev[j]]:=zam (f:=fun s:ByteArray=>[strI s]) g2
 have hj1:ii (IntKind.i64.wrap ((j:Int)+1))=ii ((j+1:Nat):Int):=congrArg ii (zaB (n:=1000001) (by omega) (by decide))
 have hzs:=zaM (renS nm) g2
 have hZl:((ev.take j).map (renS nm)).length≤1000000:=by rw[List.length_map,List.length_take];omega
 generalize (ev.take j).map (renS nm)=Z at *
 generalize ev[j]=s at *
 refine zaf Tk Tryz.func29 (by exact⟨by omega,by show (j:Int)<(ev.length:Int);omega⟩) ?_
 refine zaq Tk Tryz.func29 (ge) ?_
 refine zai Tk Tryz.func29 rfl (fun c3=>?_) (fun c3=>?_)
 ·have c3:(s.toList==nm.toList)=true:=c3
  rw[za7] at c3
  have e3:renS nm s=othB:=if_pos c3
  refine zaf Tk Tryz.func29 (by exact⟨by show (Z.length+1) * 16≤140737488355328;omega,by show Z.length+1≤9223372036854775807;omega⟩) ?_
  refine zae ?_
  refine ih2 (j+1) _ _ g2 (by omega) ⟨rfl,rfl,rfl,rfl,rfl,rfl,rfl,rfl,hj1,trivial⟩ rfl ⟨rfl,rfl,?_,trivial⟩ rfl rfl
  rw[hzs,e3]
  exact congrArg some (zbG Z othB)
 ·have c3:(s.toList==nm.toList)=false:=c3
  rw[za7] at c3
  have e3:renS nm s=s:=if_neg (by rw[c3];decide)
  refine zaf Tk Tryz.func29 (by exact⟨by show (Z.length+1) * 16≤140737488355328;omega,by show Z.length+1≤9223372036854775807;omega⟩) ?_
  refine zae ?_
  refine ih2 (j+1) _ _ g2 (by omega) ⟨rfl,rfl,rfl,rfl,rfl,rfl,rfl,rfl,hj1,trivial⟩ rfl ⟨rfl,rfl,?_,trivial⟩ rfl rfl
  rw[hzs,e3]
  exact congrArg some (zbG Z s)
end Go.AI
set_option maxRecDepth 20000
namespace Go.AI
open Go.Proofs
structure renSz (m:Mdl):Prop where
 tl:m.tpls.length≤1000
 t:∀ t∈m.tpls,t.name.size≤1000∧t.locs.length≤1000∧∀ s∈t.locs,s.size≤1000
 c:∀ x∈m.comps,x.tpl.size≤1000
 r:∀ x∈m.reqs,x.tpl.size≤1000
 xl:m.excs.length≤1000
 x:∀ x∈m.excs,x.locals.length≤1000∧∀ y∈x.locals,y.2.size≤1000
theorem zkO (c:UInt8) (i:Nat) (h:i≤1000):(za0 c i).size≤1000:=by
 have:=zhH c i h
 omega
theorem zvz {k:Sk22} (hk:sk22Ok k):∀ t∈mkT k,t.name.size≤1000∧t.locs.length≤1000∧∀ s∈t.locs,s.size≤1000:=by
 intro t h
 obtain⟨j,h1,h2,rfl⟩:=ziC h
 have hs:=hk.t _ (zcN (d:=zSk) h2)
 have hl:zbW (k.tpls.getD j zSk)≤4:=by have:=hs.locs;unfold zbW;omega
 have hT:=zdd k
 refine⟨zkO 116 j (by omega),?_,fun s hs=>?_⟩
 ·show ((List.range (zbW _)).map _).length≤_
  rw[List.length_map,List.length_range];omega
 ·obtain⟨i,hi,rfl⟩:=List.mem_map.1 hs
  have hi:=List.mem_range.1 hi
  exact zkO 115 i (by omega)
theorem zrD {k:Sk22} (hk:sk22Ok k):∀ x∈(mkI k).1++(mkI k).2,x.tpl.size≤1000:=by
 refine zc3 (P:=fun x=>x.tpl.size≤1000) _ _ _ fun i hi=>?_
 have:=zdG k
 have hu:=(hk.i (k.ins.getD i zUse) (zcN (by omega))).1
 have hT:=zdd k
 refine zkO 116 _ ?_
 by_cases h0:(mkT k).length=0
 ·rw[h0]
  have:(k.ins.getD i zUse).t % ((0:Nat):Int)=(k.ins.getD i zUse).t:=Int.emod_zero _
  rw[this];omega
 ·have h1:=Int.emod_nonneg (k.ins.getD i zUse).t (show ((mkT k).length:Int)≠0 by omega)
  have h2:=Int.emod_lt_of_pos (k.ins.getD i zUse).t (show 0<((mkT k).length:Int) by omega)
  omega
theorem zsj {T:List Tpl} {C:List Ins} {acc:List NLc} {w:Whr} (hT:∀ t∈T,∀ s∈t.locs,s.size≤1000) (ha:∀ y∈acc,y.2.size≤1000):∀ y∈excA T C acc w,y.2.size≤1000:=by
 intro y hy
 have hloc:∀ (c:Ins) (n:Nat),((zds T c).locs.getD n ⟨#[]⟩).size≤1000:=fun c n=>by
  by_cases hn:n<(zds T c).locs.length
  ·have hm:(zds T c).locs.getD n ⟨#[]⟩∈(zds T c).locs:=zcN hn
   generalize (zds T c).locs.getD n ⟨#[]⟩=s at *
   unfold zds at hm
   cases hf:T.find? fun t=>sB t.name c.tpl with
   | none=>rw[hf] at hm;cases hm
   | some t=>rw[hf] at hm;exact hT t (List.mem_of_find?_eq_some hf) s hm
  ·rw[List.getD_eq_getElem?_getD,List.getElem?_eq_none (by omega)]
   exact Nat.zero_le _
 have hcase:excA T C acc w=acc∨∃ c n nmx,excA T C acc w=acc++[(nmx,(zds T c).locs.getD n ⟨#[]⟩)]:=by
  unfold excA
  by_cases h:(match acc with | []=>false | a::_=>sB a.1 (C.getD (w.1 % (C.length:Int)).toNat zfT).name)=true
  ·rcases acc with _ | ⟨a,r⟩
   ·cases h
   ·have h:sB a.1 (C.getD (w.1 % (C.length:Int)).toNat zfT).name=true:=h
    exact .inl (if_pos h)
  ·rcases acc with _ | ⟨a,r⟩
   ·exact .inr ⟨_,_,_,rfl⟩
   ·have h:¬ sB a.1 (C.getD (w.1 % (C.length:Int)).toNat zfT).name=true:=h
    exact .inr ⟨_,_,_,if_neg h⟩
 rcases hcase with e | ⟨c,n,nmx,e⟩
 ·rw[e] at hy;exact ha y hy
 ·rw[e] at hy
  rcases List.mem_append.1 hy with hy | hy
  ·exact ha y hy
  ·rw[List.mem_singleton.1 hy];exact hloc c n
theorem zuw {k:Sk22} (hk:sk22Ok k):renSz (zcl k):=by
 have hT:=zdd k
 have hex:=zhK (k:=k)
 refine { tl:=?_,t:=?_,c:=?_,r:=?_,xl:=by omega,x:=fun x hx=>⟨by have:=(hex.2 x hx).2;omega,?_⟩ }
 ·rw[zbP];omega
 ·rw[zbP];exact zvz hk
 ·rw[zdf];exact fun x hx=>zrD hk x (List.mem_append_left _ hx)
 ·rw[zd0];exact fun x hx=>zrD hk x (List.mem_append_right _ hx)
 ·have hTs:=fun t ht=>(zvz hk t ht).2.2
  unfold zcl at hx
  by_cases h0:(mkI k).1.length=0
  ·rw[if_pos h0] at hx;cases hx
  rw[if_neg h0] at hx
  obtain⟨i,_,rfl⟩:=List.mem_map.1 hx
  exact zsj hTs (zsj (acc:=[]) hTs fun y hy=>by cases hy)
theorem zwH:∀ j,j<4→(renE j evs4).all (fun x=>decide (x.name.size≤1000))=true
 | 0,_=>by kernel_rfl
 | 1,_=>by kernel_rfl
 | 2,_=>by kernel_rfl
 | 3,_=>by kernel_rfl
 | n+4,h=>by omega
theorem zmU (j:Nat) (l:List Evt):(renE j l).length=l.length:=by
 unfold renE
 cases l[j]? <;> simp
theorem zrk (c:UInt8) (s:ByteArray):((⟨#[c]⟩:ByteArray)++s).size=1+s.size:=by
 rw[ByteArray.size_append];rfl
theorem zwF {m:Mdl} (hm:mdlOk m) (hs:renSz m) (he:m.evs=evs4) {j:Nat} (hj:j<4) (nm:ByteArray):mdlOk (renM m j nm):=by
 refine { ev:=?_,tp:=?_,co:=?_,rq:=?_,ex:=?_,cn:=hm.cn,nm:=hm.nm,evn:=?_,tpk:=?_,cok:=?_,rqk:=?_,exk:=?_,cnk:=hm.cnk }
 ·show (renE j m.evs).length≤_
  rw[zmU];exact hm.ev
 ·show (m.tpls.map renT).reverse.length≤_
  rw[List.length_reverse,List.length_map];exact hm.tp
 ·show (m.comps.map _).length≤_
  rw[List.length_map];exact hm.co
 ·show (m.reqs.map _).length≤_
  rw[List.length_map];exact hm.rq
 ·show (m.excs.map _).length≤_
  rw[List.length_map];exact hm.ex
 ·show ∀ x∈renE j m.evs,_
  rw[he]
  intro x hx
  have:=List.all_eq_true.1 (zwH j hj) x hx
  have:=of_decide_eq_true this
  simp only[zao];omega
 ·intro t ht
  obtain⟨u,hu,rfl⟩:=List.mem_map.1 (List.mem_reverse.1 ht)
  have h1:=hm.tpk u hu
  obtain⟨z1,z2,z3⟩:=hs.t u hu
  refine⟨?_,?_,fun s hs=>?_,h1.el,h1.es,h1.mo⟩
  ·show ((⟨#[117]⟩:ByteArray)++u.name).size≤zao
   rw[zrk];simp only[zao];omega
  ·show (u.locs.map pfL).length≤_
   rw[List.length_map];omega
  ·obtain⟨v,hv,rfl⟩:=List.mem_map.1 hs
   show ((⟨#[108]⟩:ByteArray)++v).size≤zao
   rw[zrk]
   have:=z3 v hv
   simp only[zao];omega
 ·intro x hx
  obtain⟨u,hu,rfl⟩:=List.mem_map.1 hx
  have h1:=hm.cok u hu
  exact⟨h1.1,by show (u.evs.map _).length≤_;rw[List.length_map];exact h1.2⟩
 ·intro x hx
  obtain⟨u,hu,rfl⟩:=List.mem_map.1 hx
  have h1:=hm.rqk u hu
  exact⟨h1.1,by show (u.evs.map _).length≤_;rw[List.length_map];exact h1.2⟩
 ·intro x hx
  obtain⟨u,hu,rfl⟩:=List.mem_map.1 hx
  have h1:=hm.exk u hu
  exact⟨h1.1,by show (u.locals.map _).length≤_;rw[List.length_map];exact h1.2⟩
theorem zwG {m:Mdl} {j:Nat} {nm:ByteArray} (h:∀ t∈m.tpls,t.mach.moves.length≤19):∀ t∈(renM m j nm).tpls,t.mach.moves.length≤19:=by
 intro t ht
 obtain⟨u,hu,rfl⟩:=List.mem_map.1 (List.mem_reverse.1 ht)
 exact h u hu
theorem zue {m:Mdl} {j:Nat} {nm:ByteArray} (h:renOk m j nm):∃ ev',celR (renM m j nm)=(⟨ev',(celR m).1.comps,(celR m).1.reqs,(celR m).1.excs,(celR m).1.cons⟩,(celR m).2):=by
 rw[zwE h]
 by_cases c:(celR m).2.2≠0
 ·rw[if_pos c]
  exact⟨(celR m).1.evs,rfl⟩
 ·rw[if_neg c]
  exact⟨_,rfl⟩
end Go.AI
namespace Go.AI
open Go.Proofs
set_option maxRecDepth 20000
section
variable {c:Cx} {s:St} {k:List Item} {ops:Array Oper} {rest:List Nat} {o:Oper} {E0:Env} {H H0 H1:Heap} {O:List Heap}
end
section
variable {P:Program} {T:TT} {f:FuncId} {fn:Func} {code:Code}
end
section
variable {c:Cx} {s:St} {k:List Item} {ops:Array Oper} {rest:List Nat} {o:Oper} {E0:Env} {H:Heap} {O:List Heap}
end
structure expOk (m:Mdl) (og:List (List Sta)) (x:NEx):Prop where
 cl:m.comps.length≤8
 nd:(m.comps.map (·.name)).Nodup
 gl:og.length=m.comps.length
 gs:∀ s∈og,s.length≤4096
 ll:x.locals.length≤12
 nl:(x.locals.map (·.1)).Nodup
 li:∀ y∈x.locals,y.1∈m.comps.map (·.name)
 tp:∀ c∈m.comps,∃ t,zbS m c=some t
 xn:x.name.size≤1000
structure itmOk (x:Itm):Prop where
 al:x.aut.alpha.length≤zao
 ma:x.aut.marked.length≤zao
 ed:x.aut.edges.length≤zao
structure celOk (c:Cel):Prop where
 ev:c.evs.length≤zao
 co:c.comps.length≤zao
 cok:∀ x∈c.comps,itmOk x
 rq:c.reqs.length≤zao
 rok:∀ x∈c.reqs,itmOk x
 ex:c.excs.length≤zao
 xok:∀ x∈c.excs,x.locals.length≤zao
 cn:c.cons.length≤zao
 nok:∀ x∈c.cons,x.terms.length≤zao
theorem zgs (O:List Heap) (l:List Itm) (hl:l.length≤zao) (hx:∀ x∈l,itmOk x):zan Tryz.prog 66 [.i (zbu l),.i (zbu l)] O (bb true) [] O:=by
 refine zaa Tk Tryz.func66 rfl Tryz.call66 Tryz.ntmps66 (Nat.le_of_ble_eq_true rfl) fun E=>?_
 refine zag Tk Tryz.func66 ?_
 refine zai Tk Tryz.func66 rfl (fun h=>absurd h (by simp)) (fun _=>?_)
 refine zae ?_
 refine zaj (fun i:Nat=>[(0,.i (zbu l)),(1,.i (zbu l)),(5,ii i)]) (fun _=>[]) (fun _=>O) 42
  (fun i=>i≤l.length) (fun i=>l.length - i) 0 (Nat.zero_le _) ⟨rfl,rfl,rfl,trivial⟩ rfl trivial rfl rfl ?_
 intro i hi ih
 have hi:i≤l.length:=hi
 refine zag Tk Tryz.func66 ?_
 refine zai Tk Tryz.func66 rfl (fun g1=>?_) (fun g1=>?_)
 rotate_left
 ·refine zah Tk (r:=bb true) rfl rfl rfl trivial rfl rfl ?_
  rfl
 have g1:i<l.length:=by simpa using g1
 have gx:(l.map itmI)[(i:Int).toNat]? = some (itmI l[i]):=zam (f:=itmI) g1
 obtain⟨h1,h2,h3⟩:=hx _ (List.getElem_mem g1)
 generalize l[i]=x at *
 have heq:=fun O=>zke O x.aut h1 h2 h3
 obtain⟨xn,al,n,mk,es⟩:=x
 simp only at heq
 refine zaw Tk Tryz.func66 zaG rfl ?_
 refine zar Tk (by exact⟨by omega,by show (i:Int)<(l.length:Int);omega⟩) ?_
 refine zaF Tk (gx) ?_
 refine zar Tk (by exact⟨by omega,by show (i:Int)<(l.length:Int);omega⟩) ?_
 refine zaF Tk (gx) ?_
 refine zbT Tk (fun h=>absurd h (by simp)) (fun _=>?_)
 refine zar Tk (by exact⟨by omega,by show (i:Int)<(l.length:Int);omega⟩) ?_
 refine zaF Tk (gx) ?_
 refine zar Tk (by exact⟨by omega,by show (i:Int)<(l.length:Int);omega⟩) ?_
 refine zaF Tk (gx) ?_
 refine za2 Tk (fun _=>heq _) rfl rfl rfl ?_
 refine zaH Tk Tryz.func66 (by kernel_rfl) ?_
 refine gcF Tk Tryz.func66 rfl ?_
 refine zae ?_
 exact ih (i+1) _ _ g1 (by omega) ⟨rfl,rfl,congrArg ii (zaB (n:=zao) (by omega) (by decide)),trivial⟩ rfl trivial rfl rfl
theorem zpb (O:List Heap) (c:Cel) (hc:celOk c):zan Tryz.prog 21 [celD c,celD c] O (bb true) [] O:=by
 have h1:=fun O=>zgs O c.comps hc.co hc.cok
 have h2:=fun O=>zgs O c.reqs hc.rq hc.rok
 have hev:=hc.ev
 have hex:=hc.ex
 have hxo:=hc.xok
 have hcn:=hc.cn
 have hno:=hc.nok
 clear hc
 obtain⟨ev,co,rq,ex,cn⟩:=c
 simp only at h1 h2 hev hex hxo hcn hno
 show zan Tryz.prog 21 [.agg [.i (za3 ev),.i (zbu co),.i (zbu rq),.i (zcH ex),.i (.sl 3 cn.length (cn.map xcnI))],.agg [.i (za3 ev),.i (zbu co),.i (zbu rq),.i (zcH ex),.i (.sl 3 cn.length (cn.map xcnI))]] O (bb true) [] O
 refine zaa Tk Tryz.func21 rfl Tryz.call21 Tryz.ntmps21 (Nat.le_of_ble_eq_true rfl) fun E=>?_
 refine zag Tk Tryz.func21 ?_
 refine zaC Tk Tryz.func21 rfl (fun h=>absurd h (by simp)) (fun _=>?_)
 refine zaC Tk Tryz.func21 rfl (fun h=>absurd h (by simp)) (fun _=>?_)
 refine zaC Tk Tryz.func21 rfl (fun h=>absurd h (by simp)) (fun _=>?_)
 refine zaC Tk Tryz.func21 rfl (fun h=>absurd h (by simp)) (fun _=>?_)
 refine zai Tk Tryz.func21 rfl (fun h=>absurd h (by simp)) (fun _=>?_)
 generalize hB:[D.i (za3 ev),.i (zbu co),.i (zbu rq),.i (zcH ex),.i (.sl 3 cn.length (cn.map xcnI))]=B
 subst hB
 refine zae ?_
 refine zaj (fun i:Nat=>[(2,.own 0 2 0 0),(3,.own 0 3 0 0),(5,ii i)]) (fun _=>[(2,.box [.i (za3 ev),.i (zbu co),.i (zbu rq),.i (zcH ex),.i (.sl 3 cn.length (cn.map xcnI))]),(3,.box [.i (za3 ev),.i (zbu co),.i (zbu rq),.i (zcH ex),.i (.sl 3 cn.length (cn.map xcnI))])]) (fun _=>O) 192
  (fun i=>i≤ev.length) (fun i=>ev.length - i) 0 (Nat.zero_le _) ⟨rfl,rfl,rfl,trivial⟩ rfl ⟨rfl,rfl,trivial⟩ rfl rfl ?_
 intro i hi ih
 have hi:i≤ev.length:=hi
 refine zag Tk Tryz.func21 ?_
 refine zai Tk Tryz.func21 rfl (fun g1=>?_) (fun g1=>?_)
 ·have g1:i<ev.length:=by simpa using g1
  have gv:(ev.map evtI)[(i:Int).toNat]? = some (evtI ev[i]):=zam (f:=evtI) g1
  generalize ev[i]=y at *
  obtain⟨yn,y1,y2,y3,y4⟩:=y
  refine zaw Tk Tryz.func21 zaG rfl ?_
  refine zar Tk (by exact⟨by omega,by show (i:Int)<(ev.length:Int);omega⟩) ?_
  refine zaF Tk (gv) ?_
  refine zar Tk (by exact⟨by omega,by show (i:Int)<(ev.length:Int);omega⟩) ?_
  refine zaF Tk (gv) ?_
  refine zaH Tk Tryz.func21 (by kernel_rfl) ?_
  refine zai Tk Tryz.func21 rfl (fun h=>absurd h (by simp)) (fun _=>?_)
  refine zae ?_
  exact ih (i+1) _ _ g1 (by omega) ⟨rfl,rfl,congrArg ii (zaB (n:=zao) (by omega) (by decide)),trivial⟩ rfl ⟨rfl,rfl,trivial⟩ rfl rfl
 clear ih hi g1
 refine zae ?_
 refine zaj (fun i:Nat=>[(2,.own 0 2 0 0),(3,.own 0 3 0 0),(6,ii i)]) (fun _=>[(2,.box [.i (za3 ev),.i (zbu co),.i (zbu rq),.i (zcH ex),.i (.sl 3 cn.length (cn.map xcnI))]),(3,.box [.i (za3 ev),.i (zbu co),.i (zbu rq),.i (zcH ex),.i (.sl 3 cn.length (cn.map xcnI))])]) (fun _=>O) 192
  (fun i=>i≤ex.length) (fun i=>ex.length - i) 0 (Nat.zero_le _) ⟨rfl,rfl,rfl,trivial⟩ rfl ⟨rfl,rfl,trivial⟩ rfl rfl ?_
 intro i hi ih
 have hi:i≤ex.length:=hi
 refine zag Tk Tryz.func21 ?_
 refine zai Tk Tryz.func21 rfl (fun g1=>?_) (fun g1=>?_)
 ·have g1:i<ex.length:=by simpa using g1
  have gm:(ex.map xexI)[(i:Int).toNat]? = some (xexI ex[i]):=zam (f:=xexI) g1
  have hul:=hxo _ (List.getElem_mem g1)
  have hi1:ii (IntKind.i64.wrap ((i:Int)+1))=ii ((i+1:Nat):Int):=congrArg ii (zaB (n:=zao) (by omega) (by decide))
  generalize ex[i]=y at *
  obtain⟨yn,us⟩:=y
  simp only at hul
  refine zaw Tk Tryz.func21 zaG rfl ?_
  refine zar Tk (by exact⟨by omega,by show (i:Int)<(ex.length:Int);omega⟩) ?_
  refine zaF Tk (gm) ?_
  refine zar Tk (by exact⟨by omega,by show (i:Int)<(ex.length:Int);omega⟩) ?_
  refine zaF Tk (gm) ?_
  refine zcY Tk rfl rfl rfl ?_
  refine zcY Tk rfl rfl rfl ?_
  refine zaH Tk Tryz.func21 (by kernel_rfl) ?_
  refine zaC Tk Tryz.func21 rfl (fun h=>absurd h (by simp)) (fun _=>?_)
  refine zai Tk Tryz.func21 rfl (fun h=>absurd h (by simp)) (fun _=>?_)
  refine zae ?_
  refine zaj (fun j:Nat=>[(2,.own 0 2 0 0),(3,.own 0 3 0 0),(6,ii i),(7,.own 0 7 0 0),(8,.own 0 8 0 0),(9,ii j)]) (fun _=>[(2,.box [.i (za3 ev),.i (zbu co),.i (zbu rq),.i (zcH ex),.i (.sl 3 cn.length (cn.map xcnI))]),(3,.box [.i (za3 ev),.i (zbu co),.i (zbu rq),.i (zcH ex),.i (.sl 3 cn.length (cn.map xcnI))]),(7,.box [.i (strI yn),.i (.sl 2 us.length (us.map zbt))]),(8,.box [.i (strI yn),.i (.sl 2 us.length (us.map zbt))])]) (fun _=>O) 192
   (fun j=>j≤us.length) (fun j=>us.length - j) 0 (Nat.zero_le _) ⟨rfl,rfl,rfl,rfl,rfl,rfl,trivial⟩ rfl ⟨rfl,rfl,rfl,rfl,trivial⟩ rfl rfl ?_
  intro j hj ih2
  have hj:j≤us.length:=hj
  refine zag Tk Tryz.func21 ?_
  refine zai Tk Tryz.func21 rfl (fun g3=>?_) (fun g3=>?_)
  rotate_left
  ·refine zae ?_
   exact ih (i+1) _ _ g1 (by omega) ⟨rfl,rfl,hi1,trivial⟩ rfl ⟨rfl,rfl,trivial⟩ rfl rfl
  have g3:j<us.length:=by simpa using g3
  have gu:(us.map zbt)[(j:Int).toNat]? = some (zbt us[j]):=zam (f:=zbt) g3
  generalize us[j]=u at *
  obtain⟨u1,u2⟩:=u
  refine zaw Tk Tryz.func21 zaG rfl ?_
  refine zar Tk (by exact⟨by omega,by show (j:Int)<(us.length:Int);omega⟩) ?_
  refine zaF Tk (gu) ?_
  refine zar Tk (by exact⟨by omega,by show (j:Int)<(us.length:Int);omega⟩) ?_
  refine zaF Tk (gu) ?_
  refine zaH Tk Tryz.func21 (by kernel_rfl) ?_
  refine zai Tk Tryz.func21 rfl (fun h=>absurd h (by simp)) (fun _=>?_)
  refine zae ?_
  exact ih2 (j+1) _ _ g3 (by omega) ⟨rfl,rfl,rfl,rfl,rfl,congrArg ii (zaB (n:=zao) (by omega) (by decide)),trivial⟩ rfl ⟨rfl,rfl,rfl,rfl,trivial⟩ rfl rfl
 clear ih hi g1
 refine zae ?_
 refine zaj (fun i:Nat=>[(2,.own 0 2 0 0),(3,.own 0 3 0 0),(10,ii i)]) (fun _=>[(2,.box [.i (za3 ev),.i (zbu co),.i (zbu rq),.i (zcH ex),.i (.sl 3 cn.length (cn.map xcnI))]),(3,.box [.i (za3 ev),.i (zbu co),.i (zbu rq),.i (zcH ex),.i (.sl 3 cn.length (cn.map xcnI))])]) (fun _=>O) 192
  (fun i=>i≤cn.length) (fun i=>cn.length - i) 0 (Nat.zero_le _) ⟨rfl,rfl,rfl,trivial⟩ rfl ⟨rfl,rfl,trivial⟩ rfl rfl ?_
 intro i hi ih
 have hi:i≤cn.length:=hi
 refine zag Tk Tryz.func21 ?_
 refine zai Tk Tryz.func21 rfl (fun g1=>?_) (fun g1=>?_)
 ·have g1:i<cn.length:=by simpa using g1
  have gm:(cn.map xcnI)[(i:Int).toNat]? = some (xcnI cn[i]):=zam (f:=xcnI) g1
  have hul:=hno _ (List.getElem_mem g1)
  have hi1:ii (IntKind.i64.wrap ((i:Int)+1))=ii ((i+1:Nat):Int):=congrArg ii (zaB (n:=zao) (by omega) (by decide))
  generalize cn[i]=y at *
  obtain⟨yn,us,yb⟩:=y
  simp only at hul
  refine zaw Tk Tryz.func21 zaG rfl ?_
  refine zar Tk (by exact⟨by omega,by show (i:Int)<(cn.length:Int);omega⟩) ?_
  refine zaF Tk (gm) ?_
  refine zar Tk (by exact⟨by omega,by show (i:Int)<(cn.length:Int);omega⟩) ?_
  refine zaF Tk (gm) ?_
  refine zcY Tk rfl rfl rfl ?_
  refine zcY Tk rfl rfl rfl ?_
  refine zaH Tk Tryz.func21 (by kernel_rfl) ?_
  refine zaC Tk Tryz.func21 rfl (fun h=>absurd h (by simp)) (fun _=>?_)
  refine zaC Tk Tryz.func21 rfl (fun h=>absurd h (by simp)) (fun _=>?_)
  refine zai Tk Tryz.func21 rfl (fun h=>absurd h (by simp)) (fun _=>?_)
  refine zae ?_
  refine zaj (fun j:Nat=>[(2,.own 0 2 0 0),(3,.own 0 3 0 0),(10,ii i),(11,.own 0 11 0 0),(12,.own 0 12 0 0),(13,ii j)]) (fun _=>[(2,.box [.i (za3 ev),.i (zbu co),.i (zbu rq),.i (zcH ex),.i (.sl 3 cn.length (cn.map xcnI))]),(3,.box [.i (za3 ev),.i (zbu co),.i (zbu rq),.i (zcH ex),.i (.sl 3 cn.length (cn.map xcnI))]),(11,.box [.i (strI yn),.i (.sl 2 us.length (us.map zbt)),ii yb]),(12,.box [.i (strI yn),.i (.sl 2 us.length (us.map zbt)),ii yb])]) (fun _=>O) 192
   (fun j=>j≤us.length) (fun j=>us.length - j) 0 (Nat.zero_le _) ⟨rfl,rfl,rfl,rfl,rfl,rfl,trivial⟩ rfl ⟨rfl,rfl,rfl,rfl,trivial⟩ rfl rfl ?_
  intro j hj ih2
  have hj:j≤us.length:=hj
  refine zag Tk Tryz.func21 ?_
  refine zai Tk Tryz.func21 rfl (fun g3=>?_) (fun g3=>?_)
  rotate_left
  ·refine zae ?_
   exact ih (i+1) _ _ g1 (by omega) ⟨rfl,rfl,hi1,trivial⟩ rfl ⟨rfl,rfl,trivial⟩ rfl rfl
  have g3:j<us.length:=by simpa using g3
  have gu:(us.map zbt)[(j:Int).toNat]? = some (zbt us[j]):=zam (f:=zbt) g3
  generalize us[j]=u at *
  obtain⟨u1,u2⟩:=u
  refine zaw Tk Tryz.func21 zaG rfl ?_
  refine zar Tk (by exact⟨by omega,by show (j:Int)<(us.length:Int);omega⟩) ?_
  refine zaF Tk (gu) ?_
  refine zar Tk (by exact⟨by omega,by show (j:Int)<(us.length:Int);omega⟩) ?_
  refine zaF Tk (gu) ?_
  refine zaH Tk Tryz.func21 (by kernel_rfl) ?_
  refine zai Tk Tryz.func21 rfl (fun h=>absurd h (by simp)) (fun _=>?_)
  refine zae ?_
  exact ih2 (j+1) _ _ g3 (by omega) ⟨rfl,rfl,rfl,rfl,rfl,congrArg ii (zaB (n:=zao) (by omega) (by decide)),trivial⟩ rfl ⟨rfl,rfl,rfl,rfl,trivial⟩ rfl rfl
 refine zak Tk Tryz.func21 (h1 _) rfl rfl rfl rfl rfl ?_
 refine gkT Tk Tryz.func21 rfl ?_
 refine zak Tk Tryz.func21 (h2 _) rfl rfl rfl rfl rfl ?_
 refine zah Tk (r:=bb true) rfl rfl rfl trivial rfl rfl ?_
 rfl
section
variable {σ:Type} {eq:σ→σ→Bool} {step:σ→Int→σ × Bool × Int} {mkd:σ→Bool}
theorem zoQ {lim:Bool} {i:Nat} {s:σ} {ev:Int} {U V:Unf σ} (h:zdr eq lim step i s ev U = .ok V):V.eds.length≤U.eds.length+1∧V.mkl=U.mkl:=by
 unfold zdr at h
 by_cases h1:(step s ev).2.2≠0
 ·rw[if_pos h1] at h;cases h
 rw[if_neg h1] at h
 by_cases h2:(step s ev).2.1=false
 ·rw[if_pos h2] at h;cases h;exact⟨by omega,rfl⟩
 rw[if_neg h2] at h
 by_cases h3:U.sts.findIdx (eq (step s ev).1)<U.sts.length
 ·rw[if_pos h3] at h;cases h;exact⟨by simp,rfl⟩
 rw[if_neg h3] at h
 by_cases h4:lim=true∧U.sts.length=4096
 ·rw[if_pos h4] at h;cases h
 rw[if_neg h4] at h;cases h;exact⟨by simp,rfl⟩
theorem zgf {lim:Bool} {i:Nat} {s:σ} {V:Unf σ}:∀ {l:List Int} {U:Unf σ},zbl eq lim step i s l U = .ok V→V.eds.length≤U.eds.length+l.length∧V.mkl=U.mkl
 | [],U,h=>by cases h;exact⟨by simp,rfl⟩
 | ev::r,U,h=>by
  simp only[zbl] at h
  cases hv:zdr eq lim step i s ev U with
  | error e'=>rw[hv] at h;cases h
  | ok U'=>
   rw[hv] at h
   obtain⟨h1,h2⟩:=zgf h
   obtain⟨h3,h4⟩:=zoQ hv
   exact⟨by rw[List.length_cons];omega,h2.trans h4⟩
theorem zjc {lim:Bool} {alpha:List Int} {V:Unf σ}:∀ {f i:Nat} {U:Unf σ},zeL eq lim step mkd alpha f i U = .ok V→V.eds.length≤U.eds.length+f * alpha.length∧V.mkl.length≤U.mkl.length+f
 | 0,_,U,h=>by cases h;exact⟨by simp,by simp⟩
 | f+1,i,U,h=>by
  simp only[zeL] at h
  cases hg:U.sts[i]? with
  | none=>rw[hg] at h;cases h;exact⟨Nat.le_add_right _ _,Nat.le_add_right _ _⟩
  | some s=>
   rw[hg] at h
   simp only at h
   cases hv:zbl eq lim step i s alpha (zeK mkd i s U) with
   | error e'=>rw[hv] at h;cases h
   | ok U'=>
    rw[hv] at h
    obtain⟨h1,h2⟩:=zjc h
    obtain⟨h3,h4⟩:=zgf hv
    rw[(zgj mkd i s U).2] at h3
    have h5:(zeK mkd i s U).mkl.length≤U.mkl.length+1:=by unfold zeK;split <;> simp
    rw[Nat.succ_mul]
    rw[h4] at h2
    exact⟨by omega,by omega⟩
end
theorem zkv {m:Ext} {U:Unf Sta} (h:zbJ m = .ok U):U.eds.length≤4097 * m.alpha.length∧U.mkl.length≤4097:=by
 unfold zbJ at h
 by_cases h1:chk m≠0
 ·rw[if_pos h1] at h;cases h
 ·rw[if_neg h1] at h
  have:=zjc h
  simpa [unf0] using this
theorem zwX {m:Mdl} (hm:mdlOk m) {x:Ins} (hx:x∈m.comps∨x∈m.reqs):(mchR m x).alpha.length≤1000000:=by
 unfold mchR
 cases zbS m x with
 | none=>exact Nat.zero_le _
 | some t=>
  show (srtZ _).length≤_
  rw[(zeP _).length_eq,List.length_map]
  exact ziL hm hx
theorem ziI {m:Mdl} (hm:mdlOk m):∀ {l:List Ins} {i:Nat} {a:List Itm} {o:List (List Sta)},(∀ x∈l,x∈m.comps∨x∈m.reqs)→zb1 m l i = .ok (a,o)→a.length=l.length∧∀ x∈a,itmOk x
 | [],i,a,o,_,h=>by cases h;exact⟨rfl,by simp⟩
 | x::r,i,a,o,hx,h=>by
  simp only[zb1] at h
  cases hu:zbJ (mchR m x) with
  | error e=>rw[hu] at h;cases h
  | ok U=>
   rw[hu] at h
   simp only at h
   cases hr:zb1 m r (i+1) with
   | error e=>rw[hr] at h;cases h
   | ok p=>
    obtain⟨a2,o2⟩:=p
    rw[hr] at h
    cases h
    obtain⟨h1,h2⟩:=ziI hm (fun y hy=>hx y (by simp[hy])) hr
    obtain⟨h3,h4⟩:=zkv hu
    have h5:=zwX hm (hx x (by simp))
    refine⟨by simp[h1],fun y hy=>?_⟩
    rcases List.mem_cons.1 hy with rfl | hy
    ·exact⟨by show (mchR m x).alpha.length≤zao;simp only[zao];omega,by show U.mkl.length≤zao;simp only[zao];omega,by show U.eds.length≤zao;simp only[zao];omega⟩
    ·exact h2 y hy
theorem zm1 {nm:ByteArray}:∀ {l:List (List Loc2)} {i:Nat} {y:XEx},y∈numX nm l i→y.locals∈l
 | [],_,_,h=>by cases h
 | b::r,i,y,h=>by
  simp only[numX] at h
  rcases List.mem_cons.1 h with rfl | h
  ·simp
  ·exact List.mem_cons_of_mem _ (zm1 h)
theorem zuX {m:Mdl} {og:List (List Sta)} {x:NEx} {most:Int} {y:XEx} (h:y∈(expX m og x most).1):y.locals.length≤x.locals.length:=by
 unfold expX at h
 simp only at h
 by_cases h1:((x.locals.map (chcR m og)).any fun y=>y.2.isEmpty)=true
 ·rw[if_pos h1] at h;cases h
 rw[if_neg h1] at h
 by_cases h2:chsN (x.locals.map (chcR m og)) 1>most
 ·rw[if_pos h2] at h;cases h
 rw[if_neg h2] at h
 have hb:=zi2 (zdv (x.locals.map (chcR m og))) (all:=[[]]) (k:=0) (by simp)
 rw[zeR,List.length_map,Nat.zero_add] at hb
 generalize chsR (zdv (x.locals.map (chcR m og))) [[]]=all at *
 split at h
 ·rename_i one
  simp only[List.mem_singleton] at h
  subst h
  exact hb _ (by simp)
 ·exact hb _ (zm1 h)
theorem znq {m:Mdl} {og:List (List Sta)}:∀ {l:List NEx} {i:Nat} {seen:List ByteArray} {out r:List XEx},zcC m og l i seen out = .ok r→(∀ x∈l,x.locals.length≤zao)→out.length≤40 * i→(∀ y∈out,y.locals.length≤zao)→r.length≤40 * (i+l.length)∧∀ y∈r,y.locals.length≤zao
 | [],i,seen,out,r,h,_,h1,h2=>by cases h;exact⟨h1,h2⟩
 | x::l,i,seen,out,r,h,hx,h1,h2=>by
  simp only[zcC] at h
  have hl:=znp m og x (32 - (out.length:Int)) (by omega)
  have hm:∀ y∈(expX m og x (32 - (out.length:Int))).1,y.locals.length≤zao:=fun y hy=>Nat.le_trans (zuX hy) (hx x (by simp))
  by_cases c1:(expX m og x (32 - (out.length:Int))).2≠0
  ·rw[if_pos c1] at h;cases h
  rw[if_neg c1] at h
  by_cases c2:((expX m og x (32 - (out.length:Int))).1.any fun y=>decide (y.name.size>32))=true
  ·rw[if_pos c2] at h;cases h
  rw[if_neg c2] at h
  generalize (expX m og x (32 - (out.length:Int))).1=E at *
  cases hd:dupX seen E with
  | error e=>rw[hd] at h;cases h
  | ok s=>
   rw[hd] at h
   have:=znq h (fun y hy=>hx y (by simp[hy])) (by rw[List.length_append];omega) (fun y hy=>by
    rcases List.mem_append.1 hy with hy | hy
    ·exact h2 y hy
    ·exact hm y hy)
   refine⟨?_,this.2⟩
   rw[List.length_cons]
   have:=this.1
   omega
theorem zdI:∀ (l acc:List Loc2),(l.foldl (fun acc x=>zex x acc) acc).length=acc.length+l.length
 | [],acc=>rfl
 | x::r,acc=>by
  rw[List.foldl_cons,zdI r,zgT,List.length_cons];omega
theorem zsw (m:Mdl) (x:NCn):(zeF m x).terms.length=x.terms.length:=by
 show (List.foldl (fun acc x=>zex x acc) [] (x.terms.map fun t=>((fndI (m.comps.map (·.name)) t.1,t.2):Loc2))).length=_
 rw[zdI,List.length_map];exact Nat.zero_add _
theorem zib:celOk zCel:=⟨Nat.zero_le _,Nat.zero_le _,by simp[zCel],Nat.zero_le _,by simp[zCel],Nat.zero_le _,by simp[zCel],Nat.zero_le _,by simp[zCel]⟩
theorem zpR {m:Mdl} (hm:mdlOk m):celOk (celR m).1:=by
 unfold celR
 by_cases h:(mdlE m).2≠0
 ·rw[if_pos h];exact zib
 rw[if_neg h]
 cases h1:zb1 m m.comps 0 with
 | error p=>exact zib
 | ok p=>
  obtain⟨a,og⟩:=p
  simp only
  cases h2:zb1 m m.reqs 0 with
  | error p=>exact zib
  | ok p=>
   obtain⟨b,og2⟩:=p
   simp only
   cases h3:zcC m og m.excs 0 [] [] with
   | error p=>exact zib
   | ok out=>
    simp only
    obtain⟨e1,e2⟩:=ziI hm (fun x hx=>.inl hx) h1
    obtain⟨e3,e4⟩:=ziI hm (fun x hx=>.inr hx) h2
    obtain⟨e5,e6⟩:=znq h3 (fun x hx=>by have:=(hm.exk x hx).2;simp only[zao];omega) (Nat.zero_le _) (by simp)
    have s1:=hm.ev
    have s2:=hm.co
    have s3:=hm.rq
    have s4:=hm.ex
    have s5:=hm.cn
    refine⟨by simp only[zao];omega,by simp only[zao];omega,e2,by simp only[zao];omega,e4,by simp only[zao];omega,e6,by simp only[zao,List.length_map];omega,fun x hx=>?_⟩
    obtain⟨y,hy,rfl⟩:=List.mem_map.1 hx
    rw[zsw]
    have:=(hm.cnk y hy).2
    simp only[zao];omega
theorem zt7 {g:Nat} (hg:zfA g) {ty:TypeId} {fr:Nat × Nat} (O:List Heap) (k:Sk22) (c0:Int) (hk:sk22Ok k) (hc0:0≤c0∧c0≤255) :
  zbg g (ptab ty fr) Tryz.prog 7 [zwi k,.i (.v (.int .u8 c0))] O (bb true) [] O:=by
 have hkn:=fun O=>zw9 hg (ty:=ty) (fr:=fr) O
 have hmk:=fun O=>zx6 hg (ty:=ty) (fr:=fr) O k hk
 have hm:=zux hk
 have hmv:=zuy hk
 have hsz:=zuw hk
 have he4:=zcB k
 have h1:=Int.emod_nonneg c0 (show (4:Int)≠0 by decide)
 have h2:=Int.emod_lt_of_pos c0 (show (0:Int)<4 by decide)
 obtain⟨j,hjc⟩:∃ j:Nat,(j:Int)=c0 % 4:=⟨(c0 % 4).toNat,by omega⟩
 have hj4:j<4:=by omega
 have hren:=zua hk hj4
 clear hk
 generalize zcl k=m at *
 obtain⟨ev',hcb⟩:=zue hren
 have h16:=fun O=>ztG hg (ty:=ty) (fr:=fr) O m hm hmv
 have h16n:=fun O=>ztG hg (ty:=ty) (fr:=fr) O (renM m j (za0 101 j)) (zwF hm hsz he4 hj4 _) (zwG hmv)
 have h29:=fun (l:List Ins) hl hx O=>zre O l (za0 101 j) hl hx
 have h21:=fun O=>zpb O (celR m).1 (zpR hm)
 have hit:∀ O,zbg g (ptab ty fr) Tryz.prog 27 [ii (j:Int)] O (.i (.v (.string (zcs (j:Int))))) [] O:=fun O=>zjR hg (ty:=ty) (fr:=fr) O (j:Int) (by omega) (by omega)
 have hits:(zcs (j:Int)).size≤21:=by
  have:=zcw (n:=(j:Int)) (by omega) (by omega)
  omega
 have htm:c0.tmod 4=(j:Int):=by rw[Int.tmod_eq_emod_of_nonneg hc0.1];exact hjc.symm
 have hw:IntKind.i64.wrap (j:Int)=(j:Int):=w64 (by omega) (by omega)
 rw[hcb] at h16n
 generalize celR m=C at *
 obtain⟨⟨ce,cc,cr,cx,cn⟩,⟨p1,p2⟩,e⟩:=C
 clear hcb hren
 have h16:∀ O,zbg g (ptab ty fr) Tryz.prog 16 [mdlD m] O (.tup [celD ⟨ce,cc,cr,cx,cn⟩,.agg [ii p1,ii p2],ii e]) [] O:=h16
 have h16n:∀ O,zbg g (ptab ty fr) Tryz.prog 16 [mdlD (renM m j (za0 101 j))] O (.tup [celD ⟨ev',cc,cr,cx,cn⟩,.agg [ii p1,ii p2],ii e]) [] O:=h16n
 have h29c:=h29 m.comps hm.co fun x hx=>⟨hsz.c x hx,(hm.cok x hx).2⟩
 have h29r:=h29 m.reqs hm.rq fun x hx=>⟨hsz.r x hx,(hm.rqk x hx).2⟩
 have hTl:=hsz.tl
 have hTs:=hsz.t
 have hXl:=hsz.xl
 have hXs:=hsz.x
 clear h29 hm hmv hsz
 obtain⟨mn,evs,T,C,R,X,N⟩:=m
 simp only at he4 h29c h29r hTl hTs hXl hXs
 subst he4
 have h16n:∀ O,zbg g (ptab ty fr) Tryz.prog 16 [mdlD ⟨mn,renE j evs4,(T.map renT).reverse,C.map (renI (za0 101 j)),R.map (renI (za0 101 j)),X.map renX,N⟩] O (.tup [celD ⟨ev',cc,cr,cx,cn⟩,.agg [ii p1,ii p2],ii e]) [] O:=h16n
 have hnm:(⟨#[101]⟩:ByteArray)++zcs (j:Int)=za0 101 j:=rfl
 have hit2:∀ O,zbg g (ptab ty fr) Tryz.prog 27 [ii (IntKind.i64.wrap (c0.tmod 4))] O (.i (.v (.string (zcs (j:Int))))) [] O:=fun O=>by rw[htm,hw];exact hit O
 have hjl:j<evs4.length:=hj4
 have gj:([]++evs4.map evtI)[(c0.tmod 4).toNat]? = some (evtI evs4[j]):=by
  rw[htm]
  exact zam (f:=evtI) hjl
 have hset:([]++evs4.map evtI).set (c0.tmod 4).toNat (evtI ⟨othB,evs4[j].c,evs4[j].o,evs4[j].f,evs4[j].fault⟩)=(renE j evs4).map evtI:=by
  rw[htm,Int.toNat_natCast,List.nil_append]
  unfold renE
  rw[List.getElem?_eq_getElem hjl]
  exact List.map_set.symm
 have hrl:=zmU j evs4
 generalize evs4[j]=ej at *
 obtain⟨en,e1,e2,e3,e4⟩:=ej
 simp only at hset
 refine za4 [8,18,19,28,30] Tk Tryz.func7 rfl Tryz.call7 Tryz.ntmps7 (Nat.le_of_ble_eq_true rfl) fun E hE=>?_
 refine zag Tk Tryz.func7 ?_
 refine zbr Tk Tryz.func7 hE (hkn _) rfl rfl rfl rfl rfl rfl ?_
 refine gcF Tk Tryz.func7 rfl ?_
 refine zbr Tk Tryz.func7 hE (hmk _) rfl rfl rfl rfl rfl rfl ?_
 refine zaf Tk Tryz.func7 (by decide) ?_
 refine zbr Tk Tryz.func7 hE (hit2 _) rfl rfl rfl rfl rfl rfl ?_
 refine zaf Tk Tryz.func7 (by show 1+(zcs (j:Int)).size≤9223372036854775807;omega) ?_
 refine zaw Tk Tryz.func7 zaG rfl ?_
 refine zq9 Tk ?_
 refine zdM Tk (by exact⟨by show (0+4) * 32≤140737488355328;decide,by show 0+4≤9223372036854775807;decide⟩) ?_
 refine zfw Tk (p:=⟨[(36,.osl 0 36),(33,.dead)],[(36,.arr 101 5 (0+4) ([]++evs4.map evtI) true)],some 33⟩) rfl rfl rfl ?_
 refine zvK Tk (h29c _) rfl rfl rfl rfl ?_
 refine zvK Tk (h29r _) rfl rfl rfl rfl ?_
 refine zfw Tk (p:=⟨[],[(6,.box [.i (strI mn),.osl 0 36,.i (zcg T),.i (zaV C),.i (zaV R),.i (zeV X),.i (zd9 N)])],none⟩) rfl rfl rfl ?_
 refine zfw Tk (p:=⟨[],[(6,.box [.i (strI mn),.osl 0 36,.i (.v (.slice none 0 0)),.i (zaV C),.i (zaV R),.i (zeV X),.i (zd9 N)])],none⟩) rfl rfl rfl ?_
 refine zfw Tk (p:=⟨[],[(6,.box [.i (strI mn),.osl 0 36,.i (.v (.slice none 0 0)),.i (zaV (C.map (renI (za0 101 j)))),.i (zaV R),.i (zeV X),.i (zd9 N)])],none⟩) rfl rfl rfl ?_
 refine zfw Tk (p:=⟨[],[(6,.box [.i (strI mn),.osl 0 36,.i (.v (.slice none 0 0)),.i (zaV (C.map (renI (za0 101 j)))),.i (zaV (R.map (renI (za0 101 j)))),.i (zeV X),.i (zd9 N)])],none⟩) rfl rfl rfl ?_
 refine zfw Tk (p:=⟨[],[(6,.box [.i (strI mn),.osl 0 36,.i (.v (.slice none 0 0)),.i (zaV (C.map (renI (za0 101 j)))),.i (zaV (R.map (renI (za0 101 j)))),.i (.v (.slice none 0 0)),.i (zd9 N)])],none⟩) rfl rfl rfl ?_
 refine zh2 Tk Tryz.func7 (by kernel_rfl) (GM.h ?_)
 refine zaf Tk Tryz.func7 (by decide) ?_
 refine zaf Tk Tryz.func7 (by exact⟨by show (0:Int)≤c0.tmod 4;omega,by show c0.tmod 4<4;omega⟩) ?_
 refine zaq Tk Tryz.func7 (gj) ?_
 clear gj h29c h29r
 refine zax ?_
 refine zas (zcW (l:=[(5,.own 0 5 0 0),(6,.own 0 6 0 0)]) (Hv:=[(5,.box (mdlC ⟨mn,evs4,T,C,R,X,N⟩)),(6,.box [.i (strI mn),.osl 0 36,.i (.v (.slice none 0 0)),.i (zaV (C.map (renI (za0 101 j)))),.i (zaV (R.map (renI (za0 101 j)))),.i (.v (.slice none 0 0)),.i (zd9 N)]),(36,.arr 101 5 (renE j evs4).length ((renE j evs4).map evtI) true)]) ⟨rfl,rfl,trivial⟩ rfl ⟨rfl,rfl,(by rw[← hset,hrl];rfl),trivial⟩ rfl rfl) ?_
 refine zas (zap 36 rfl rfl) ?_
 refine zas (zaZ rfl) ?_
 generalize C.map (renI (za0 101 j))=C2 at *
 generalize R.map (renI (za0 101 j))=R2 at *
 generalize renE j evs4=ev2 at *
 clear hset
 refine zas (zay 6 97 87 9 (pre:=[.i (strI mn),.i (za3 ev2)]) (post:=[.i (zaV C2),.i (zaV R2),.i (.v (.slice none 0 0)),.i (zd9 N)]) rfl rfl rfl) ?_
 refine zag Tk Tryz.func7 ?_
 refine g_go Tk Tryz.func7 ?_
 refine zae ?_
 refine zaj (fun r:Nat=>[(5,.own 0 5 0 0),(6,.own 0 6 0 0),(8,ii ((T.length:Int) - 1 - (r:Int)))])
  (fun r=>[(5,.box (mdlC ⟨mn,evs4,T,C,R,X,N⟩)),(6,.box [.i (strI mn),.i (za3 ev2),.osl 0 97,.i (zaV C2),.i (zaV R2),.i (.v (.slice none 0 0)),.i (zd9 N)]),(97,zpl ((T.reverse.take r).map renT))]) (fun _=>O) 177
  (fun r=>r≤T.length) (fun r=>T.length - r) 0 (Nat.zero_le _) ⟨rfl,rfl,congrArg ii (show IntKind.i64.wrap ((T.length:Int) - 1)=(T.length:Int) - 1 - ((0:Nat):Int) by rw[w64 (by omega) (by omega)];omega),trivial⟩ rfl ⟨rfl,rfl,rfl,trivial⟩ rfl rfl ?_
 intro r hr ih
 have hr:r≤T.length:=hr
 refine zag Tk Tryz.func7 ?_
 refine zai Tk Tryz.func7 rfl (fun g1=>?_) (fun g1=>?_)
 ·have g1:(0:Int)≤(T.length:Int) - 1 - (r:Int):=of_decide_eq_true g1
  have hrl2:r<T.reverse.length:=by rw[List.length_reverse];omega
  have hts:=zaM renT hrl2
  have hgt:(T.map tplI)[((T.length:Int) - 1 - (r:Int)).toNat]? = some (tplI T.reverse[r]):=by
   rw[List.getElem_reverse,show ((T.length:Int) - 1 - (r:Int)).toNat=T.length - 1 - r by omega,List.getElem?_map,List.getElem?_eq_getElem (by omega)]
   rfl
  have hmem:T.reverse[r]∈T:=List.mem_reverse.1 (List.getElem_mem hrl2)
  obtain⟨z1,z2,z3⟩:=hTs _ hmem
  have hYl:((T.reverse.take r).map renT).length≤1000:=by rw[List.length_map,List.length_take];omega
  have hr1:ii (IntKind.i64.wrap ((T.length:Int) - 1 - (r:Int) - 1))=ii ((T.length:Int) - 1 - ((r+1:Nat):Int)):=congrArg ii (by rw[w64 (by omega) (by omega)];omega)
  generalize (T.reverse.take r).map renT=Y at *
  generalize T.reverse[r]=x at *
  clear hmem
  obtain⟨tn,tl,te,⟨al,lo,ini,mk,vr,mo⟩⟩:=x
  simp only at z1 z2 z3
  have hts:(T.reverse.take (r+1)).map renT=Y++[⟨pfU tn,tl.map pfL,te,⟨al,lo,ini,mk,vr,mo⟩⟩]:=hts
  refine zaf Tk Tryz.func7 (by exact⟨by show (0:Int)≤(T.length:Int) - 1 - (r:Int);omega,by show (T.length:Int) - 1 - (r:Int)<(T.length:Int);omega⟩) ?_
  refine zaq Tk Tryz.func7 (hgt) ?_
  refine zaf Tk Tryz.func7 (by show 1+tn.size≤9223372036854775807;omega) ?_
  refine zaf Tk Tryz.func7 (by exact⟨by show (0:Int)≤(T.length:Int) - 1 - (r:Int);omega,by show (T.length:Int) - 1 - (r:Int)<(T.length:Int);omega⟩) ?_
  refine zaq Tk Tryz.func7 (hgt) ?_
  refine g_wk (zay 9 90 9 1 (pre:=[.i (strI (pfU tn))]) (post:=[.i (zhi te),ints al,ii lo,ii ini,ints mk,vrs vr,mvs mo]) rfl rfl rfl) ?_
  refine zae ?_
  refine zaj (fun s:Nat=>[(5,.own 0 5 0 0),(6,.own 0 6 0 0),(8,ii ((T.length:Int) - 1 - (r:Int))),(9,.own 0 9 0 0),(79,.i (zhi tl)),(80,ii tl.length),(81,ii s)])
   (fun s=>[(5,.box (mdlC ⟨mn,evs4,T,C,R,X,N⟩)),(6,.box [.i (strI mn),.i (za3 ev2),.osl 0 97,.i (zaV C2),.i (zaV R2),.i (.v (.slice none 0 0)),.i (zd9 N)]),(97,zpl Y),(9,.box [.i (strI (pfU tn)),.osl 0 90,.i (zhi te),ints al,ii lo,ii ini,ints mk,vrs vr,mvs mo]),(90,oss ((tl.take s).map pfL))]) (fun _=>O) 177
   (fun s=>s≤tl.length) (fun s=>tl.length - s) 0 (Nat.zero_le _) ⟨rfl,rfl,rfl,rfl,rfl,rfl,rfl,trivial⟩ rfl ⟨rfl,rfl,rfl,rfl,rfl,trivial⟩ rfl rfl ?_
  intro s hs ih2
  have hs:s≤tl.length:=hs
  refine zag Tk Tryz.func7 ?_
  refine zai Tk Tryz.func7 rfl (fun g2=>?_) (fun g2=>?_)
  rotate_left
  ·have g2:tl.length≤s:=by simpa using g2
   rw[List.take_of_length_le g2]
   generalize tl.map pfL=Z at *
   refine zax ?_
   refine zas (zap 90 rfl rfl) ?_
   refine zas (zaZ rfl) ?_
   refine zag Tk Tryz.func7 ?_
   refine g_go Tk Tryz.func7 ?_
   refine zaf Tk Tryz.func7 (by exact⟨by show (Y.length+1) * 176≤140737488355328;omega,by show Y.length+1≤9223372036854775807;omega⟩) ?_
   refine zae ?_
   refine ih (r+1) _ _ (by omega) (by omega) ⟨rfl,rfl,hr1,trivial⟩ rfl ⟨rfl,rfl,?_,trivial⟩ rfl rfl
   rw[hts]
   show some (Ob.arr 87 9 (Y.length+1) (Y.map tplI++[tplI ⟨pfU tn,Z,te,⟨al,lo,ini,mk,vr,mo⟩⟩]) true)=_
   simp[zpl]
  have g2:s<tl.length:=by simpa using g2
  have ge:(tl.map fun s=>[strI s])[(s:Int).toNat]? = some [strI tl[s]]:=zam (f:=fun s:ByteArray=>[strI s]) g2
  have hs1:ii (IntKind.i64.wrap ((s:Int)+1))=ii ((s+1:Nat):Int):=congrArg ii (zaB (n:=1000001) (by omega) (by decide))
  have hzs:=zaM pfL g2
  have hZl:((tl.take s).map pfL).length≤1000:=by rw[List.length_map,List.length_take];omega
  have hz3:=z3 _ (List.getElem_mem g2)
  generalize (tl.take s).map pfL=Z at *
  generalize tl[s]=w at *
  refine zaf Tk Tryz.func7 (by exact⟨by omega,by show (s:Int)<(tl.length:Int);omega⟩) ?_
  refine zaq Tk Tryz.func7 (ge) ?_
  refine zaf Tk Tryz.func7 (by show 1+w.size≤9223372036854775807;omega) ?_
  refine zaf Tk Tryz.func7 (by exact⟨by show (Z.length+1) * 16≤140737488355328;omega,by show Z.length+1≤9223372036854775807;omega⟩) ?_
  refine zae ?_
  refine ih2 (s+1) _ _ g2 (by omega) ⟨rfl,rfl,rfl,rfl,rfl,rfl,hs1,trivial⟩ rfl ⟨rfl,rfl,rfl,rfl,?_,trivial⟩ rfl rfl
  rw[hzs]
  exact congrArg some (zbG Z (pfL w))
 have g1:¬ (0:Int)≤(T.length:Int) - 1 - (r:Int):=of_decide_eq_false g1
 have hrT:r=T.length:=by omega
 have hT2:(T.reverse.take r).map renT=(T.map renT).reverse:=by rw[List.take_of_length_le (by rw[List.length_reverse];omega),List.map_reverse]
 rw[hT2]
 clear ih hT2 hTs
 refine zax ?_
 refine zas (zap 97 rfl rfl) ?_
 refine zas (zaZ rfl) ?_
 refine zas (zay 6 132 91 2 (pre:=[.i (strI mn),.i (za3 ev2),.i (zcg (T.map renT).reverse),.i (zaV C2),.i (zaV R2)]) (post:=[.i (zd9 N)]) rfl rfl rfl) ?_
 refine zag Tk Tryz.func7 ?_
 refine g_go Tk Tryz.func7 ?_
 refine zae ?_
 refine zaj (fun i:Nat=>[(5,.own 0 5 0 0),(6,.own 0 6 0 0),(100,.i (zeV X)),(101,ii X.length),(102,ii i)])
  (fun i=>[(5,.box (mdlC ⟨mn,evs4,T,C,R,X,N⟩)),(6,.box [.i (strI mn),.i (za3 ev2),.i (zcg (T.map renT).reverse),.i (zaV C2),.i (zaV R2),.osl 0 132,.i (zd9 N)]),(132,zfV ((X.take i).map renX))]) (fun _=>O) 177
  (fun i=>i≤X.length) (fun i=>X.length - i) 0 (Nat.zero_le _) ⟨rfl,rfl,rfl,rfl,rfl,trivial⟩ rfl ⟨rfl,rfl,rfl,trivial⟩ rfl rfl ?_
 intro i hi ih
 have hi:i≤X.length:=hi
 refine zag Tk Tryz.func7 ?_
 refine zai Tk Tryz.func7 rfl (fun g2=>?_) (fun g2=>?_)
 ·have g2:i<X.length:=by simpa using g2
  have gx:(X.map nexI)[(i:Int).toNat]? = some (nexI X[i]):=zam (f:=nexI) g2
  have hi1:ii (IntKind.i64.wrap ((i:Int)+1))=ii ((i+1:Nat):Int):=congrArg ii (zaB (n:=1000001) (by omega) (by decide))
  have hts:=zaM renX g2
  obtain⟨z1,z2⟩:=hXs _ (List.getElem_mem g2)
  have hYl:((X.take i).map renX).length≤1000:=by rw[List.length_map,List.length_take];omega
  generalize (X.take i).map renX=Y at *
  generalize X[i]=x at *
  obtain⟨xn,xl⟩:=x
  simp only at z1 z2
  have hts:(X.take (i+1)).map renX=Y++[⟨xn,xl.map fun y=>(y.1,pfL y.2)⟩]:=hts
  refine zaf Tk Tryz.func7 (by exact⟨by omega,by show (i:Int)<(X.length:Int);omega⟩) ?_
  refine zaq Tk Tryz.func7 (gx) ?_
  refine g_wk (zay 14 125 103 2 (pre:=[.i (strI xn)]) (post:=[]) rfl rfl rfl) ?_
  refine zae ?_
  refine zaj (fun s:Nat=>[(5,.own 0 5 0 0),(6,.own 0 6 0 0),(100,.i (zeV X)),(101,ii X.length),(102,ii i),(14,.own 0 14 0 0),(110,.i (.sl 2 xl.length (xl.map nlcI))),(111,ii xl.length),(112,ii s)])
   (fun s=>[(5,.box (mdlC ⟨mn,evs4,T,C,R,X,N⟩)),(6,.box [.i (strI mn),.i (za3 ev2),.i (zcg (T.map renT).reverse),.i (zaV C2),.i (zaV R2),.osl 0 132,.i (zd9 N)]),(132,zfV Y),(14,.box [.i (strI xn),.osl 0 125]),(125,zpo ((xl.take s).map fun y=>(y.1,pfL y.2)))]) (fun _=>O) 177
   (fun s=>s≤xl.length) (fun s=>xl.length - s) 0 (Nat.zero_le _) ⟨rfl,rfl,rfl,rfl,rfl,rfl,rfl,rfl,rfl,trivial⟩ rfl ⟨rfl,rfl,rfl,rfl,rfl,trivial⟩ rfl rfl ?_
  intro s hs ih2
  have hs:s≤xl.length:=hs
  refine zag Tk Tryz.func7 ?_
  refine zai Tk Tryz.func7 rfl (fun g3=>?_) (fun g3=>?_)
  rotate_left
  ·have g3:xl.length≤s:=by simpa using g3
   rw[List.take_of_length_le g3]
   generalize xl.map (fun y=>((y.1,pfL y.2):NLc))=Z at *
   refine zax ?_
   refine zas (zap 125 rfl rfl) ?_
   refine zas (zaZ rfl) ?_
   refine zag Tk Tryz.func7 ?_
   refine g_go Tk Tryz.func7 ?_
   refine zaf Tk Tryz.func7 (by exact⟨by show (Y.length+1) * 40≤140737488355328;omega,by show Y.length+1≤9223372036854775807;omega⟩) ?_
   refine zae ?_
   refine ih (i+1) _ _ g2 (by omega) ⟨rfl,rfl,rfl,rfl,hi1,trivial⟩ rfl ⟨rfl,rfl,?_,trivial⟩ rfl rfl
   rw[hts]
   show some (Ob.arr 91 2 (Y.length+1) (Y.map nexI++[nexI ⟨xn,Z⟩]) true)=_
   simp[zfV]
  have g3:s<xl.length:=by simpa using g3
  have ge:(xl.map nlcI)[(s:Int).toNat]? = some (nlcI xl[s]):=zam (f:=nlcI) g3
  have hs1:ii (IntKind.i64.wrap ((s:Int)+1))=ii ((s+1:Nat):Int):=congrArg ii (zaB (n:=1000001) (by omega) (by decide))
  have hzs:=zaM (fun y:NLc=>((y.1,pfL y.2):NLc)) g3
  have hZl:((xl.take s).map fun y:NLc=>((y.1,pfL y.2):NLc)).length≤1000:=by rw[List.length_map,List.length_take];omega
  have hz2:=z2 _ (List.getElem_mem g3)
  generalize (xl.take s).map (fun y:NLc=>((y.1,pfL y.2):NLc))=Z at *
  generalize xl[s]=w at *
  obtain⟨w1,w2⟩:=w
  simp only at hz2 hzs
  refine zaf Tk Tryz.func7 (by exact⟨by omega,by show (s:Int)<(xl.length:Int);omega⟩) ?_
  refine zaq Tk Tryz.func7 (ge) ?_
  refine zaf Tk Tryz.func7 (by show 1+w2.size≤9223372036854775807;omega) ?_
  refine zaf Tk Tryz.func7 (by exact⟨by show (Z.length+1) * 32≤140737488355328;omega,by show Z.length+1≤9223372036854775807;omega⟩) ?_
  refine zae ?_
  refine ih2 (s+1) _ _ g3 (by omega) ⟨rfl,rfl,rfl,rfl,rfl,rfl,rfl,rfl,hs1,trivial⟩ rfl ⟨rfl,rfl,rfl,rfl,?_,trivial⟩ rfl rfl
  rw[hzs]
  show some (Ob.arr 103 2 (Z.length+1) (Z.map nlcI++[nlcI (w1,pfL w2)]) true)=_
  simp[zpo]
 have g2:X.length≤i:=by simpa using g2
 rw[List.take_of_length_le g2]
 clear ih hXs
 refine zax ?_
 refine zas (zap 132 rfl rfl) ?_
 refine zas (zaZ rfl) ?_
 refine zag Tk Tryz.func7 ?_
 refine g_go Tk Tryz.func7 ?_
 refine zbr Tk Tryz.func7 hE (h16 _) rfl rfl rfl rfl rfl rfl ?_
 refine zbr Tk Tryz.func7 hE (h16n _) rfl rfl rfl rfl rfl rfl ?_
 refine zaC Tk Tryz.func7 rfl (fun h=>absurd h (by simp)) (fun _=>?_)
 refine zaC Tk Tryz.func7 rfl (fun h=>absurd h (by simp)) (fun _=>?_)
 refine zaC Tk Tryz.func7 rfl (fun d1=>?_) (fun d1=>?_)
 ·refine zai Tk Tryz.func7 rfl (fun h=>absurd h (by simp)) (fun _=>?_)
  refine zaC Tk Tryz.func7 rfl (fun d2=>?_) (fun d2=>?_)
  ·refine zah Tk (r:=bb true) rfl rfl rfl trivial rfl rfl ?_
   rfl
  refine zak Tk Tryz.func7 (h21 _) rfl rfl rfl rfl rfl ?_
  refine zah Tk (r:=bb true) rfl rfl rfl trivial rfl rfl ?_
  rfl
 refine gcF Tk Tryz.func7 rfl ?_
 refine zaC Tk Tryz.func7 rfl (fun d2=>?_) (fun d2=>?_)
 ·refine zah Tk (r:=bb true) rfl rfl rfl trivial rfl rfl ?_
  rfl
 refine zak Tk Tryz.func7 (h21 _) rfl rfl rfl rfl rfl ?_
 refine zah Tk (r:=bb true) rfl rfl rfl trivial rfl rfl ?_
 rfl
end Go.AI
namespace Go.Proofs.YtnojpbbaohoadaaGreatDoor
set_option maxRecDepth 100000
theorem zbM:laidOutB Tryz.prog=true:=by kernel_rfl
theorem zeE:mapsRowed Tryz.prog=true:=by kernel_rfl
theorem zee:(Rows.elaborateRenamesRow.inPlace==Tryz.prog.inPlace 7)=true:=by kernel_rfl
theorem zed:(Rows.elaborateRenamesRow.unfollowed==Tryz.prog.unfollowed 7)=true:=by kernel_rfl
theorem zec:(Rows.elaborateRenamesRow.recurses==Tryz.prog.recurses 7)=true:=by kernel_rfl
theorem zeb:(Rows.elaborateRenamesRow.named==Tryz.prog.varsNamed 7)=true:=by kernel_rfl
theorem zdk:joinedFacts Tryz.prog 7 Tryz.f7 Rows.elaborateRenamesSpec Rows.elaborateRenamesRow=true:=by
 simp only[joinedFacts,Bool.and_eq_true]
 repeat' refine And.intro ?_ ?_
 ·kernel_rfl
 ·exact zbM
 ·exact zeE
 ·kernel_rfl
 ·kernel_rfl
 ·kernel_rfl
 ·kernel_rfl
 ·kernel_rfl
 ·kernel_rfl
 ·exact zee
 ·exact zed
 ·exact zec
 ·exact zeb
 ·kernel_rfl
 ·kernel_rfl
 ·kernel_rfl
 ·kernel_rfl
 ·kernel_rfl
 ·kernel_rfl
 ·kernel_rfl
 ·kernel_rfl
 ·kernel_rfl
 ·kernel_rfl
 ·kernel_rfl
 ·kernel_rfl
 ·kernel_rfl
 ·kernel_rfl
 ·kernel_rfl
 ·kernel_rfl
 ·kernel_rfl
 ·kernel_rfl
 ·kernel_rfl
theorem zdJ : Tryz.prog.mainIs = some (true, "9aa124d96d2f2fea36404c3e6649a1942013d744947b2e2ae648d5b84282eb38".toList) := by kernel_rfl
theorem zdp:false=Tryz.prog.looks []:=by kernel_rfl
theorem zdK:false=Rows.elaborateRenamesRow.goesBy Tryz.prog:=by kernel_rfl
end Go.Proofs.YtnojpbbaohoadaaGreatDoor
