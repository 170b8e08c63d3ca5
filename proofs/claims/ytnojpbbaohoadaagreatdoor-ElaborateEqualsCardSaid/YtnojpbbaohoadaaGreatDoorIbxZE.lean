/- The layer of abstract runs, part 31. -/
import Derived.Test.YtnojpbbaohoadaaGreatDoorIbxZD
set_option linter.unusedSimpArgs false
set_option linter.unusedVariables false
set_option linter.all false
set_option maxHeartbeats 4000000
namespace Go.AI
open Go.Proofs
set_option maxRecDepth 20000
abbrev zcR (l:List Ins):Ob:=.arr 107 3 l.length (l.map insI) true
abbrev zuS (l:List NLc):Ob:=.arr 103 2 l.length (l.map nlcI) true
abbrev zxj (l:List NTm):Ob:=.arr 93 2 l.length (l.map ntmI) true
abbrev zbG:List D:=[.i (strI ⟨#[]⟩),.i (.v (.slice none 0 0)),.i (.v (.slice none 0 0)),.i (.v (.slice none 0 0)),.i (.v (.slice none 0 0)),.i (.v (.slice none 0 0)),.i (.v (.slice none 0 0))]
theorem zpo {l:List Sk} {i:Nat} (h:i<l.length):zfr l (i+1)=zfr l i++[zrb i l[i]]:=by
 unfold zfr;rw[List.range_succ,List.map_append];simp[h]
theorem zsk {nt:Nat} {l:List Use22} {i:Nat} (h:i<l.length):insN nt l (i+1)=zp3 nt (insN nt l i) i l[i]:=by simp[insN,h]
theorem zwO (l:List ByteArray) (j:Nat) (hjl:j<l.length):D.i (.sl 1 (0+(j:Int).toNat+(l.length-((j+1:Nat):Int).toNat)) ([]++(l.map fun s=>[strI s]).take (j:Int).toNat++(l.map fun s=>[strI s]).drop ((j+1:Nat):Int).toNat))=ssD (l.take j++l.drop (j+1)):=by
 rw[Int.toNat_natCast,Int.toNat_natCast,List.nil_append,←List.map_take,←List.map_drop,←List.map_append];have:0+j+(l.length-(j+1))=(l.take j++l.drop (j+1)).length:=by rw[List.length_append,List.length_take,List.length_drop];omega
 rw[this]
theorem ze2 (o:Int):∀k,(ordS o k).1.length=k
 |0=>rfl
 |k+1=>by simp only[ordS,List.length_append,List.length_singleton,ze2 o k]
theorem zu4 (nt:Nat) (l:List Use22) (i:Nat):∀x∈(insN nt l i).1++(insN nt l i).2,x.evs.length=3:=znE (P:=fun x=>x.evs.length=3) nt l (fun _=>ze2 _ 3) i
theorem zp7 {T:List Tpl} {C:List Ins} {l:List (Whr×Whr)} {i:Nat} (h:i<l.length):zeL T C l (i+1)=zeL T C l i++[zvr T C i l[i]]:=by
 unfold zeL;rw[List.range_succ,List.map_append];simp[h]
theorem zsI (T:List Tpl) (C:List Ins) (l:List (Whr×Whr)) (i:Nat):(zeL T C l i).length=i:=by simp[zeL]
theorem zsJ {T:List Tpl} {C R:List Ins} (hT:∀t∈T,1≤t.locs.length∧t.locs.length≤1000) (htpl:∀x∈C++R,∃t∈T,T.find? (fun t=>sB t.name x.tpl)=some t) (hC:0<C.length∧C.length≤3) {wc wl:Int} (hw:zhB (wc,wl)) :
  ∃(c:Ins) (t:Tpl) (s:ByteArray),(C.map insI)[((IntKind.i64.wrap wc).tmod (C.length:Int)).toNat]? = some (insI c)∧(0≤(IntKind.i64.wrap wc).tmod (C.length:Int)∧(IntKind.i64.wrap wc).tmod (C.length:Int)<(C.length:Int))∧T.find? (fun t=>sB t.name c.tpl)=some t∧1≤t.locs.length ∧
   (t.locs.map fun s=>[strI s])[((IntKind.i64.wrap wl).tmod (t.locs.length:Int)).toNat]? = some [strI s]∧(0≤(IntKind.i64.wrap wl).tmod (t.locs.length:Int)∧(IntKind.i64.wrap wl).tmod (t.locs.length:Int)<(t.locs.length:Int)) ∧
   ∀acc,excA T C acc (wc,wl)=if (match acc with|[]=>false|a::_=>sB a.1 c.name)=true then acc else acc++[(c.name,s)]:=by
 obtain⟨h1,h2⟩:=hw;simp only at h1 h2;have w1:IntKind.i64.wrap wc=wc:=w64 (by omega) (by omega);have w2:IntKind.i64.wrap wl=wl:=w64 (by omega) (by omega);have m1:=Int.emod_nonneg wc (show (C.length:Int)≠0 by omega);have m2:=Int.emod_lt_of_pos wc (show 0<(C.length:Int) by omega);rw[w1,w2,Int.tmod_eq_emod_of_nonneg h1.1];obtain⟨j,hj⟩:∃j:Nat,(j:Int)=wc%(C.length:Int):=⟨(wc%(C.length:Int)).toNat,by omega⟩;have hjl:j<C.length:=by omega
 have hgd:C.getD j zgq=C[j]:=by simp[hjl]
 obtain⟨t,ht,hf⟩:=htpl C[j] (List.mem_append_left _ (List.getElem_mem hjl));obtain⟨hl1,hl2⟩:=hT t ht;have n1:=Int.emod_nonneg wl (show (t.locs.length:Int)≠0 by omega);have n2:=Int.emod_lt_of_pos wl (show 0<(t.locs.length:Int) by omega);obtain⟨q,hq⟩:∃q:Nat,(q:Int)=wl%(t.locs.length:Int):=⟨(wl%(t.locs.length:Int)).toNat,by omega⟩;have hql:q<t.locs.length:=by omega
 have htf:zna T C[j]=t:=by unfold zna;rw[hf];rfl
 refine⟨C[j],t,t.locs[q],?_,by omega,hf,hl1,?_,by rw[Int.tmod_eq_emod_of_nonneg h2.1];omega,fun acc=>?_⟩
 ·rw[←hj];exact zak (f:=insI) hjl
 ·rw[Int.tmod_eq_emod_of_nonneg h2.1,←hq];exact zak (f:=fun s=>[strI s]) hql
 ·unfold excA;simp only;rw[←hj,Int.toNat_natCast,hgd,htf,←hq,Int.toNat_natCast];rcases acc with _|⟨a,r⟩<;>simp[hql]
theorem zdb (C:List Ins):(zcJ C).length=C.length:=by simp[zcJ]
theorem zkS {C:List Ins} {r:Nat} (h:r<C.length):(zcJ C).take (r+1)=(zcJ C).take r++[(C[C.length-1-r].name,1+((C.length-1-r:Nat):Int))]:=by
 have hl:=zdb C;rw[List.take_succ_eq_append_getElem (by omega)];congr 2;unfold zcJ;rw[List.getElem_reverse];simp only[List.getElem_map,List.length_map,List.length_range,List.getElem_range];rw[List.getD_eq_getElem?_getD,List.getElem?_eq_getElem (by omega)];rfl
theorem zra (l:List Sk) (i:Nat):(zfr l i).length=i:=by simp[zfr]
theorem zyN {g:Nat} (hg:zda g) {ty:TypeId} {fr:Nat×Nat} (O:List Heap) (k:Sk22) (hk:sk22Ok k):zba g (ptab ty fr) Tryz.prog 13 [zuu k] O (mdlD (zca k)) [] O:=by
  have hio:∀n:Nat,n≤1000→∀O,zba g (ptab ty fr) Tryz.prog 27 [ii (n:Int)] O (.i (.v (.string (zcU (n:Int))))) [] O:=fun n hn O=>zj8 hg (ty:=ty) (fr:=fr) O (n:Int) (by omega) (by omega);have hsz:∀n:Nat,n≤1000→(zcU (n:Int)).size≤21:=fun n hn=>by
    have:=zcH (n:=(n:Int)) (by omega) (by omega);omega
  generalize hR:zca k=R;unfold zca at hR;have hMT:mkT k=zfr k.tpls (min k.tpls.length 3):=rfl;have hTl:=ziS k;have hMI:mkI k=insN (mkT k).length k.ins (ze8 k):=rfl;have hIC:=zhb k;have htpl:=zxp k hk;have hTloc:∀t∈mkT k,1≤t.locs.length∧t.locs.length≤1000:=fun t h=>by
    obtain⟨j,_,hj,rfl⟩:=zk7 h;have h1:=(hk.t _ (ze9 (d:=zSk) hj)).locs;show 1≤((List.range _).map _).length∧((List.range _).map _).length≤1000;simp only[List.length_map,List.length_range];unfold zcT;omega
  have hICe:ze8 k=if (mkT k).length=0 then 0 else min k.ins.length 5:=rfl
  obtain⟨htl,ht,hil,huse,hel,he,hb⟩:=hk;obtain⟨kt,ki,kx,kb⟩:=k;simp only at htl ht hil huse hel he hb hMT hTl hMI hIC hICe hR;generalize ze8 ⟨kt,ki,kx,kb⟩=IC at *;generalize mkT ⟨kt,ki,kx,kb⟩=T at *;generalize mkI ⟨kt,ki,kx,kb⟩=CR at *;refine zaM [12,29,44,51,11,25,43,27,200161,50] Tk Tryz.func13 rfl Tryz.call13 Tryz.ntmps13 (Nat.le_of_ble_eq_true rfl) fun E hE=>?_;refine zai Tk Tryz.func13 ?_
  apply zbQ (P:=True) (s6:={ σ:=[(1,.own 0 1 0 0),(2,.own 0 2 0 0),(3,.own 0 3 0 0)],S:=[(1,.box (zex ⟨kt,ki,kx,kb⟩)),(2,.box zbG),(3,.box [.i (strI ⟨#[109]⟩),.i (zbc evs4),.i (zbI T),.i (.v (.slice none 0 0)),.i (.v (.slice none 0 0)),.i (.v (.slice none 0 0)),.i (.v (.slice none 0 0))])]::O,n:=295})
  · intro J
    refine g_wk (zaJ 3 69 87 9 (pre:=[.i (strI ⟨#[109]⟩),.i (zbc evs4)]) (post:=[.i (.v (.slice none 0 0)),.i (.v (.slice none 0 0)),.i (.v (.slice none 0 0)),.i (.v (.slice none 0 0))]) rfl rfl rfl) ?_;refine zah ?_;refine zal (fun i:Nat=>[(1,.own 0 1 0 0),(2,.own 0 2 0 0),(3,.own 0 3 0 0),(4,ii i)])
      (fun i=>[(1,.box (zex ⟨kt,ki,kx,kb⟩)),(2,.box zbG),(3,.box [.i (strI ⟨#[109]⟩),.i (zbc evs4),.osl 0 69,.i (.v (.slice none 0 0)),.i (.v (.slice none 0 0)),.i (.v (.slice none 0 0)),.i (.v (.slice none 0 0))]),(69,zxg (zfr kt i))]) (fun _=>O) 295
      (fun i=>i≤min kt.length 3) (fun i=>min kt.length 3-i) 0 (Nat.zero_le _) ⟨rfl,rfl,rfl,rfl,trivial⟩ rfl ⟨rfl,rfl,rfl,rfl,trivial⟩ rfl rfl ?_
    intro i hi ih;have hi:i≤min kt.length 3:=hi;have hend:i=min kt.length 3→zfr kt i=T:=fun e=>by rw[e,hMT]
    have hTN:=zra kt i;refine zai Tk Tryz.func13 ?_;refine zaw Tk Tryz.func13 rfl (fun c1=>?_) (fun c1=>?_)
    · have c1:i<kt.length:=by simpa using c1
      refine zad Tk Tryz.func13 rfl (fun c2=>?_) (fun c2=>?_)
      · have c2:i<3:=by have:(i:Int)<3:=of_decide_eq_true c2;omega
        have gs:(kt.map skI)[(i:Int).toNat]? = some (skI kt[i]):=zak (f:=skI) c1;have hmk:=fun O=>zyM O kt[i] (ht kt[i] (List.getElem_mem c1));have hsucc:=zpo c1;unfold zrb at hsucc;have hX:(ziV kt[i]).locs=(zcT kt[i]:Int):=rfl;have hLb:zcT kt[i]≤4:=by have:=(ht kt[i] (List.getElem_mem c1)).locs;unfold zcT;omega
        have hit:=hio i (by omega);have hsi:=hsz i (by omega);have hj1:ii (IntKind.i64.wrap ((i:Int)+1))=ii ((i+1:Nat):Int):=congrArg ii (zaE (n:=1000001) (by omega) (by decide));generalize ziV kt[i]=X at *;generalize zcT kt[i]=L at *;generalize kt[i]=y at *;generalize zfr kt i=A at *;clear J hend;obtain⟨al,lo,ini,mk,vr,mo⟩:=X;simp only at hX;subst hX;refine zaf Tk Tryz.func13 (by exact⟨by omega,by show (i:Int)<(kt.length:Int);omega⟩) ?_;refine zaq Tk Tryz.func13 (gs) ?_;refine zaj Tk Tryz.func13 (hmk _) rfl rfl rfl rfl rfl ?_;refine zat Tk Tryz.func13 zaA rfl ?_;refine zdp Tk hE (hit _) rfl rfl rfl rfl ?_;refine zar Tk (by show 1+(zcU (i:Int)).size≤9223372036854775807;omega) ?_;refine zct Tk rfl rfl rfl ?_;refine zaC Tk Tryz.func13 (by kernel_rfl) ?_
        refine g_wk (zaJ 6 63 9 1 (pre:=[.i (strI (zbC 116 i))]) (post:=[ssD abc3,ints al,ii L,ii ini,ints mk,vrs vr,mvs mo]) rfl rfl rfl) ?_;refine zah ?_;refine zal (fun s:Nat=>[(1,.own 0 1 0 0),(2,.own 0 2 0 0),(3,.own 0 3 0 0),(4,ii i),(5,.own 0 5 0 0),(6,.own 0 6 0 0),(7,ii s)])
          (fun s=>[(1,.box (zex ⟨kt,ki,kx,kb⟩)),(2,.box zbG),(3,.box [.i (strI ⟨#[109]⟩),.i (zbc evs4),.osl 0 69,.i (.v (.slice none 0 0)),.i (.v (.slice none 0 0)),.i (.v (.slice none 0 0)),.i (.v (.slice none 0 0))]),(69,zxg A),
            (5,.box [ints al,ii L,ii ini,ints mk,vrs vr,mvs mo]),(6,.box [.i (strI (zbC 116 i)),.osl 0 63,ssD abc3,ints al,ii L,ii ini,ints mk,vrs vr,mvs mo]),(63,oss ((List.range s).map (zbC 115)))]) (fun _=>O) 295
          (fun s=>s≤L) (fun s=>L-s) 0 (Nat.zero_le _) ⟨rfl,rfl,rfl,rfl,rfl,rfl,rfl,trivial⟩ rfl ⟨rfl,rfl,rfl,rfl,rfl,rfl,rfl,trivial⟩ rfl rfl ?_
        intro s hs ih2;have hs:s≤L:=hs;refine zai Tk Tryz.func13 ?_;refine zad Tk Tryz.func13 rfl (fun c3=>?_) (fun c3=>?_)
        · have c3:s<L:=by simpa using c3
          have hit2:=hio s (by omega);have hsi2:=hsz s (by omega);have hs2:(List.range (s+1)).map (zbC 115)=(List.range s).map (zbC 115)++[zbC 115 s]:=by rw[List.range_succ,List.map_append];rfl
          have hll:((List.range s).map (zbC 115)).length=s:=by simp
          have hj2:ii (IntKind.i64.wrap ((s:Int)+1))=ii ((s+1:Nat):Int):=congrArg ii (zaE (n:=1000001) (by omega) (by decide));generalize (List.range s).map (zbC 115)=Q at *;refine zat Tk Tryz.func13 zaA rfl ?_;refine zdp Tk hE (hit2 _) rfl rfl rfl rfl ?_;refine zar Tk (by show 1+(zcU (s:Int)).size≤9223372036854775807;omega) ?_;refine zfj Tk Tryz.func13 ([6,7,8]) (by kernel_rfl) (by kernel_rfl) ?_;refine zaf Tk Tryz.func13 (by exact⟨by show (Q.length+1)*16≤140737488355328;omega,by show Q.length+1≤9223372036854775807;omega⟩) ?_;refine zah ?_;refine ih2 (s+1) _ _ c3 (by omega) ⟨rfl,rfl,rfl,rfl,rfl,rfl,hj2,trivial⟩ rfl ⟨rfl,rfl,rfl,rfl,rfl,rfl,?_,trivial⟩ rfl rfl;rw[hs2];exact congrArg some (zcD Q (zbC 115 s))
        · have c3:L≤s:=by simpa using c3
          have c3:s=L:=by omega
          rw[c3];refine zau ?_;refine zas (zap 63 rfl rfl) ?_;refine zas (zaR rfl) ?_;refine zai Tk Tryz.func13 ?_;refine g_go Tk Tryz.func13 ?_;refine zaf Tk Tryz.func13 (by exact⟨by show (A.length+1)*176≤140737488355328;omega,by show A.length+1≤9223372036854775807;omega⟩) ?_;refine zah ?_;refine ih (i+1) _ _ (by show i+1≤_;omega) (by omega) ⟨rfl,rfl,rfl,hj1,trivial⟩ rfl ⟨rfl,rfl,rfl,?_,trivial⟩ rfl rfl;rw[hsucc];show some (Ob.arr 87 9 (A.length+1) (A.map tplI++[tplI ⟨zbC 116 i,(List.range L).map (zbC 115),abc3,⟨al,L,ini,mk,vr,mo⟩⟩]) true)=_;simp[zxg]
      · have c2:¬i<3:=by have:¬(i:Int)<3:=of_decide_eq_false c2;omega
        rw[hend (by omega)];refine zau ?_;refine zas (zap 69 rfl rfl) ?_;refine zas (zaR rfl) ?_;exact zav (J trivial) ⟨rfl,rfl,rfl,trivial⟩ rfl ⟨rfl,rfl,rfl,trivial⟩ rfl rfl
    · have c1:kt.length≤i:=by simpa using c1
      rw[hend (by omega)];refine gcF Tk Tryz.func13 rfl ?_;refine zau ?_;refine zas (zap 69 rfl rfl) ?_;refine zas (zaR rfl) ?_;exact zav (J trivial) ⟨rfl,rfl,rfl,trivial⟩ rfl ⟨rfl,rfl,rfl,trivial⟩ rfl rfl
  intro _;have hTb:T.length≤3:=by omega
  clear hMT hTl ht htl;refine zai Tk Tryz.func13 ?_;refine g_go Tk Tryz.func13 ?_
  apply zbQ (P:=True) (s6:={ σ:=[(1,.own 0 1 0 0),(2,.own 0 2 0 0),(3,.own 0 3 0 0)],S:=[(1,.box (zex ⟨kt,ki,kx,kb⟩)),(2,.box zbG),(3,.box [.i (strI ⟨#[109]⟩),.i (zbc evs4),.i (zbI T),.i (zaK CR.1),.i (zaK CR.2),.i (.v (.slice none 0 0)),.i (.v (.slice none 0 0))])]::O,n:=295})
  · intro J
    refine g_wk (zaJ 3 155 107 3 (pre:=[.i (strI ⟨#[109]⟩),.i (zbc evs4),.i (zbI T)]) (post:=[.i (.v (.slice none 0 0)),.i (.v (.slice none 0 0)),.i (.v (.slice none 0 0))]) rfl rfl rfl) ?_;refine g_wk (zaJ 3 172 107 3 (pre:=[.i (strI ⟨#[109]⟩),.i (zbc evs4),.i (zbI T),.osl 0 155]) (post:=[.i (.v (.slice none 0 0)),.i (.v (.slice none 0 0))]) rfl rfl rfl) ?_;refine zah ?_;refine zal (fun i:Nat=>[(1,.own 0 1 0 0),(2,.own 0 2 0 0),(3,.own 0 3 0 0),(8,ii i)])
      (fun i=>[(1,.box (zex ⟨kt,ki,kx,kb⟩)),(2,.box zbG),(3,.box [.i (strI ⟨#[109]⟩),.i (zbc evs4),.i (zbI T),.osl 0 155,.osl 0 172,.i (.v (.slice none 0 0)),.i (.v (.slice none 0 0))]),(155,zcR (insN T.length ki i).1),(172,zcR (insN T.length ki i).2)]) (fun _=>O) 295
      (fun i=>i≤IC) (fun i=>IC-i) 0 (Nat.zero_le _) ⟨rfl,rfl,rfl,rfl,trivial⟩ rfl ⟨rfl,rfl,rfl,rfl,rfl,trivial⟩ rfl rfl ?_
    intro i hi ih;have hi:i≤IC:=hi;have hend:i=IC→insN T.length ki i=CR:=fun e=>by rw[e,hMI]
    have hlen:=zgi T.length ki i;refine zai Tk Tryz.func13 ?_;refine zaw Tk Tryz.func13 rfl (fun c1=>?_) (fun c1=>?_);rotate_left
    · have c1:ki.length≤i:=by simpa using c1
      rw[hend (by omega)];refine gkF Tk Tryz.func13 rfl ?_;refine gcF Tk Tryz.func13 rfl ?_;refine zau ?_;refine zas (zap 155 rfl rfl) ?_;refine zas (zaR rfl) ?_;refine zas (zap 172 rfl rfl) ?_;refine zas (zaR rfl) ?_;exact zav (J trivial) ⟨rfl,rfl,rfl,trivial⟩ rfl ⟨rfl,rfl,rfl,trivial⟩ rfl rfl
    have c1:i<ki.length:=by simpa using c1
    refine zaw Tk Tryz.func13 rfl (fun c2=>?_) (fun c2=>?_);rotate_left
    · have c2:¬i<5:=by have:¬(i:Int)<5:=of_decide_eq_false c2;omega
      rw[hend (by omega)];refine gcF Tk Tryz.func13 rfl ?_;refine zau ?_;refine zas (zap 155 rfl rfl) ?_;refine zas (zaR rfl) ?_;refine zas (zap 172 rfl rfl) ?_;refine zas (zaR rfl) ?_;exact zav (J trivial) ⟨rfl,rfl,rfl,trivial⟩ rfl ⟨rfl,rfl,rfl,trivial⟩ rfl rfl
    have c2:i<5:=by have:(i:Int)<5:=of_decide_eq_true c2;omega
    refine zad Tk Tryz.func13 rfl (fun c3=>?_) (fun c3=>?_);rotate_left
    · have c3:T.length=0:=by simpa using c3
      rw[if_pos c3] at hICe;rw[hend (by omega)];refine zau ?_;refine zas (zap 155 rfl rfl) ?_;refine zas (zaR rfl) ?_;refine zas (zap 172 rfl rfl) ?_;refine zas (zaR rfl) ?_;exact zav (J trivial) ⟨rfl,rfl,rfl,trivial⟩ rfl ⟨rfl,rfl,rfl,trivial⟩ rfl rfl
    have c3:0<T.length:=by simpa using c3
    rw[if_neg (by omega)] at hICe;clear J hend;have gs:(ki.map useI)[(i:Int).toNat]? = some (useI ki[i]):=zak (f:=useI) c1;have hu:=huse ki[i] (List.getElem_mem c1);have hsucc:=zsk (nt:=T.length) c1;have hit:=hio i (by omega);have hsi:=hsz i (by omega);have hj1:ii (IntKind.i64.wrap ((i:Int)+1))=ii ((i+1:Nat):Int):=congrArg ii (zaE (n:=1000001) (by omega) (by decide));generalize ki[i]=u at *;obtain⟨ut,uo,ur⟩:=u;simp only at hu;obtain⟨q,hq⟩:∃q:Nat,q=(ut%(T.length:Int)).toNat:=⟨_,rfl⟩;have hq1:=Int.emod_nonneg ut (show (T.length:Int)≠0 by omega);have hq2:=Int.emod_lt_of_pos ut (show 0<(T.length:Int) by omega);have hw:(IntKind.i64.wrap ut).tmod (T.length:Int)=(q:Int):=by
      rw[w64 (by omega) (by omega),Int.tmod_eq_emod_of_nonneg hu.1.1];omega
    have hit2:∀O,zba g (ptab ty fr) Tryz.prog 27 [ii ((IntKind.i64.wrap ut).tmod (T.length:Int))] O (.i (.v (.string (zcU (q:Int))))) [] O:=by
      rw[hw];exact hio q (by omega)
    have hsq:=hsz q (by omega);unfold zp3 zi0 at hsucc;simp only[←hq] at hsucc;have hxe:∀x∈(insN T.length ki i).1,x.evs.length≤1000000:=fun x hx=>by
      rw[zu4 T.length ki i x (List.mem_append_left _ hx)];decide
    generalize insN T.length ki i=CRi at *;refine zaf Tk Tryz.func13 (by exact⟨by omega,by show (i:Int)<(ki.length:Int);omega⟩) ?_;refine zaq Tk Tryz.func13 (gs) ?_;refine zat Tk Tryz.func13 zaA rfl ?_;refine zdp Tk hE (hit _) rfl rfl rfl rfl ?_;refine zar Tk (by show 1+(zcU (i:Int)).size≤9223372036854775807;omega) ?_;refine zar Tk (by show (T.length:Int)≠0;omega) ?_;refine zdp Tk hE (hit2 _) rfl rfl rfl rfl ?_;refine zar Tk (by show 1+(zcU (q:Int)).size≤9223372036854775807;omega) ?_;refine zct Tk rfl rfl rfl ?_;refine zaC Tk Tryz.func13 (by kernel_rfl) ?_;clear hit hit2 hio;have hwo:IntKind.i64.wrap uo=uo:=w64 (by omega) (by omega);generalize hev:(ordS uo 3).1=ev at *;refine g_wk (zap 106 rfl rfl) ?_;refine g_wk (zaJ 10 123 9 1 (pre:=[.i (strI (zbC 105 i)),.i (strI (zbC 116 q))]) (post:=[]) rfl rfl rfl) ?_;refine zah ?_
    refine zal (fun k:Nat=>[(1,.own 0 1 0 0),(2,.own 0 2 0 0),(3,.own 0 3 0 0),(8,ii i),(9,.own 0 9 0 0),(10,.own 0 10 0 0),(11,ssD (ordS uo k).2.1),(12,ii (ordS uo k).2.2),(13,ii (4-(k:Int)))])
      (fun k=>[(1,.box (zex ⟨kt,ki,kx,kb⟩)),(2,.box zbG),(3,.box [.i (strI ⟨#[109]⟩),.i (zbc evs4),.i (zbI T),.osl 0 155,.osl 0 172,.i (.v (.slice none 0 0)),.i (.v (.slice none 0 0))]),(155,zcR CRi.1),(172,zcR CRi.2),
        (9,.box [.i (u8J ut),.i (u8J uo),.i (bI ur)]),(10,.box [.i (strI (zbC 105 i)),.i (strI (zbC 116 q)),.osl 0 123]),(123,oss (ordS uo k).1)]) (fun _=>O) 295
      (fun k=>k≤3) (fun k=>3-k) 0 (Nat.zero_le _) ⟨rfl,rfl,rfl,rfl,rfl,rfl,rfl,congrArg ii hwo,rfl,trivial⟩ rfl ⟨rfl,rfl,rfl,rfl,rfl,rfl,rfl,rfl,trivial⟩ rfl rfl ?_
    intro k hk ih2;have hk:k≤3:=hk;have hol:=ziL uo hu.2 k hk;refine zai Tk Tryz.func13 ?_;refine zad Tk Tryz.func13 rfl (fun c4=>?_) (fun c4=>?_)
    · have c4:k<3:=by have:(4:Int)-k>1:=of_decide_eq_true c4;omega
      have hS1:(ordS uo (k+1)).1=(ordS uo k).1++[(ordS uo k).2.1.getD ((ordS uo k).2.2%(4-(k:Int))).toNat ⟨#[]⟩]:=rfl;have hS2:(ordS uo (k+1)).2.1=(ordS uo k).2.1.take ((ordS uo k).2.2%(4-(k:Int))).toNat++(ordS uo k).2.1.drop (((ordS uo k).2.2%(4-(k:Int))).toNat+1):=rfl;have hS3:(ordS uo (k+1)).2.2=(ordS uo k).2.2/(4-(k:Int)):=rfl;generalize ordS uo k=W at *;obtain⟨out,l,a⟩:=W;simp only at hol hS1 hS2 hS3;obtain⟨o1,o2,o3,o4⟩:=hol;have hm1:=Int.emod_nonneg a (show 4-(k:Int)≠0 by omega);have hm2:=Int.emod_lt_of_pos a (show 0<4-(k:Int) by omega);have htm:a.tmod (4-(k:Int))=a%(4-(k:Int)):=Int.tmod_eq_emod_of_nonneg o3;obtain⟨j,hj⟩:∃j:Nat,(j:Int)=a%(4-(k:Int)):=⟨(a%(4-(k:Int))).toNat,by omega⟩;rw[←hj,Int.toNat_natCast] at hS1 hS2;have htj:a.tmod (4-(k:Int))=(j:Int):=by rw[htm,hj]
      have hjl:j<l.length:=by omega
      have gl:(l.map fun s=>[strI s])[(a.tmod (4-(k:Int))).toNat]? = some [strI (l.getD j ⟨#[]⟩)]:=by
        rw[htj,Int.toNat_natCast,List.getElem?_map,List.getD_eq_getElem?_getD,List.getElem?_eq_getElem hjl];rfl
      refine zat Tk Tryz.func13 zaA rfl ?_;refine zar Tk (by show 4-(k:Int)≠0;omega) ?_;refine zar Tk (by exact⟨by show (0:Int)≤a.tmod (4-(k:Int));omega,by show a.tmod (4-(k:Int))<(l.length:Int);omega⟩) ?_;refine zax Tk (gl) ?_;refine zfj Tk Tryz.func13 ([9,10,11]) (by kernel_rfl) (by kernel_rfl) ?_;refine zaf Tk Tryz.func13 (by exact⟨by show (out.length+1)*16≤140737488355328;omega,by show out.length+1≤9223372036854775807;omega⟩) ?_;have hfr:=zwO l j;have hwj:IntKind.i64.wrap ((a.tmod (4-(k:Int)))+1)=((j+1:Nat):Int):=by rw[htj,w64 (by omega) (by omega)];omega
      have hdv:IntKind.i64.wrap (a.tdiv (4-(k:Int)))=a/(4-(k:Int)):=by
        rw[Int.tdiv_eq_ediv_of_nonneg o3];have h7:=Int.ediv_nonneg o3 (show 0≤4-(k:Int) by omega);have h8:=Int.ediv_le_self (4-(k:Int)) o3;exact w64 (by omega) (by omega)
      have hk1:IntKind.i64.wrap (4-(k:Int)-1)=4-((k+1:Nat):Int):=by rw[w64 (by omega) (by omega)];omega
      refine zat Tk Tryz.func13 zaA rfl ?_;refine zar Tk (by show 4-(k:Int)≠0;omega) ?_;refine zar Tk (by exact⟨by show (0:Int)≤a.tmod (4-(k:Int));omega,by show a.tmod (4-(k:Int))≤(l.length:Int);omega⟩) ?_;refine zux Tk ?_;refine zes Tk (by exact⟨by show (0+(a.tmod (4-(k:Int))).toNat)*16≤140737488355328;omega,by show 0+(a.tmod (4-(k:Int))).toNat≤9223372036854775807;omega⟩) ?_;refine zlA Tk (p:=⟨[(131,.osl 0 131),(125,.dead)],[(131,.arr 9 1 (0+(a.tmod (4-(k:Int))).toNat) ([]++(l.map fun s=>[strI s]).take (a.tmod (4-(k:Int))).toNat) true)],some 125⟩) rfl rfl rfl ?_;refine zes Tk (by show 4-(k:Int)≠0;omega) ?_;refine zes Tk (by exact⟨by show (0:Int)≤IntKind.i64.wrap ((a.tmod (4-(k:Int)))+1);omega,by show IntKind.i64.wrap ((a.tmod (4-(k:Int)))+1)≤(l.length:Int);omega⟩) ?_
      refine zes Tk (by exact⟨by show (0+(a.tmod (4-(k:Int))).toNat+(l.length-(IntKind.i64.wrap ((a.tmod (4-(k:Int)))+1)).toNat))*16≤140737488355328;omega,by show 0+(a.tmod (4-(k:Int))).toNat+(l.length-(IntKind.i64.wrap ((a.tmod (4-(k:Int)))+1)).toNat)≤9223372036854775807;omega⟩) ?_;refine zlA Tk (p:=⟨[(138,.osl 0 138),(131,.dead)],[(138,.arr 9 1 (0+(a.tmod (4-(k:Int))).toNat+(l.length-(IntKind.i64.wrap ((a.tmod (4-(k:Int)))+1)).toNat)) ([]++(l.map fun s=>[strI s]).take (a.tmod (4-(k:Int))).toNat++(l.map fun s=>[strI s]).drop (IntKind.i64.wrap ((a.tmod (4-(k:Int)))+1)).toNat) true)],some 131⟩) rfl rfl rfl ?_;refine zkx Tk Tryz.func13 (by kernel_rfl) (GM.h ?_);refine zaf Tk Tryz.func13 (by show 4-(k:Int)≠0;omega) ?_;refine zah ?_;refine zas (zap 138 rfl rfl) ?_
      refine ih2 (k+1) _ _ (by show k+1≤3;omega) (by omega) ⟨rfl,rfl,rfl,rfl,rfl,rfl,?_,?_,congrArg ii hk1,trivial⟩ rfl ⟨rfl,rfl,rfl,rfl,rfl,rfl,rfl,?_,trivial⟩ rfl rfl
      · show D.i (.sl 1 (0+(a.tmod (4-(k:Int))).toNat+(l.length-(IntKind.i64.wrap ((a.tmod (4-(k:Int)))+1)).toNat)) ([]++(l.map fun s=>[strI s]).take (a.tmod (4-(k:Int))).toNat++(l.map fun s=>[strI s]).drop (IntKind.i64.wrap ((a.tmod (4-(k:Int)))+1)).toNat))=ssD (ordS uo (k+1)).2.1
        rw[hS2,←hfr hjl,hwj,htj]
      · show ii (IntKind.i64.wrap (a.tdiv (4-(k:Int))))=ii (ordS uo (k+1)).2.2
        rw[hS3,hdv]
      · show some (Ob.arr 9 1 (out.length+1) (out.map (fun s=>[strI s])++[[strI (l.getD j ⟨#[]⟩)]]) true)=some (oss (ordS uo (k+1)).1)
        rw[hS1];exact congrArg some (zcD out _)
    · have c4:¬k<3:=by have:¬(4:Int)-k>1:=of_decide_eq_false c4;omega
      have hk3:k=3:=by omega
      subst hk3;rw[hev];refine zau ?_;refine zas (zap 123 rfl rfl) ?_;refine zas (zaR rfl) ?_;refine zai Tk Tryz.func13 ?_;refine g_go Tk Tryz.func13 ?_;have hev3:ev.length=3:=by rw[←hev];exact (ziL uo hu.2 3 (by decide)).1
      have hcov:=fun O=>zvK O CRi.1 ev (by omega) (by omega) hxe;clear ih2 hol hev
      apply zbQ (P:=¬(ur=false∧CRi.1.length<3)) (s6:={ σ:=[(1,.own 0 1 0 0),(2,.own 0 2 0 0),(3,.own 0 3 0 0),(8,ii i),(10,.own 0 10 0 0)],S:=[(1,.box (zex ⟨kt,ki,kx,kb⟩)),(2,.box zbG),(3,.box [.i (strI ⟨#[109]⟩),.i (zbc evs4),.i (zbI T),.osl 0 155,.osl 0 172,.i (.v (.slice none 0 0)),.i (.v (.slice none 0 0))]),(155,zcR CRi.1),(172,zcR CRi.2),(10,.box [.i (strI (zbC 105 i)),.i (strI (zbC 116 q)),ssD ev])]::O,n:=295})
      · intro J
        refine zaw Tk Tryz.func13 rfl (fun d1=>?_) (fun d1=>?_)
        · have d1:ur=false:=by simpa using d1
          refine zad Tk Tryz.func13 rfl (fun d2=>?_) (fun d2=>?_)
          · have d2:CRi.1.length<3:=by have:(CRi.1.length:Int)<3:=of_decide_eq_true d2;omega
            rw[if_pos ⟨d1,d2⟩] at hsucc;refine zaf Tk Tryz.func13 (by exact⟨by show (CRi.1.length+1)*56≤140737488355328;omega,by show CRi.1.length+1≤9223372036854775807;omega⟩) ?_;refine zah ?_;refine ih (i+1) _ _ (by show i+1≤IC;omega) (by omega) ⟨rfl,rfl,rfl,hj1,trivial⟩ rfl ⟨rfl,rfl,rfl,?_,?_,trivial⟩ rfl rfl
            · show some (Ob.arr 107 3 (CRi.1.length+1) (CRi.1.map insI++[insI ⟨zbC 105 i,zbC 116 q,ev⟩]) true)=some (zcR (insN T.length ki (i+1)).1)
              rw[hsucc];simp[zcR]
            · show some (zcR CRi.2)=some (zcR (insN T.length ki (i+1)).2)
              rw[hsucc]
          · have d2:¬CRi.1.length<3:=by have:¬(CRi.1.length:Int)<3:=of_decide_eq_false d2;omega
            refine zau ?_;exact zav (J fun h=>d2 h.2) ⟨rfl,rfl,rfl,rfl,rfl,trivial⟩ rfl ⟨rfl,rfl,rfl,rfl,rfl,rfl,trivial⟩ rfl rfl
        · have d1:ur=true:=by simpa using d1
          refine gcF Tk Tryz.func13 rfl ?_;refine zau ?_;exact zav (J fun h=>by rw[d1] at h;cases h.1) ⟨rfl,rfl,rfl,rfl,rfl,trivial⟩ rfl ⟨rfl,rfl,rfl,rfl,rfl,rfl,trivial⟩ rfl rfl
      intro hP;rw[if_neg hP] at hsucc;refine zai Tk Tryz.func13 ?_;refine g_go Tk Tryz.func13 ?_;refine zcx Tk Tryz.func13 rfl rfl rfl rfl (zbv (hcov []) (zfS _) (.osl (.i .nil)) rfl (show 161<295 by decide) rfl rfl) ?_;generalize covB CRi.1 ev=cb at *;refine zaw Tk Tryz.func13 rfl (fun d1=>?_) (fun d1=>?_)
      · have d1:cb=true:=d1
        refine zad Tk Tryz.func13 rfl (fun d2=>?_) (fun d2=>?_)
        · have d2:CRi.2.length<2:=by have:(CRi.2.length:Int)<2:=of_decide_eq_true d2;omega
          rw[if_pos ⟨d1,d2⟩] at hsucc;refine zaf Tk Tryz.func13 (by exact⟨by show (CRi.2.length+1)*56≤140737488355328;omega,by show CRi.2.length+1≤9223372036854775807;omega⟩) ?_;refine zah ?_;refine ih (i+1) _ _ (by show i+1≤IC;omega) (by omega) ⟨rfl,rfl,rfl,hj1,trivial⟩ rfl ⟨rfl,rfl,rfl,?_,?_,trivial⟩ rfl rfl
          · show some (zcR CRi.1)=some (zcR (insN T.length ki (i+1)).1)
            rw[hsucc]
          · show some (Ob.arr 107 3 (CRi.2.length+1) (CRi.2.map insI++[insI ⟨zbC 105 i,zbC 116 q,ev⟩]) true)=some (zcR (insN T.length ki (i+1)).2)
            rw[hsucc];simp[zcR]
        · have d2:¬CRi.2.length<2:=by have:¬(CRi.2.length:Int)<2:=of_decide_eq_false d2;omega
          rw[if_neg (fun h=>d2 h.2)] at hsucc;refine zah ?_;refine ih (i+1) _ _ (by show i+1≤IC;omega) (by omega) ⟨rfl,rfl,rfl,hj1,trivial⟩ rfl ⟨rfl,rfl,rfl,?_,?_,trivial⟩ rfl rfl
          · show some (zcR CRi.1)=some (zcR (insN T.length ki (i+1)).1)
            rw[hsucc]
          · show some (zcR CRi.2)=some (zcR (insN T.length ki (i+1)).2)
            rw[hsucc]
      · have d1:cb=false:=d1
        rw[if_neg (fun h=>by rw[d1] at h;cases h.1)] at hsucc;refine gcF Tk Tryz.func13 rfl ?_;refine zah ?_;refine ih (i+1) _ _ (by show i+1≤IC;omega) (by omega) ⟨rfl,rfl,rfl,hj1,trivial⟩ rfl ⟨rfl,rfl,rfl,?_,?_,trivial⟩ rfl rfl
        · show some (zcR CRi.1)=some (zcR (insN T.length ki (i+1)).1)
          rw[hsucc]
        · show some (zcR CRi.2)=some (zcR (insN T.length ki (i+1)).2)
          rw[hsucc]
  intro _;have hCl:=zgi T.length ki IC;rw[←hMI] at hCl;clear hMI hIC hICe huse hil;obtain⟨C,Q⟩:=CR;simp only at hCl hR htpl;refine zai Tk Tryz.func13 ?_;refine g_go Tk Tryz.func13 ?_;refine zad Tk Tryz.func13 rfl (fun z1=>?_) (fun z1=>?_)
  · have z1:C.length=0:=by simpa using z1
    rw[if_pos z1] at hR;subst hR;refine zaF Tk (r:=.agg [.i (strI ⟨#[109]⟩),.i (zbc evs4),.i (zbI T),.i (zaK C),.i (zaK Q),.i (.v (.slice none 0 0)),.i (.v (.slice none 0 0))]) rfl rfl rfl trivial rfl rfl ?_
    repeat' (first|refine zbT ?_|refine zbD ?_|refine zcz ?_|refine CoDL.cons ?_ ?_|exact CoDL.nil|exact zbf|refine zcA ?_|refine CoLL.cons ?_ ?_|exact CoLL.nil|refine CoL.cons ?_ ?_|exact CoL.nil|exact CoI.refl _|exact CoL.refl _|exact CoLL.refl _|exact CoDL.refl _|exact CoD.refl _)
  have z1:¬C.length=0:=by simpa using z1
  rw[if_neg z1] at hR;have hCb:0<C.length∧C.length≤3:=by omega
  apply zbQ (P:=True) (s6:={ σ:=[(1,.own 0 1 0 0),(2,.own 0 2 0 0),(3,.own 0 3 0 0)],S:=[(1,.box (zex ⟨kt,ki,kx,kb⟩)),(2,.box zbG),(3,.box [.i (strI ⟨#[109]⟩),.i (zbc evs4),.i (zbI T),.i (zaK C),.i (zaK Q),.i (zcS (zeL T C kx (min kx.length 2))),.i (.v (.slice none 0 0))])]::O,n:=295})
  · intro J
    refine g_wk (zaJ 3 256 91 2 (pre:=[.i (strI ⟨#[109]⟩),.i (zbc evs4),.i (zbI T),.i (zaK C),.i (zaK Q)]) (post:=[.i (.v (.slice none 0 0))]) rfl rfl rfl) ?_;refine zah ?_;refine zal (fun i:Nat=>[(1,.own 0 1 0 0),(2,.own 0 2 0 0),(3,.own 0 3 0 0),(14,ii i)])
      (fun i=>[(1,.box (zex ⟨kt,ki,kx,kb⟩)),(2,.box zbG),(3,.box [.i (strI ⟨#[109]⟩),.i (zbc evs4),.i (zbI T),.i (zaK C),.i (zaK Q),.osl 0 256,.i (.v (.slice none 0 0))]),(256,ziM (zeL T C kx i))]) (fun _=>O) 295
      (fun i=>i≤min kx.length 2) (fun i=>min kx.length 2-i) 0 (Nat.zero_le _) ⟨rfl,rfl,rfl,rfl,trivial⟩ rfl ⟨rfl,rfl,rfl,rfl,trivial⟩ rfl rfl ?_
    intro i hi ih;have hi:i≤min kx.length 2:=hi;have hend:i=min kx.length 2→zeL T C kx i=zeL T C kx (min kx.length 2):=fun e=>by rw[e]
    have hlen:=zsI T C kx i;refine zai Tk Tryz.func13 ?_;refine zaw Tk Tryz.func13 rfl (fun c1=>?_) (fun c1=>?_);rotate_left
    · have c1:kx.length≤i:=by simpa using c1
      rw[hend (by omega)];refine gcF Tk Tryz.func13 rfl ?_;refine zau ?_;refine zas (zap 256 rfl rfl) ?_;refine zas (zaR rfl) ?_;exact zav (J trivial) ⟨rfl,rfl,rfl,trivial⟩ rfl ⟨rfl,rfl,rfl,trivial⟩ rfl rfl
    have c1:i<kx.length:=by simpa using c1
    refine zad Tk Tryz.func13 rfl (fun c2=>?_) (fun c2=>?_);rotate_left
    · have c2:¬i<2:=by have:¬(i:Int)<2:=of_decide_eq_false c2;omega
      rw[hend (by omega)];refine zau ?_;refine zas (zap 256 rfl rfl) ?_;refine zas (zaR rfl) ?_;exact zav (J trivial) ⟨rfl,rfl,rfl,trivial⟩ rfl ⟨rfl,rfl,rfl,trivial⟩ rfl rfl
    have c2:i<2:=by have:(i:Int)<2:=of_decide_eq_true c2;omega
    clear J hend;have gs:(kx.map whrI)[(i:Int).toNat]? = some (whrI kx[i]):=zak (f:=whrI) c1;have hwo:=he kx[i] (List.getElem_mem c1);have hsucc:=zp7 (T:=T) (C:=C) c1;unfold zvr at hsucc;have hit:=hio i (by omega);have hsi:=hsz i (by omega);have hj1:ii (IntKind.i64.wrap ((i:Int)+1))=ii ((i+1:Nat):Int):=congrArg ii (zaE (n:=1000001) (by omega) (by decide));generalize kx[i]=w at *;obtain⟨⟨wc,wl⟩,⟨vc,vl⟩⟩:=w;simp only at hwo hsucc;obtain⟨x,t,s,g1,g2,g3,g4,g5,g6,g7⟩:=zsJ hTloc htpl hCb hwo.1;obtain⟨x',t',s',f1,f2,f3,f4,f5,f6,f7⟩:=zsJ hTloc htpl hCb hwo.2;rw[g7 []] at hsucc;simp only[Bool.false_eq_true,if_false,List.nil_append] at hsucc;rw[f7] at hsucc;simp only at hsucc;have hto:=fun O=>zeW O ⟨⟨#[109]⟩,evs4,T,C,Q,[],[]⟩ 0 256 x t (by show T.length≤1000000;omega) g3
    have hto':=fun O=>zeW O ⟨⟨#[109]⟩,evs4,T,C,Q,[],[]⟩ 0 256 x' t' (by show T.length≤1000000;omega) f3;clear g7 f7 g3 f3;generalize zeL T C kx i=A at *;obtain⟨xn,xt,xe⟩:=x;obtain⟨yn,yt,ye⟩:=x';obtain⟨tn,tl,te,⟨tal,tlo,tini,tmk,tvr,tmo⟩⟩:=t;obtain⟨un,ul,ue,⟨ual,ulo,uini,umk,uvr,umo⟩⟩:=t';simp only at hsucc g4 g5 g6 f4 f5 f6;refine zbM Tk Tryz.func13 hE (hit _) rfl rfl rfl rfl rfl rfl ?_;refine zaf Tk Tryz.func13 (by show 1+(zcU (i:Int)).size≤9223372036854775807;omega) ?_;refine g_wk (zaJ 15 250 103 2 (pre:=[.i (strI (zbC 120 i))]) (post:=[]) rfl rfl rfl) ?_;refine zah ?_
    refine zas (zbp (l:=[(1,.own 0 1 0 0),(2,.own 0 2 0 0),(3,.own 0 3 0 0),(14,ii i),(15,.own 0 15 0 0),(16,ii 0)]) (Hv:=[(1,.box (zex ⟨kt,ki,kx,kb⟩)),(2,.box zbG),(3,.box [.i (strI ⟨#[109]⟩),.i (zbc evs4),.i (zbI T),.i (zaK C),.i (zaK Q),.osl 0 256,.i (.v (.slice none 0 0))]),(256,ziM A),(15,.box [.i (strI (zbC 120 i)),.osl 0 250]),(250,zuS [])]) ⟨rfl,rfl,rfl,rfl,rfl,rfl,trivial⟩ rfl ⟨rfl,rfl,rfl,rfl,rfl,rfl,trivial⟩ rfl rfl) ?_;refine zai Tk Tryz.func13 ?_;refine gcT Tk Tryz.func13 rfl ?_;refine zaf Tk Tryz.func13 (by exact⟨by omega,by show (i:Int)<(kx.length:Int);omega⟩) ?_;refine zaf Tk Tryz.func13 (by decide) ?_;refine zaq Tk Tryz.func13 (gs) ?_;refine zat Tk Tryz.func13 zaA rfl ?_;refine zar Tk (by show (C.length:Int)≠0;omega) ?_;refine zar Tk (by exact g2) ?_;refine zax Tk (g1) ?_;refine zct Tk rfl rfl rfl ?_;refine zaC Tk Tryz.func13 (by kernel_rfl) ?_
    refine zat Tk Tryz.func13 zaA rfl ?_;refine skF Tk ?_;refine zaC Tk Tryz.func13 (by kernel_rfl) ?_;refine gcF Tk Tryz.func13 rfl ?_;refine zaj Tk Tryz.func13 (hto _) rfl rfl rfl rfl rfl ?_;refine zat Tk Tryz.func13 zaA rfl ?_;refine zar Tk (by show (tl.length:Int)≠0;omega) ?_;refine zar Tk (by exact g6) ?_;refine zax Tk (g5) ?_;refine zfj Tk Tryz.func13 ([17,18,19]) (by kernel_rfl) (by kernel_rfl) ?_;refine zaf Tk Tryz.func13 (by decide) ?_;refine zah ?_
    refine zas (zbp (l:=[(1,.own 0 1 0 0),(2,.own 0 2 0 0),(3,.own 0 3 0 0),(14,ii i),(15,.own 0 15 0 0),(16,ii 1)]) (Hv:=[(1,.box (zex ⟨kt,ki,kx,kb⟩)),(2,.box zbG),(3,.box [.i (strI ⟨#[109]⟩),.i (zbc evs4),.i (zbI T),.i (zaK C),.i (zaK Q),.osl 0 256,.i (.v (.slice none 0 0))]),(256,ziM A),(15,.box [.i (strI (zbC 120 i)),.osl 0 250]),(250,zuS [(xn,s)])]) ⟨rfl,rfl,rfl,rfl,rfl,rfl,trivial⟩ rfl ⟨rfl,rfl,rfl,rfl,rfl,rfl,trivial⟩ rfl rfl) ?_;refine zai Tk Tryz.func13 ?_;refine gcT Tk Tryz.func13 rfl ?_;refine zaf Tk Tryz.func13 (by exact⟨by omega,by show (i:Int)<(kx.length:Int);omega⟩) ?_;refine zaf Tk Tryz.func13 (by decide) ?_;refine zaq Tk Tryz.func13 (gs) ?_;refine zat Tk Tryz.func13 zaA rfl ?_;refine zar Tk (by show (C.length:Int)≠0;omega) ?_;refine zar Tk (by exact f2) ?_;refine zax Tk (f1) ?_;refine zct Tk rfl rfl rfl ?_
    refine zaC Tk Tryz.func13 (by kernel_rfl) ?_;refine zat Tk Tryz.func13 zaA rfl ?_;refine skT Tk ?_;refine zar Tk (by exact⟨Int.le_refl _,Int.zero_lt_one⟩) ?_;refine zax Tk (rfl) ?_;refine zaC Tk Tryz.func13 (by kernel_rfl) ?_;refine zad Tk Tryz.func13 rfl (fun e1=>?_) (fun e1=>?_)
    · have e1:(xn.toList==yn.toList)=true:=e1
      rw[zbe] at e1;rw[if_pos e1] at hsucc;refine zah ?_;refine zas (zbp (l:=[(1,.own 0 1 0 0),(2,.own 0 2 0 0),(3,.own 0 3 0 0),(14,ii i),(15,.own 0 15 0 0),(16,ii 2)]) (Hv:=[(1,.box (zex ⟨kt,ki,kx,kb⟩)),(2,.box zbG),(3,.box [.i (strI ⟨#[109]⟩),.i (zbc evs4),.i (zbI T),.i (zaK C),.i (zaK Q),.osl 0 256,.i (.v (.slice none 0 0))]),(256,ziM A),(15,.box [.i (strI (zbC 120 i)),.osl 0 250]),(250,zuS [(xn,s)])]) ⟨rfl,rfl,rfl,rfl,rfl,rfl,trivial⟩ rfl ⟨rfl,rfl,rfl,rfl,rfl,rfl,trivial⟩ rfl rfl) ?_;refine zai Tk Tryz.func13 ?_;refine gcF Tk Tryz.func13 rfl ?_;refine zau ?_;refine zas (zap 250 rfl rfl) ?_;refine zas (zaR rfl) ?_;refine zai Tk Tryz.func13 ?_;refine g_go Tk Tryz.func13 ?_;refine zaf Tk Tryz.func13 (by exact⟨by show (A.length+1)*40≤140737488355328;omega,by show A.length+1≤9223372036854775807;omega⟩) ?_;refine zah ?_
      refine ih (i+1) _ _ (by show i+1≤_;omega) (by omega) ⟨rfl,rfl,rfl,hj1,trivial⟩ rfl ⟨rfl,rfl,rfl,?_,trivial⟩ rfl rfl;show some (Ob.arr 91 2 (A.length+1) (A.map nexI++[nexI ⟨zbC 120 i,[(xn,s)]⟩]) true)=some (ziM (zeL T C kx (i+1)));rw[hsucc];simp[ziM]
    · have e1:(xn.toList==yn.toList)=false:=e1
      rw[zbe] at e1;rw[if_neg (zgT e1)] at hsucc;refine zaj Tk Tryz.func13 (hto' _) rfl rfl rfl rfl rfl ?_;refine zat Tk Tryz.func13 zaA rfl ?_;refine zar Tk (by show (ul.length:Int)≠0;omega) ?_;refine zar Tk (by exact f6) ?_;refine zax Tk (f5) ?_;refine zfj Tk Tryz.func13 ([17,18,19]) (by kernel_rfl) (by kernel_rfl) ?_;refine zaf Tk Tryz.func13 (by exact⟨by show (1+1)*32≤140737488355328;decide,by show 1+1≤9223372036854775807;decide⟩) ?_;refine zah ?_
      refine zas (zbp (l:=[(1,.own 0 1 0 0),(2,.own 0 2 0 0),(3,.own 0 3 0 0),(14,ii i),(15,.own 0 15 0 0),(16,ii 2)]) (Hv:=[(1,.box (zex ⟨kt,ki,kx,kb⟩)),(2,.box zbG),(3,.box [.i (strI ⟨#[109]⟩),.i (zbc evs4),.i (zbI T),.i (zaK C),.i (zaK Q),.osl 0 256,.i (.v (.slice none 0 0))]),(256,ziM A),(15,.box [.i (strI (zbC 120 i)),.osl 0 250]),(250,zuS [(xn,s),(yn,s')])]) ⟨rfl,rfl,rfl,rfl,rfl,rfl,trivial⟩ rfl ⟨rfl,rfl,rfl,rfl,rfl,rfl,trivial⟩ rfl rfl) ?_;refine zai Tk Tryz.func13 ?_;refine gcF Tk Tryz.func13 rfl ?_;refine zau ?_;refine zas (zap 250 rfl rfl) ?_;refine zas (zaR rfl) ?_;refine zai Tk Tryz.func13 ?_;refine g_go Tk Tryz.func13 ?_;refine zaf Tk Tryz.func13 (by exact⟨by show (A.length+1)*40≤140737488355328;omega,by show A.length+1≤9223372036854775807;omega⟩) ?_;refine zah ?_
      refine ih (i+1) _ _ (by show i+1≤_;omega) (by omega) ⟨rfl,rfl,rfl,hj1,trivial⟩ rfl ⟨rfl,rfl,rfl,?_,trivial⟩ rfl rfl;show some (Ob.arr 91 2 (A.length+1) (A.map nexI++[nexI ⟨zbC 120 i,[(xn,s),(yn,s')]⟩]) true)=some (ziM (zeL T C kx (i+1)));rw[hsucc];simp[ziM]
  intro _;clear hTloc htpl he hel hsz hio;generalize zeL T C kx (min kx.length 2)=X at *;refine zai Tk Tryz.func13 ?_;refine g_go Tk Tryz.func13 ?_;refine zad Tk Tryz.func13 rfl (fun b1=>?_) (fun b1=>?_);rotate_left
  · have b1:¬kb>0:=by simpa using b1
    rw[if_neg b1] at hR;subst hR;refine zau ?_;refine zai Tk Tryz.func13 ?_;refine g_go Tk Tryz.func13 ?_;refine zaF Tk (r:=.agg [.i (strI ⟨#[109]⟩),.i (zbc evs4),.i (zbI T),.i (zaK C),.i (zaK Q),.i (zcS X),.i (.v (.slice none 0 0))]) rfl rfl rfl trivial rfl rfl ?_
    repeat' (first|refine zbT ?_|refine zbD ?_|refine zcz ?_|refine CoDL.cons ?_ ?_|exact CoDL.nil|exact zbf|refine zcA ?_|refine CoLL.cons ?_ ?_|exact CoLL.nil|refine CoL.cons ?_ ?_|exact CoL.nil|exact CoI.refl _|exact CoL.refl _|exact CoLL.refl _|exact CoDL.refl _|exact CoD.refl _)
  have b1:kb>0:=by simpa using b1
  rw[if_pos b1] at hR;unfold zy9 at hR;have hkb:IntKind.i64.wrap (kb.tmod 5)=kb%5:=by rw[Int.tmod_eq_emod_of_nonneg (by omega),w64 (by omega) (by omega)]
  have hn1:IntKind.i64.wrap ((C.length:Int)-1)=(C.length:Int)-1:=w64 (by omega) (by omega);refine zaf Tk Tryz.func13 (by decide) ?_;refine g_wk (zaJ 20 286 93 2 (pre:=[.i (strI ⟨#[99]⟩)]) (post:=[ii (IntKind.i64.wrap (kb.tmod 5))]) rfl rfl rfl) ?_;refine zah ?_;refine zal (fun r:Nat=>[(1,.own 0 1 0 0),(2,.own 0 2 0 0),(3,.own 0 3 0 0),(20,.own 0 20 0 0),(21,ii ((C.length:Int)-1-r))])
    (fun r=>[(1,.box (zex ⟨kt,ki,kx,kb⟩)),(2,.box zbG),(3,.box [.i (strI ⟨#[109]⟩),.i (zbc evs4),.i (zbI T),.i (zaK C),.i (zaK Q),.i (zcS X),.i (.v (.slice none 0 0))]),(20,.box [.i (strI ⟨#[99]⟩),.osl 0 286,ii (IntKind.i64.wrap (kb.tmod 5))]),(286,zxj ((zcJ C).take r))]) (fun _=>O) 295
    (fun r=>r≤C.length) (fun r=>C.length-r) 0 (Nat.zero_le _) ⟨rfl,rfl,rfl,rfl,by rw[show (C.length:Int)-1-((0:Nat):Int)=(C.length:Int)-1 by omega];exact congrArg ii hn1,trivial⟩ rfl ⟨rfl,rfl,rfl,rfl,rfl,trivial⟩ rfl rfl ?_
  intro r hr ih;have hr:r≤C.length:=hr;refine zai Tk Tryz.func13 ?_;refine zad Tk Tryz.func13 rfl (fun c1=>?_) (fun c1=>?_)
  · have c1:(C.length:Int)-1-r≥0:=of_decide_eq_true c1
    have c1:r<C.length:=by omega
    have gs:(C.map insI)[((C.length:Int)-1-r).toNat]? = some (insI C[C.length-1-r]):=by
      rw[show ((C.length:Int)-1-r)=((C.length-1-r:Nat):Int) by omega];exact zak (f:=insI) (by omega)
    have ht:=zkS c1;have hll:((zcJ C).take r).length≤3:=by
      rw[List.length_take,zdb];omega
    have hw1:IntKind.i64.wrap (1+((C.length:Int)-1-r))=1+((C.length-1-r:Nat):Int):=by rw[w64 (by omega) (by omega)];omega
    have hw2:ii (IntKind.i64.wrap ((C.length:Int)-1-r-1))=ii ((C.length:Int)-1-((r+1:Nat):Int)):=by
      rw[w64 (by omega) (by omega),show (C.length:Int)-1-r-1=(C.length:Int)-1-((r+1:Nat):Int) by omega]
    generalize (zcJ C).take r=A at *;generalize C[C.length-1-r]=x at *;obtain⟨xn,xt,xe⟩:=x;simp only at ht;refine zat Tk Tryz.func13 zaA rfl ?_;refine zar Tk (by exact⟨by omega,by show (C.length:Int)-1-r<(C.length:Int);omega⟩) ?_;refine zax Tk (gs) ?_;refine zfj Tk Tryz.func13 ([12,13,14]) (by kernel_rfl) (by kernel_rfl) ?_;refine zaf Tk Tryz.func13 (by exact⟨by show (A.length+1)*24≤140737488355328;omega,by show A.length+1≤9223372036854775807;omega⟩) ?_;refine zah ?_;refine ih (r+1) _ _ c1 (by omega) ⟨rfl,rfl,rfl,rfl,hw2,trivial⟩ rfl ⟨rfl,rfl,rfl,rfl,?_,trivial⟩ rfl rfl;show some (Ob.arr 93 2 (A.length+1) (A.map ntmI++[ntmI (xn,IntKind.i64.wrap (1+((C.length:Int)-1-r)))]) true)=some (zxj ((zcJ C).take (r+1)));rw[ht,hw1];simp[zxj]
  · have c1:¬(C.length:Int)-1-r≥0:=of_decide_eq_false c1
    have hrC:(zcJ C).take r=zcJ C:=List.take_of_length_le (by rw[zdb];omega);rw[hrC];refine zau ?_;refine zas (zap 286 rfl rfl) ?_;refine zas (zaR rfl) ?_;refine zas (zaJ 3 292 96 3 (pre:=[.i (strI ⟨#[109]⟩),.i (zbc evs4),.i (zbI T),.i (zaK C),.i (zaK Q),.i (zcS X)]) (post:=[]) rfl rfl rfl) ?_;refine zai Tk Tryz.func13 ?_;refine g_go Tk Tryz.func13 ?_;refine zaf Tk Tryz.func13 (by decide) ?_;refine zau ?_;refine zas (zap 292 rfl rfl) ?_;refine zas (zaR rfl) ?_;refine zai Tk Tryz.func13 ?_;refine g_go Tk Tryz.func13 ?_;refine zae Tk (r:=mdlD ⟨⟨#[109]⟩,evs4,T,C,Q,X,[⟨⟨#[99]⟩,zcJ C,IntKind.i64.wrap (kb.tmod 5)⟩]⟩) rfl rfl rfl trivial rfl rfl ?_;rw[hkb];exact congrArg mdlD hR
mutual
def esz:Ex→Nat
 |.mk _ _ _ args=>1+eszs args
def eszs:List Ex→Nat
 |[]=>0
 |e::r=>esz e+eszs r
end
mutual
def edep:Ex→Nat
 |.mk _ _ _ args=>1+zly args
def zly:List Ex→Nat
 |[]=>0
 |e::r=>max (edep e) (zly r)
end
mutual
theorem znL:∀(x:Ex) (n:Int) (lvl c:Nat),wfE n x→c+esz x≤64→lvl+edep x≤9→zcy x n lvl c=(0,((c+esz x:Nat):Int))
 |.mk op v ix args,n,lvl,c,hw,hc,hl=>by
  simp only[esz] at hc ⊢;simp only[edep] at hl;simp only[wfE] at hw;simp only[zcy];rw[if_neg (by omega),if_neg (by rw[hw.1];simp)];have:=zkl args n (lvl+1) (c+1) hw.2 (by omega) (by omega);rw[show ((lvl:Int)+1)=((lvl+1:Nat):Int) by omega,show ((c:Int)+1)=((c+1:Nat):Int) by omega,this];rw[show c+(1+eszs args)=c+1+eszs args by omega]
theorem zkl:∀(l:List Ex) (n:Int) (lvl c:Nat),wfEs n l→c+eszs l≤64→lvl+zly l≤9→zc0 l n lvl c=(0,((c+eszs l:Nat):Int))
 |[],n,lvl,c,_,_,_=>rfl
 |e::r,n,lvl,c,hw,hc,hl=>by
  simp only[eszs] at hc ⊢;simp only[zly] at hl;simp only[wfEs] at hw;simp only[zc0];have h1:=znL e n lvl c hw.1 (by omega) (by omega);rw[h1];simp only[ne_eq,not_true_eq_false,if_false];rw[zkl r n lvl (c+esz e) hw.2 (by omega) (by omega)];rw[show c+(esz e+eszs r)=c+esz e+eszs r by omega]
end
mutual
theorem zsM:∀(x:Ex) (n:Int),wfE n x→exOk x
 |.mk op v ix args,n,h=>by
  simp only[wfE] at h;obtain⟨_,h2,_⟩:=zb7 h.1;have:=zgm op;exact⟨by simp only[zan];omega,znP args n h.2⟩
theorem znP:∀(l:List Ex) (n:Int),wfEs n l→zkt l
 |[],_,_=>trivial
 |e::r,n,h=>by
  simp only[wfEs] at h;exact⟨zsM e n h.1,znP r n h.2⟩
end
theorem zm9 {x:Ex} {n k:Int} (hn:0≤n) (hn2:n≤16) (hw:wfE n x) (hs:esz x≤64) (hd:edep x≤8) (hk:zbi x=k) (hk0:k≠0):zbo x n k=0:=by
 have h1:=znL x n 1 0 hw (by omega) (by omega);have h2:zcd x n=(k,0):=by
  unfold zcd;have h1':zcy x n 1 0=(0,((0+esz x:Nat):Int)):=h1;rw[if_neg (by omega),h1'];rw[if_neg (by simp),if_neg (by rw[hk];exact hk0),hk]
 unfold zbo;rw[h2,if_neg (by simp)]
theorem fh2 {op n:Int} (h:op=2∨op=3∨op=4∨op=6∨op=7∨op=8∨op=9∨op=11∨op=12):zaZ op 0 0 2 n=0:=by
 rcases h with rfl|rfl|rfl|rfl|rfl|rfl|rfl|rfl|rfl<;>rfl
theorem fh1 {op n:Int} (h:op=5∨op=10):zaZ op 0 0 1 n=0:=by
 rcases h with rfl|rfl<;>rfl
theorem fh3 {n:Int}:zaZ 13 0 0 3 n=0:=rfl
structure grown (vars:Int) (lv:Nat) (t:Bool) (k:Nat) (r:Ex×List Int×Nat):Prop where
 wf:wfE vars r.1
 kind:zbi r.1=tyOf t
 dep:edep r.1≤lv+2
 cnt:k<r.2.2
 sz:esz r.1+3*min k 12≤3*min r.2.2 12+(if 12≤k then 3 else if r.2.2≤12 then 0 else 6*lv+3)
theorem ziw (t:Bool):tyOf t≠0:=by cases t<;>decide
theorem zzv {op:Int} {a:Ex} {t:Bool} {ka:Int} (ha:zbi a=ka) (h0:ka≠0) (hk:zb2 op [ka]=tyOf t):zbi (.mk op 0 0 [a])=tyOf t:=by
 simp only[zbi,za7,ha,if_neg h0,Option.map_some];exact hk
theorem zzu {op:Int} {a b:Ex} {t:Bool} {ka:Int} (ha:zbi a=ka) (hb:zbi b=ka) (h0:ka≠0) (hk:zb2 op [ka,ka]=tyOf t):zbi (.mk op 0 0 [a,b])=tyOf t:=by
 simp only[zbi,za7,ha,hb,if_neg h0,Option.map_some];exact hk
theorem zzt {a b c:Ex} {t:Bool} (ha:zbi a=2) (hb:zbi b=tyOf t) (hc:zbi c=tyOf t):zbi (.mk 13 0 0 [a,b,c])=tyOf t:=by
 simp only[zbi,za7,ha,hb,hc,if_neg (ziw t),Option.map_some]
 cases t<;>rfl
theorem zd9 {vars b:Int} (hv:0≤vars) (hb:bytG b):wfE vars (zf6 vars b)∧zbi (zf6 vars b)=1∧edep (zf6 vars b)=1∧esz (zf6 vars b)=1:=by
 have:=hb.h0;have:=hb.h1;unfold zf6
 split
 ·rename_i h;have h1:=Int.emod_nonneg (b/8) (show vars≠0 by omega);have h2:=Int.emod_lt_of_pos (b/8) h.2;refine⟨⟨?_,trivial⟩,rfl,rfl,rfl⟩;show zaZ 1 0 (b/8%vars) 0 vars=0;unfold zaZ;rw[if_neg (by decide),if_neg (by decide),if_neg (by simp),if_neg (by omega)]
 ·refine⟨⟨?_,trivial⟩,rfl,rfl,rfl⟩;show zaZ 0 (b/8-8) 0 0 vars=0;unfold zaZ;rw[if_neg (by decide),if_neg (by decide),if_neg (by simp),if_neg (by omega)]
theorem zkR {vars:Int} (t:Bool):wfE vars (zfP t)∧zbi (zfP t)=2∧edep (zfP t)=2∧esz (zfP t)=3:=by
 cases t
 ·exact⟨⟨rfl,⟨rfl,trivial⟩,⟨rfl,trivial⟩,trivial⟩,rfl,rfl,rfl⟩
 ·exact⟨⟨rfl,⟨rfl,trivial⟩,⟨rfl,trivial⟩,trivial⟩,rfl,rfl,rfl⟩
theorem zkg {vars:Int} {lv:Nat} {bs:List Int} {k:Nat} (h:12≤k):zam vars lv true bs k=(zf6 vars (b0 bs),bs.tail,k+1):=by
 cases lv with
 |zero=>simp only[zam]
 |succ lv=>simp only[zam];rw[if_pos (by omega)]
theorem zve {vars:Int} (hv:0≤vars):∀(lv:Nat) (t:Bool) (bs:List Int) (k:Nat),zcB bs→grown vars lv t k (zam vars lv t bs k):=by
 intro lv
 induction lv with
 |zero=>
  intro t bs k hb;have hby:bytG (b0 bs):=⟨(zfq hb).1,(zfq hb).2⟩
  cases t with
  |true=>
   obtain⟨a,b,c,d⟩:=zd9 hv hby;simp only[zam];exact⟨a,b,by simp only;omega,by simp only;omega,by simp only;split<;>(try split)<;>omega⟩
  |false=>
   obtain⟨a,b,c,d⟩:=zkR (vars:=vars) (decide (b0 bs%2=0));simp only[zam];exact⟨a,b,by simp only;omega,by simp only;omega,by simp only;split<;>(try split)<;>omega⟩
 |succ lv ih=>
  intro t bs k hb;have hby:bytG (b0 bs):=⟨(zfq hb).1,(zfq hb).2⟩;have hbt:=zcn hb;have ok:=zi2 vars lv;have q3:b0 bs/8%3=0∨b0 bs/8%3=1∨b0 bs/8%3=2:=by omega
  have q4:b0 bs/8%4=0∨b0 bs/8%4=1∨b0 bs/8%4=2∨b0 bs/8%4=3:=by omega
  have q2:b0 bs/8%2=0∨b0 bs/8%2=1:=by omega
  have one:∀(t2:Bool) (op:Int),op=5∨op=10→k<12→zb2 op [tyOf t2]=tyOf t→grown vars (lv+1) t k (.mk op 0 0 [(zam vars lv t2 bs.tail (k+1)).1],(zam vars lv t2 bs.tail (k+1)).2):=by
   intro t2 op hop hk hkind;have h1:=ih t2 bs.tail (k+1) hbt;have hsz:=h1.sz;have hcn:=h1.cnt;have hdp:=h1.dep;refine⟨⟨fh1 hop,h1.wf,trivial⟩,zzv h1.kind (ziw _) hkind,?_,by simp only;omega,?_⟩
   ·simp only[edep,zly];omega
   ·simp only[esz,eszs]
    split at hsz<;>(try split at hsz)<;>split<;>(try split)<;>omega
  have two:∀(t2:Bool) (op:Int),(op=2∨op=3∨op=4∨op=6∨op=7∨op=8∨op=9∨op=11∨op=12)→(12≤k→t2=true)→zb2 op [tyOf t2,tyOf t2]=tyOf t→grown vars (lv+1) t k (.mk op 0 0 [(zam vars lv t2 bs.tail (k+1)).1,(zam vars lv t2 (zam vars lv t2 bs.tail (k+1)).2.1 (zam vars lv t2 bs.tail (k+1)).2.2).1],(zam vars lv t2 (zam vars lv t2 bs.tail (k+1)).2.1 (zam vars lv t2 bs.tail (k+1)).2.2).2):=by
   intro t2 op hop hk hkind;have h1:=ih t2 bs.tail (k+1) hbt;have o1:=ok t2 bs.tail (k+1) hbt;have l1:12≤k→esz (zam vars lv t2 bs.tail (k+1)).1=1:=fun h=>by
    rw[hk h,zkg (by omega)];exact (zd9 hv ⟨(zfq hbt).1,(zfq hbt).2⟩).2.2.2
   generalize zam vars lv t2 bs.tail (k+1)=A at *;have hcn:=h1.cnt;have h2:=ih t2 A.2.1 A.2.2 o1.b;have l2:12≤k→esz (zam vars lv t2 A.2.1 A.2.2).1=1:=fun h=>by
    rw[hk h,zkg (by omega)];exact (zd9 hv ⟨(zfq o1.b).1,(zfq o1.b).2⟩).2.2.2
   generalize zam vars lv t2 A.2.1 A.2.2=B at *;have hsz:=h1.sz;have hdp:=h1.dep;have hsz2:=h2.sz;have hcn2:=h2.cnt;have hdp2:=h2.dep;refine⟨⟨fh2 hop,h1.wf,h2.wf,trivial⟩,zzu h1.kind h2.kind (ziw _) hkind,?_,by simp only;omega,?_⟩
   ·simp only[edep,zly];omega
   ·simp only[esz,eszs]
    by_cases hk12:12≤k
    ·rw[l1 hk12,l2 hk12,if_pos hk12];omega
    ·rw[if_neg hk12]
     split at hsz<;>(try split at hsz)<;>split at hsz2<;>(try split at hsz2)<;>split<;>omega
  have three:∀(t2:Bool),t2=t→k<12→grown vars (lv+1) t k (.mk 13 0 0 [(zam vars lv false bs.tail (k+1)).1,(zam vars lv t2 (zam vars lv false bs.tail (k+1)).2.1 (zam vars lv false bs.tail (k+1)).2.2).1,
    (zam vars lv t2 (zam vars lv t2 (zam vars lv false bs.tail (k+1)).2.1 (zam vars lv false bs.tail (k+1)).2.2).2.1 (zam vars lv t2 (zam vars lv false bs.tail (k+1)).2.1 (zam vars lv false bs.tail (k+1)).2.2).2.2).1],
    (zam vars lv t2 (zam vars lv t2 (zam vars lv false bs.tail (k+1)).2.1 (zam vars lv false bs.tail (k+1)).2.2).2.1 (zam vars lv t2 (zam vars lv false bs.tail (k+1)).2.1 (zam vars lv false bs.tail (k+1)).2.2).2.2).2):=by
   intro t2 e hk12;subst e;have h1:=ih false bs.tail (k+1) hbt;have o1:=ok false bs.tail (k+1) hbt;generalize zam vars lv false bs.tail (k+1)=A at *;have h2:=ih t2 A.2.1 A.2.2 o1.b;have o2:=ok t2 A.2.1 A.2.2 o1.b;generalize zam vars lv t2 A.2.1 A.2.2=B at *;have h3:=ih t2 B.2.1 B.2.2 o2.b;generalize zam vars lv t2 B.2.1 B.2.2=C at *;have hsz:=h1.sz;have hcn:=h1.cnt;have hdp:=h1.dep;have hsz2:=h2.sz;have hcn2:=h2.cnt;have hdp2:=h2.dep;have hsz3:=h3.sz;have hcn3:=h3.cnt;have hdp3:=h3.dep;refine⟨⟨fh3,h1.wf,h2.wf,h3.wf,trivial⟩,zzt h1.kind h2.kind h3.kind,?_,by simp only;omega,?_⟩
   ·simp only[edep,zly];omega
   ·simp only[esz,eszs];rw[if_neg (by omega)]
    split at hsz<;>(try split at hsz)<;>split at hsz2<;>(try split at hsz2)<;>split at hsz3<;>(try split at hsz3)<;>split<;>omega
  cases t with
  |true=>
   simp only[zam]
   split
   ·rename_i h;obtain⟨a,b,c,d⟩:=zd9 hv hby;exact⟨a,b,by simp only;omega,by simp only;omega,by simp only;split<;>(try split)<;>omega⟩
   ·rename_i h
    split
    ·exact one true 5 (.inl rfl) (by omega) rfl
    split
    ·exact three true rfl (by omega)
    ·refine two true _ (by omega) (fun _=>rfl) ?_;rcases q3 with q|q|q<;>rw[q]<;>rfl
  |false=>
   simp only[zam]
   split
   ·refine two true _ (by omega) (fun _=>rfl) ?_;rcases q4 with q|q|q|q<;>rw[q]<;>rfl
   ·rename_i h
    split
    ·exact one false 10 (.inr rfl) (by omega) rfl
    split
    ·exact three false rfl (by omega)
    ·refine two false _ (by omega) (by omega) ?_;rcases q2 with q|q<;>rw[q]<;>rfl
theorem zfD {vars:Int} (hv:0≤vars) (hv2:vars≤16) (t:Bool) {bs:List Int} (hb:zcB bs):zbo (zhf vars t bs) vars (tyOf t)=0∧exOk (zhf vars t bs):=by
 have h:=zve hv 4 t (bs.take 60) 0 fun b hm=>hb b (List.mem_of_mem_take hm);have hs:=h.sz;have hd:=h.dep;unfold zhf;refine⟨zm9 hv hv2 h.wf ?_ (by omega) h.kind (ziw t),zsM _ _ h.wf⟩;rw[if_neg (by omega)] at hs
 split at hs<;>omega
theorem zf0 {n:Int}:∀{l:List Int} {p:Option Int},l.Pairwise (· < ·)→(∀x∈l,0≤x∧x<n)→(∀y,p=some y→∀x∈l,y<x)→zaL n l p=0
 |[],_,_,_,_=>rfl
 |x::r,p,hs,hr,hp=>by
  simp only[zaL];have h1:=hr x (by simp);rw[if_neg (by omega),if_neg]
  ·rw[List.pairwise_cons] at hs;refine zf0 hs.2 (fun y hy=>hr y (by simp[hy])) (fun y e z hz=>?_);simp only[Option.some.injEq] at e;subst e;exact hs.1 z hz
  ·cases p with
   |none=>simp
   |some y=>
    have:=hp y rfl x (by simp);simp only[Option.any_some,decide_eq_true_eq];omega
theorem zuX (marks:Int) (L:Nat):zaL (L:Int) (mrks marks L) none=0:=by
 refine zf0 ?_ (fun x hx=>?_) (by simp)
 ·unfold mrks;rw[List.pairwise_map];exact (List.Pairwise.filter _ List.pairwise_lt_range).imp fun h=>by omega
 ·unfold mrks at hx;simp only[List.mem_map,List.mem_filter,List.mem_range] at hx;obtain⟨i,⟨h1,_⟩,rfl⟩:=hx;omega
structure vrOk (v:Vr):Prop where
 lo:-4≤v.low
 hi:v.high≤7
 w:v.low≤v.high∧v.high≤v.low+3
 ini:v.low≤v.init∧v.init≤v.high
 nm:v.name.size=2
theorem zw8 (i:Nat) {p:Int×Int} (hp:zfU p):vrOk (rngV i p):=by
 have h1:=Int.tmod_lt_of_pos p.1 (show (0:Int)<5 by decide);have h2:=Int.lt_tmod_of_pos p.1 (show (0:Int)<5 by decide);have h3:=Int.emod_nonneg (p.2%256/4) (show p.2%256%4+1≠0 by omega);have h4:=Int.emod_lt_of_pos (p.2%256/4) (show 0<p.2%256%4+1 by omega);refine⟨?_,?_,?_,?_,zhZ i⟩<;>simp only[rngV]<;>omega
theorem znh {l:List (Int×Int)} (h:∀p∈l,zfU p):∀v∈zdB l,vrOk v:=by
 intro v hv;simp only[zdB,List.mem_map,List.mem_range] at hv;obtain⟨i,hi,rfl⟩:=hv;have:l.getD i (0,0)=l[i]'(by omega):=by simp[show i<l.length by omega]
 rw[this];exact zw8 i (h _ (List.getElem_mem _))
theorem zfK {ds:List Vr} {v:Vr} (hn:za0 v.name=true) (hd:ds.any (fun x=>x.name.toList==v.name.toList)=false) (h:vrOk v):checkVr ds v=none:=by
 have:=h.lo;have:=h.hi;have:=h.w;have:=h.ini;unfold checkVr;rw[if_neg (by rw[hn];simp),if_neg (by rw[hd];simp),if_neg,if_neg (by omega),if_neg (by omega)];simp only[checkVr.large,Bool.or_eq_true,decide_eq_true_eq];omega
theorem zuy {l:List (Int×Int)} (hl:l.length≤2) (h:∀p∈l,zfU p):zbB (zdB l)=0:=by
 have hlen:(zdB l).length≤2:=by rw[zgI];omega
 unfold zbB;rw[if_neg (by omega)];have hok:=znh h;have n0:za0 (zjY 0)=true:=by kernel_rfl
 have n1:za0 (zjY 1)=true:=by kernel_rfl
 have n2:((zjY 0).toList==(zjY 1).toList)=false:=by kernel_rfl
 match l,hl with
 |[],_=>rfl
 |[a],_=>
  have e:zdB [a]=[rngV 0 a]:=rfl;rw[e] at hok ⊢;simp only[zbh];rw[zfK n0 (by simp) (hok _ (by simp))]
 |[a,b],_=>
  have e:zdB [a,b]=[rngV 0 a,rngV 1 b]:=rfl;rw[e] at hok ⊢;simp only[zbh];rw[zfK n0 (by simp) (hok _ (by simp))];simp only;rw[zfK n1 ?_ (hok _ (by simp))];simp only[List.take_succ_cons,List.take_zero,List.any_cons,List.any_nil,Bool.or_false];exact n2
def leMv (x y:Mv):Prop:=¬(y.frm<x.frm∨(y.frm=x.frm∧y.ev<x.ev))
theorem zh5 {x y z:Mv} (h:leMv x y) (h':leMv y z):leMv x z:=by unfold leMv at *;omega
theorem znI {x y:Mv}:gtMv x y=true↔¬leMv x y:=by
 unfold gtMv leMv;rw[decide_eq_true_eq];omega
theorem zhX {l:List Mv} {y:Mv} (hs:l.Pairwise leMv):∀n,n≤l.length→(∀x∈l.drop n,leMv y x)→(∀x∈l.take (posR l y n),leMv x y)∧∀x∈l.drop (posR l y n),leMv y x
 |0,_,h=>⟨by simp[posR],h⟩
 |n+1,hn,h=>by
  simp only[posR];rw[List.getElem?_eq_getElem (by omega)];simp only
  cases hg:gtMv l[n] y with
  |true=>
   rw[cond_true];refine zhX hs n (by omega) fun x hx=>?_;rw[List.drop_eq_getElem_cons (by omega)] at hx;rcases List.mem_cons.1 hx with rfl|hx
   ·have:=znI.1 hg;unfold leMv at *;omega
   ·exact h x hx
  |false=>
   rw[cond_false];refine⟨fun x hx=>?_,h⟩;have hle:leMv l[n] y:=by
    apply Classical.byContradiction
    intro hc;rw[znI.2 hc] at hg;cases hg
   rw[List.take_add_one,List.getElem?_eq_getElem (by omega)] at hx;simp only[List.mem_append,Option.toList,List.mem_singleton] at hx;rcases hx with hx|rfl
   ·obtain⟨j,hj,rfl⟩:=List.mem_take_iff_getElem.1 hx;have hjn:j<n:=by omega
    exact zh5 (List.pairwise_iff_getElem.1 hs j n (by omega) (by omega) hjn) hle
   ·exact hle
theorem zp2 {l:List Mv} {y:Mv} (hs:l.Pairwise leMv):(ziZ l y).Pairwise leMv:=by
 have h:=zhX (y:=y) hs l.length (Nat.le_refl _) (by simp);unfold ziZ;rw[List.pairwise_append];refine⟨hs.sublist (List.take_sublist _ _),?_,?_⟩
 ·rw[List.pairwise_cons];exact⟨h.2,hs.sublist (List.drop_sublist _ _)⟩
 ·intro a ha b hb;rcases List.mem_cons.1 hb with rfl|hb
  ·exact h.1 a ha
  ·exact zh5 (h.1 a ha) (h.2 b hb)
theorem zxJ {l:List Mv} {y x:Mv}:x∈ziZ l y→x∈l∨x=y:=by
 unfold ziZ;intro h;simp only[List.mem_append,List.mem_cons] at h;rcases h with h|rfl|h
 ·exact .inl (List.mem_of_mem_take h)
 ·exact .inr rfl
 ·exact .inl (List.mem_of_mem_drop h)
theorem zns {P:Mv→Prop} {locs n:Int} {l:List Lin} (h:∀x∈l,P (mvOf locs n x)):∀i,i≤l.length→(mvsL locs n l i).Pairwise leMv∧∀y∈mvsL locs n l i,P y
 |0,_=>by simp[mvsL]
 |i+1,hi=>by
  obtain⟨h1,h2⟩:=zns h i (by omega);rw[zgV (by omega)];refine⟨zp2 h1,fun y hy=>?_⟩;rcases zxJ hy with hy|rfl
  ·exact h2 y hy
  ·exact h _ (List.getElem_mem _)
structure mvGood (L n:Int) (x:Mv):Prop where
 frm:0≤x.frm∧x.frm<L
 to:0≤x.to∧x.to<L
 ev:x.ev=0∨x.ev=1∨x.ev=2
 g:zbo x.g n 2=0
 us:x.us=[]∨∃u,x.us=[u]∧0≤u.v∧u.v<n∧zbo u.x n 1=0∧exOk u.x
 gok:exOk x.g
theorem zpn {n:Int} (h:0≤n) (h2:n≤16):zbo trueE n 2=0:=zm9 h h2 ⟨rfl,⟨rfl,trivial⟩,⟨rfl,trivial⟩,trivial⟩ (by decide) (by decide) rfl (by decide)
theorem zwH:exOk trueE:=⟨by simp[zan],⟨Nat.zero_le _,trivial⟩,⟨Nat.zero_le _,trivial⟩,trivial⟩
theorem zr0 {L n:Int} (hL:0<L) (hn:0≤n) (hn2:n≤16) {x:Lin} (hx:linOk x):mvGood L n (mvOf L n x):=by
 obtain⟨h0,h1,h2,hg,hgl,hu,hul⟩:=hx;have hb0:=zfq hu;refine⟨⟨Int.emod_nonneg _ (by omega),Int.emod_lt_of_pos _ hL⟩,⟨Int.emod_nonneg _ (by omega),Int.emod_lt_of_pos _ hL⟩,?_,?_,?_,?_⟩
 ·show x.a1%3=0∨x.a1%3=1∨x.a1%3=2;omega
 ·show zbo (zfW n x.g) n 2=0;unfold zfW
  split
  ·exact (zfD hn hn2 false fun b hb=>hg b (List.mem_of_mem_take hb)).1
  ·exact zpn hn hn2
 ·show zjt n x.u=[]∨_;unfold zjt
  split
  ·rename_i h;have ht:=zfD hn hn2 true (bs:=(x.u.take 12).drop 1) fun b hb=>hu b (List.mem_of_mem_take (List.mem_of_mem_drop hb));have h2:0<n:=h.2;exact .inr ⟨⟨b0 x.u%n,zhf n true ((x.u.take 12).drop 1)⟩,(by show zjt n x.u=_;unfold zjt;rw[if_pos h]),Int.emod_nonneg _ (by omega),Int.emod_lt_of_pos _ h2,ht.1,ht.2⟩
  ·exact .inl rfl
 ·show exOk (zfW n x.g);unfold zfW
  split
  ·exact (zfD hn hn2 false fun b hb=>hg b (List.mem_of_mem_take hb)).2
  ·exact zwH
structure made (m:Ext):Prop where
 al:m.alpha=[0,1,2]
 lo:1≤m.locs∧m.locs≤4
 ini:m.init=0
 vl:m.vars.length≤2
 v:∀v∈m.vars,vrOk v
 ml:m.moves.length≤8
 mv:∀x∈m.moves,mvGood m.locs m.vars.length x
 sorted:m.moves.Pairwise leMv
 ve:zbB m.vars=0
 ma:zaL m.locs m.marked none=0
 mal:m.marked.length≤4
theorem zr5 {k:Sk} (hk:skOk k):made (ziV k):=by
 have hl:=hk.locs;have hL:1≤zcT k∧zcT k≤4:=by unfold zcT;omega
 have hp:∀p∈k.rngs.take 2,zfU p:=fun p h=>hk.r p (List.mem_of_mem_take h);have hv2:(zdB (k.rngs.take 2)).length≤2:=by rw[zgI,List.length_take];omega
 have hall:=zns (P:=mvGood (zcT k) (zdB (k.rngs.take 2)).length) (locs:=zcT k) (n:=(zdB (k.rngs.take 2)).length) (l:=k.lines) (fun x hx=>zr0 (by omega) (by omega) (by omega) (hk.l x hx)) (min k.lines.length 8) (by omega);have hml:=znt k.marks (zcT k);refine⟨rfl,⟨?_,?_⟩,rfl,hv2,znh hp,?_,hall.2,hall.1,zuy (by rw[List.length_take];omega) hp,zuX _ _,?_⟩
 ·show (1:Int)≤(zcT k:Int);omega
 ·show (zcT k:Int)≤4;omega
 ·show (mvsL _ _ _ _).length≤8;rw[ziR (by omega)];omega
 ·show (mrks _ _).length≤4;omega
theorem zxs {m:Ext} (h:made m):extOk m:=by
 refine⟨by rw[h.al];simp[zan],?_,?_,fun v hv=>?_,?_,fun x hx=>?_⟩
 ·have:=h.mal;simp only[zan];omega
 ·have:=h.vl;simp only[zan];omega
 ·have:=(h.v v hv).nm;simp only[zan];omega
 ·have:=h.ml;simp only[zan];omega
 ·have hg:=h.mv x hx;refine⟨hg.gok,?_,fun u hu=>?_⟩
  ·rcases hg.us with e|⟨u,e,_⟩<;>rw[e]<;>simp[zan]
  ·rcases hg.us with e|⟨u',e,h1⟩
   ·rw[e] at hu;simp at hu
   ·rw[e] at hu;simp only[List.mem_singleton] at hu;subst hu;exact h1.2.2.2
end Go.AI
namespace Go.AI
open Go.Proofs
theorem zdh (c:UInt8) (i:Nat) (h:i≤1000):(zbC c i).size≤zan:=by
 have:=zpT c i h;simp only[zan];omega
theorem zd7 (k:Sk22):(zca k).tpls=mkT k:=by unfold zca;split<;>rfl
theorem zeF (k:Sk22):(zca k).comps=(mkI k).1:=by unfold zca;split<;>rfl
theorem zfy (k:Sk22):(zca k).reqs=(mkI k).2:=by unfold zca;split<;>rfl
theorem zg0 (k:Sk22):(zca k).evs=evs4:=by unfold zca;split<;>rfl
theorem zpW (k:Sk22):(zca k).name=⟨#[109]⟩:=by unfold zca;split<;>rfl
theorem znO (T:List Tpl) (C:List Ins) (acc:List NLc) (w:Whr):(excA T C acc w).length≤acc.length+1:=by
 unfold excA
 by_cases h:(match acc with|[]=>false|a::_=>sB a.1 (C.getD (w.1%(C.length:Int)).toNat zgq).name)=true
 ·rcases acc with _|⟨a,r⟩
  ·cases h
  ·have h:sB a.1 (C.getD (w.1%(C.length:Int)).toNat zgq).name=true:=h;simp only[h,if_true];omega
 ·rcases acc with _|⟨a,r⟩
  ·simp
  ·have h:¬sB a.1 (C.getD (w.1%(C.length:Int)).toNat zgq).name=true:=h;simp only[h,if_false,Bool.false_eq_true,List.length_append,List.length_singleton];omega
theorem zh1 {k:Sk22}:(zca k).excs.length≤2∧∀x∈(zca k).excs,x.name.size≤zan∧x.locals.length≤2:=by
 unfold zca
 split
 ·simp
 ·refine⟨by simp only[zeL,List.length_map,List.length_range];omega,fun x hx=>?_⟩;obtain⟨i,hi,rfl⟩:=List.mem_map.1 hx;have hi:=List.mem_range.1 hi;refine⟨zdh 120 i (by omega),?_⟩;have h1:=znO (mkT k) (mkI k).1 (excA (mkT k) (mkI k).1 [] (k.excs.getD i zWhr).1) (k.excs.getD i zWhr).2;have h2:=znO (mkT k) (mkI k).1 [] (k.excs.getD i zWhr).1;unfold zvr;simp only;simp only[List.length_nil] at h2;omega
theorem zr2 (k:Sk22):(mkI k).1.length≤3∧(mkI k).2.length≤2:=zgi _ _ _
theorem zpX {k:Sk22}:(zca k).cons.length≤1∧∀x∈(zca k).cons,x.name.size≤zan∧x.terms.length≤3:=by
 have hl:=(zr2 k).1;unfold zca
 split
 ·simp
 ·simp only
  split
  ·refine⟨by simp,fun x hx=>?_⟩;rw[List.mem_singleton.1 hx];refine⟨by show (1:Nat)≤zan;decide,?_⟩;show (zcJ _).length≤3;rw[zdb];exact hl
  ·simp
theorem zwe (k:Sk22):∀x∈(mkI k).1++(mkI k).2,insOk x:=by
 refine zeb (P:=insOk) _ _ _ fun i hi=>?_;have:=zhb k;refine⟨zdh 105 i (by omega),?_⟩;show (ordS _ 3).1.length≤1000000;rw[ze2];decide
theorem zwd {k:Sk22} (hk:sk22Ok k):∀t∈mkT k,tplOk t∧t.mach.moves.length≤19:=by
 intro t h;obtain⟨j,h1,h2,rfl⟩:=zk7 h;have hs:=hk.t _ (ze9 (d:=zSk) h2);have hm:=zr5 hs;have hl:zcT (k.tpls.getD j zSk)≤4:=by have:=hs.locs;unfold zcT;omega
 have ht3:=ziS k;have hml:=hm.ml;refine⟨⟨zdh 116 j (by omega),?_,fun s hsm=>?_,by show (3:Nat)≤1000000;decide,fun s hsm=>?_,zxs hm⟩,by show (ziV _).moves.length≤19;omega⟩
 ·show ((List.range _).map _).length≤1000000;simp only[List.length_map,List.length_range];omega
 ·obtain⟨i,hi,rfl⟩:=List.mem_map.1 hsm;have hi:=List.mem_range.1 hi;exact zdh 115 i (by omega)
 ·have hsm:s∈abc3:=hsm;unfold abc3 at hsm;simp only[List.mem_cons,List.mem_nil_iff,or_false] at hsm;rcases hsm with rfl|rfl|rfl<;>(show (1:Nat)≤zan;decide)
theorem znw {k:Sk22} (hk:sk22Ok k):mdlOk (zca k):=by
 have ht3:=ziS k;have hI:=zr2 k;have hex:=zh1 (k:=k);have hcn:=zpX (k:=k);refine {ev:=?_,tp:=?_,co:=?_,rq:=?_,ex:=?_,cn:=?_,nm:=?_,evn:=?_,tpk:=?_,cok:=?_,rqk:=?_,exk:=?_,cnk:=?_}
 ·rw[zg0];decide
 ·rw[zd7];omega
 ·rw[zeF];omega
 ·rw[zfy];omega
 ·omega
 ·omega
 ·rw[zpW];show (1:Nat)≤zan;decide
 ·rw[zg0];intro x hx;unfold evs4 at hx;simp only[List.mem_cons,List.mem_nil_iff,or_false] at hx;rcases hx with rfl|rfl|rfl|rfl<;>(show (2:Nat)≤zan;decide)
 ·rw[zd7];exact fun t h=>(zwd hk t h).1
 ·rw[zeF];exact fun x h=>zwe k x (List.mem_append_left _ h)
 ·rw[zfy];exact fun x h=>zwe k x (List.mem_append_right _ h)
 ·exact fun x h=>⟨(hex.2 x h).1,by have:=(hex.2 x h).2;omega⟩
 ·exact fun x h=>⟨(hcn.2 x h).1,by have:=(hcn.2 x h).2;omega⟩
theorem zuZ {k:Sk22} (hk:sk22Ok k):∀t∈(zca k).tpls,t.mach.moves.length≤19:=by
 rw[zd7];exact fun t h=>(zwd hk t h).2
end Go.AI
namespace Go.AI
open Go.Proofs
set_option maxRecDepth 20000
end Go.AI
namespace Go.AI
end Go.AI
namespace Go.AI
open Go.Proofs
end Go.AI
namespace Go.AI
open Go.Proofs
set_option maxRecDepth 20000
end Go.AI
namespace Go.AI
open Go.Proofs
end Go.AI
namespace Go.AI
open Go.Proofs
set_option maxRecDepth 20000
section
variable {c:Cx} {s:St} {k:List Item} {ops:Array Oper} {rest:List Nat} {o:Oper} {E0:Env} {H H0 H1:Heap} {O:List Heap}
end
section
variable {P:Program} {T:TT} {f:FuncId} {fn:Func} {code:Code}
end
section
variable {c:Cx} {s:St} {k:List Item} {ops:Array Oper} {rest:List Nat} {o:Oper} {E0:Env} {H:Heap} {O:List Heap}
end
abbrev obs (l:List Bool):Ob:=.arr 4 1 l.length (l.map fun b=>[bI b]) true
end Go.AI
namespace Go.AI
open Go.Proofs
inductive FrzC (nm:Nat) (d:I):List D→List D→Prop
 |nil:FrzC nm d [] []
 |i {x:I} {l m:List D}:FrzC nm d l m→FrzC nm d (.i x::l) (.i x::m)
 |f {k:FuncId} {l m:List D}:FrzC nm d l m→FrzC nm d (.fn (.func k) [] []::l) (.fn (.func k) [] []::m)
 |osl {l m:List D}:FrzC nm d l m→FrzC nm d (.osl 0 nm::l) (.i d::m)
 |agg {a b l m:List D}:FrzC nm d a b→FrzC nm d l m→FrzC nm d (.agg a::l) (.agg b::m)
end Go.AI
namespace Go.AI
open Go.Proofs
set_option maxRecDepth 20000
theorem zaW {c:Cx} {s s':St} {k:List Item} {ops:Array Oper} {rest:List Nat} {o:Oper} {i:Nat} (hw:Wk c s s') (h:GM c (.pause ops i rest o s' k)):GM c (.pause ops i rest o s k):=
 ⟨fun K ρ a w hi=>by obtain⟨K',ρ',hi'⟩:=hw K ρ a w hi;exact h.h K' ρ' a w hi'⟩
structure expOk (m:Mdl) (og:List (List Sta)) (x:NEx):Prop where
 cl:m.comps.length≤8
 nd:(m.comps.map (·.name)).Nodup
 gl:og.length=m.comps.length
 gs:∀s∈og,s.length≤4096
 ll:x.locals.length≤12
 nl:(x.locals.map (·.1)).Nodup
 li:∀y∈x.locals,y.1∈m.comps.map (·.name)
 tp:∀c∈m.comps,∃t,zc5 m c=some t
 xn:x.name.size≤1000
instance staDec:DecidableEq Sta:=fun a b=>decidable_of_iff (a.loc=b.loc∧a.vals=b.vals) ⟨fun ⟨h1,h2⟩=>by cases a;cases b;cases h1;cases h2;rfl,fun h=>by subst h;exact⟨rfl,rfl⟩⟩
end Go.AI
set_option maxRecDepth 20000
namespace Go.AI
open Go.Proofs
end Go.AI
namespace Go.AI
open Go.Proofs
set_option maxRecDepth 20000
theorem zue (O:List Heap) (l r:List Int) (hl:l.length≤zan):zao Tryz.prog 22 [ints l,ints r] O (bb (decide (l=r))) [] O:=by
 have h:=fun O=>zhq O l r hl;generalize decide (l=r)=b at *;refine zaa Tk Tryz.func22 rfl Tryz.call22 Tryz.ntmps22 (Nat.le_of_ble_eq_true rfl) fun E=>?_;refine zai Tk Tryz.func22 ?_;refine zaj Tk Tryz.func22 (h _) rfl rfl rfl rfl rfl ?_;refine zae Tk (r:=bb b) rfl rfl rfl trivial rfl rfl ?_;rfl
theorem zhN (O:List Heap) (l:List Int) (hl:l.length≤zan):zao Tryz.prog 22 [ints l,ints l] O (bb true) [] O:=by
 have h:=zue O l l hl;rwa [decide_eq_true rfl] at h
theorem zhU:∀(N:Nat) (x:Ex),SizeOf.sizeOf x<N→exOk x→∀O,zao Tryz.prog 87 [exA x,exA x] O (bb true) [] O:=by
 intro N
 induction N with
 |zero=>intro x h;omega
 |succ N ihN=>
  intro x hs hok O;obtain⟨op,v,ix,args⟩:=x;unfold exOk at hok;have hch:∀e∈args,∀O,zao Tryz.prog 87 [exA e,exA e] O (bb true) [] O:=by
   intro e he O;refine ihN e ?_ (zff hok.2 e he) O;have:=List.sizeOf_lt_of_mem he;simp only[Ex.mk.sizeOf_spec] at hs;omega
  have hlen:=hok.1;clear ihN hs hok;show zao Tryz.prog 87 [.agg [ii op,ii v,ii ix,exs args],.agg [ii op,ii v,ii ix,exs args]] O (bb true) [] O;refine zaa Tk Tryz.func87 rfl Tryz.call87 Tryz.ntmps87 (Nat.le_of_ble_eq_true rfl) fun E=>?_;refine zai Tk Tryz.func87 ?_;refine zaw Tk Tryz.func87 rfl (fun h=>absurd h (by simp)) (fun _=>?_);refine zaw Tk Tryz.func87 rfl (fun h=>absurd h (by simp)) (fun _=>?_);refine zaw Tk Tryz.func87 rfl (fun h=>absurd h (by simp)) (fun _=>?_);refine zad Tk Tryz.func87 rfl (fun h=>absurd h (by simp)) (fun _=>?_);refine zah ?_;refine zal (fun i:Nat=>[(2,.own 0 2 0 0),(3,.own 0 3 0 0),(5,ii i)]) (fun i=>[(2,.box [ii op,ii v,ii ix,exs args]),(3,.box [ii op,ii v,ii ix,exs args])]) (fun _=>O) 53
   (fun i=>i≤args.length) (fun i=>args.length-i) 0 (Nat.zero_le _) ⟨rfl,rfl,rfl,trivial⟩ rfl ⟨rfl,rfl,trivial⟩ rfl rfl ?_
  intro i hi ih;have hi:i≤args.length:=hi;refine zai Tk Tryz.func87 ?_;refine zad Tk Tryz.func87 rfl (fun g1=>?_) (fun g1=>?_)
  ·have g1:i<args.length:=by simpa using g1
   have hg:=zef g1;have hc:=hch _ (List.getElem_mem g1);generalize args[i]=e at *;obtain⟨eo,ev,ex,ea⟩:=e;refine zat Tk Tryz.func87 zaA rfl ?_;refine zar Tk (by exact⟨by omega,by show (i:Int)<(args.length:Int);omega⟩) ?_;refine zax Tk (hg) ?_;refine zar Tk (by exact⟨by omega,by show (i:Int)<(args.length:Int);omega⟩) ?_;refine zax Tk (hg) ?_;refine zaT Tk (fun _=>hc _) rfl rfl rfl ?_;refine zaC Tk Tryz.func87 (by kernel_rfl) ?_;refine gcF Tk Tryz.func87 rfl ?_;refine zah ?_;exact ih (i+1) _ _ g1 (by omega) ⟨rfl,rfl,congrArg ii (zaE (n:=zan) (by omega) (by decide)),trivial⟩ rfl ⟨rfl,rfl,trivial⟩ rfl rfl
  ·refine zae Tk (r:=bb true) rfl rfl rfl trivial rfl rfl ?_;rfl
def zbw (a:Ext) (c:Int):Ext:=⟨a.alpha,a.locs,c,a.marked,a.vars,a.moves⟩
theorem ziF (O:List Heap) (a:Ext) (c:Int) (ha:extOk a):zao Tryz.prog 33 [extD a,extD (zbw a c)] O (bb (decide (a.init=c))) [] O:=by
 have h1:=fun O=>zhN O a.alpha ha.al;have h2:=fun O=>zhN O a.marked ha.ma;have hva:=ha.va;have hmo:=ha.mo;have hmv:=ha.mv;clear ha;obtain⟨al,lo,ini,mk,vr,mo⟩:=a;simp only at h1 h2 hva hmo hmv;show zao Tryz.prog 33 [.agg [ints al,ii lo,ii ini,ints mk,vrs vr,mvs mo],.agg [ints al,ii lo,ii c,ints mk,vrs vr,mvs mo]] O (bb (decide (ini=c))) [] O;refine zaa Tk Tryz.func33 rfl Tryz.call33 Tryz.ntmps33 (Nat.le_of_ble_eq_true rfl) fun E=>?_;refine zai Tk Tryz.func33 ?_;refine zaj Tk Tryz.func33 (h1 _) rfl rfl rfl rfl rfl ?_;refine gkF Tk Tryz.func33 rfl ?_;refine zaw Tk Tryz.func33 rfl (fun h=>absurd h (by simp)) (fun _=>?_);refine zaw Tk Tryz.func33 rfl (fun k=>?_) (fun k=>?_)
 ·have k:¬ini=c:=fun e=>bneT k e
  repeat (first|refine gcT Tk Tryz.func33 rfl ?_|refine gkT Tk Tryz.func33 rfl ?_|refine skT Tk ?_|refine gcF Tk Tryz.func33 rfl ?_|refine gkF Tk Tryz.func33 rfl ?_|refine skF Tk ?_)
  refine zae Tk (r:=bb false) rfl rfl rfl trivial rfl rfl ?_;rw[decide_eq_false k]
 have k:ini=c:=bneF k;rw[decide_eq_true k];refine zaj Tk Tryz.func33 (h2 _) rfl rfl rfl rfl rfl ?_;refine gkF Tk Tryz.func33 rfl ?_;refine zaw Tk Tryz.func33 rfl (fun h=>absurd h (by simp)) (fun _=>?_);refine zad Tk Tryz.func33 rfl (fun h=>absurd h (by simp)) (fun _=>?_);clear h1 h2;refine zah ?_;refine zal (fun i:Nat=>[(2,.own 0 2 0 0),(3,.own 0 3 0 0),(5,ii i)]) (fun i=>[(2,.box [ints al,ii lo,ii ini,ints mk,vrs vr,mvs mo]),(3,.box [ints al,ii lo,ii c,ints mk,vrs vr,mvs mo])]) (fun _=>O) 163
  (fun i=>i≤vr.length) (fun i=>vr.length-i) 0 (Nat.zero_le _) ⟨rfl,rfl,rfl,trivial⟩ rfl ⟨rfl,rfl,trivial⟩ rfl rfl ?_
 intro i hi ih;have hi:i≤vr.length:=hi;refine zai Tk Tryz.func33 ?_;refine zad Tk Tryz.func33 rfl (fun g1=>?_) (fun g1=>?_)
 ·have g1:i<vr.length:=by simpa using g1
  have gv:(vr.map vrI)[(i:Int).toNat]? = some (vrI vr[i]):=zak (f:=vrI) g1;generalize vr[i]=y at *;obtain⟨yn,yl,yh,yi⟩:=y;refine zat Tk Tryz.func33 zaA rfl ?_;refine zar Tk (by exact⟨by omega,by show (i:Int)<(vr.length:Int);omega⟩) ?_;refine zax Tk (gv) ?_;refine zar Tk (by exact⟨by omega,by show (i:Int)<(vr.length:Int);omega⟩) ?_;refine zax Tk (gv) ?_;refine zaC Tk Tryz.func33 (by kernel_rfl) ?_;refine zad Tk Tryz.func33 rfl (fun h=>absurd h (by simp)) (fun _=>?_);refine zah ?_;exact ih (i+1) _ _ g1 (by omega) ⟨rfl,rfl,congrArg ii (zaE (n:=zan) (by omega) (by decide)),trivial⟩ rfl ⟨rfl,rfl,trivial⟩ rfl rfl
 clear ih hi g1;refine zah ?_;refine zal (fun i:Nat=>[(2,.own 0 2 0 0),(3,.own 0 3 0 0),(6,ii i)]) (fun i=>[(2,.box [ints al,ii lo,ii ini,ints mk,vrs vr,mvs mo]),(3,.box [ints al,ii lo,ii c,ints mk,vrs vr,mvs mo])]) (fun _=>O) 163
  (fun i=>i≤mo.length) (fun i=>mo.length-i) 0 (Nat.zero_le _) ⟨rfl,rfl,rfl,trivial⟩ rfl ⟨rfl,rfl,trivial⟩ rfl rfl ?_
 intro i hi ih;have hi:i≤mo.length:=hi;refine zai Tk Tryz.func33 ?_;refine zad Tk Tryz.func33 rfl (fun g2=>?_) (fun g2=>?_);rotate_left
 ·refine zae Tk (r:=bb true) rfl rfl rfl trivial rfl rfl ?_;rfl
 have g2:i<mo.length:=by simpa using g2
 have gm:(mo.map mvI)[(i:Int).toNat]? = some (mvI mo[i]):=zak (f:=mvI) g2;obtain⟨hg,hul,hu⟩:=hmv mo[i] (List.getElem_mem g2);have hi1:ii (IntKind.i64.wrap ((i:Int)+1))=ii ((i+1:Nat):Int):=congrArg ii (zaE (n:=zan) (by omega) (by decide));have hge:=fun O=>zhU _ mo[i].g (Nat.lt_succ_self _) hg O;have hue:∀u∈mo[i].us,∀O,zao Tryz.prog 87 [exA u.x,exA u.x] O (bb true) [] O:=fun u h O=>zhU _ u.x (Nat.lt_succ_self _) (hu u h) O;clear hg hu hmv;generalize mo[i]=y at *;obtain⟨yf,ye,yt,⟨go,gv,gi,ga⟩,us⟩:=y;simp only at hge hue hul;refine zat Tk Tryz.func33 zaA rfl ?_;refine zar Tk (by exact⟨by omega,by show (i:Int)<(mo.length:Int);omega⟩) ?_;refine zax Tk (gm) ?_;refine zar Tk (by exact⟨by omega,by show (i:Int)<(mo.length:Int);omega⟩) ?_;refine zax Tk (gm) ?_;refine zct Tk rfl rfl rfl ?_;refine zct Tk rfl rfl rfl ?_;refine zaC Tk Tryz.func33 (by kernel_rfl) ?_
 refine zaw Tk Tryz.func33 rfl (fun h=>absurd h (by simp)) (fun _=>?_);refine zaw Tk Tryz.func33 rfl (fun h=>absurd h (by simp)) (fun _=>?_);refine zaw Tk Tryz.func33 rfl (fun h=>absurd h (by simp)) (fun _=>?_);refine zaj Tk Tryz.func33 (hge _) rfl rfl rfl rfl rfl ?_;refine gkF Tk Tryz.func33 rfl ?_;refine zad Tk Tryz.func33 rfl (fun h=>absurd h (by simp)) (fun _=>?_);refine zah ?_;refine zal (fun j:Nat=>[(2,.own 0 2 0 0),(3,.own 0 3 0 0),(6,ii i),(7,.own 0 7 0 0),(8,.own 0 8 0 0),(9,ii j)]) (fun j=>[(2,.box [ints al,ii lo,ii ini,ints mk,vrs vr,mvs mo]),(3,.box [ints al,ii lo,ii c,ints mk,vrs vr,mvs mo]),(7,.box [ii yf,ii ye,ii yt,ii go,ii gv,ii gi,exs ga,upds us]),(8,.box [ii yf,ii ye,ii yt,ii go,ii gv,ii gi,exs ga,upds us])]) (fun _=>O) 163
  (fun j=>j≤us.length) (fun j=>us.length-j) 0 (Nat.zero_le _) ⟨rfl,rfl,rfl,rfl,rfl,rfl,trivial⟩ rfl ⟨rfl,rfl,rfl,rfl,trivial⟩ rfl rfl ?_
 intro j hj ih2;have hj:j≤us.length:=hj;refine zai Tk Tryz.func33 ?_;refine zad Tk Tryz.func33 rfl (fun g3=>?_) (fun g3=>?_);rotate_left
 ·refine zah ?_;exact ih (i+1) _ _ g2 (by omega) ⟨rfl,rfl,hi1,trivial⟩ rfl ⟨rfl,rfl,trivial⟩ rfl rfl
 have g3:j<us.length:=by simpa using g3
 have gu:(us.map updI)[(j:Int).toNat]? = some (updI us[j]):=zak (f:=updI) g3;have hue1:=hue us[j] (List.getElem_mem g3);have hj1:ii (IntKind.i64.wrap ((j:Int)+1))=ii ((j+1:Nat):Int):=congrArg ii (zaE (n:=zan) (by omega) (by decide));generalize us[j]=u at *;obtain⟨uv,⟨uo,uvl,ui,ua⟩⟩:=u;simp only at hue1;refine zat Tk Tryz.func33 zaA rfl ?_;refine zar Tk (by exact⟨by omega,by show (j:Int)<(us.length:Int);omega⟩) ?_;refine zax Tk (gu) ?_;refine zar Tk (by exact⟨by omega,by show (j:Int)<(us.length:Int);omega⟩) ?_;refine zax Tk (gu) ?_;refine zbP Tk (fun h=>absurd h (by simp)) (fun _=>?_);refine zar Tk (by exact⟨by omega,by show (j:Int)<(us.length:Int);omega⟩) ?_;refine zax Tk (gu) ?_;refine zar Tk (by exact⟨by omega,by show (j:Int)<(us.length:Int);omega⟩) ?_;refine zax Tk (gu) ?_;refine zaT Tk (fun _=>hue1 _) rfl rfl rfl ?_;refine zaC Tk Tryz.func33 (by kernel_rfl) ?_
 refine gcF Tk Tryz.func33 rfl ?_;refine zah ?_;exact ih2 (j+1) _ _ g3 (by omega) ⟨rfl,rfl,rfl,rfl,rfl,hj1,trivial⟩ rfl ⟨rfl,rfl,rfl,rfl,trivial⟩ rfl rfl
structure itmOk (x:Itm):Prop where
 al:x.aut.alpha.length≤zan
 ma:x.aut.marked.length≤zan
 ed:x.aut.edges.length≤zan
structure celOk (c:Cel):Prop where
 ev:c.evs.length≤zan
 co:c.comps.length≤zan
 cok:∀x∈c.comps,itmOk x
 rq:c.reqs.length≤zan
 rok:∀x∈c.reqs,itmOk x
 ex:c.excs.length≤zan
 xok:∀x∈c.excs,x.locals.length≤zan
 cn:c.cons.length≤zan
 nok:∀x∈c.cons,x.terms.length≤zan
section
variable {σ:Type} {eq:σ→σ→Bool} {step:σ→Int→σ×Bool×Int} {mkd:σ→Bool}
end
end Go.AI
