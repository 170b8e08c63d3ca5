/- The layer of abstract runs, part 31. -/
import Derived.Test.YtnojpbbaohoadaaGreatDoorElkZD
set_option linter.unusedSimpArgs false
set_option linter.unusedVariables false
set_option linter.all false
set_option maxHeartbeats 4000000
namespace Go.AI
open Go.Proofs
set_option maxRecDepth 20000
abbrev zcU (l:List Ins):Ob:=.arr 107 3 l.length (l.map insI) true
abbrev zuX (l:List NLc):Ob:=.arr 103 2 l.length (l.map nlcI) true
abbrev zxe (l:List NTm):Ob:=.arr 93 2 l.length (l.map ntmI) true
abbrev zbF:List D:=[.i (strI ⟨#[]⟩),.i (.v (.slice none 0 0)),.i (.v (.slice none 0 0)),.i (.v (.slice none 0 0)),.i (.v (.slice none 0 0)),.i (.v (.slice none 0 0)),.i (.v (.slice none 0 0))]
theorem zpn {l:List Sk} {i:Nat} (h:i<l.length):zft l (i+1)=zft l i++[zrd i l[i]]:=by
 unfold zft;rw[List.range_succ,List.map_append];simp[h]
theorem zsq {nt:Nat} {l:List Use22} {i:Nat} (h:i<l.length):insN nt l (i+1)=zp4 nt (insN nt l i) i l[i]:=by simp[insN,h]
theorem zwJ (l:List ByteArray) (j:Nat) (hjl:j<l.length):D.i (.sl 1 (0+(j:Int).toNat+(l.length-((j+1:Nat):Int).toNat)) ([]++(l.map fun s=>[strI s]).take (j:Int).toNat++(l.map fun s=>[strI s]).drop ((j+1:Nat):Int).toNat))=ssD (l.take j++l.drop (j+1)):=by
 rw[Int.toNat_natCast,Int.toNat_natCast,List.nil_append,←List.map_take,←List.map_drop,←List.map_append];have:0+j+(l.length-(j+1))=(l.take j++l.drop (j+1)).length:=by rw[List.length_append,List.length_take,List.length_drop];omega
 rw[this]
theorem ze5 (o:Int):∀k,(ordS o k).1.length=k
 |0=>rfl
 |k+1=>by simp only[ordS,List.length_append,List.length_singleton,ze5 o k]
theorem zu9 (nt:Nat) (l:List Use22) (i:Nat):∀x∈(insN nt l i).1++(insN nt l i).2,x.evs.length=3:=znL (P:=fun x=>x.evs.length=3) nt l (fun _=>ze5 _ 3) i
theorem zp9 {T:List Tpl} {C:List Ins} {l:List (Whr×Whr)} {i:Nat} (h:i<l.length):zeQ T C l (i+1)=zeQ T C l i++[zvw T C i l[i]]:=by
 unfold zeQ;rw[List.range_succ,List.map_append];simp[h]
theorem zsR (T:List Tpl) (C:List Ins) (l:List (Whr×Whr)) (i:Nat):(zeQ T C l i).length=i:=by simp[zeQ]
theorem zsS {T:List Tpl} {C R:List Ins} (hT:∀t∈T,1≤t.locs.length∧t.locs.length≤1000) (htpl:∀x∈C++R,∃t∈T,T.find? (fun t=>sB t.name x.tpl)=some t) (hC:0<C.length∧C.length≤3) {wc wl:Int} (hw:zhA (wc,wl)) :
  ∃(c:Ins) (t:Tpl) (s:ByteArray),(C.map insI)[((IntKind.i64.wrap wc).tmod (C.length:Int)).toNat]? = some (insI c)∧(0≤(IntKind.i64.wrap wc).tmod (C.length:Int)∧(IntKind.i64.wrap wc).tmod (C.length:Int)<(C.length:Int))∧T.find? (fun t=>sB t.name c.tpl)=some t∧1≤t.locs.length ∧
   (t.locs.map fun s=>[strI s])[((IntKind.i64.wrap wl).tmod (t.locs.length:Int)).toNat]? = some [strI s]∧(0≤(IntKind.i64.wrap wl).tmod (t.locs.length:Int)∧(IntKind.i64.wrap wl).tmod (t.locs.length:Int)<(t.locs.length:Int)) ∧
   ∀acc,excA T C acc (wc,wl)=if (match acc with|[]=>false|a::_=>sB a.1 c.name)=true then acc else acc++[(c.name,s)]:=by
 obtain⟨h1,h2⟩:=hw;simp only at h1 h2;have w1:IntKind.i64.wrap wc=wc:=w64 (by omega) (by omega);have w2:IntKind.i64.wrap wl=wl:=w64 (by omega) (by omega);have m1:=Int.emod_nonneg wc (show (C.length:Int)≠0 by omega);have m2:=Int.emod_lt_of_pos wc (show 0<(C.length:Int) by omega);rw[w1,w2,Int.tmod_eq_emod_of_nonneg h1.1];obtain⟨j,hj⟩:∃j:Nat,(j:Int)=wc%(C.length:Int):=⟨(wc%(C.length:Int)).toNat,by omega⟩;have hjl:j<C.length:=by omega
 have hgd:C.getD j zgs=C[j]:=by simp[hjl]
 obtain⟨t,ht,hf⟩:=htpl C[j] (List.mem_append_left _ (List.getElem_mem hjl));obtain⟨hl1,hl2⟩:=hT t ht;have n1:=Int.emod_nonneg wl (show (t.locs.length:Int)≠0 by omega);have n2:=Int.emod_lt_of_pos wl (show 0<(t.locs.length:Int) by omega);obtain⟨q,hq⟩:∃q:Nat,(q:Int)=wl%(t.locs.length:Int):=⟨(wl%(t.locs.length:Int)).toNat,by omega⟩;have hql:q<t.locs.length:=by omega
 have htf:znh T C[j]=t:=by unfold znh;rw[hf];rfl
 refine⟨C[j],t,t.locs[q],?_,by omega,hf,hl1,?_,by rw[Int.tmod_eq_emod_of_nonneg h2.1];omega,fun acc=>?_⟩
 ·rw[←hj];exact zan (f:=insI) hjl
 ·rw[Int.tmod_eq_emod_of_nonneg h2.1,←hq];exact zan (f:=fun s=>[strI s]) hql
 ·unfold excA;simp only;rw[←hj,Int.toNat_natCast,hgd,htf,←hq,Int.toNat_natCast];rcases acc with _|⟨a,r⟩<;>simp[hql]
theorem zdb (C:List Ins):(zcK C).length=C.length:=by simp[zcK]
theorem zk2 {C:List Ins} {r:Nat} (h:r<C.length):(zcK C).take (r+1)=(zcK C).take r++[(C[C.length-1-r].name,1+((C.length-1-r:Nat):Int))]:=by
 have hl:=zdb C;rw[List.take_succ_eq_append_getElem (by omega)];congr 2;unfold zcK;rw[List.getElem_reverse];simp only[List.getElem_map,List.length_map,List.length_range,List.getElem_range];rw[List.getD_eq_getElem?_getD,List.getElem?_eq_getElem (by omega)];rfl
theorem zrc (l:List Sk) (i:Nat):(zft l i).length=i:=by simp[zft]
theorem zyF {g:Nat} (hg:zda g) {ty:TypeId} {fr:Nat×Nat} (O:List Heap) (k:Sk22) (hk:sk22Ok k):za3 g (ptab ty fr) Tryz.prog 13 [zuz k] O (mdlD (zcn k)) [] O:=by
  have hio:∀n:Nat,n≤1000→∀O,za3 g (ptab ty fr) Tryz.prog 27 [ii (n:Int)] O (.i (.v (.string (zcW (n:Int))))) [] O:=fun n hn O=>zkd hg (ty:=ty) (fr:=fr) O (n:Int) (by omega) (by omega);have hsz:∀n:Nat,n≤1000→(zcW (n:Int)).size≤21:=fun n hn=>by
    have:=zcI (n:=(n:Int)) (by omega) (by omega);omega
  generalize hR:zcn k=R;unfold zcn at hR;have hMT:mkT k=zft k.tpls (min k.tpls.length 3):=rfl;have hTl:=ziQ k;have hMI:mkI k=insN (mkT k).length k.ins (zfb k):=rfl;have hIC:=zhc k;have htpl:=zxk k hk;have hTloc:∀t∈mkT k,1≤t.locs.length∧t.locs.length≤1000:=fun t h=>by
    obtain⟨j,_,hj,rfl⟩:=zlh h;have h1:=(hk.t _ (zfc (d:=zSk) hj)).locs;show 1≤((List.range _).map _).length∧((List.range _).map _).length≤1000;simp only[List.length_map,List.length_range];unfold zcV;omega
  have hICe:zfb k=if (mkT k).length=0 then 0 else min k.ins.length 5:=rfl
  obtain⟨htl,ht,hil,huse,hel,he,hb⟩:=hk;obtain⟨kt,ki,kx,kb⟩:=k;simp only at htl ht hil huse hel he hb hMT hTl hMI hIC hICe hR;generalize zfb ⟨kt,ki,kx,kb⟩=IC at *;generalize mkT ⟨kt,ki,kx,kb⟩=T at *;generalize mkI ⟨kt,ki,kx,kb⟩=CR at *;refine zaN [12,29,44,51,11,25,43,27,200161,50] Tk Tryz.func13 rfl Tryz.call13 Tryz.ntmps13 (Nat.le_of_ble_eq_true rfl) fun E hE=>?_;refine zai Tk Tryz.func13 ?_
  apply zbK (P:=True) (s6:={ σ:=[(1,.own 0 1 0 0),(2,.own 0 2 0 0),(3,.own 0 3 0 0)],S:=[(1,.box (zeC ⟨kt,ki,kx,kb⟩)),(2,.box zbF),(3,.box [.i (strI ⟨#[109]⟩),.i (zbb evs4),.i (zbD T),.i (.v (.slice none 0 0)),.i (.v (.slice none 0 0)),.i (.v (.slice none 0 0)),.i (.v (.slice none 0 0))])]::O,n:=295})
  · intro J
    refine g_wk (zaL 3 69 87 9 (pre:=[.i (strI ⟨#[109]⟩),.i (zbb evs4)]) (post:=[.i (.v (.slice none 0 0)),.i (.v (.slice none 0 0)),.i (.v (.slice none 0 0)),.i (.v (.slice none 0 0))]) rfl rfl rfl) ?_;refine zah ?_;refine zak (fun i:Nat=>[(1,.own 0 1 0 0),(2,.own 0 2 0 0),(3,.own 0 3 0 0),(4,ii i)])
      (fun i=>[(1,.box (zeC ⟨kt,ki,kx,kb⟩)),(2,.box zbF),(3,.box [.i (strI ⟨#[109]⟩),.i (zbb evs4),.osl 0 69,.i (.v (.slice none 0 0)),.i (.v (.slice none 0 0)),.i (.v (.slice none 0 0)),.i (.v (.slice none 0 0))]),(69,zxb (zft kt i))]) (fun _=>O) 295
      (fun i=>i≤min kt.length 3) (fun i=>min kt.length 3-i) 0 (Nat.zero_le _) ⟨rfl,rfl,rfl,rfl,trivial⟩ rfl ⟨rfl,rfl,rfl,rfl,trivial⟩ rfl rfl ?_
    intro i hi ih;have hi:i≤min kt.length 3:=hi;have hend:i=min kt.length 3→zft kt i=T:=fun e=>by rw[e,hMT]
    have hTN:=zrc kt i;refine zai Tk Tryz.func13 ?_;refine zaK Tk Tryz.func13 rfl (fun c1=>?_) (fun c1=>?_)
    · have c1:i<kt.length:=by simpa using c1
      refine zae Tk Tryz.func13 rfl (fun c2=>?_) (fun c2=>?_)
      · have c2:i<3:=by have:(i:Int)<3:=of_decide_eq_true c2;omega
        have gs:(kt.map skI)[(i:Int).toNat]? = some (skI kt[i]):=zan (f:=skI) c1;have hmk:=fun O=>zyE O kt[i] (ht kt[i] (List.getElem_mem c1));have hsucc:=zpn c1;unfold zrd at hsucc;have hX:(ziT kt[i]).locs=(zcV kt[i]:Int):=rfl;have hLb:zcV kt[i]≤4:=by have:=(ht kt[i] (List.getElem_mem c1)).locs;unfold zcV;omega
        have hit:=hio i (by omega);have hsi:=hsz i (by omega);have hj1:ii (IntKind.i64.wrap ((i:Int)+1))=ii ((i+1:Nat):Int):=congrArg ii (zaC (n:=1000001) (by omega) (by decide));generalize ziT kt[i]=X at *;generalize zcV kt[i]=L at *;generalize kt[i]=y at *;generalize zft kt i=A at *;clear J hend;obtain⟨al,lo,ini,mk,vr,mo⟩:=X;simp only at hX;subst hX;refine zad Tk Tryz.func13 (by exact⟨by omega,by show (i:Int)<(kt.length:Int);omega⟩) ?_;refine zap Tk Tryz.func13 (gs) ?_;refine zaj Tk Tryz.func13 (hmk _) rfl rfl rfl rfl rfl ?_;refine zav Tk Tryz.func13 zaz rfl ?_;refine zcg Tk hE (hit _) rfl rfl rfl rfl ?_;refine zas Tk (by show 1+(zcW (i:Int)).size≤9223372036854775807;omega) ?_;refine zdc Tk rfl rfl rfl ?_;refine zaB Tk Tryz.func13 (by kernel_rfl) ?_
        refine g_wk (zaL 6 63 9 1 (pre:=[.i (strI (zbA 116 i))]) (post:=[ssD abc3,ints al,ii L,ii ini,ints mk,vrs vr,mvs mo]) rfl rfl rfl) ?_;refine zah ?_;refine zak (fun s:Nat=>[(1,.own 0 1 0 0),(2,.own 0 2 0 0),(3,.own 0 3 0 0),(4,ii i),(5,.own 0 5 0 0),(6,.own 0 6 0 0),(7,ii s)])
          (fun s=>[(1,.box (zeC ⟨kt,ki,kx,kb⟩)),(2,.box zbF),(3,.box [.i (strI ⟨#[109]⟩),.i (zbb evs4),.osl 0 69,.i (.v (.slice none 0 0)),.i (.v (.slice none 0 0)),.i (.v (.slice none 0 0)),.i (.v (.slice none 0 0))]),(69,zxb A),
            (5,.box [ints al,ii L,ii ini,ints mk,vrs vr,mvs mo]),(6,.box [.i (strI (zbA 116 i)),.osl 0 63,ssD abc3,ints al,ii L,ii ini,ints mk,vrs vr,mvs mo]),(63,oss ((List.range s).map (zbA 115)))]) (fun _=>O) 295
          (fun s=>s≤L) (fun s=>L-s) 0 (Nat.zero_le _) ⟨rfl,rfl,rfl,rfl,rfl,rfl,rfl,trivial⟩ rfl ⟨rfl,rfl,rfl,rfl,rfl,rfl,rfl,trivial⟩ rfl rfl ?_
        intro s hs ih2;have hs:s≤L:=hs;refine zai Tk Tryz.func13 ?_;refine zae Tk Tryz.func13 rfl (fun c3=>?_) (fun c3=>?_)
        · have c3:s<L:=by simpa using c3
          have hit2:=hio s (by omega);have hsi2:=hsz s (by omega);have hs2:(List.range (s+1)).map (zbA 115)=(List.range s).map (zbA 115)++[zbA 115 s]:=by rw[List.range_succ,List.map_append];rfl
          have hll:((List.range s).map (zbA 115)).length=s:=by simp
          have hj2:ii (IntKind.i64.wrap ((s:Int)+1))=ii ((s+1:Nat):Int):=congrArg ii (zaC (n:=1000001) (by omega) (by decide));generalize (List.range s).map (zbA 115)=Q at *;refine zav Tk Tryz.func13 zaz rfl ?_;refine zcg Tk hE (hit2 _) rfl rfl rfl rfl ?_;refine zas Tk (by show 1+(zcW (s:Int)).size≤9223372036854775807;omega) ?_;refine zdY Tk Tryz.func13 ([6,7,8]) (by kernel_rfl) (by kernel_rfl) ?_;refine zad Tk Tryz.func13 (by exact⟨by show (Q.length+1)*16≤140737488355328;omega,by show Q.length+1≤9223372036854775807;omega⟩) ?_;refine zah ?_;refine ih2 (s+1) _ _ c3 (by omega) ⟨rfl,rfl,rfl,rfl,rfl,rfl,hj2,trivial⟩ rfl ⟨rfl,rfl,rfl,rfl,rfl,rfl,?_,trivial⟩ rfl rfl;rw[hs2];exact congrArg some (za9 Q (zbA 115 s))
        · have c3:L≤s:=by simpa using c3
          have c3:s=L:=by omega
          rw[c3];refine zat ?_;refine zaq (zam 63 rfl rfl) ?_;refine zaq (zaQ rfl) ?_;refine zai Tk Tryz.func13 ?_;refine g_go Tk Tryz.func13 ?_;refine zad Tk Tryz.func13 (by exact⟨by show (A.length+1)*176≤140737488355328;omega,by show A.length+1≤9223372036854775807;omega⟩) ?_;refine zah ?_;refine ih (i+1) _ _ (by show i+1≤_;omega) (by omega) ⟨rfl,rfl,rfl,hj1,trivial⟩ rfl ⟨rfl,rfl,rfl,?_,trivial⟩ rfl rfl;rw[hsucc];show some (Ob.arr 87 9 (A.length+1) (A.map tplI++[tplI ⟨zbA 116 i,(List.range L).map (zbA 115),abc3,⟨al,L,ini,mk,vr,mo⟩⟩]) true)=_;simp[zxb]
      · have c2:¬i<3:=by have:¬(i:Int)<3:=of_decide_eq_false c2;omega
        rw[hend (by omega)];refine zat ?_;refine zaq (zam 69 rfl rfl) ?_;refine zaq (zaQ rfl) ?_;exact zau (J trivial) ⟨rfl,rfl,rfl,trivial⟩ rfl ⟨rfl,rfl,rfl,trivial⟩ rfl rfl
    · have c1:kt.length≤i:=by simpa using c1
      rw[hend (by omega)];refine gcF Tk Tryz.func13 rfl ?_;refine zat ?_;refine zaq (zam 69 rfl rfl) ?_;refine zaq (zaQ rfl) ?_;exact zau (J trivial) ⟨rfl,rfl,rfl,trivial⟩ rfl ⟨rfl,rfl,rfl,trivial⟩ rfl rfl
  intro _;have hTb:T.length≤3:=by omega
  clear hMT hTl ht htl;refine zai Tk Tryz.func13 ?_;refine g_go Tk Tryz.func13 ?_
  apply zbK (P:=True) (s6:={ σ:=[(1,.own 0 1 0 0),(2,.own 0 2 0 0),(3,.own 0 3 0 0)],S:=[(1,.box (zeC ⟨kt,ki,kx,kb⟩)),(2,.box zbF),(3,.box [.i (strI ⟨#[109]⟩),.i (zbb evs4),.i (zbD T),.i (zaP CR.1),.i (zaP CR.2),.i (.v (.slice none 0 0)),.i (.v (.slice none 0 0))])]::O,n:=295})
  · intro J
    refine g_wk (zaL 3 155 107 3 (pre:=[.i (strI ⟨#[109]⟩),.i (zbb evs4),.i (zbD T)]) (post:=[.i (.v (.slice none 0 0)),.i (.v (.slice none 0 0)),.i (.v (.slice none 0 0))]) rfl rfl rfl) ?_;refine g_wk (zaL 3 172 107 3 (pre:=[.i (strI ⟨#[109]⟩),.i (zbb evs4),.i (zbD T),.osl 0 155]) (post:=[.i (.v (.slice none 0 0)),.i (.v (.slice none 0 0))]) rfl rfl rfl) ?_;refine zah ?_;refine zak (fun i:Nat=>[(1,.own 0 1 0 0),(2,.own 0 2 0 0),(3,.own 0 3 0 0),(8,ii i)])
      (fun i=>[(1,.box (zeC ⟨kt,ki,kx,kb⟩)),(2,.box zbF),(3,.box [.i (strI ⟨#[109]⟩),.i (zbb evs4),.i (zbD T),.osl 0 155,.osl 0 172,.i (.v (.slice none 0 0)),.i (.v (.slice none 0 0))]),(155,zcU (insN T.length ki i).1),(172,zcU (insN T.length ki i).2)]) (fun _=>O) 295
      (fun i=>i≤IC) (fun i=>IC-i) 0 (Nat.zero_le _) ⟨rfl,rfl,rfl,rfl,trivial⟩ rfl ⟨rfl,rfl,rfl,rfl,rfl,trivial⟩ rfl rfl ?_
    intro i hi ih;have hi:i≤IC:=hi;have hend:i=IC→insN T.length ki i=CR:=fun e=>by rw[e,hMI]
    have hlen:=zgj T.length ki i;refine zai Tk Tryz.func13 ?_;refine zaK Tk Tryz.func13 rfl (fun c1=>?_) (fun c1=>?_);rotate_left
    · have c1:ki.length≤i:=by simpa using c1
      rw[hend (by omega)];refine gkF Tk Tryz.func13 rfl ?_;refine gcF Tk Tryz.func13 rfl ?_;refine zat ?_;refine zaq (zam 155 rfl rfl) ?_;refine zaq (zaQ rfl) ?_;refine zaq (zam 172 rfl rfl) ?_;refine zaq (zaQ rfl) ?_;exact zau (J trivial) ⟨rfl,rfl,rfl,trivial⟩ rfl ⟨rfl,rfl,rfl,trivial⟩ rfl rfl
    have c1:i<ki.length:=by simpa using c1
    refine zaK Tk Tryz.func13 rfl (fun c2=>?_) (fun c2=>?_);rotate_left
    · have c2:¬i<5:=by have:¬(i:Int)<5:=of_decide_eq_false c2;omega
      rw[hend (by omega)];refine gcF Tk Tryz.func13 rfl ?_;refine zat ?_;refine zaq (zam 155 rfl rfl) ?_;refine zaq (zaQ rfl) ?_;refine zaq (zam 172 rfl rfl) ?_;refine zaq (zaQ rfl) ?_;exact zau (J trivial) ⟨rfl,rfl,rfl,trivial⟩ rfl ⟨rfl,rfl,rfl,trivial⟩ rfl rfl
    have c2:i<5:=by have:(i:Int)<5:=of_decide_eq_true c2;omega
    refine zae Tk Tryz.func13 rfl (fun c3=>?_) (fun c3=>?_);rotate_left
    · have c3:T.length=0:=by simpa using c3
      rw[if_pos c3] at hICe;rw[hend (by omega)];refine zat ?_;refine zaq (zam 155 rfl rfl) ?_;refine zaq (zaQ rfl) ?_;refine zaq (zam 172 rfl rfl) ?_;refine zaq (zaQ rfl) ?_;exact zau (J trivial) ⟨rfl,rfl,rfl,trivial⟩ rfl ⟨rfl,rfl,rfl,trivial⟩ rfl rfl
    have c3:0<T.length:=by simpa using c3
    rw[if_neg (by omega)] at hICe;clear J hend;have gs:(ki.map useI)[(i:Int).toNat]? = some (useI ki[i]):=zan (f:=useI) c1;have hu:=huse ki[i] (List.getElem_mem c1);have hsucc:=zsq (nt:=T.length) c1;have hit:=hio i (by omega);have hsi:=hsz i (by omega);have hj1:ii (IntKind.i64.wrap ((i:Int)+1))=ii ((i+1:Nat):Int):=congrArg ii (zaC (n:=1000001) (by omega) (by decide));generalize ki[i]=u at *;obtain⟨ut,uo,ur⟩:=u;simp only at hu;obtain⟨q,hq⟩:∃q:Nat,q=(ut%(T.length:Int)).toNat:=⟨_,rfl⟩;have hq1:=Int.emod_nonneg ut (show (T.length:Int)≠0 by omega);have hq2:=Int.emod_lt_of_pos ut (show 0<(T.length:Int) by omega);have hw:(IntKind.i64.wrap ut).tmod (T.length:Int)=(q:Int):=by
      rw[w64 (by omega) (by omega),Int.tmod_eq_emod_of_nonneg hu.1.1];omega
    have hit2:∀O,za3 g (ptab ty fr) Tryz.prog 27 [ii ((IntKind.i64.wrap ut).tmod (T.length:Int))] O (.i (.v (.string (zcW (q:Int))))) [] O:=by
      rw[hw];exact hio q (by omega)
    have hsq:=hsz q (by omega);unfold zp4 ziY at hsucc;simp only[←hq] at hsucc;have hxe:∀x∈(insN T.length ki i).1,x.evs.length≤1000000:=fun x hx=>by
      rw[zu9 T.length ki i x (List.mem_append_left _ hx)];decide
    generalize insN T.length ki i=CRi at *;refine zad Tk Tryz.func13 (by exact⟨by omega,by show (i:Int)<(ki.length:Int);omega⟩) ?_;refine zap Tk Tryz.func13 (gs) ?_;refine zav Tk Tryz.func13 zaz rfl ?_;refine zcg Tk hE (hit _) rfl rfl rfl rfl ?_;refine zas Tk (by show 1+(zcW (i:Int)).size≤9223372036854775807;omega) ?_;refine zas Tk (by show (T.length:Int)≠0;omega) ?_;refine zcg Tk hE (hit2 _) rfl rfl rfl rfl ?_;refine zas Tk (by show 1+(zcW (q:Int)).size≤9223372036854775807;omega) ?_;refine zdc Tk rfl rfl rfl ?_;refine zaB Tk Tryz.func13 (by kernel_rfl) ?_;clear hit hit2 hio;have hwo:IntKind.i64.wrap uo=uo:=w64 (by omega) (by omega);generalize hev:(ordS uo 3).1=ev at *;refine g_wk (zam 106 rfl rfl) ?_;refine g_wk (zaL 10 123 9 1 (pre:=[.i (strI (zbA 105 i)),.i (strI (zbA 116 q))]) (post:=[]) rfl rfl rfl) ?_;refine zah ?_
    refine zak (fun k:Nat=>[(1,.own 0 1 0 0),(2,.own 0 2 0 0),(3,.own 0 3 0 0),(8,ii i),(9,.own 0 9 0 0),(10,.own 0 10 0 0),(11,ssD (ordS uo k).2.1),(12,ii (ordS uo k).2.2),(13,ii (4-(k:Int)))])
      (fun k=>[(1,.box (zeC ⟨kt,ki,kx,kb⟩)),(2,.box zbF),(3,.box [.i (strI ⟨#[109]⟩),.i (zbb evs4),.i (zbD T),.osl 0 155,.osl 0 172,.i (.v (.slice none 0 0)),.i (.v (.slice none 0 0))]),(155,zcU CRi.1),(172,zcU CRi.2),
        (9,.box [.i (u8J ut),.i (u8J uo),.i (bI ur)]),(10,.box [.i (strI (zbA 105 i)),.i (strI (zbA 116 q)),.osl 0 123]),(123,oss (ordS uo k).1)]) (fun _=>O) 295
      (fun k=>k≤3) (fun k=>3-k) 0 (Nat.zero_le _) ⟨rfl,rfl,rfl,rfl,rfl,rfl,rfl,congrArg ii hwo,rfl,trivial⟩ rfl ⟨rfl,rfl,rfl,rfl,rfl,rfl,rfl,rfl,trivial⟩ rfl rfl ?_
    intro k hk ih2;have hk:k≤3:=hk;have hol:=ziJ uo hu.2 k hk;refine zai Tk Tryz.func13 ?_;refine zae Tk Tryz.func13 rfl (fun c4=>?_) (fun c4=>?_)
    · have c4:k<3:=by have:(4:Int)-k>1:=of_decide_eq_true c4;omega
      have hS1:(ordS uo (k+1)).1=(ordS uo k).1++[(ordS uo k).2.1.getD ((ordS uo k).2.2%(4-(k:Int))).toNat ⟨#[]⟩]:=rfl;have hS2:(ordS uo (k+1)).2.1=(ordS uo k).2.1.take ((ordS uo k).2.2%(4-(k:Int))).toNat++(ordS uo k).2.1.drop (((ordS uo k).2.2%(4-(k:Int))).toNat+1):=rfl;have hS3:(ordS uo (k+1)).2.2=(ordS uo k).2.2/(4-(k:Int)):=rfl;generalize ordS uo k=W at *;obtain⟨out,l,a⟩:=W;simp only at hol hS1 hS2 hS3;obtain⟨o1,o2,o3,o4⟩:=hol;have hm1:=Int.emod_nonneg a (show 4-(k:Int)≠0 by omega);have hm2:=Int.emod_lt_of_pos a (show 0<4-(k:Int) by omega);have htm:a.tmod (4-(k:Int))=a%(4-(k:Int)):=Int.tmod_eq_emod_of_nonneg o3;obtain⟨j,hj⟩:∃j:Nat,(j:Int)=a%(4-(k:Int)):=⟨(a%(4-(k:Int))).toNat,by omega⟩;rw[←hj,Int.toNat_natCast] at hS1 hS2;have htj:a.tmod (4-(k:Int))=(j:Int):=by rw[htm,hj]
      have hjl:j<l.length:=by omega
      have gl:(l.map fun s=>[strI s])[(a.tmod (4-(k:Int))).toNat]? = some [strI (l.getD j ⟨#[]⟩)]:=by
        rw[htj,Int.toNat_natCast,List.getElem?_map,List.getD_eq_getElem?_getD,List.getElem?_eq_getElem hjl];rfl
      refine zav Tk Tryz.func13 zaz rfl ?_;refine zas Tk (by show 4-(k:Int)≠0;omega) ?_;refine zas Tk (by exact⟨by show (0:Int)≤a.tmod (4-(k:Int));omega,by show a.tmod (4-(k:Int))<(l.length:Int);omega⟩) ?_;refine zaE Tk (gl) ?_;refine zdY Tk Tryz.func13 ([9,10,11]) (by kernel_rfl) (by kernel_rfl) ?_;refine zad Tk Tryz.func13 (by exact⟨by show (out.length+1)*16≤140737488355328;omega,by show out.length+1≤9223372036854775807;omega⟩) ?_;have hfr:=zwJ l j;have hwj:IntKind.i64.wrap ((a.tmod (4-(k:Int)))+1)=((j+1:Nat):Int):=by rw[htj,w64 (by omega) (by omega)];omega
      have hdv:IntKind.i64.wrap (a.tdiv (4-(k:Int)))=a/(4-(k:Int)):=by
        rw[Int.tdiv_eq_ediv_of_nonneg o3];have h7:=Int.ediv_nonneg o3 (show 0≤4-(k:Int) by omega);have h8:=Int.ediv_le_self (4-(k:Int)) o3;exact w64 (by omega) (by omega)
      have hk1:IntKind.i64.wrap (4-(k:Int)-1)=4-((k+1:Nat):Int):=by rw[w64 (by omega) (by omega)];omega
      refine zav Tk Tryz.func13 zaz rfl ?_;refine zas Tk (by show 4-(k:Int)≠0;omega) ?_;refine zas Tk (by exact⟨by show (0:Int)≤a.tmod (4-(k:Int));omega,by show a.tmod (4-(k:Int))≤(l.length:Int);omega⟩) ?_;refine zuC Tk ?_;refine zex Tk (by exact⟨by show (0+(a.tmod (4-(k:Int))).toNat)*16≤140737488355328;omega,by show 0+(a.tmod (4-(k:Int))).toNat≤9223372036854775807;omega⟩) ?_;refine zlO Tk (p:=⟨[(131,.osl 0 131),(125,.dead)],[(131,.arr 9 1 (0+(a.tmod (4-(k:Int))).toNat) ([]++(l.map fun s=>[strI s]).take (a.tmod (4-(k:Int))).toNat) true)],some 125⟩) rfl rfl rfl ?_;refine zex Tk (by show 4-(k:Int)≠0;omega) ?_;refine zex Tk (by exact⟨by show (0:Int)≤IntKind.i64.wrap ((a.tmod (4-(k:Int)))+1);omega,by show IntKind.i64.wrap ((a.tmod (4-(k:Int)))+1)≤(l.length:Int);omega⟩) ?_
      refine zex Tk (by exact⟨by show (0+(a.tmod (4-(k:Int))).toNat+(l.length-(IntKind.i64.wrap ((a.tmod (4-(k:Int)))+1)).toNat))*16≤140737488355328;omega,by show 0+(a.tmod (4-(k:Int))).toNat+(l.length-(IntKind.i64.wrap ((a.tmod (4-(k:Int)))+1)).toNat)≤9223372036854775807;omega⟩) ?_;refine zlO Tk (p:=⟨[(138,.osl 0 138),(131,.dead)],[(138,.arr 9 1 (0+(a.tmod (4-(k:Int))).toNat+(l.length-(IntKind.i64.wrap ((a.tmod (4-(k:Int)))+1)).toNat)) ([]++(l.map fun s=>[strI s]).take (a.tmod (4-(k:Int))).toNat++(l.map fun s=>[strI s]).drop (IntKind.i64.wrap ((a.tmod (4-(k:Int)))+1)).toNat) true)],some 131⟩) rfl rfl rfl ?_;refine zkE Tk Tryz.func13 (by kernel_rfl) (GM.h ?_);refine zad Tk Tryz.func13 (by show 4-(k:Int)≠0;omega) ?_;refine zah ?_;refine zaq (zam 138 rfl rfl) ?_
      refine ih2 (k+1) _ _ (by show k+1≤3;omega) (by omega) ⟨rfl,rfl,rfl,rfl,rfl,rfl,?_,?_,congrArg ii hk1,trivial⟩ rfl ⟨rfl,rfl,rfl,rfl,rfl,rfl,rfl,?_,trivial⟩ rfl rfl
      · show D.i (.sl 1 (0+(a.tmod (4-(k:Int))).toNat+(l.length-(IntKind.i64.wrap ((a.tmod (4-(k:Int)))+1)).toNat)) ([]++(l.map fun s=>[strI s]).take (a.tmod (4-(k:Int))).toNat++(l.map fun s=>[strI s]).drop (IntKind.i64.wrap ((a.tmod (4-(k:Int)))+1)).toNat))=ssD (ordS uo (k+1)).2.1
        rw[hS2,←hfr hjl,hwj,htj]
      · show ii (IntKind.i64.wrap (a.tdiv (4-(k:Int))))=ii (ordS uo (k+1)).2.2
        rw[hS3,hdv]
      · show some (Ob.arr 9 1 (out.length+1) (out.map (fun s=>[strI s])++[[strI (l.getD j ⟨#[]⟩)]]) true)=some (oss (ordS uo (k+1)).1)
        rw[hS1];exact congrArg some (za9 out _)
    · have c4:¬k<3:=by have:¬(4:Int)-k>1:=of_decide_eq_false c4;omega
      have hk3:k=3:=by omega
      subst hk3;rw[hev];refine zat ?_;refine zaq (zam 123 rfl rfl) ?_;refine zaq (zaQ rfl) ?_;refine zai Tk Tryz.func13 ?_;refine g_go Tk Tryz.func13 ?_;have hev3:ev.length=3:=by rw[←hev];exact (ziJ uo hu.2 3 (by decide)).1
      have hcov:=fun O=>zvD O CRi.1 ev (by omega) (by omega) hxe;clear ih2 hol hev
      apply zbK (P:=¬(ur=false∧CRi.1.length<3)) (s6:={ σ:=[(1,.own 0 1 0 0),(2,.own 0 2 0 0),(3,.own 0 3 0 0),(8,ii i),(10,.own 0 10 0 0)],S:=[(1,.box (zeC ⟨kt,ki,kx,kb⟩)),(2,.box zbF),(3,.box [.i (strI ⟨#[109]⟩),.i (zbb evs4),.i (zbD T),.osl 0 155,.osl 0 172,.i (.v (.slice none 0 0)),.i (.v (.slice none 0 0))]),(155,zcU CRi.1),(172,zcU CRi.2),(10,.box [.i (strI (zbA 105 i)),.i (strI (zbA 116 q)),ssD ev])]::O,n:=295})
      · intro J
        refine zaK Tk Tryz.func13 rfl (fun d1=>?_) (fun d1=>?_)
        · have d1:ur=false:=by simpa using d1
          refine zae Tk Tryz.func13 rfl (fun d2=>?_) (fun d2=>?_)
          · have d2:CRi.1.length<3:=by have:(CRi.1.length:Int)<3:=of_decide_eq_true d2;omega
            rw[if_pos ⟨d1,d2⟩] at hsucc;refine zad Tk Tryz.func13 (by exact⟨by show (CRi.1.length+1)*56≤140737488355328;omega,by show CRi.1.length+1≤9223372036854775807;omega⟩) ?_;refine zah ?_;refine ih (i+1) _ _ (by show i+1≤IC;omega) (by omega) ⟨rfl,rfl,rfl,hj1,trivial⟩ rfl ⟨rfl,rfl,rfl,?_,?_,trivial⟩ rfl rfl
            · show some (Ob.arr 107 3 (CRi.1.length+1) (CRi.1.map insI++[insI ⟨zbA 105 i,zbA 116 q,ev⟩]) true)=some (zcU (insN T.length ki (i+1)).1)
              rw[hsucc];simp[zcU]
            · show some (zcU CRi.2)=some (zcU (insN T.length ki (i+1)).2)
              rw[hsucc]
          · have d2:¬CRi.1.length<3:=by have:¬(CRi.1.length:Int)<3:=of_decide_eq_false d2;omega
            refine zat ?_;exact zau (J fun h=>d2 h.2) ⟨rfl,rfl,rfl,rfl,rfl,trivial⟩ rfl ⟨rfl,rfl,rfl,rfl,rfl,rfl,trivial⟩ rfl rfl
        · have d1:ur=true:=by simpa using d1
          refine gcF Tk Tryz.func13 rfl ?_;refine zat ?_;exact zau (J fun h=>by rw[d1] at h;cases h.1) ⟨rfl,rfl,rfl,rfl,rfl,trivial⟩ rfl ⟨rfl,rfl,rfl,rfl,rfl,rfl,trivial⟩ rfl rfl
      intro hP;rw[if_neg hP] at hsucc;refine zai Tk Tryz.func13 ?_;refine g_go Tk Tryz.func13 ?_;refine zb8 Tk Tryz.func13 rfl rfl rfl rfl (zbt (hcov []) (zeq _) (.osl (.i .nil)) rfl (show 161<295 by decide) rfl rfl) ?_;generalize covB CRi.1 ev=cb at *;refine zaK Tk Tryz.func13 rfl (fun d1=>?_) (fun d1=>?_)
      · have d1:cb=true:=d1
        refine zae Tk Tryz.func13 rfl (fun d2=>?_) (fun d2=>?_)
        · have d2:CRi.2.length<2:=by have:(CRi.2.length:Int)<2:=of_decide_eq_true d2;omega
          rw[if_pos ⟨d1,d2⟩] at hsucc;refine zad Tk Tryz.func13 (by exact⟨by show (CRi.2.length+1)*56≤140737488355328;omega,by show CRi.2.length+1≤9223372036854775807;omega⟩) ?_;refine zah ?_;refine ih (i+1) _ _ (by show i+1≤IC;omega) (by omega) ⟨rfl,rfl,rfl,hj1,trivial⟩ rfl ⟨rfl,rfl,rfl,?_,?_,trivial⟩ rfl rfl
          · show some (zcU CRi.1)=some (zcU (insN T.length ki (i+1)).1)
            rw[hsucc]
          · show some (Ob.arr 107 3 (CRi.2.length+1) (CRi.2.map insI++[insI ⟨zbA 105 i,zbA 116 q,ev⟩]) true)=some (zcU (insN T.length ki (i+1)).2)
            rw[hsucc];simp[zcU]
        · have d2:¬CRi.2.length<2:=by have:¬(CRi.2.length:Int)<2:=of_decide_eq_false d2;omega
          rw[if_neg (fun h=>d2 h.2)] at hsucc;refine zah ?_;refine ih (i+1) _ _ (by show i+1≤IC;omega) (by omega) ⟨rfl,rfl,rfl,hj1,trivial⟩ rfl ⟨rfl,rfl,rfl,?_,?_,trivial⟩ rfl rfl
          · show some (zcU CRi.1)=some (zcU (insN T.length ki (i+1)).1)
            rw[hsucc]
          · show some (zcU CRi.2)=some (zcU (insN T.length ki (i+1)).2)
            rw[hsucc]
      · have d1:cb=false:=d1
        rw[if_neg (fun h=>by rw[d1] at h;cases h.1)] at hsucc;refine gcF Tk Tryz.func13 rfl ?_;refine zah ?_;refine ih (i+1) _ _ (by show i+1≤IC;omega) (by omega) ⟨rfl,rfl,rfl,hj1,trivial⟩ rfl ⟨rfl,rfl,rfl,?_,?_,trivial⟩ rfl rfl
        · show some (zcU CRi.1)=some (zcU (insN T.length ki (i+1)).1)
          rw[hsucc]
        · show some (zcU CRi.2)=some (zcU (insN T.length ki (i+1)).2)
          rw[hsucc]
  intro _;have hCl:=zgj T.length ki IC;rw[←hMI] at hCl;clear hMI hIC hICe huse hil;obtain⟨C,Q⟩:=CR;simp only at hCl hR htpl;refine zai Tk Tryz.func13 ?_;refine g_go Tk Tryz.func13 ?_;refine zae Tk Tryz.func13 rfl (fun z1=>?_) (fun z1=>?_)
  · have z1:C.length=0:=by simpa using z1
    rw[if_pos z1] at hR;subst hR;refine zaD Tk (r:=.agg [.i (strI ⟨#[109]⟩),.i (zbb evs4),.i (zbD T),.i (zaP C),.i (zaP Q),.i (.v (.slice none 0 0)),.i (.v (.slice none 0 0))]) rfl rfl rfl trivial rfl rfl ?_
    repeat' (first|refine zbR ?_|refine zbu ?_|refine zcv ?_|refine CoDL.cons ?_ ?_|exact CoDL.nil|exact zbd|refine zcB ?_|refine CoLL.cons ?_ ?_|exact CoLL.nil|refine CoL.cons ?_ ?_|exact CoL.nil|exact CoI.refl _|exact CoL.refl _|exact CoLL.refl _|exact CoDL.refl _|exact CoD.refl _)
  have z1:¬C.length=0:=by simpa using z1
  rw[if_neg z1] at hR;have hCb:0<C.length∧C.length≤3:=by omega
  apply zbK (P:=True) (s6:={ σ:=[(1,.own 0 1 0 0),(2,.own 0 2 0 0),(3,.own 0 3 0 0)],S:=[(1,.box (zeC ⟨kt,ki,kx,kb⟩)),(2,.box zbF),(3,.box [.i (strI ⟨#[109]⟩),.i (zbb evs4),.i (zbD T),.i (zaP C),.i (zaP Q),.i (zcN (zeQ T C kx (min kx.length 2))),.i (.v (.slice none 0 0))])]::O,n:=295})
  · intro J
    refine g_wk (zaL 3 256 91 2 (pre:=[.i (strI ⟨#[109]⟩),.i (zbb evs4),.i (zbD T),.i (zaP C),.i (zaP Q)]) (post:=[.i (.v (.slice none 0 0))]) rfl rfl rfl) ?_;refine zah ?_;refine zak (fun i:Nat=>[(1,.own 0 1 0 0),(2,.own 0 2 0 0),(3,.own 0 3 0 0),(14,ii i)])
      (fun i=>[(1,.box (zeC ⟨kt,ki,kx,kb⟩)),(2,.box zbF),(3,.box [.i (strI ⟨#[109]⟩),.i (zbb evs4),.i (zbD T),.i (zaP C),.i (zaP Q),.osl 0 256,.i (.v (.slice none 0 0))]),(256,ziK (zeQ T C kx i))]) (fun _=>O) 295
      (fun i=>i≤min kx.length 2) (fun i=>min kx.length 2-i) 0 (Nat.zero_le _) ⟨rfl,rfl,rfl,rfl,trivial⟩ rfl ⟨rfl,rfl,rfl,rfl,trivial⟩ rfl rfl ?_
    intro i hi ih;have hi:i≤min kx.length 2:=hi;have hend:i=min kx.length 2→zeQ T C kx i=zeQ T C kx (min kx.length 2):=fun e=>by rw[e]
    have hlen:=zsR T C kx i;refine zai Tk Tryz.func13 ?_;refine zaK Tk Tryz.func13 rfl (fun c1=>?_) (fun c1=>?_);rotate_left
    · have c1:kx.length≤i:=by simpa using c1
      rw[hend (by omega)];refine gcF Tk Tryz.func13 rfl ?_;refine zat ?_;refine zaq (zam 256 rfl rfl) ?_;refine zaq (zaQ rfl) ?_;exact zau (J trivial) ⟨rfl,rfl,rfl,trivial⟩ rfl ⟨rfl,rfl,rfl,trivial⟩ rfl rfl
    have c1:i<kx.length:=by simpa using c1
    refine zae Tk Tryz.func13 rfl (fun c2=>?_) (fun c2=>?_);rotate_left
    · have c2:¬i<2:=by have:¬(i:Int)<2:=of_decide_eq_false c2;omega
      rw[hend (by omega)];refine zat ?_;refine zaq (zam 256 rfl rfl) ?_;refine zaq (zaQ rfl) ?_;exact zau (J trivial) ⟨rfl,rfl,rfl,trivial⟩ rfl ⟨rfl,rfl,rfl,trivial⟩ rfl rfl
    have c2:i<2:=by have:(i:Int)<2:=of_decide_eq_true c2;omega
    clear J hend;have gs:(kx.map whrI)[(i:Int).toNat]? = some (whrI kx[i]):=zan (f:=whrI) c1;have hwo:=he kx[i] (List.getElem_mem c1);have hsucc:=zp9 (T:=T) (C:=C) c1;unfold zvw at hsucc;have hit:=hio i (by omega);have hsi:=hsz i (by omega);have hj1:ii (IntKind.i64.wrap ((i:Int)+1))=ii ((i+1:Nat):Int):=congrArg ii (zaC (n:=1000001) (by omega) (by decide));generalize kx[i]=w at *;obtain⟨⟨wc,wl⟩,⟨vc,vl⟩⟩:=w;simp only at hwo hsucc;obtain⟨x,t,s,g1,g2,g3,g4,g5,g6,g7⟩:=zsS hTloc htpl hCb hwo.1;obtain⟨x',t',s',f1,f2,f3,f4,f5,f6,f7⟩:=zsS hTloc htpl hCb hwo.2;rw[g7 []] at hsucc;simp only[Bool.false_eq_true,if_false,List.nil_append] at hsucc;rw[f7] at hsucc;simp only at hsucc;have hto:=fun O=>ze0 O ⟨⟨#[109]⟩,evs4,T,C,Q,[],[]⟩ 0 256 x t (by show T.length≤1000000;omega) g3
    have hto':=fun O=>ze0 O ⟨⟨#[109]⟩,evs4,T,C,Q,[],[]⟩ 0 256 x' t' (by show T.length≤1000000;omega) f3;clear g7 f7 g3 f3;generalize zeQ T C kx i=A at *;obtain⟨xn,xt,xe⟩:=x;obtain⟨yn,yt,ye⟩:=x';obtain⟨tn,tl,te,⟨tal,tlo,tini,tmk,tvr,tmo⟩⟩:=t;obtain⟨un,ul,ue,⟨ual,ulo,uini,umk,uvr,umo⟩⟩:=t';simp only at hsucc g4 g5 g6 f4 f5 f6;refine zbB Tk Tryz.func13 hE (hit _) rfl rfl rfl rfl rfl rfl ?_;refine zad Tk Tryz.func13 (by show 1+(zcW (i:Int)).size≤9223372036854775807;omega) ?_;refine g_wk (zaL 15 250 103 2 (pre:=[.i (strI (zbA 120 i))]) (post:=[]) rfl rfl rfl) ?_;refine zah ?_
    refine zaq (zbo (l:=[(1,.own 0 1 0 0),(2,.own 0 2 0 0),(3,.own 0 3 0 0),(14,ii i),(15,.own 0 15 0 0),(16,ii 0)]) (Hv:=[(1,.box (zeC ⟨kt,ki,kx,kb⟩)),(2,.box zbF),(3,.box [.i (strI ⟨#[109]⟩),.i (zbb evs4),.i (zbD T),.i (zaP C),.i (zaP Q),.osl 0 256,.i (.v (.slice none 0 0))]),(256,ziK A),(15,.box [.i (strI (zbA 120 i)),.osl 0 250]),(250,zuX [])]) ⟨rfl,rfl,rfl,rfl,rfl,rfl,trivial⟩ rfl ⟨rfl,rfl,rfl,rfl,rfl,rfl,trivial⟩ rfl rfl) ?_;refine zai Tk Tryz.func13 ?_;refine gcT Tk Tryz.func13 rfl ?_;refine zad Tk Tryz.func13 (by exact⟨by omega,by show (i:Int)<(kx.length:Int);omega⟩) ?_;refine zad Tk Tryz.func13 (by decide) ?_;refine zap Tk Tryz.func13 (gs) ?_;refine zav Tk Tryz.func13 zaz rfl ?_;refine zas Tk (by show (C.length:Int)≠0;omega) ?_;refine zas Tk (by exact g2) ?_;refine zaE Tk (g1) ?_;refine zdc Tk rfl rfl rfl ?_;refine zaB Tk Tryz.func13 (by kernel_rfl) ?_
    refine zav Tk Tryz.func13 zaz rfl ?_;refine skF Tk ?_;refine zaB Tk Tryz.func13 (by kernel_rfl) ?_;refine gcF Tk Tryz.func13 rfl ?_;refine zaj Tk Tryz.func13 (hto _) rfl rfl rfl rfl rfl ?_;refine zav Tk Tryz.func13 zaz rfl ?_;refine zas Tk (by show (tl.length:Int)≠0;omega) ?_;refine zas Tk (by exact g6) ?_;refine zaE Tk (g5) ?_;refine zdY Tk Tryz.func13 ([17,18,19]) (by kernel_rfl) (by kernel_rfl) ?_;refine zad Tk Tryz.func13 (by decide) ?_;refine zah ?_
    refine zaq (zbo (l:=[(1,.own 0 1 0 0),(2,.own 0 2 0 0),(3,.own 0 3 0 0),(14,ii i),(15,.own 0 15 0 0),(16,ii 1)]) (Hv:=[(1,.box (zeC ⟨kt,ki,kx,kb⟩)),(2,.box zbF),(3,.box [.i (strI ⟨#[109]⟩),.i (zbb evs4),.i (zbD T),.i (zaP C),.i (zaP Q),.osl 0 256,.i (.v (.slice none 0 0))]),(256,ziK A),(15,.box [.i (strI (zbA 120 i)),.osl 0 250]),(250,zuX [(xn,s)])]) ⟨rfl,rfl,rfl,rfl,rfl,rfl,trivial⟩ rfl ⟨rfl,rfl,rfl,rfl,rfl,rfl,trivial⟩ rfl rfl) ?_;refine zai Tk Tryz.func13 ?_;refine gcT Tk Tryz.func13 rfl ?_;refine zad Tk Tryz.func13 (by exact⟨by omega,by show (i:Int)<(kx.length:Int);omega⟩) ?_;refine zad Tk Tryz.func13 (by decide) ?_;refine zap Tk Tryz.func13 (gs) ?_;refine zav Tk Tryz.func13 zaz rfl ?_;refine zas Tk (by show (C.length:Int)≠0;omega) ?_;refine zas Tk (by exact f2) ?_;refine zaE Tk (f1) ?_;refine zdc Tk rfl rfl rfl ?_
    refine zaB Tk Tryz.func13 (by kernel_rfl) ?_;refine zav Tk Tryz.func13 zaz rfl ?_;refine skT Tk ?_;refine zas Tk (by exact⟨Int.le_refl _,Int.zero_lt_one⟩) ?_;refine zaE Tk (rfl) ?_;refine zaB Tk Tryz.func13 (by kernel_rfl) ?_;refine zae Tk Tryz.func13 rfl (fun e1=>?_) (fun e1=>?_)
    · have e1:(xn.toList==yn.toList)=true:=e1
      rw[zbg] at e1;rw[if_pos e1] at hsucc;refine zah ?_;refine zaq (zbo (l:=[(1,.own 0 1 0 0),(2,.own 0 2 0 0),(3,.own 0 3 0 0),(14,ii i),(15,.own 0 15 0 0),(16,ii 2)]) (Hv:=[(1,.box (zeC ⟨kt,ki,kx,kb⟩)),(2,.box zbF),(3,.box [.i (strI ⟨#[109]⟩),.i (zbb evs4),.i (zbD T),.i (zaP C),.i (zaP Q),.osl 0 256,.i (.v (.slice none 0 0))]),(256,ziK A),(15,.box [.i (strI (zbA 120 i)),.osl 0 250]),(250,zuX [(xn,s)])]) ⟨rfl,rfl,rfl,rfl,rfl,rfl,trivial⟩ rfl ⟨rfl,rfl,rfl,rfl,rfl,rfl,trivial⟩ rfl rfl) ?_;refine zai Tk Tryz.func13 ?_;refine gcF Tk Tryz.func13 rfl ?_;refine zat ?_;refine zaq (zam 250 rfl rfl) ?_;refine zaq (zaQ rfl) ?_;refine zai Tk Tryz.func13 ?_;refine g_go Tk Tryz.func13 ?_;refine zad Tk Tryz.func13 (by exact⟨by show (A.length+1)*40≤140737488355328;omega,by show A.length+1≤9223372036854775807;omega⟩) ?_;refine zah ?_
      refine ih (i+1) _ _ (by show i+1≤_;omega) (by omega) ⟨rfl,rfl,rfl,hj1,trivial⟩ rfl ⟨rfl,rfl,rfl,?_,trivial⟩ rfl rfl;show some (Ob.arr 91 2 (A.length+1) (A.map nexI++[nexI ⟨zbA 120 i,[(xn,s)]⟩]) true)=some (ziK (zeQ T C kx (i+1)));rw[hsucc];simp[ziK]
    · have e1:(xn.toList==yn.toList)=false:=e1
      rw[zbg] at e1;rw[if_neg (zgU e1)] at hsucc;refine zaj Tk Tryz.func13 (hto' _) rfl rfl rfl rfl rfl ?_;refine zav Tk Tryz.func13 zaz rfl ?_;refine zas Tk (by show (ul.length:Int)≠0;omega) ?_;refine zas Tk (by exact f6) ?_;refine zaE Tk (f5) ?_;refine zdY Tk Tryz.func13 ([17,18,19]) (by kernel_rfl) (by kernel_rfl) ?_;refine zad Tk Tryz.func13 (by exact⟨by show (1+1)*32≤140737488355328;decide,by show 1+1≤9223372036854775807;decide⟩) ?_;refine zah ?_
      refine zaq (zbo (l:=[(1,.own 0 1 0 0),(2,.own 0 2 0 0),(3,.own 0 3 0 0),(14,ii i),(15,.own 0 15 0 0),(16,ii 2)]) (Hv:=[(1,.box (zeC ⟨kt,ki,kx,kb⟩)),(2,.box zbF),(3,.box [.i (strI ⟨#[109]⟩),.i (zbb evs4),.i (zbD T),.i (zaP C),.i (zaP Q),.osl 0 256,.i (.v (.slice none 0 0))]),(256,ziK A),(15,.box [.i (strI (zbA 120 i)),.osl 0 250]),(250,zuX [(xn,s),(yn,s')])]) ⟨rfl,rfl,rfl,rfl,rfl,rfl,trivial⟩ rfl ⟨rfl,rfl,rfl,rfl,rfl,rfl,trivial⟩ rfl rfl) ?_;refine zai Tk Tryz.func13 ?_;refine gcF Tk Tryz.func13 rfl ?_;refine zat ?_;refine zaq (zam 250 rfl rfl) ?_;refine zaq (zaQ rfl) ?_;refine zai Tk Tryz.func13 ?_;refine g_go Tk Tryz.func13 ?_;refine zad Tk Tryz.func13 (by exact⟨by show (A.length+1)*40≤140737488355328;omega,by show A.length+1≤9223372036854775807;omega⟩) ?_;refine zah ?_
      refine ih (i+1) _ _ (by show i+1≤_;omega) (by omega) ⟨rfl,rfl,rfl,hj1,trivial⟩ rfl ⟨rfl,rfl,rfl,?_,trivial⟩ rfl rfl;show some (Ob.arr 91 2 (A.length+1) (A.map nexI++[nexI ⟨zbA 120 i,[(xn,s),(yn,s')]⟩]) true)=some (ziK (zeQ T C kx (i+1)));rw[hsucc];simp[ziK]
  intro _;clear hTloc htpl he hel hsz hio;generalize zeQ T C kx (min kx.length 2)=X at *;refine zai Tk Tryz.func13 ?_;refine g_go Tk Tryz.func13 ?_;refine zae Tk Tryz.func13 rfl (fun b1=>?_) (fun b1=>?_);rotate_left
  · have b1:¬kb>0:=by simpa using b1
    rw[if_neg b1] at hR;subst hR;refine zat ?_;refine zai Tk Tryz.func13 ?_;refine g_go Tk Tryz.func13 ?_;refine zaD Tk (r:=.agg [.i (strI ⟨#[109]⟩),.i (zbb evs4),.i (zbD T),.i (zaP C),.i (zaP Q),.i (zcN X),.i (.v (.slice none 0 0))]) rfl rfl rfl trivial rfl rfl ?_
    repeat' (first|refine zbR ?_|refine zbu ?_|refine zcv ?_|refine CoDL.cons ?_ ?_|exact CoDL.nil|exact zbd|refine zcB ?_|refine CoLL.cons ?_ ?_|exact CoLL.nil|refine CoL.cons ?_ ?_|exact CoL.nil|exact CoI.refl _|exact CoL.refl _|exact CoLL.refl _|exact CoDL.refl _|exact CoD.refl _)
  have b1:kb>0:=by simpa using b1
  rw[if_pos b1] at hR;unfold zy3 at hR;have hkb:IntKind.i64.wrap (kb.tmod 5)=kb%5:=by rw[Int.tmod_eq_emod_of_nonneg (by omega),w64 (by omega) (by omega)]
  have hn1:IntKind.i64.wrap ((C.length:Int)-1)=(C.length:Int)-1:=w64 (by omega) (by omega);refine zad Tk Tryz.func13 (by decide) ?_;refine g_wk (zaL 20 286 93 2 (pre:=[.i (strI ⟨#[99]⟩)]) (post:=[ii (IntKind.i64.wrap (kb.tmod 5))]) rfl rfl rfl) ?_;refine zah ?_;refine zak (fun r:Nat=>[(1,.own 0 1 0 0),(2,.own 0 2 0 0),(3,.own 0 3 0 0),(20,.own 0 20 0 0),(21,ii ((C.length:Int)-1-r))])
    (fun r=>[(1,.box (zeC ⟨kt,ki,kx,kb⟩)),(2,.box zbF),(3,.box [.i (strI ⟨#[109]⟩),.i (zbb evs4),.i (zbD T),.i (zaP C),.i (zaP Q),.i (zcN X),.i (.v (.slice none 0 0))]),(20,.box [.i (strI ⟨#[99]⟩),.osl 0 286,ii (IntKind.i64.wrap (kb.tmod 5))]),(286,zxe ((zcK C).take r))]) (fun _=>O) 295
    (fun r=>r≤C.length) (fun r=>C.length-r) 0 (Nat.zero_le _) ⟨rfl,rfl,rfl,rfl,by rw[show (C.length:Int)-1-((0:Nat):Int)=(C.length:Int)-1 by omega];exact congrArg ii hn1,trivial⟩ rfl ⟨rfl,rfl,rfl,rfl,rfl,trivial⟩ rfl rfl ?_
  intro r hr ih;have hr:r≤C.length:=hr;refine zai Tk Tryz.func13 ?_;refine zae Tk Tryz.func13 rfl (fun c1=>?_) (fun c1=>?_)
  · have c1:(C.length:Int)-1-r≥0:=of_decide_eq_true c1
    have c1:r<C.length:=by omega
    have gs:(C.map insI)[((C.length:Int)-1-r).toNat]? = some (insI C[C.length-1-r]):=by
      rw[show ((C.length:Int)-1-r)=((C.length-1-r:Nat):Int) by omega];exact zan (f:=insI) (by omega)
    have ht:=zk2 c1;have hll:((zcK C).take r).length≤3:=by
      rw[List.length_take,zdb];omega
    have hw1:IntKind.i64.wrap (1+((C.length:Int)-1-r))=1+((C.length-1-r:Nat):Int):=by rw[w64 (by omega) (by omega)];omega
    have hw2:ii (IntKind.i64.wrap ((C.length:Int)-1-r-1))=ii ((C.length:Int)-1-((r+1:Nat):Int)):=by
      rw[w64 (by omega) (by omega),show (C.length:Int)-1-r-1=(C.length:Int)-1-((r+1:Nat):Int) by omega]
    generalize (zcK C).take r=A at *;generalize C[C.length-1-r]=x at *;obtain⟨xn,xt,xe⟩:=x;simp only at ht;refine zav Tk Tryz.func13 zaz rfl ?_;refine zas Tk (by exact⟨by omega,by show (C.length:Int)-1-r<(C.length:Int);omega⟩) ?_;refine zaE Tk (gs) ?_;refine zdY Tk Tryz.func13 ([12,13,14]) (by kernel_rfl) (by kernel_rfl) ?_;refine zad Tk Tryz.func13 (by exact⟨by show (A.length+1)*24≤140737488355328;omega,by show A.length+1≤9223372036854775807;omega⟩) ?_;refine zah ?_;refine ih (r+1) _ _ c1 (by omega) ⟨rfl,rfl,rfl,rfl,hw2,trivial⟩ rfl ⟨rfl,rfl,rfl,rfl,?_,trivial⟩ rfl rfl;show some (Ob.arr 93 2 (A.length+1) (A.map ntmI++[ntmI (xn,IntKind.i64.wrap (1+((C.length:Int)-1-r)))]) true)=some (zxe ((zcK C).take (r+1)));rw[ht,hw1];simp[zxe]
  · have c1:¬(C.length:Int)-1-r≥0:=of_decide_eq_false c1
    have hrC:(zcK C).take r=zcK C:=List.take_of_length_le (by rw[zdb];omega);rw[hrC];refine zat ?_;refine zaq (zam 286 rfl rfl) ?_;refine zaq (zaQ rfl) ?_;refine zaq (zaL 3 292 96 3 (pre:=[.i (strI ⟨#[109]⟩),.i (zbb evs4),.i (zbD T),.i (zaP C),.i (zaP Q),.i (zcN X)]) (post:=[]) rfl rfl rfl) ?_;refine zai Tk Tryz.func13 ?_;refine g_go Tk Tryz.func13 ?_;refine zad Tk Tryz.func13 (by decide) ?_;refine zat ?_;refine zaq (zam 292 rfl rfl) ?_;refine zaq (zaQ rfl) ?_;refine zai Tk Tryz.func13 ?_;refine g_go Tk Tryz.func13 ?_;refine zag Tk (r:=mdlD ⟨⟨#[109]⟩,evs4,T,C,Q,X,[⟨⟨#[99]⟩,zcK C,IntKind.i64.wrap (kb.tmod 5)⟩]⟩) rfl rfl rfl trivial rfl rfl ?_;rw[hkb];exact congrArg mdlD hR
mutual
def esz:Ex→Nat
 |.mk _ _ _ args=>1+eszs args
def eszs:List Ex→Nat
 |[]=>0
 |e::r=>esz e+eszs r
end
mutual
def edep:Ex→Nat
 |.mk _ _ _ args=>1+zlM args
def zlM:List Ex→Nat
 |[]=>0
 |e::r=>max (edep e) (zlM r)
end
mutual
theorem znR:∀(x:Ex) (n:Int) (lvl c:Nat),wfE n x→c+esz x≤64→lvl+edep x≤9→zcA x n lvl c=(0,((c+esz x:Nat):Int))
 |.mk op v ix args,n,lvl,c,hw,hc,hl=>by
  simp only[esz] at hc ⊢;simp only[edep] at hl;simp only[wfE] at hw;simp only[zcA];rw[if_neg (by omega),if_neg (by rw[hw.1];simp)];have:=zkq args n (lvl+1) (c+1) hw.2 (by omega) (by omega);rw[show ((lvl:Int)+1)=((lvl+1:Nat):Int) by omega,show ((c:Int)+1)=((c+1:Nat):Int) by omega,this];rw[show c+(1+eszs args)=c+1+eszs args by omega]
theorem zkq:∀(l:List Ex) (n:Int) (lvl c:Nat),wfEs n l→c+eszs l≤64→lvl+zlM l≤9→zc2 l n lvl c=(0,((c+eszs l:Nat):Int))
 |[],n,lvl,c,_,_,_=>rfl
 |e::r,n,lvl,c,hw,hc,hl=>by
  simp only[eszs] at hc ⊢;simp only[zlM] at hl;simp only[wfEs] at hw;simp only[zc2];have h1:=znR e n lvl c hw.1 (by omega) (by omega);rw[h1];simp only[ne_eq,not_true_eq_false,if_false];rw[zkq r n lvl (c+esz e) hw.2 (by omega) (by omega)];rw[show c+(esz e+eszs r)=c+esz e+eszs r by omega]
end
mutual
theorem zsV:∀(x:Ex) (n:Int),wfE n x→exOk x
 |.mk op v ix args,n,h=>by
  simp only[wfE] at h;obtain⟨_,h2,_⟩:=zb9 h.1;have:=zgo op;exact⟨by simp only[zar];omega,znV args n h.2⟩
theorem znV:∀(l:List Ex) (n:Int),wfEs n l→zkA l
 |[],_,_=>trivial
 |e::r,n,h=>by
  simp only[wfEs] at h;exact⟨zsV e n h.1,znV r n h.2⟩
end
theorem zng {x:Ex} {n k:Int} (hn:0≤n) (hn2:n≤16) (hw:wfE n x) (hs:esz x≤64) (hd:edep x≤8) (hk:zbi x=k) (hk0:k≠0):zbm x n k=0:=by
 have h1:=znR x n 1 0 hw (by omega) (by omega);have h2:zce x n=(k,0):=by
  unfold zce;have h1':zcA x n 1 0=(0,((0+esz x:Nat):Int)):=h1;rw[if_neg (by omega),h1'];rw[if_neg (by simp),if_neg (by rw[hk];exact hk0),hk]
 unfold zbm;rw[h2,if_neg (by simp)]
theorem fh2 {op n:Int} (h:op=2∨op=3∨op=4∨op=6∨op=7∨op=8∨op=9∨op=11∨op=12):za0 op 0 0 2 n=0:=by
 rcases h with rfl|rfl|rfl|rfl|rfl|rfl|rfl|rfl|rfl<;>rfl
theorem fh1 {op n:Int} (h:op=5∨op=10):za0 op 0 0 1 n=0:=by
 rcases h with rfl|rfl<;>rfl
theorem fh3 {n:Int}:za0 13 0 0 3 n=0:=rfl
structure grown (vars:Int) (lv:Nat) (t:Bool) (k:Nat) (r:Ex×List Int×Nat):Prop where
 wf:wfE vars r.1
 kind:zbi r.1=tyOf t
 dep:edep r.1≤lv+2
 cnt:k<r.2.2
 sz:esz r.1+3*min k 12≤3*min r.2.2 12+(if 12≤k then 3 else if r.2.2≤12 then 0 else 6*lv+3)
theorem ziu (t:Bool):tyOf t≠0:=by cases t<;>decide
theorem zzo {op:Int} {a:Ex} {t:Bool} {ka:Int} (ha:zbi a=ka) (h0:ka≠0) (hk:zb2 op [ka]=tyOf t):zbi (.mk op 0 0 [a])=tyOf t:=by
 simp only[zbi,za8,ha,if_neg h0,Option.map_some];exact hk
theorem zzn {op:Int} {a b:Ex} {t:Bool} {ka:Int} (ha:zbi a=ka) (hb:zbi b=ka) (h0:ka≠0) (hk:zb2 op [ka,ka]=tyOf t):zbi (.mk op 0 0 [a,b])=tyOf t:=by
 simp only[zbi,za8,ha,hb,if_neg h0,Option.map_some];exact hk
theorem zzm {a b c:Ex} {t:Bool} (ha:zbi a=2) (hb:zbi b=tyOf t) (hc:zbi c=tyOf t):zbi (.mk 13 0 0 [a,b,c])=tyOf t:=by
 simp only[zbi,za8,ha,hb,hc,if_neg (ziu t),Option.map_some]
 cases t<;>rfl
theorem zed {vars b:Int} (hv:0≤vars) (hb:bytG b):wfE vars (zf6 vars b)∧zbi (zf6 vars b)=1∧edep (zf6 vars b)=1∧esz (zf6 vars b)=1:=by
 have:=hb.h0;have:=hb.h1;unfold zf6
 split
 ·rename_i h;have h1:=Int.emod_nonneg (b/8) (show vars≠0 by omega);have h2:=Int.emod_lt_of_pos (b/8) h.2;refine⟨⟨?_,trivial⟩,rfl,rfl,rfl⟩;show za0 1 0 (b/8%vars) 0 vars=0;unfold za0;rw[if_neg (by decide),if_neg (by decide),if_neg (by simp),if_neg (by omega)]
 ·refine⟨⟨?_,trivial⟩,rfl,rfl,rfl⟩;show za0 0 (b/8-8) 0 0 vars=0;unfold za0;rw[if_neg (by decide),if_neg (by decide),if_neg (by simp),if_neg (by omega)]
theorem zk1 {vars:Int} (t:Bool):wfE vars (zfP t)∧zbi (zfP t)=2∧edep (zfP t)=2∧esz (zfP t)=3:=by
 cases t
 ·exact⟨⟨rfl,⟨rfl,trivial⟩,⟨rfl,trivial⟩,trivial⟩,rfl,rfl,rfl⟩
 ·exact⟨⟨rfl,⟨rfl,trivial⟩,⟨rfl,trivial⟩,trivial⟩,rfl,rfl,rfl⟩
theorem zkl {vars:Int} {lv:Nat} {bs:List Int} {k:Nat} (h:12≤k):zal vars lv true bs k=(zf6 vars (b0 bs),bs.tail,k+1):=by
 cases lv with
 |zero=>simp only[zal]
 |succ lv=>simp only[zal];rw[if_pos (by omega)]
theorem zvj {vars:Int} (hv:0≤vars):∀(lv:Nat) (t:Bool) (bs:List Int) (k:Nat),zcC bs→grown vars lv t k (zal vars lv t bs k):=by
 intro lv
 induction lv with
 |zero=>
  intro t bs k hb;have hby:bytG (b0 bs):=⟨(zfs hb).1,(zfs hb).2⟩
  cases t with
  |true=>
   obtain⟨a,b,c,d⟩:=zed hv hby;simp only[zal];exact⟨a,b,by simp only;omega,by simp only;omega,by simp only;split<;>(try split)<;>omega⟩
  |false=>
   obtain⟨a,b,c,d⟩:=zk1 (vars:=vars) (decide (b0 bs%2=0));simp only[zal];exact⟨a,b,by simp only;omega,by simp only;omega,by simp only;split<;>(try split)<;>omega⟩
 |succ lv ih=>
  intro t bs k hb;have hby:bytG (b0 bs):=⟨(zfs hb).1,(zfs hb).2⟩;have hbt:=zcq hb;have ok:=zi1 vars lv;have q3:b0 bs/8%3=0∨b0 bs/8%3=1∨b0 bs/8%3=2:=by omega
  have q4:b0 bs/8%4=0∨b0 bs/8%4=1∨b0 bs/8%4=2∨b0 bs/8%4=3:=by omega
  have q2:b0 bs/8%2=0∨b0 bs/8%2=1:=by omega
  have one:∀(t2:Bool) (op:Int),op=5∨op=10→k<12→zb2 op [tyOf t2]=tyOf t→grown vars (lv+1) t k (.mk op 0 0 [(zal vars lv t2 bs.tail (k+1)).1],(zal vars lv t2 bs.tail (k+1)).2):=by
   intro t2 op hop hk hkind;have h1:=ih t2 bs.tail (k+1) hbt;have hsz:=h1.sz;have hcn:=h1.cnt;have hdp:=h1.dep;refine⟨⟨fh1 hop,h1.wf,trivial⟩,zzo h1.kind (ziu _) hkind,?_,by simp only;omega,?_⟩
   ·simp only[edep,zlM];omega
   ·simp only[esz,eszs]
    split at hsz<;>(try split at hsz)<;>split<;>(try split)<;>omega
  have two:∀(t2:Bool) (op:Int),(op=2∨op=3∨op=4∨op=6∨op=7∨op=8∨op=9∨op=11∨op=12)→(12≤k→t2=true)→zb2 op [tyOf t2,tyOf t2]=tyOf t→grown vars (lv+1) t k (.mk op 0 0 [(zal vars lv t2 bs.tail (k+1)).1,(zal vars lv t2 (zal vars lv t2 bs.tail (k+1)).2.1 (zal vars lv t2 bs.tail (k+1)).2.2).1],(zal vars lv t2 (zal vars lv t2 bs.tail (k+1)).2.1 (zal vars lv t2 bs.tail (k+1)).2.2).2):=by
   intro t2 op hop hk hkind;have h1:=ih t2 bs.tail (k+1) hbt;have o1:=ok t2 bs.tail (k+1) hbt;have l1:12≤k→esz (zal vars lv t2 bs.tail (k+1)).1=1:=fun h=>by
    rw[hk h,zkl (by omega)];exact (zed hv ⟨(zfs hbt).1,(zfs hbt).2⟩).2.2.2
   generalize zal vars lv t2 bs.tail (k+1)=A at *;have hcn:=h1.cnt;have h2:=ih t2 A.2.1 A.2.2 o1.b;have l2:12≤k→esz (zal vars lv t2 A.2.1 A.2.2).1=1:=fun h=>by
    rw[hk h,zkl (by omega)];exact (zed hv ⟨(zfs o1.b).1,(zfs o1.b).2⟩).2.2.2
   generalize zal vars lv t2 A.2.1 A.2.2=B at *;have hsz:=h1.sz;have hdp:=h1.dep;have hsz2:=h2.sz;have hcn2:=h2.cnt;have hdp2:=h2.dep;refine⟨⟨fh2 hop,h1.wf,h2.wf,trivial⟩,zzn h1.kind h2.kind (ziu _) hkind,?_,by simp only;omega,?_⟩
   ·simp only[edep,zlM];omega
   ·simp only[esz,eszs]
    by_cases hk12:12≤k
    ·rw[l1 hk12,l2 hk12,if_pos hk12];omega
    ·rw[if_neg hk12]
     split at hsz<;>(try split at hsz)<;>split at hsz2<;>(try split at hsz2)<;>split<;>omega
  have three:∀(t2:Bool),t2=t→k<12→grown vars (lv+1) t k (.mk 13 0 0 [(zal vars lv false bs.tail (k+1)).1,(zal vars lv t2 (zal vars lv false bs.tail (k+1)).2.1 (zal vars lv false bs.tail (k+1)).2.2).1,
    (zal vars lv t2 (zal vars lv t2 (zal vars lv false bs.tail (k+1)).2.1 (zal vars lv false bs.tail (k+1)).2.2).2.1 (zal vars lv t2 (zal vars lv false bs.tail (k+1)).2.1 (zal vars lv false bs.tail (k+1)).2.2).2.2).1],
    (zal vars lv t2 (zal vars lv t2 (zal vars lv false bs.tail (k+1)).2.1 (zal vars lv false bs.tail (k+1)).2.2).2.1 (zal vars lv t2 (zal vars lv false bs.tail (k+1)).2.1 (zal vars lv false bs.tail (k+1)).2.2).2.2).2):=by
   intro t2 e hk12;subst e;have h1:=ih false bs.tail (k+1) hbt;have o1:=ok false bs.tail (k+1) hbt;generalize zal vars lv false bs.tail (k+1)=A at *;have h2:=ih t2 A.2.1 A.2.2 o1.b;have o2:=ok t2 A.2.1 A.2.2 o1.b;generalize zal vars lv t2 A.2.1 A.2.2=B at *;have h3:=ih t2 B.2.1 B.2.2 o2.b;generalize zal vars lv t2 B.2.1 B.2.2=C at *;have hsz:=h1.sz;have hcn:=h1.cnt;have hdp:=h1.dep;have hsz2:=h2.sz;have hcn2:=h2.cnt;have hdp2:=h2.dep;have hsz3:=h3.sz;have hcn3:=h3.cnt;have hdp3:=h3.dep;refine⟨⟨fh3,h1.wf,h2.wf,h3.wf,trivial⟩,zzm h1.kind h2.kind h3.kind,?_,by simp only;omega,?_⟩
   ·simp only[edep,zlM];omega
   ·simp only[esz,eszs];rw[if_neg (by omega)]
    split at hsz<;>(try split at hsz)<;>split at hsz2<;>(try split at hsz2)<;>split at hsz3<;>(try split at hsz3)<;>split<;>omega
  cases t with
  |true=>
   simp only[zal]
   split
   ·rename_i h;obtain⟨a,b,c,d⟩:=zed hv hby;exact⟨a,b,by simp only;omega,by simp only;omega,by simp only;split<;>(try split)<;>omega⟩
   ·rename_i h
    split
    ·exact one true 5 (.inl rfl) (by omega) rfl
    split
    ·exact three true rfl (by omega)
    ·refine two true _ (by omega) (fun _=>rfl) ?_;rcases q3 with q|q|q<;>rw[q]<;>rfl
  |false=>
   simp only[zal]
   split
   ·refine two true _ (by omega) (fun _=>rfl) ?_;rcases q4 with q|q|q|q<;>rw[q]<;>rfl
   ·rename_i h
    split
    ·exact one false 10 (.inr rfl) (by omega) rfl
    split
    ·exact three false rfl (by omega)
    ·refine two false _ (by omega) (by omega) ?_;rcases q2 with q|q<;>rw[q]<;>rfl
theorem zfF {vars:Int} (hv:0≤vars) (hv2:vars≤16) (t:Bool) {bs:List Int} (hb:zcC bs):zbm (zhg vars t bs) vars (tyOf t)=0∧exOk (zhg vars t bs):=by
 have h:=zvj hv 4 t (bs.take 60) 0 fun b hm=>hb b (List.mem_of_mem_take hm);have hs:=h.sz;have hd:=h.dep;unfold zhg;refine⟨zng hv hv2 h.wf ?_ (by omega) h.kind (ziu t),zsV _ _ h.wf⟩;rw[if_neg (by omega)] at hs
 split at hs<;>omega
theorem zf0 {n:Int}:∀{l:List Int} {p:Option Int},l.Pairwise (· < ·)→(∀x∈l,0≤x∧x<n)→(∀y,p=some y→∀x∈l,y<x)→zaO n l p=0
 |[],_,_,_,_=>rfl
 |x::r,p,hs,hr,hp=>by
  simp only[zaO];have h1:=hr x (by simp);rw[if_neg (by omega),if_neg]
  ·rw[List.pairwise_cons] at hs;refine zf0 hs.2 (fun y hy=>hr y (by simp[hy])) (fun y e z hz=>?_);simp only[Option.some.injEq] at e;subst e;exact hs.1 z hz
  ·cases p with
   |none=>simp
   |some y=>
    have:=hp y rfl x (by simp);simp only[Option.any_some,decide_eq_true_eq];omega
theorem zu0 (marks:Int) (L:Nat):zaO (L:Int) (mrks marks L) none=0:=by
 refine zf0 ?_ (fun x hx=>?_) (by simp)
 ·unfold mrks;rw[List.pairwise_map];exact (List.Pairwise.filter _ List.pairwise_lt_range).imp fun h=>by omega
 ·unfold mrks at hx;simp only[List.mem_map,List.mem_filter,List.mem_range] at hx;obtain⟨i,⟨h1,_⟩,rfl⟩:=hx;omega
structure vrOk (v:Vr):Prop where
 lo:-4≤v.low
 hi:v.high≤7
 w:v.low≤v.high∧v.high≤v.low+3
 ini:v.low≤v.init∧v.init≤v.high
 nm:v.name.size=2
theorem zw3 (i:Nat) {p:Int×Int} (hp:zfU p):vrOk (rngV i p):=by
 have h1:=Int.tmod_lt_of_pos p.1 (show (0:Int)<5 by decide);have h2:=Int.lt_tmod_of_pos p.1 (show (0:Int)<5 by decide);have h3:=Int.emod_nonneg (p.2%256/4) (show p.2%256%4+1≠0 by omega);have h4:=Int.emod_lt_of_pos (p.2%256/4) (show 0<p.2%256%4+1 by omega);refine⟨?_,?_,?_,?_,zhX i⟩<;>simp only[rngV]<;>omega
theorem zno {l:List (Int×Int)} (h:∀p∈l,zfU p):∀v∈zdE l,vrOk v:=by
 intro v hv;simp only[zdE,List.mem_map,List.mem_range] at hv;obtain⟨i,hi,rfl⟩:=hv;have:l.getD i (0,0)=l[i]'(by omega):=by simp[show i<l.length by omega]
 rw[this];exact zw3 i (h _ (List.getElem_mem _))
theorem zfL {ds:List Vr} {v:Vr} (hn:zaW v.name=true) (hd:ds.any (fun x=>x.name.toList==v.name.toList)=false) (h:vrOk v):checkVr ds v=none:=by
 have:=h.lo;have:=h.hi;have:=h.w;have:=h.ini;unfold checkVr;rw[if_neg (by rw[hn];simp),if_neg (by rw[hd];simp),if_neg,if_neg (by omega),if_neg (by omega)];simp only[checkVr.large,Bool.or_eq_true,decide_eq_true_eq];omega
theorem zuD {l:List (Int×Int)} (hl:l.length≤2) (h:∀p∈l,zfU p):zbz (zdE l)=0:=by
 have hlen:(zdE l).length≤2:=by rw[zgJ];omega
 unfold zbz;rw[if_neg (by omega)];have hok:=zno h;have n0:zaW (zj3 0)=true:=by kernel_rfl
 have n1:zaW (zj3 1)=true:=by kernel_rfl
 have n2:((zj3 0).toList==(zj3 1).toList)=false:=by kernel_rfl
 match l,hl with
 |[],_=>rfl
 |[a],_=>
  have e:zdE [a]=[rngV 0 a]:=rfl;rw[e] at hok ⊢;simp only[zbh];rw[zfL n0 (by simp) (hok _ (by simp))]
 |[a,b],_=>
  have e:zdE [a,b]=[rngV 0 a,rngV 1 b]:=rfl;rw[e] at hok ⊢;simp only[zbh];rw[zfL n0 (by simp) (hok _ (by simp))];simp only;rw[zfL n1 ?_ (hok _ (by simp))];simp only[List.take_succ_cons,List.take_zero,List.any_cons,List.any_nil,Bool.or_false];exact n2
def leMv (x y:Mv):Prop:=¬(y.frm<x.frm∨(y.frm=x.frm∧y.ev<x.ev))
theorem zh3 {x y z:Mv} (h:leMv x y) (h':leMv y z):leMv x z:=by unfold leMv at *;omega
theorem znO {x y:Mv}:gtMv x y=true↔¬leMv x y:=by
 unfold gtMv leMv;rw[decide_eq_true_eq];omega
theorem zhV {l:List Mv} {y:Mv} (hs:l.Pairwise leMv):∀n,n≤l.length→(∀x∈l.drop n,leMv y x)→(∀x∈l.take (posR l y n),leMv x y)∧∀x∈l.drop (posR l y n),leMv y x
 |0,_,h=>⟨by simp[posR],h⟩
 |n+1,hn,h=>by
  simp only[posR];rw[List.getElem?_eq_getElem (by omega)];simp only
  cases hg:gtMv l[n] y with
  |true=>
   rw[cond_true];refine zhV hs n (by omega) fun x hx=>?_;rw[List.drop_eq_getElem_cons (by omega)] at hx;rcases List.mem_cons.1 hx with rfl|hx
   ·have:=znO.1 hg;unfold leMv at *;omega
   ·exact h x hx
  |false=>
   rw[cond_false];refine⟨fun x hx=>?_,h⟩;have hle:leMv l[n] y:=by
    apply Classical.byContradiction
    intro hc;rw[znO.2 hc] at hg;cases hg
   rw[List.take_add_one,List.getElem?_eq_getElem (by omega)] at hx;simp only[List.mem_append,Option.toList,List.mem_singleton] at hx;rcases hx with hx|rfl
   ·obtain⟨j,hj,rfl⟩:=List.mem_take_iff_getElem.1 hx;have hjn:j<n:=by omega
    exact zh3 (List.pairwise_iff_getElem.1 hs j n (by omega) (by omega) hjn) hle
   ·exact hle
theorem zp3 {l:List Mv} {y:Mv} (hs:l.Pairwise leMv):(ziX l y).Pairwise leMv:=by
 have h:=zhV (y:=y) hs l.length (Nat.le_refl _) (by simp);unfold ziX;rw[List.pairwise_append];refine⟨hs.sublist (List.take_sublist _ _),?_,?_⟩
 ·rw[List.pairwise_cons];exact⟨h.2,hs.sublist (List.drop_sublist _ _)⟩
 ·intro a ha b hb;rcases List.mem_cons.1 hb with rfl|hb
  ·exact h.1 a ha
  ·exact zh3 (h.1 a ha) (h.2 b hb)
theorem zxE {l:List Mv} {y x:Mv}:x∈ziX l y→x∈l∨x=y:=by
 unfold ziX;intro h;simp only[List.mem_append,List.mem_cons] at h;rcases h with h|rfl|h
 ·exact .inl (List.mem_of_mem_take h)
 ·exact .inr rfl
 ·exact .inl (List.mem_of_mem_drop h)
theorem znz {P:Mv→Prop} {locs n:Int} {l:List Lin} (h:∀x∈l,P (mvOf locs n x)):∀i,i≤l.length→(mvsL locs n l i).Pairwise leMv∧∀y∈mvsL locs n l i,P y
 |0,_=>by simp[mvsL]
 |i+1,hi=>by
  obtain⟨h1,h2⟩:=znz h i (by omega);rw[zgX (by omega)];refine⟨zp3 h1,fun y hy=>?_⟩;rcases zxE hy with hy|rfl
  ·exact h2 y hy
  ·exact h _ (List.getElem_mem _)
structure mvGood (L n:Int) (x:Mv):Prop where
 frm:0≤x.frm∧x.frm<L
 to:0≤x.to∧x.to<L
 ev:x.ev=0∨x.ev=1∨x.ev=2
 g:zbm x.g n 2=0
 us:x.us=[]∨∃u,x.us=[u]∧0≤u.v∧u.v<n∧zbm u.x n 1=0∧exOk u.x
 gok:exOk x.g
theorem zpm {n:Int} (h:0≤n) (h2:n≤16):zbm trueE n 2=0:=zng h h2 ⟨rfl,⟨rfl,trivial⟩,⟨rfl,trivial⟩,trivial⟩ (by decide) (by decide) rfl (by decide)
theorem zwC:exOk trueE:=⟨by simp[zar],⟨Nat.zero_le _,trivial⟩,⟨Nat.zero_le _,trivial⟩,trivial⟩
theorem zr5 {L n:Int} (hL:0<L) (hn:0≤n) (hn2:n≤16) {x:Lin} (hx:linOk x):mvGood L n (mvOf L n x):=by
 obtain⟨h0,h1,h2,hg,hgl,hu,hul⟩:=hx;have hb0:=zfs hu;refine⟨⟨Int.emod_nonneg _ (by omega),Int.emod_lt_of_pos _ hL⟩,⟨Int.emod_nonneg _ (by omega),Int.emod_lt_of_pos _ hL⟩,?_,?_,?_,?_⟩
 ·show x.a1%3=0∨x.a1%3=1∨x.a1%3=2;omega
 ·show zbm (zfW n x.g) n 2=0;unfold zfW
  split
  ·exact (zfF hn hn2 false fun b hb=>hg b (List.mem_of_mem_take hb)).1
  ·exact zpm hn hn2
 ·show zjw n x.u=[]∨_;unfold zjw
  split
  ·rename_i h;have ht:=zfF hn hn2 true (bs:=(x.u.take 12).drop 1) fun b hb=>hu b (List.mem_of_mem_take (List.mem_of_mem_drop hb));have h2:0<n:=h.2;exact .inr ⟨⟨b0 x.u%n,zhg n true ((x.u.take 12).drop 1)⟩,(by show zjw n x.u=_;unfold zjw;rw[if_pos h]),Int.emod_nonneg _ (by omega),Int.emod_lt_of_pos _ h2,ht.1,ht.2⟩
  ·exact .inl rfl
 ·show exOk (zfW n x.g);unfold zfW
  split
  ·exact (zfF hn hn2 false fun b hb=>hg b (List.mem_of_mem_take hb)).2
  ·exact zwC
structure made (m:Ext):Prop where
 al:m.alpha=[0,1,2]
 lo:1≤m.locs∧m.locs≤4
 ini:m.init=0
 vl:m.vars.length≤2
 v:∀v∈m.vars,vrOk v
 ml:m.moves.length≤8
 mv:∀x∈m.moves,mvGood m.locs m.vars.length x
 sorted:m.moves.Pairwise leMv
 ve:zbz m.vars=0
 ma:zaO m.locs m.marked none=0
 mal:m.marked.length≤4
theorem zr9 {k:Sk} (hk:skOk k):made (ziT k):=by
 have hl:=hk.locs;have hL:1≤zcV k∧zcV k≤4:=by unfold zcV;omega
 have hp:∀p∈k.rngs.take 2,zfU p:=fun p h=>hk.r p (List.mem_of_mem_take h);have hv2:(zdE (k.rngs.take 2)).length≤2:=by rw[zgJ,List.length_take];omega
 have hall:=znz (P:=mvGood (zcV k) (zdE (k.rngs.take 2)).length) (locs:=zcV k) (n:=(zdE (k.rngs.take 2)).length) (l:=k.lines) (fun x hx=>zr5 (by omega) (by omega) (by omega) (hk.l x hx)) (min k.lines.length 8) (by omega);have hml:=znA k.marks (zcV k);refine⟨rfl,⟨?_,?_⟩,rfl,hv2,zno hp,?_,hall.2,hall.1,zuD (by rw[List.length_take];omega) hp,zu0 _ _,?_⟩
 ·show (1:Int)≤(zcV k:Int);omega
 ·show (zcV k:Int)≤4;omega
 ·show (mvsL _ _ _ _).length≤8;rw[ziP (by omega)];omega
 ·show (mrks _ _).length≤4;omega
theorem zxn {m:Ext} (h:made m):extOk m:=by
 refine⟨by rw[h.al];simp[zar],?_,?_,fun v hv=>?_,?_,fun x hx=>?_⟩
 ·have:=h.mal;simp only[zar];omega
 ·have:=h.vl;simp only[zar];omega
 ·have:=(h.v v hv).nm;simp only[zar];omega
 ·have:=h.ml;simp only[zar];omega
 ·have hg:=h.mv x hx;refine⟨hg.gok,?_,fun u hu=>?_⟩
  ·rcases hg.us with e|⟨u,e,_⟩<;>rw[e]<;>simp[zar]
  ·rcases hg.us with e|⟨u',e,h1⟩
   ·rw[e] at hu;simp at hu
   ·rw[e] at hu;simp only[List.mem_singleton] at hu;subst hu;exact h1.2.2.2
end Go.AI
namespace Go.AI
open Go.Proofs
theorem zdh (c:UInt8) (i:Nat) (h:i≤1000):(zbA c i).size≤zar:=by
 have:=zpU c i h;simp only[zar];omega
theorem zeb (k:Sk22):(zcn k).tpls=mkT k:=by unfold zcn;split<;>rfl
theorem zeK (k:Sk22):(zcn k).comps=(mkI k).1:=by unfold zcn;split<;>rfl
theorem zfA (k:Sk22):(zcn k).reqs=(mkI k).2:=by unfold zcn;split<;>rfl
theorem zg2 (k:Sk22):(zcn k).evs=evs4:=by unfold zcn;split<;>rfl
theorem zpX (k:Sk22):(zcn k).name=⟨#[109]⟩:=by unfold zcn;split<;>rfl
theorem znU (T:List Tpl) (C:List Ins) (acc:List NLc) (w:Whr):(excA T C acc w).length≤acc.length+1:=by
 unfold excA
 by_cases h:(match acc with|[]=>false|a::_=>sB a.1 (C.getD (w.1%(C.length:Int)).toNat zgs).name)=true
 ·rcases acc with _|⟨a,r⟩
  ·cases h
  ·have h:sB a.1 (C.getD (w.1%(C.length:Int)).toNat zgs).name=true:=h;simp only[h,if_true];omega
 ·rcases acc with _|⟨a,r⟩
  ·simp
  ·have h:¬sB a.1 (C.getD (w.1%(C.length:Int)).toNat zgs).name=true:=h;simp only[h,if_false,Bool.false_eq_true,List.length_append,List.length_singleton];omega
theorem zhZ {k:Sk22}:(zcn k).excs.length≤2∧∀x∈(zcn k).excs,x.name.size≤zar∧x.locals.length≤2:=by
 unfold zcn
 split
 ·simp
 ·refine⟨by simp only[zeQ,List.length_map,List.length_range];omega,fun x hx=>?_⟩;obtain⟨i,hi,rfl⟩:=List.mem_map.1 hx;have hi:=List.mem_range.1 hi;refine⟨zdh 120 i (by omega),?_⟩;have h1:=znU (mkT k) (mkI k).1 (excA (mkT k) (mkI k).1 [] (k.excs.getD i zWhr).1) (k.excs.getD i zWhr).2;have h2:=znU (mkT k) (mkI k).1 [] (k.excs.getD i zWhr).1;unfold zvw;simp only;simp only[List.length_nil] at h2;omega
theorem zr7 (k:Sk22):(mkI k).1.length≤3∧(mkI k).2.length≤2:=zgj _ _ _
theorem zpY {k:Sk22}:(zcn k).cons.length≤1∧∀x∈(zcn k).cons,x.name.size≤zar∧x.terms.length≤3:=by
 have hl:=(zr7 k).1;unfold zcn
 split
 ·simp
 ·simp only
  split
  ·refine⟨by simp,fun x hx=>?_⟩;rw[List.mem_singleton.1 hx];refine⟨by show (1:Nat)≤zar;decide,?_⟩;show (zcK _).length≤3;rw[zdb];exact hl
  ·simp
theorem zv7 (k:Sk22):∀x∈(mkI k).1++(mkI k).2,insOk x:=by
 refine zef (P:=insOk) _ _ _ fun i hi=>?_;have:=zhc k;refine⟨zdh 105 i (by omega),?_⟩;show (ordS _ 3).1.length≤1000000;rw[ze5];decide
theorem zv6 {k:Sk22} (hk:sk22Ok k):∀t∈mkT k,tplOk t∧t.mach.moves.length≤19:=by
 intro t h;obtain⟨j,h1,h2,rfl⟩:=zlh h;have hs:=hk.t _ (zfc (d:=zSk) h2);have hm:=zr9 hs;have hl:zcV (k.tpls.getD j zSk)≤4:=by have:=hs.locs;unfold zcV;omega
 have ht3:=ziQ k;have hml:=hm.ml;refine⟨⟨zdh 116 j (by omega),?_,fun s hsm=>?_,by show (3:Nat)≤1000000;decide,fun s hsm=>?_,zxn hm⟩,by show (ziT _).moves.length≤19;omega⟩
 ·show ((List.range _).map _).length≤1000000;simp only[List.length_map,List.length_range];omega
 ·obtain⟨i,hi,rfl⟩:=List.mem_map.1 hsm;have hi:=List.mem_range.1 hi;exact zdh 115 i (by omega)
 ·have hsm:s∈abc3:=hsm;unfold abc3 at hsm;simp only[List.mem_cons,List.mem_nil_iff,or_false] at hsm;rcases hsm with rfl|rfl|rfl<;>(show (1:Nat)≤zar;decide)
theorem zu2 {k:Sk22} (hk:sk22Ok k):mdlOk (zcn k):=by
 have ht3:=ziQ k;have hI:=zr7 k;have hex:=zhZ (k:=k);have hcn:=zpY (k:=k);refine {ev:=?_,tp:=?_,co:=?_,rq:=?_,ex:=?_,cn:=?_,nm:=?_,evn:=?_,tpk:=?_,cok:=?_,rqk:=?_,exk:=?_,cnk:=?_}
 ·rw[zg2];decide
 ·rw[zeb];omega
 ·rw[zeK];omega
 ·rw[zfA];omega
 ·omega
 ·omega
 ·rw[zpX];show (1:Nat)≤zar;decide
 ·rw[zg2];intro x hx;unfold evs4 at hx;simp only[List.mem_cons,List.mem_nil_iff,or_false] at hx;rcases hx with rfl|rfl|rfl|rfl<;>(show (2:Nat)≤zar;decide)
 ·rw[zeb];exact fun t h=>(zv6 hk t h).1
 ·rw[zeK];exact fun x h=>zv7 k x (List.mem_append_left _ h)
 ·rw[zfA];exact fun x h=>zv7 k x (List.mem_append_right _ h)
 ·exact fun x h=>⟨(hex.2 x h).1,by have:=(hex.2 x h).2;omega⟩
 ·exact fun x h=>⟨(hcn.2 x h).1,by have:=(hcn.2 x h).2;omega⟩
theorem zu3 {k:Sk22} (hk:sk22Ok k):∀t∈(zcn k).tpls,t.mach.moves.length≤19:=by
 rw[zeb];exact fun t h=>(zv6 hk t h).2
end Go.AI
namespace Go.AI
open Go.Proofs
set_option maxRecDepth 20000
theorem znQ (O:List Heap) (b:List ByteArray) (s:ByteArray) (hl:b.length≤1000000) (hs:s.size≤zar):zao Tryz.prog 127 [ssD (b++[s])] O (ii (nmE b s)) [] O:=by
 have w1:IntKind.i64.wrap (((b++[s]).length:Int)-1)=(b.length:Int):=by rw[List.length_append,List.length_singleton,w64 (by omega) (by omega)];omega
 have hlen:(b++[s]).length=b.length+1:=by simp
 have gs:((b++[s]).map fun s=>[strI s])[(IntKind.i64.wrap (((b++[s]).length:Int)-1)).toNat]? = some [strI s]:=by rw[w1];simp
 have eT:I.sl 1 (IntKind.i64.wrap (((b++[s]).length:Int)-1)).toNat (((b++[s]).map fun s=>[strI s]).take (IntKind.i64.wrap (((b++[s]).length:Int)-1)).toNat)=zhB b:=by rw[w1];simp[zhB]
 have hn:=fun O=>zdv O s hs;have hc:∀O,zao Tryz.prog 39 [.i (.sl 1 (IntKind.i64.wrap (((b++[s]).length:Int)-1)).toNat (((b++[s]).map fun s=>[strI s]).take (IntKind.i64.wrap (((b++[s]).length:Int)-1)).toNat)),sD s] O (ii (nmIx b s)) [] O:=fun O=>by
  rw[eT];exact zcz O b s hl
 unfold nmE;rw[zdU];generalize zaW s=nb at *;generalize nmIx b s=q at *;refine zaa Tk Tryz.func127 rfl Tryz.call127 Tryz.ntmps127 (Nat.le_of_ble_eq_true rfl) fun E=>?_;refine zai Tk Tryz.func127 ?_;refine zad Tk Tryz.func127 (by rw[w1,hlen];omega) ?_;refine zap Tk Tryz.func127 (gs) ?_;refine zaj Tk Tryz.func127 (hn _) rfl rfl rfl rfl rfl ?_;refine zae Tk Tryz.func127 rfl (fun c1=>?_) (fun c1=>?_)
 ·have c1:nb=false:=by simpa using c1
  rw[if_pos c1];refine zag Tk (r:=ii 7) rfl rfl rfl trivial rfl rfl ?_;rfl
 have c1:¬nb=false:=by simpa using c1
 rw[if_neg c1];refine zav Tk Tryz.func127 zaz rfl ?_;refine zas Tk (by rw[w1,hlen];omega) ?_;refine zas Tk (by rw[w1,hlen];omega) ?_;refine zaE Tk (gs) ?_;refine zaJ Tk (fun _=>hc _) rfl rfl rfl ?_;refine zaB Tk Tryz.func127 (by kernel_rfl) ?_;refine zae Tk Tryz.func127 rfl (fun c2=>?_) (fun c2=>?_)
 ·have c2:q≥0:=of_decide_eq_true c2;rw[if_pos (by simpa using c2)];refine zag Tk (r:=ii 8) rfl rfl rfl trivial rfl rfl ?_;rfl
 have c2:¬q≥0:=of_decide_eq_false c2;rw[if_neg (by simpa using c2)];refine zag Tk (r:=ii 0) rfl rfl rfl trivial rfl rfl ?_;rfl
theorem zfd (O:List Heap) (l:List ByteArray) (i:Nat) (hi:i<l.length) (hl:l.length≤1000000) (hs:∀s∈l,s.size≤zar) :
  zao Tryz.prog 127 [.i (.sl 1 (IntKind.i64.wrap ((i:Int)+1)).toNat ((l.map fun s=>[strI s]).take (IntKind.i64.wrap ((i:Int)+1)).toNat))] O (ii (nmE (l.take i) l[i])) [] O:=by
 have h:=znQ O (l.take i) l[i] (by rw[List.length_take];omega) (hs _ (List.getElem_mem hi));rw[←List.take_succ_eq_append_getElem hi] at h;rw[zaC (n:=1000001) (by omega) (by decide),Int.toNat_natCast,←zdI (fun s=>[strI s]) 1 (by omega:i+1≤l.length)];exact h
theorem zsd (O:List Heap) (l:List ByteArray) (hl:l.length≤1000000) (hs:∀s∈l,s.size≤zar):zao Tryz.prog 128 [ssD l] O (ii (nmsE [] l)) [] O:=by
 generalize hR:nmsE [] l=R;refine zaa Tk Tryz.func128 rfl Tryz.call128 Tryz.ntmps128 (Nat.le_of_ble_eq_true rfl) fun E=>?_;refine zai Tk Tryz.func128 ?_;refine zah ?_;refine zak (fun i:Nat=>[(0,ssD l),(3,ii i)]) (fun _=>[]) (fun _=>O) 19
  (fun i=>i≤l.length∧nmsE (l.take i) (l.drop i)=R) (fun i=>l.length-i) 0 ⟨Nat.zero_le _,hR⟩ ⟨rfl,rfl,trivial⟩ rfl trivial rfl rfl ?_
 rintro i ⟨hi,hno⟩ ih;clear hR;refine zai Tk Tryz.func128 ?_;refine zae Tk Tryz.func128 rfl (fun g1=>?_) (fun g1=>?_)
 ·have h1:i<l.length:=by simpa using g1
  have ht:l.take (i+1)=l.take i++[l[i]]:=List.take_succ_eq_append_getElem h1;rw[List.drop_eq_getElem_cons h1] at hno;simp only[nmsE,←ht] at hno;have hw:IntKind.i64.wrap ((i:Int)+1)=((i+1:Nat):Int):=zaC (n:=1000001) (by omega) (by decide);have hf:=fun O=>zfd O l i h1 hl hs;generalize nmE (l.take i) l[i]=e at *;refine zad Tk Tryz.func128 (by exact⟨by rw[hw];omega,by show IntKind.i64.wrap ((i:Int)+1)≤(l.length:Int);rw[hw];omega⟩) ?_;refine zaj Tk Tryz.func128 (hf _) rfl rfl rfl rfl rfl ?_;refine zae Tk Tryz.func128 rfl (fun c1=>?_) (fun c1=>?_)
  ·have c1:e≠0:=bneT c1;rw[if_pos c1] at hno;subst hno;refine zag Tk (r:=ii e) rfl rfl rfl trivial rfl rfl ?_;rfl
  have c1:e=0:=bneF c1;rw[if_neg (fun h=>h c1)] at hno;refine zah ?_;exact ih (i+1) _ _ ⟨h1,hno⟩ (by omega) ⟨rfl,congrArg ii hw,trivial⟩ rfl trivial rfl rfl
 ·have h1:l.length≤i:=by simpa using g1
  rw[List.drop_eq_nil_of_le h1] at hno;have hno:(0:Int)=R:=hno;subst hno;refine zag Tk (r:=ii 0) rfl rfl rfl trivial rfl rfl ?_;rfl
theorem zpp (O:List Heap) (m:Mdl) (i:Nat) (hi:i<m.tpls.length) (hm:mdlOk m):zao Tryz.prog 50 [mdlD m,ii i] O (ii (if nmE ((m.tpls.map (·.name)).take i) m.tpls[i].name≠0 then nmE ((m.tpls.map (·.name)).take i) m.tpls[i].name else tplE m.tpls[i])) [] O:=by
 have htp:=hm.tp;have hx:=hm.tpk m.tpls[i] (List.getElem_mem hi);have hn:=fun O=>zgV O m htp;have hf:=fun O=>zfd O (m.tpls.map (·.name)) i (by rw[List.length_map];exact hi) (by rw[List.length_map];exact htp) (fun s hs=>by
  obtain⟨t,ht,rfl⟩:=List.mem_map.1 hs;exact (hm.tpk t ht).nm)
 rw[List.getElem_map] at hf;have gt:(m.tpls.map tplI)[(i:Int).toNat]? = some (tplI m.tpls[i]):=zan (f:=tplI) hi;have hw:IntKind.i64.wrap ((i:Int)+1)=((i+1:Nat):Int):=zaC (n:=1000001) (by omega) (by decide);have h1:=fun O=>zsd O m.tpls[i].locs hx.ll hx.ls;have h2:=fun O=>zsd O m.tpls[i].evs hx.el hx.es;have h3:=fun O=>zjk O m.tpls[i].mach hx.mo;have hal:=hx.mo.al;have hel:=hx.el;clear hx;unfold tplE;have hNl:(m.tpls.map (·.name)).length=m.tpls.length:=List.length_map _;generalize nmE ((m.tpls.map (·.name)).take i) m.tpls[i].name=e0 at *;generalize nmsE [] m.tpls[i].locs=e1 at *;generalize nmsE [] m.tpls[i].evs=e2 at *;generalize chk m.tpls[i].mach=e3 at *;generalize m.tpls[i]=x at *;generalize m.tpls.map (·.name)=N at *;obtain⟨nm,locs,evs,⟨al,lo,ini,mk,vr,mo⟩⟩:=x;simp only at h1 h2 h3 hal hel ⊢
 refine zaa Tk Tryz.func50 rfl Tryz.call50 Tryz.ntmps50 (Nat.le_of_ble_eq_true rfl) fun E=>?_;refine zai Tk Tryz.func50 ?_;refine zad Tk Tryz.func50 (by exact⟨by omega,by show (i:Int)<(m.tpls.length:Int);omega⟩) ?_;refine zap Tk Tryz.func50 (gt) ?_;refine zaj Tk Tryz.func50 (hn _) rfl rfl rfl rfl rfl ?_;refine zad Tk Tryz.func50 (by exact⟨by rw[hw];omega,by show IntKind.i64.wrap ((i:Int)+1)≤(N.length:Int);rw[hw];omega⟩) ?_;refine zaj Tk Tryz.func50 (hf _) rfl rfl rfl rfl rfl ?_;refine zae Tk Tryz.func50 rfl (fun c0=>?_) (fun c0=>?_)
 ·have c0:e0≠0:=bneT c0;rw[if_pos c0];refine zag Tk (r:=ii e0) rfl rfl rfl trivial rfl rfl ?_;rfl
 have c0:¬e0≠0:=fun h=>h (bneF c0);rw[if_neg c0];refine zae Tk Tryz.func50 rfl (fun c1=>?_) (fun c1=>?_)
 ·have c1:(locs.length:Int)≠lo:=bneT c1;rw[if_pos c1];refine zag Tk (r:=ii 4) rfl rfl rfl trivial rfl rfl ?_;rfl
 have c1:¬(locs.length:Int)≠lo:=fun h=>h (bneF c1);rw[if_neg c1];refine zaj Tk Tryz.func50 (h1 _) rfl rfl rfl rfl rfl ?_;refine zae Tk Tryz.func50 rfl (fun c2=>?_) (fun c2=>?_)
 ·have c2:e1≠0:=bneT c2;rw[if_pos c2];refine zag Tk (r:=ii e1) rfl rfl rfl trivial rfl rfl ?_;rfl
 have c2:¬e1≠0:=fun h=>h (bneF c2);rw[if_neg c2];refine zaj Tk Tryz.func50 (h2 _) rfl rfl rfl rfl rfl ?_;refine zae Tk Tryz.func50 rfl (fun c3=>?_) (fun c3=>?_)
 ·have c3:e2≠0:=bneT c3;rw[if_pos c3];refine zag Tk (r:=ii e2) rfl rfl rfl trivial rfl rfl ?_;rfl
 have c3:¬e2≠0:=fun h=>h (bneF c3);rw[if_neg c3];refine zae Tk Tryz.func50 rfl (fun c4=>?_) (fun c4=>?_)
 ·have c4:(al.length:Int)≠(evs.length:Int):=bneT c4;rw[if_pos (by omega)];refine zag Tk (r:=ii 6) rfl rfl rfl trivial rfl rfl ?_;rfl
 have c4:al.length=evs.length:=by have:(al.length:Int)=(evs.length:Int):=bneF c4;omega
 rw[if_neg (by omega)];refine zah ?_;refine zak (fun k:Nat=>[(5,.own 0 5 0 0),(9,ii k)]) (fun _=>[(5,.box (tplC ⟨nm,locs,evs,⟨al,lo,ini,mk,vr,mo⟩⟩))]) (fun _=>O) 69
  (fun k=>k≤al.length∧∀j (h:j<al.length),j<k→al[j]=(j:Int)) (fun k=>al.length-k) 0 ⟨Nat.zero_le _,fun j _ h=>absurd h (Nat.not_lt_zero _)⟩ ⟨rfl,rfl,trivial⟩ rfl ⟨rfl,trivial⟩ rfl rfl ?_
 rintro k ⟨hk,hno⟩ ih;refine zai Tk Tryz.func50 ?_;refine zae Tk Tryz.func50 rfl (fun g1=>?_) (fun g1=>?_)
 ·have g1:k<evs.length:=by simpa using g1
  have g1:k<al.length:=by omega
  have gx:(al.map fun x=>[vi x])[(k:Int).toNat]? = some [vi al[k]]:=zan (f:=fun x=>[vi x]) g1;refine zad Tk Tryz.func50 (by exact⟨by omega,by show (k:Int)<(al.length:Int);omega⟩) ?_;refine zap Tk Tryz.func50 (gx) ?_;refine zae Tk Tryz.func50 rfl (fun c5=>?_) (fun c5=>?_)
  ·have c5:al[k]≠(k:Int):=bneT c5;rw[if_pos fun e=>c5 ((ziF c4).1 e k g1)];refine zag Tk (r:=ii 6) rfl rfl rfl trivial rfl rfl ?_;rfl
  have c5:al[k]=(k:Int):=bneF c5;refine zah ?_;refine ih (k+1) _ _ ⟨g1,fun j hj h=>?_⟩ (by omega) ⟨rfl,congrArg ii (zaC (n:=zar) (by omega) (by decide)),trivial⟩ rfl ⟨rfl,trivial⟩ rfl rfl
  by_cases e:j=k
  ·subst e;exact c5
  ·exact hno j hj (by omega)
 ·have g1:evs.length≤k:=by simpa using g1
  rw[if_neg (fun h=>h ((ziF c4).2 fun j hj=>hno j hj (by omega)))];refine zaj Tk Tryz.func50 (h3 _) rfl rfl rfl rfl rfl ?_;refine zag Tk (r:=ii e3) rfl rfl rfl trivial rfl rfl ?_;rfl
theorem zsC (l:List Ins) (s:ByteArray):hasB (l.flatMap (·.evs)) s=l.any fun x=>decide (nmIx x.evs s≥0):=by
 induction l with
 |nil=>rfl
 |cons x r ih=>
  rw[List.flatMap_cons,List.any_cons,←ih];have:decide (nmIx x.evs s≥0)=hasB x.evs s:=(zdU x.evs s).symm;rw[this];unfold hasB;rw[List.any_append]
theorem zlr (O:List Heap) (m:Mdl) (x:Ins) (b:List ByteArray) (rq:Bool) (hm:mdlOk m) (hx:insOk x) (hb:b.length≤1000000) :
  zao Tryz.prog 129 [mdlD m,insD x,ssD (b++[x.name]),bb rq] O (ii (if nmE b x.name≠0 then nmE b x.name else if rq=true then reqE m x else insE m x)) [] O:=by
 have hcl:=hm.co;have hce:∀c∈m.comps,c.evs.length≤1000000:=fun c hc=>(hm.cok c hc).el;have hel:=hx.el;have h1:=fun O=>znQ O b x.name hb hx.nm;have h2:=fun O=>zgV O m hm.tp;have h3:=fun O=>zcz O (m.tpls.map (·.name)) x.tpl (by rw[List.length_map];exact hm.tp);have h4:=fun O=>zr4 O m hm.ev;have h5:=fun O s=>zcz O (m.evs.map (·.name)) s (by rw[List.length_map];exact hm.ev);obtain⟨xn,xt,xe⟩:=x;simp only at h1 h3 hel ⊢;have hRq:reqE m ⟨xn,xt,xe⟩=if insE m ⟨xn,xt,xe⟩≠0 then insE m ⟨xn,xt,xe⟩ else if xe.any (fun s=>!(m.comps.any fun c=>decide (nmIx c.evs s≥0)))=true then 9 else 0:=by
  unfold reqE;simp only[zsC]
 rw[hRq];clear hRq;unfold insE;simp only;generalize nmE b xn=e0 at *;refine zaM [16] Tk Tryz.func129 rfl Tryz.call129 Tryz.ntmps129 (Nat.le_of_ble_eq_true rfl) fun E=>?_;refine zai Tk Tryz.func129 ?_;refine zaj Tk Tryz.func129 (h1 _) rfl rfl rfl rfl rfl ?_;refine zae Tk Tryz.func129 rfl (fun c0=>?_) (fun c0=>?_)
 ·have c0:e0≠0:=bneT c0;rw[if_pos c0];refine zag Tk (r:=ii e0) rfl rfl rfl trivial rfl rfl ?_;rfl
 have c0:¬e0≠0:=fun h=>h (bneF c0);rw[if_neg c0];clear h1;refine zav Tk Tryz.func129 zaz rfl ?_;refine zaJ Tk (fun _=>h2 _) rfl rfl rfl ?_;refine zaJ Tk (fun _=>h3 _) rfl rfl rfl ?_;refine zaB Tk Tryz.func129 (by kernel_rfl) ?_;rcases zdD Tpl.name m.tpls xt with ⟨f1,f2⟩|⟨k,t,f1,f2,f3⟩
 ·rw[f1];simp only[ne_eq,show (9:Int)≠0 by decide,not_false_eq_true,if_true,ite_self];rw[show nmIx (m.tpls.map (·.name)) xt = -1 from f2];refine gcT Tk Tryz.func129 rfl ?_;refine zag Tk (r:=ii 9) rfl rfl rfl trivial rfl rfl ?_;rfl
 rw[f2,f3];simp only;have hk:k<m.tpls.length:=(List.getElem?_eq_some_iff.1 f1).1;have htl:=hm.tp;have gt:(m.tpls.map tplI)[(k:Int).toNat]? = some (tplI t):=by rw[Int.toNat_natCast,List.getElem?_map,f1];rfl
 clear f1 f2 f3 h2 h3;obtain⟨tn,tl,te,⟨tal,tlo,tini,tmk,tvr,tmo⟩⟩:=t;simp only;refine zae Tk Tryz.func129 rfl (fun h=>absurd h (by simp)) (fun _=>?_);refine zav Tk Tryz.func129 zaz rfl ?_;refine zas Tk (by exact⟨by omega,by show (k:Int)<(m.tpls.length:Int);omega⟩) ?_;refine zaE Tk (gt) ?_;refine zaB Tk Tryz.func129 (by kernel_rfl) ?_;refine zae Tk Tryz.func129 rfl (fun c1=>?_) (fun c1=>?_)
 ·have c1:(xe.length:Int)≠(te.length:Int):=bneT c1;have c1:xe.length≠te.length:=by omega
  simp only[ne_eq,c1,not_false_eq_true,if_true,show ¬(4:Int)=0 by decide,ite_self];refine zag Tk (r:=ii 4) rfl rfl rfl trivial rfl rfl ?_;rfl
 have c1:(xe.length:Int)=(te.length:Int):=bneF c1;have c1:¬xe.length≠te.length:=by omega
 rw[if_neg c1];clear gt;generalize hE:zev m [] xe=E at *;generalize hR:(if rq=true then if E≠0 then E else if (xe.any fun s=>!m.comps.any fun c=>decide (nmIx c.evs s≥0))=true then 9 else 0 else E)=R at *;have hEq:E≠0→R=E:=fun h=>by
  rw[←hR,if_pos h]
  split<;>rfl
 apply zbK (P:=E=0) (s6:={ σ:=[(3,bb rq),(4,.own 0 4 0 0),(5,.own 0 5 0 0)],S:=[(4,.box (mdlC m)),(5,.box [.i (strI xn),.i (strI xt),ssD xe])]::O,n:=100})
 ·intro J;refine zah ?_;refine zak (fun i:Nat=>[(3,bb rq),(4,.own 0 4 0 0),(5,.own 0 5 0 0),(11,ii i)]) (fun _=>[(4,.box (mdlC m)),(5,.box [.i (strI xn),.i (strI xt),ssD xe])]) (fun _=>O) 100
   (fun i=>i≤xe.length∧zev m (xe.take i) (xe.drop i)=E) (fun i=>xe.length-i) 0 ⟨Nat.zero_le _,hE⟩ ⟨rfl,rfl,rfl,rfl,trivial⟩ rfl ⟨rfl,rfl,trivial⟩ rfl rfl ?_
  rintro i ⟨hi,hno⟩ ih
  skip
  refine zai Tk Tryz.func129 ?_;refine zae Tk Tryz.func129 rfl (fun g1=>?_) (fun g1=>?_)
  ·have g1:i<xe.length:=by simpa using g1
   have gs:(xe.map fun s=>[strI s])[(i:Int).toNat]? = some [strI xe[i]]:=zan (f:=fun s=>[strI s]) g1;have ht:xe.take (i+1)=xe.take i++[xe[i]]:=List.take_succ_eq_append_getElem g1;rw[List.drop_eq_getElem_cons g1] at hno;simp only[zev,←ht,zdU] at hno;have hi1:=fun O=>h5 O xe[i];have hi2:∀O,zao Tryz.prog 39 [.i (.sl 1 (i:Int).toNat ((xe.map fun s=>[strI s]).take (i:Int).toNat)),sD xe[i]] O (ii (nmIx (xe.take i) xe[i])) [] O:=fun O=>by
    rw[Int.toNat_natCast,←zdI (fun s=>[strI s]) 1 hi];exact zcz O (xe.take i) xe[i] (by rw[List.length_take];omega)
   generalize nmIx (m.evs.map (·.name)) xe[i]=q1 at *;generalize nmIx (xe.take i) xe[i]=q2 at *;generalize xe[i]=s at *;refine zav Tk Tryz.func129 zaz rfl ?_;refine zaJ Tk (fun _=>h4 _) rfl rfl rfl ?_;refine zas Tk (by exact⟨by omega,by show (i:Int)<(xe.length:Int);omega⟩) ?_;refine zaE Tk (gs) ?_;refine zaJ Tk (fun _=>hi1 _) rfl rfl rfl ?_;refine zaB Tk Tryz.func129 (by kernel_rfl) ?_;refine zae Tk Tryz.func129 rfl (fun c2=>?_) (fun c2=>?_)
   ·have c2:q1<0:=of_decide_eq_true c2;rw[if_pos (decide_eq_false (by omega))] at hno;have:=hEq (by rw[←hno];decide);rw[←hno] at this;subst this;refine zag Tk (r:=ii 9) rfl rfl rfl trivial rfl rfl ?_;rfl
   have c2:¬q1<0:=of_decide_eq_false c2;rw[if_neg (by simp;omega)] at hno;refine zav Tk Tryz.func129 zaz rfl ?_;refine zas Tk (by exact⟨by omega,by show (i:Int)≤(xe.length:Int);omega⟩) ?_;refine zas Tk (by exact⟨by omega,by show (i:Int)<(xe.length:Int);omega⟩) ?_;refine zaE Tk (gs) ?_;refine zaJ Tk (fun _=>hi2 _) rfl rfl rfl ?_;refine zaB Tk Tryz.func129 (by kernel_rfl) ?_;refine zae Tk Tryz.func129 rfl (fun c3=>?_) (fun c3=>?_)
   ·have c3:q2≥0:=of_decide_eq_true c3;rw[if_pos (by simpa using c3)] at hno;have:=hEq (by rw[←hno];decide);rw[←hno] at this;subst this;refine zag Tk (r:=ii 8) rfl rfl rfl trivial rfl rfl ?_;rfl
   have c3:¬q2≥0:=of_decide_eq_false c3;rw[if_neg (by simpa using c3)] at hno;refine zah ?_;exact ih (i+1) _ _ ⟨g1,hno⟩ (by omega) ⟨rfl,rfl,rfl,congrArg ii (zaC (n:=1000001) (by omega) (by decide)),trivial⟩ rfl ⟨rfl,rfl,trivial⟩ rfl rfl
  ·have g1:xe.length≤i:=by simpa using g1
   rw[List.drop_eq_nil_of_le g1] at hno;have hno:(0:Int)=E:=hno;refine zat ?_;exact zau (J hno.symm) ⟨rfl,rfl,rfl,trivial⟩ rfl ⟨rfl,rfl,trivial⟩ rfl rfl
 intro hE0;subst hE0;refine zai Tk Tryz.func129 ?_;refine g_go Tk Tryz.func129 ?_;simp only[ne_eq,not_true_eq_false,if_false] at hR;refine zah ?_;refine zak (fun i:Nat=>[(3,bb rq),(4,.own 0 4 0 0),(5,.own 0 5 0 0),(12,ii i)]) (fun _=>[(4,.box (mdlC m)),(5,.box [.i (strI xn),.i (strI xt),ssD xe])]) (fun _=>O) 100
  (fun i=>i≤xe.length∧(if rq=true then if ((xe.drop i).any fun s=>!m.comps.any fun c=>decide (nmIx c.evs s≥0))=true then (9:Int) else 0 else 0)=R) (fun i=>xe.length-i) 0 ⟨Nat.zero_le _,hR⟩ ⟨rfl,rfl,rfl,rfl,trivial⟩ rfl ⟨rfl,rfl,trivial⟩ rfl rfl ?_
 rintro i ⟨hi,hno⟩ ih;clear hE hR hEq;refine zai Tk Tryz.func129 ?_;refine zaK Tk Tryz.func129 rfl (fun g1=>?_) (fun g1=>?_);rotate_left
 ·have g1:xe.length≤i:=by simpa using g1
  rw[List.drop_eq_nil_of_le g1] at hno;have hno:(0:Int)=R:=by rw[←hno];cases rq<;>rfl
  subst hno;refine gcF Tk Tryz.func129 rfl ?_;refine zag Tk (r:=ii 0) rfl rfl rfl trivial rfl rfl ?_;rfl
 have g1:i<xe.length:=by simpa using g1
 refine zae Tk Tryz.func129 rfl (fun g2=>?_) (fun g2=>?_);rotate_left
 ·have g2:rq=false:=g2;subst g2;have hno:(0:Int)=R:=hno;subst hno;refine zag Tk (r:=ii 0) rfl rfl rfl trivial rfl rfl ?_;rfl
 have g2:rq=true:=g2;subst g2;rw[if_pos rfl,List.drop_eq_getElem_cons g1,List.any_cons] at hno;have gs:(xe.map fun s=>[strI s])[(i:Int).toNat]? = some [strI xe[i]]:=zan (f:=fun s=>[strI s]) g1;have hi1:ii (IntKind.i64.wrap ((i:Int)+1))=ii ((i+1:Nat):Int):=congrArg ii (zaC (n:=1000001) (by omega) (by decide));generalize xe[i]=s at *;refine zah ?_;refine zak (fun j:Nat=>[(3,bb true),(4,.own 0 4 0 0),(5,.own 0 5 0 0),(12,ii i),(13,bb ((m.comps.take j).any fun c=>decide (nmIx c.evs s≥0))),(14,ii j)]) (fun _=>[(4,.box (mdlC m)),(5,.box [.i (strI xn),.i (strI xt),ssD xe])]) (fun _=>O) 100
  (fun j=>j≤m.comps.length) (fun j=>m.comps.length-j) 0 (Nat.zero_le _) ⟨rfl,rfl,rfl,rfl,rfl,rfl,trivial⟩ rfl ⟨rfl,rfl,trivial⟩ rfl rfl ?_
 intro j hj ih2;have hj:j≤m.comps.length:=hj;refine zai Tk Tryz.func129 ?_;refine zae Tk Tryz.func129 rfl (fun g3=>?_) (fun g3=>?_)
 ·have g3:j<m.comps.length:=by simpa using g3
  have gx:(m.comps.map insI)[(j:Int).toNat]? = some (insI m.comps[j]):=zan (f:=insI) g3;have hidx:=fun O=>zcz O m.comps[j].evs s (hce m.comps[j] (List.getElem_mem g3));have hs:((m.comps.take (j+1)).any fun x=>decide (nmIx x.evs s≥0))=(((m.comps.take j).any fun x=>decide (nmIx x.evs s≥0))||decide (nmIx m.comps[j].evs s≥0)):=by
   rw[List.take_succ_eq_append_getElem g3,List.any_append];simp
  have hj1:ii (IntKind.i64.wrap ((j:Int)+1))=ii ((j+1:Nat):Int):=congrArg ii (zaC (n:=1000001) (by omega) (by decide));generalize ((m.comps.take j).any fun x=>decide (nmIx x.evs s≥0))=B at *;generalize m.comps[j]=c at *;obtain⟨cn,ct,ce⟩:=c;simp only at hidx hs;generalize nmIx ce s=q at *;refine zav Tk Tryz.func129 zaz rfl ?_;refine zbS Tk (fun g4=>?_) (fun g4=>?_)
  ·have g4:B=true:=g4;subst g4;refine zaB Tk Tryz.func129 (by kernel_rfl) ?_;refine zah ?_;refine ih2 (j+1) _ _ g3 (by omega) ⟨rfl,rfl,rfl,rfl,?_,hj1,trivial⟩ rfl ⟨rfl,rfl,trivial⟩ rfl rfl;rw[hs];rfl
  ·have g4:B=false:=g4;subst g4;refine zas Tk (by exact⟨by omega,by show (j:Int)<(m.comps.length:Int);omega⟩) ?_;refine zaE Tk (gx) ?_;refine zas Tk (by exact⟨by omega,by show (i:Int)<(xe.length:Int);omega⟩) ?_;refine zaE Tk (gs) ?_;refine zaJ Tk (fun _=>hidx _) rfl rfl rfl ?_;refine zaB Tk Tryz.func129 (by kernel_rfl) ?_;refine zah ?_;refine ih2 (j+1) _ _ g3 (by omega) ⟨rfl,rfl,rfl,rfl,?_,hj1,trivial⟩ rfl ⟨rfl,rfl,trivial⟩ rfl rfl;rw[hs];rfl
 ·have g3:m.comps.length≤j:=by simpa using g3
  rw[List.take_of_length_le g3];generalize (m.comps.any fun c=>decide (nmIx c.evs s≥0))=B at *;refine zae Tk Tryz.func129 rfl (fun g4=>?_) (fun g4=>?_)
  ·have g4:(!B)=true:=g4;rw[g4] at hno;have hno:(9:Int)=R:=hno;subst hno;refine zag Tk (r:=ii 9) rfl rfl rfl trivial rfl rfl ?_;rfl
  ·have g4:(!B)=false:=g4;rw[g4,Bool.false_or] at hno;refine zah ?_;exact ih (i+1) _ _ ⟨g1,by rw[if_pos rfl];exact hno⟩ (by omega) ⟨rfl,rfl,rfl,hi1,trivial⟩ rfl ⟨rfl,rfl,trivial⟩ rfl rfl
def cpE (m:Mdl) (w:Int):List ByteArray→List (ByteArray×Bool)→Int
 |_,[]=>0
 |b,p::l=>if nmIx (m.comps.map (·.name)) p.1<0 then 9 else if nmIx b p.1≥0 then 8 else if p.2=false then w else cpE m w (b++[p.1]) l
theorem zjf (O:List Heap) (m:Mdl) (w:Int) (l:List (ByteArray×Bool)) (hm:mdlOk m) (hl:l.length≤1000000) :
  zao Tryz.prog 130 [mdlD m,.i (.sl 1 l.length (l.map fun p=>[strI p.1])),.i (.sl 1 l.length (l.map fun p=>[bI p.2])),ii w] O (ii (if l.length=0 then 12 else cpE m w [] l)) [] O:=by
 have h4:=fun O=>zj2 O m hm.co;have h5:=fun O s=>zcz O (m.comps.map (·.name)) s (by rw[List.length_map];exact hm.co);generalize hR:cpE m w [] l=R;refine zaa Tk Tryz.func130 rfl Tryz.call130 Tryz.ntmps130 (Nat.le_of_ble_eq_true rfl) fun E=>?_;refine zai Tk Tryz.func130 ?_;refine zae Tk Tryz.func130 rfl (fun c0=>?_) (fun c0=>?_)
 ·have c0:l.length=0:=by simpa using c0
  rw[if_pos c0];refine zag Tk (r:=ii 12) rfl rfl rfl trivial rfl rfl ?_;rfl
 have c0:¬l.length=0:=by simpa using c0
 rw[if_neg c0];refine zah ?_;refine zak (fun i:Nat=>[(1,.i (.sl 1 l.length (l.map fun p=>[strI p.1]))),(2,.i (.sl 1 l.length (l.map fun p=>[bI p.2]))),(3,ii w),(4,.own 0 4 0 0),(9,ii i)]) (fun _=>[(4,.box (mdlC m))]) (fun _=>O) 42
  (fun i=>i≤l.length∧cpE m w ((l.take i).map (·.1)) (l.drop i)=R) (fun i=>l.length-i) 0 ⟨Nat.zero_le _,hR⟩ ⟨rfl,rfl,rfl,rfl,rfl,trivial⟩ rfl ⟨rfl,trivial⟩ rfl rfl ?_
 rintro i ⟨hi,hno⟩ ih;clear hR;refine zai Tk Tryz.func130 ?_;refine zae Tk Tryz.func130 rfl (fun g1=>?_) (fun g1=>?_)
 ·have g1:i<l.length:=by simpa using g1
  have gs:(l.map fun p=>[strI p.1])[(i:Int).toNat]? = some [strI l[i].1]:=zan (f:=fun p:ByteArray×Bool=>[strI p.1]) g1;have gb:(l.map fun p=>[bI p.2])[(i:Int).toNat]? = some [bI l[i].2]:=zan (f:=fun p:ByteArray×Bool=>[bI p.2]) g1;have ht:(l.take (i+1)).map (·.1)=(l.take i).map (·.1)++[l[i].1]:=zaI (fun p:ByteArray×Bool=>p.1) g1;rw[List.drop_eq_getElem_cons g1] at hno;simp only[cpE,←ht] at hno;have hi1:=fun O=>h5 O l[i].1;have hi2:∀O,zao Tryz.prog 39 [.i (.sl 1 (i:Int).toNat ((l.map fun p=>[strI p.1]).take (i:Int).toNat)),sD l[i].1] O (ii (nmIx ((l.take i).map (·.1)) l[i].1)) [] O:=fun O=>by
   have h:=zcz O ((l.take i).map (·.1)) l[i].1 (by rw[List.length_map,List.length_take];omega);have e:ssD ((l.take i).map (·.1))=.i (.sl 1 (i:Int).toNat ((l.map fun p=>[strI p.1]).take (i:Int).toNat)):=by
    rw[Int.toNat_natCast,←List.map_take];show D.i (.sl 1 ((l.take i).map (·.1)).length (((l.take i).map (·.1)).map fun s=>[strI s]))=_;rw[List.map_map,List.length_map,List.length_take,Nat.min_eq_left hi];rfl
   rwa [e] at h
  generalize nmIx (m.comps.map (·.name)) l[i].1=q1 at *;generalize nmIx ((l.take i).map (·.1)) l[i].1=q2 at *;generalize l[i]=p at *;obtain⟨s,r⟩:=p;simp only at hi1 hi2 hno gs gb;refine zav Tk Tryz.func130 zaz rfl ?_;refine zaJ Tk (fun _=>h4 _) rfl rfl rfl ?_;refine zas Tk (by exact⟨by omega,by show (i:Int)<(l.length:Int);omega⟩) ?_;refine zaE Tk (gs) ?_;refine zaJ Tk (fun _=>hi1 _) rfl rfl rfl ?_;refine zaB Tk Tryz.func130 (by kernel_rfl) ?_;refine zae Tk Tryz.func130 rfl (fun c2=>?_) (fun c2=>?_)
  ·have c2:q1<0:=of_decide_eq_true c2;rw[if_pos c2] at hno;subst hno;refine zag Tk (r:=ii 9) rfl rfl rfl trivial rfl rfl ?_;rfl
  have c2:¬q1<0:=of_decide_eq_false c2;rw[if_neg c2] at hno;refine zav Tk Tryz.func130 zaz rfl ?_;refine zas Tk (by exact⟨by omega,by show (i:Int)≤(l.length:Int);omega⟩) ?_;refine zas Tk (by exact⟨by omega,by show (i:Int)<(l.length:Int);omega⟩) ?_;refine zaE Tk (gs) ?_;refine zaJ Tk (fun _=>hi2 _) rfl rfl rfl ?_;refine zaB Tk Tryz.func130 (by kernel_rfl) ?_;refine zae Tk Tryz.func130 rfl (fun c3=>?_) (fun c3=>?_)
  ·have c3:q2≥0:=of_decide_eq_true c3;rw[if_pos c3] at hno;subst hno;refine zag Tk (r:=ii 8) rfl rfl rfl trivial rfl rfl ?_;rfl
  have c3:¬q2≥0:=of_decide_eq_false c3;rw[if_neg c3] at hno;refine zad Tk Tryz.func130 (by exact⟨by omega,by show (i:Int)<(l.length:Int);omega⟩) ?_;refine zap Tk Tryz.func130 (gb) ?_;refine zae Tk Tryz.func130 rfl (fun c4=>?_) (fun c4=>?_)
  ·have c4:r=false:=by simpa using c4
   rw[if_pos c4] at hno;subst hno;refine zag Tk (r:=ii w) rfl rfl rfl trivial rfl rfl ?_;rfl
  have c4:¬r=false:=by simpa using c4
  rw[if_neg c4] at hno;refine zah ?_;exact ih (i+1) _ _ ⟨g1,hno⟩ (by omega) ⟨rfl,rfl,rfl,rfl,congrArg ii (zaC (n:=1000001) (by omega) (by decide)),trivial⟩ rfl ⟨rfl,trivial⟩ rfl rfl
 ·have g1:l.length≤i:=by simpa using g1
  rw[List.drop_eq_nil_of_le g1] at hno;have hno:(0:Int)=R:=hno;subst hno;refine zag Tk (r:=ii 0) rfl rfl rfl trivial rfl rfl ?_;rfl
end Go.AI
