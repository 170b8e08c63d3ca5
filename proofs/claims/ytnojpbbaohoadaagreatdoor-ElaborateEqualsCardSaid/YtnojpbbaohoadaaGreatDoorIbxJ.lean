/- The layer of abstract runs, part 10. -/
import Derived.Test.YtnojpbbaohoadaaGreatDoorIbxI
set_option linter.unusedSimpArgs false
set_option linter.unusedVariables false
set_option linter.all false
set_option maxHeartbeats 4000000
namespace Go.AI
section
variable {P:Program} {T:TT} {E:Env} {K:Kn} {ρ:Nat→Nat→Loc} {S:List Heap} {w:World}
structure Now (K:Kn) (w:World) (v:Value) (es m:Nat) (ys:List (List I)):Prop where
 len:ys.length=m
 el:∀d∈ys,d.length=es
 at':∃p cap,v=.slice p m cap∧((m=0∧p=none∧cap=0)∨∃(ad:Addr) (cs:List Value),p=some ad∧RepL K cs ys.flatten∧∀j c,cs[j]? = some c→w.cell? (ad.add j)=some c)
theorem zk3 {l:Loc} {ty es n:Nat} {xs:List (List I)} {wr:Bool} {sh:Nat→Nat→Option Sh} (h:OwnAt K ρ sh w l (.arr ty es n xs wr)) :
  ∃cs,RepL K cs xs.flatten∧w.ownsRow 0 ty es (.slice l.base n l.cap) n cs:=by
 obtain⟨h1,h2,h3,h4,h5⟩:=h;rcases h5 with ⟨h5,h6⟩|⟨h5,c,h6,h7,h8,_⟩
 ·have hn:n=0:=by omega
  subst hn;have hx:xs=[]:=List.eq_nil_of_length_eq_zero h2;subst hx;refine⟨[],.nil,?_⟩;rw[h5,h6];exact World.ownsRow_nil w 0 ty es
 ·refine⟨c.toList.take (n*es),h8,?_,.inr ⟨l.block,l.cap,c,by rw[h5],Nat.zero_le _,h6,h3,h4,h7,rfl⟩⟩;have:=h8.length;rw[this,zbE xs h1,h2]
structure Apnd (K:Kn) (w w':World) (l l':Loc):Prop where
 size:w.heap.size≤w'.heap.size
 old:∀b,b<w.heap.size→(l.base≠none→b≠l.block)→w'.heap[b]? = w.heap[b]?
 rest:w'.tape=w.tape∧w'.os=w.os∧w'.output=w.output
 blk:l'.base≠none→w.heap.size≤l'.block∨(l.base≠none∧l'.block=l.block)
theorem zkL {l:Loc} {ty es n m:Nat} {xs ys:List (List I)} {sh sh':Nat→Nat→Option Sh} {ρ':Nat→Nat→Loc} {i:TI} (hok:TIok P ty i) (hes:i.size=es) {olds news:List Value} (hrx:RepL K olds xs.flatten) (hry:RepL K news ys.flatten)
  (hex:∀d∈xs,d.length=es) (hey:∀d∈ys,d.length=es) (hn:xs.length=n) (hm:ys.length=m) {cap:Nat} (hcap:n+m≤cap) (hmx:cap≤maxLen) {z:Array Value} (hz:z.size=es)
  (hfresh:∀o,K w.heap.size o=none) {w1:World} (hw1:w1.heap=w.heap∧w1.tape=w.tape∧w1.os=w.os∧w1.output=w.output) :
  OwnAt K ρ' sh' (w1.alloc (.cells (olds.toArray++news.toArray++Builtin.zeroCells z (cap-(n+m))) ty)) ⟨w.heap.size,cap,some ⟨w.heap.size,0,none⟩⟩ (.arr ty es (n+m) (xs++ys) true) ∧
   Apnd K w (w1.alloc (.cells (olds.toArray++news.toArray++Builtin.zeroCells z (cap-(n+m))) ty)) l ⟨w.heap.size,cap,some ⟨w.heap.size,0,none⟩⟩:=by
 obtain⟨a1,a2,a3,a4⟩:=hw1;have hlx:olds.length=n*es:=by rw[hrx.length,zbE xs hex,hn]
 have hly:news.length=m*es:=by rw[hry.length,zbE ys hey,hm]
 refine⟨⟨?_,by simp[hn,hm],hcap,hmx,.inr ⟨rfl,(olds.toArray++news.toArray++Builtin.zeroCells z (cap-(n+m))),?_,?_,?_,fun _ o=>hfresh o,fun o _=>hfresh o,fun h=>by cases h⟩⟩,?_⟩
 ·intro d hd;rcases List.mem_append.1 hd with h|h
  ·exact hex d h
  ·exact hey d h
 ·have:=heap_alloc_new w1 (.cells (olds.toArray++news.toArray++Builtin.zeroCells z (cap-(n+m))) ty);rw[a1] at this;exact this
 ·simp only[Array.size_append,List.size_toArray,size_zeroCells,hz,hlx,hly,←Nat.add_mul];congr 1;omega
 ·simp only[Array.toList_append,List.flatten_append];have:(n+m)*es=(olds++news).length:=by rw[List.length_append,hlx,hly,Nat.add_mul]
  rw[this,List.take_left];exact hrx.append hry
 ·refine⟨by simp[World.size_alloc,a1],fun b hb _=>?_,⟨a2,a3,a4⟩,fun _=>.inl (Nat.le_refl _)⟩;have:=heap_alloc_old w1 (.cells (olds.toArray++news.toArray++Builtin.zeroCells z (cap-(n+m))) ty) b (by rw[a1];exact hb);rw[this,a1]
theorem ztk {t:Nat} {i:TI} {l:Loc} {ty n m:Nat} {xs ys:List (List I)} {sh:Nat→Nat→Option Sh} (hu:P.underlying t=some (.slice ty)) (hok:TIok P ty i) (h:OwnAt K ρ sh w l (.arr ty i.size n xs true))
  {v:Value} (hy:Now K w v i.size m ys) (hb:(n+m)*i.bytes≤140737488355328) (h63:n+m≤9223372036854775807) (rty:TypeId) (hfresh:∀o,K w.heap.size o=none) :
  ∃l' w',(Builtin.append_ #[t,t] rty #[.slice l.base n l.cap,v]).run P w=.ok (.slice l'.base (n+m) l'.cap) w' ∧
   (∀(ρ':Nat→Nat→Loc) (sh':Nat→Nat→Option Sh),OwnAt K ρ' sh' w' l' (.arr ty i.size (n+m) (xs++ys) true))∧Apnd K w w' l l':=by
 obtain⟨inf,hi1,hi2,hi3,z,hi4,hi5,-⟩:=hok.info;have hzs:z.cells.size=i.size:=by rw[←Array.length_toList,hi5,hok.len]
 obtain⟨olds,hrx,hrow⟩:=zk3 h;obtain⟨hym,hyel,p,cap,rfl,hyat⟩:=hy;have h':=h;obtain⟨h1,h2,h3,h4,h5⟩:=h';have hlx:olds.length=n*i.size:=by rw[hrx.length,zbE xs h1,h2]
 have sameR:∀v',v'=Value.slice l.base n l.cap→(Builtin.append_ #[t,t] rty #[.slice l.base n l.cap,.slice p m cap]).run P w=.ok v' w→m=0 →
   ∃l' w',(Builtin.append_ #[t,t] rty #[.slice l.base n l.cap,.slice p m cap]).run P w=.ok (.slice l'.base (n+m) l'.cap) w' ∧
    (∀(ρ':Nat→Nat→Loc) (sh':Nat→Nat→Option Sh),OwnAt K ρ' sh' w' l' (.arr ty i.size (n+m) (xs++ys) true))∧Apnd K w w' l l':=by
  intro v' hv' hrun hm0;subst hv';subst hm0;have hys:ys=[]:=List.eq_nil_of_length_eq_zero hym;subst hys;refine⟨l,w,by simpa using hrun,fun ρ' sh'=>by simpa using (show OwnAt K ρ' sh' w l (.arr ty i.size n xs true) from h),⟨Nat.le_refl _,fun _ _ _=>rfl,⟨rfl,rfl,rfl⟩,fun hb=>.inr ⟨hb,rfl⟩⟩⟩
 rcases hyat with ⟨rfl,rfl,rfl⟩|⟨ad,news,rfl,hry,hadd⟩
 ·exact sameR _ rfl (run_append_owned_none w 0 t rty ty inf i.size hu hi1 _ n olds hrow) rfl
 ·have hly:news.length=m*i.size:=by rw[hry.length,zbE ys hyel,hym]
  have hgm:∀old,grownCap w (n+m) old ty≤maxLen:=fun old=>grownCap_le_maxLen w (n+m) old ty (by simp only[maxLen];omega);have hgg:∀old,n+m≤grownCap w (n+m) old ty:=fun old=>grownCap_ge w (n+m) old ty;rcases h5 with ⟨h5,h6⟩|⟨h5,c,h6,h7,h8,h9,_⟩
  ·have hn:n=0:=by omega
   subst hn;have hx:xs=[]:=List.eq_nil_of_length_eq_zero h2;subst hx
   by_cases hm0:m=0
   ·subst hm0;have hnews:news=[]:=List.eq_nil_of_length_eq_zero (by simpa using hly);subst hnews;refine sameR (.slice none 0 0) (by rw[h5,h6]) ?_ rfl;rw[h5,h6];simp[Builtin.append_,run_underlying hu,Go.sizeOf,typeInfo,hi1,Builtin.lenOf,Builtin.firstCells,loadCells,loadCellsFrom]
   ·have hr:=run_append_nil (P:=P) w t rty ty inf z hu hi1 hi4 ad m cap news (by rw[hi2];exact hly) hadd (by omega) (by omega) (by rw[hi3];simp only[Nat.zero_add] at hb;omega);have hg:=hgg 0;have hgm0:=hgm 0;simp only[Nat.zero_add] at hg hgm0;have hf:=fun (ρ':Nat→Nat→Loc) (sh':Nat→Nat→Option Sh)=>zkL (K:=K) (w:=w) (l:=l) (xs:=[]) (ys:=ys) (n:=0) (m:=m) (ρ':=ρ') (sh':=sh') (sh:=sh') hok rfl .nil hry (by simp) hyel rfl hym (by simpa using hg) hgm0 hzs hfresh (w1:=w.drew) ⟨rfl,rfl,rfl,rfl⟩;refine⟨⟨w.heap.size,_,some ⟨w.heap.size,0,none⟩⟩,_,?_,fun ρ' sh'=>(hf ρ' sh').1,(hf ρ sh).2⟩;rw[h5,h6,hr];simp
  ·by_cases hroom:n+m≤l.cap
   ·have hfit:n*inf.size+news.length≤c.size:=by rw[hi2,hly,h7,←Nat.add_mul];exact Nat.mul_le_mul_right _ hroom
    have hr:=run_append_room (P:=P) w t rty ty inf hu hi1 l.block n l.cap c h6 ad m cap news (by rw[hi2];exact hly) hadd hry.one hroom hfit;rw[hi2] at hr hfit;refine⟨l,_,by rw[h5];exact hr,fun ρ' sh'=>⟨?_,by simp[h2,hym],hroom,h4,.inr ⟨h5,(c.toList.take (n*i.size)++news++c.toList.drop (n*i.size+news.length)).toArray,setRow_heap _ _ _ _ _ _ h6,?_,?_,h9,fun o _=>h9 rfl o,fun e=>by cases e⟩⟩,⟨by simp,fun b' hb' hne=>?_,⟨rfl,rfl,rfl⟩,fun hbn=>.inr ⟨hbn,rfl⟩⟩⟩
    ·intro d hd;rcases List.mem_append.1 hd with h|h
     ·exact h1 d h
     ·exact hyel d h
    ·simp only[List.size_toArray,List.length_append,List.length_take,List.length_drop,Array.length_toList];omega
    ·rw[List.flatten_append];have e:(n+m)*i.size=(c.toList.take (n*i.size)++news).length:=by
      rw[List.length_append,hly,Nat.add_mul,List.length_take,Array.length_toList];omega
     rw[e];simp only;rw[List.take_left];exact h8.append hry
    ·exact setRow_other _ _ _ _ (hne (by rw[h5];simp))
   ·have holds:∀j u,olds[j]? = some u→w.cell? ((⟨l.block,0,none⟩:Addr).add j)=some u:=by
     have:=hrow.cells (g:=l.block) (by rw[h5];rfl);exact this
    have hr:=run_append_grow (P:=P) w t rty ty inf z hu hi1 hi4 ⟨l.block,0,none⟩ n l.cap olds (by rw[hi2];exact hlx) holds ad m cap news (by rw[hi2];exact hly) hadd (by omega) (by omega) (by rw[hi3];exact growslice_fits (by omega) hb);have hf:=fun (ρ':Nat→Nat→Loc) (sh':Nat→Nat→Option Sh)=>zkL (K:=K) (w:=w) (l:=l) (xs:=xs) (ys:=ys) (n:=n) (m:=m) (ρ':=ρ') (sh':=sh') (sh:=sh') hok rfl hrx hry h1 hyel h2 hym (hgg l.cap) (hgm l.cap) hzs hfresh (w1:=w.drew) ⟨rfl,rfl,rfl,rfl⟩;refine⟨⟨w.heap.size,_,some ⟨w.heap.size,0,none⟩⟩,_,?_,fun ρ' sh'=>(hf ρ' sh').1,(hf ρ sh).2⟩;rw[h5,hr]
end
end Go.AI
