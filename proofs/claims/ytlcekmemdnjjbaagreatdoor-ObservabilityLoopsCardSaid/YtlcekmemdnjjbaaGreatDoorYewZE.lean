/- The layer of abstract runs, part 31. -/
import Derived.Test.YtlcekmemdnjjbaaGreatDoorYewZD
import Derived.Test.YtlcekmemdnjjbaaGreatDoorRows
import Derived.KernelRfl
import Derived.JoinedOf
import Derived.SevenTiedAt
set_option linter.unusedSimpArgs false
set_option linter.unusedVariables false
set_option linter.all false

set_option maxHeartbeats 4000000
namespace Go.AI
open Go.Proofs
set_option maxRecDepth 20000
structure EsOk (a:Aut) (n:Nat) (ob:List Int) (sts:List (List Int)) (eds:List Edg) (W:List (List Fd)):Prop where
 w:WOk a ob eds sts.length W
 b:∀ x ∈ eds,x.2.2 < (sts.length:Int)
 g:∀ (k:Nat) s v,sts[k]? = some s → W[k]? = some v → (vdF a n v ∧ v ≠ [] ∧ s = zbr (v.map (·.1))) ∧ ∀ y ∈ v,y.2.length ≤ 13 * (k + 1)
theorem zjv {α β:Type}:∀ {l:List α} {m:List β} {i:Nat} {x:α} {y:β},l[i]? = some x → m[i]? = some y → (l.zip m)[i]? = some (x,y)
 | [],_,_,_,_,h,_ => by simp at h
 | _ :: _,[],_,_,_,_,h => by simp at h
 | a :: l,b :: m,0,x,y,h,h' => by
  simp only [List.getElem?_cons_zero,Option.some.injEq] at h h'
  subst h h'
  rfl
 | a :: l,b :: m,i + 1,x,y,h,h' => by
  simp only [List.getElem?_cons_succ] at h h'
  simpa using zjv h h'
theorem zqQ {α β:Type} {l:List α} {m:List β} {x:α} {y:β} (h:l.length = m.length):(l ++ [x]).zip (m ++ [y]) = l.zip m ++ [(x,y)]:=by
 rw [List.zip_append h]; rfl
theorem zgU {β:Type} {s:List Int}:∀ {l:List (List Int)} {m:List β} {i:Nat},l.length = m.length → zax (fun z:List Int × β => decide (z.1 = s)) (l.zip m) i = if s ∈ l then ((i + l.findIdx (eqB s):Nat):Int) else -1
 | [],[],i,_ => by simp [zax]
 | [],_ :: _,_,h => by simp at h
 | _ :: _,[],_,h => by simp at h
 | a :: l,b :: m,i,h => by
  simp only [List.zip_cons_cons,zax]
  by_cases c:a = s
  ·subst c
   rw [if_pos (by simp),if_pos (by simp)]
   simp [List.findIdx_cons,eqB]
  ·rw [if_neg (by simpa using c),zgU (by simpa using h)]
   by_cases hm:s ∈ l
   ·rw [if_pos hm,if_pos (by simp [hm])]
    rw [List.findIdx_cons]
    have:eqB s a = false:=by simp [eqB,Ne.symm c]
    rw [this]
    simp only [cond_false]
    omega
   ·rw [if_neg hm,if_neg (by simp [hm,Ne.symm c])]
theorem zgZ {l:List Int} {n:Nat} (h:l.Nodup) (hl:∀ x ∈ l,0 ≤ x ∧ x < (n:Int)) (x:Int):x ∈ zbr l ↔ x ∈ l:=by
 rw [zd9 h hl,zbN]
 exact ⟨fun h => h.2,fun h => ⟨hl x h,h⟩⟩
theorem ztA (es:List Edg) (e:Int) (acc:List Fd) (x:Fd):(nxS es e acc x).length ≤ acc.length + 1:=by
 unfold nxS
 split
 ·omega
 ·split
  ·simp
  ·split
   ·simp
   ·omega
theorem zpb (es:List Edg) (e:Int) (W:List Fd):(nxF es e W).length ≤ W.length:=by
 have key:∀ (W acc:List Fd),(W.foldl (nxS es e) acc).length ≤ acc.length + W.length:=by
  intro W
  induction W with
  | nil => intro acc; simp
  | cons x W ih =>
   intro acc
   have:=ih (nxS es e acc x)
   have:=ztA es e acc x
   simp only [List.foldl_cons,List.length_cons]
   omega
 simpa [nxF] using key W []
theorem ztx {a:Aut} {on:List Int} {frm:List Fd} {n B:Nat} (h:gAut a n) (hn:n ≤ 12) (hv:vdF a n frm) (hB:∀ y ∈ frm,y.2.length ≤ B):∀ y ∈ rchF a on frm,y.2.length ≤ B + 12:=by
 have hq:=zfh (on:=on) h hv
 have hfew:(rchF a on frm).length ≤ n:=RGd.few ⟨hq.snd,hq.nd,fun x hx => hq.low _ _ (RP.base hx)⟩ (hv.ok h)
 generalize rchF a on frm = l at *
 have hcs:∀ t w,RP a on frm t w → (t,w) ∈ frm ∨ ∃ s v e,RP a on frm s v ∧ e ∈ a.alpha ∧ e ∉ on ∧ 0 ≤ stp3 a.edges s e ∧ t = stp3 a.edges s e ∧ w = v ++ [e]:=by
  intro t w hp
  cases hp with
  | base hx => exact .inl hx
  | step h1 h2 h3 h4 => exact .inr ⟨_,_,_,h1,h2,h3,h4,rfl,rfl⟩
 have key:∀ (m i:Nat) (hi:i < l.length),i < m → l[i].2.length ≤ B + i:=by
  intro m
  induction m with
  | zero => intro i _ hi; omega
  | succ m ih =>
   intro i hi him
   have hp:=hq.snd _ (List.getElem_mem hi)
   rcases hcs _ _ hp with hf | ⟨s,v,e,h1,h2,h3,h4,h5,h6⟩
   ·have:=hB _ hf
    simp only at this
    omega
   ·obtain ⟨z,hz,e1,e2⟩:=hq.low s v h1
    have hpz:=hq.snd z hz
    rw [e1] at hpz
    have hst:=RP.step hpz h2 h3 h4
    obtain ⟨y',hy',e3,e4⟩:=hq.low _ _ hst
    have hyy:y' = l[i]:=zi0 hq.nd hy' (List.getElem_mem hi) (by rw [e3,h5])
    subst hyy
    rw [h6] at e4 ⊢
    have hle:rk (z.2 ++ [e]) ≤ rk (v ++ [e]):=zuC e2
    have heq:rk (z.2 ++ [e]) = rk (v ++ [e]):=by omega
    have hwz:=(hst.ok (hv.ok h)).2
    have hwv:=(RP.step h1 h2 h3 h4).ok (hv.ok h)
    have hvz:=ztr hwz hwv.2 heq
    obtain ⟨j,hj,rfl⟩:=List.mem_iff_getElem.1 hz
    have hji:j < i:=by
     rcases Nat.lt_trichotomy j i with hlt | rfl | hgt
     ·exact hlt
     ·have:rk l[j].2 < rk (v ++ [e]):=by rw [← heq,zco]; omega
      rw [← h6] at this
      omega
     ·have h8:=List.pairwise_iff_getElem.1 hq.srt i j hi hj hgt
      rw [h6,← heq,zco] at h8
      omega
    have:=ih j hj (by omega)
    rw [← hvz]
    simp only [List.length_append,List.length_singleton]
    omega
 intro y hy
 obtain ⟨i,hi,rfl⟩:=List.mem_iff_getElem.1 hy
 have:=key (i + 1) i hi (Nat.lt_succ_self i)
 omega
noncomputable abbrev esWR (x:Sys):List Es2:=(esR x).2.zip (wrdF (lpR x).1 x.ob (esR x).1.edges (esR x).2.length)
set_option maxHeartbeats 32000000 in
theorem zkm (O:List Heap) (x:Sys) (h:smallS x) (hx:gSys x) (hV0:(lpV x).length ≤ 4095) (hn11:(lpR x).2.length ≤ 11):zam Tryz.prog 43 [sysD x] O (.tup [autD (esR x).1,zr8 (esWR x)]) [] O:=by
 have c42:=fun O => zpl O x h hx hV0
 have hga:=(lp_g hx hV0).1
 have hke:=zpn hx hV0
 have hobs:=h.ob
 by_cases h0:(lpR x).2.length = 0
 ·have he:esR x = (⟨x.ob,0,[],[]⟩,[]):=by unfold esR; rw [if_pos h0,hke]
  unfold esWR
  rw [he]
  have hst:=hga.st
  rw [h0] at hst
  generalize lpR x = L at *
  obtain ⟨⟨al,st,mk,es⟩,ps⟩:=L
  simp only at hst c42
  obtain ⟨⟨al',st',mk',es'⟩,⟨al2,st2,mk2,es2⟩,ob,ct⟩:=x
  simp only at c42 ⊢
  subst hst
  refine zat [] Tk Tryz.func43 rfl Tryz.call43 Tryz.ntmps43 (Nat.le_of_ble_eq_true rfl) fun E => ?_
  refine zae Tk Tryz.func43 ?_
  refine zaf Tk Tryz.func43 (c42 _) rfl rfl rfl rfl rfl ?_
  refine gcF Tk Tryz.func43 rfl ?_
  refine zac ?_
  refine zae Tk Tryz.func43 ?_
  refine gcF Tk Tryz.func43 rfl ?_
  refine zcg Tk (r:=.tup [.agg [ints ob,ii 0,.i (.v (.slice none 0 0)),.i (.v (.slice none 0 0))],.i (.v (.slice none 0 0))]) rfl rfl rfl trivial rfl rfl ?_
  repeat' (first | refine zc4 ?_ | refine zc5 ?_ | refine zgA ?_ | refine CoDL.cons ?_ ?_ | exact CoDL.nil | exact zct | refine zd4 ?_ | refine CoLL.cons ?_ ?_ | exact CoLL.nil | refine CoL.cons ?_ ?_ | exact CoL.nil | exact CoI.refl _ | exact CoL.refl _ | exact CoLL.refl _ | exact CoDL.refl _ | exact CoD.refl _)
 obtain ⟨V,hprj,hVs⟩:=zsV hx hV0 hn11 h0
 obtain ⟨-,hn0,-,hVr,hVU⟩:=hprj
 have hes:esR x = (unfA x.ob V,V.sts):=by
  unfold esR
  rw [if_neg h0,hVr,hke]
 unfold esWR
 rw [hes]
 unfold unfA
 simp only
 have hal32:∀ e ∈ x.ob,0 ≤ e ∧ e < 32:=(zas hx.ob).2.1
 have hobl:=zaV (by decide) hx.ob
 generalize hN:(lpR x).2.length = n at *
 have hF:=zjN (lpR x).1 x.ob n
 have hfew:∀ U:Unf (List Int),UOk (estP n) U → U.sts.length ≤ 4095:=fun U hU => by
  have:=zbk hU.nd (fun s hs => (hU.ok s hs).1)
  rw [zfp] at this
  have:2 ^ n ≤ 2 ^ 11:=Nat.pow_le_pow_right (by decide) hn11
  omega
 have hv0:=vd0 (a:=(lpR x).1) hga hn0
 have hs0:clo (lpR x).1.edges (lowP x.ob [] false) n [0] = zbr ((rchF (lpR x).1 x.ob [((0:Int),([]:List Int))]).map (·.1)):=(zdM hga hv0).symm
 have hno:(Except.ok V:Except Int (Unf (List Int))) = zbx eqB false (zdW (lpR x).1 x.ob n) (zcr (lpR x).1) x.ob (4097 - 0) 0 (unf0 (zbr ((rchF (lpR x).1 x.ob [((0:Int),([]:List Int))]).map (·.1)))):=by
  rw [← hs0,← hVr]
  unfold prjR
  rw [hke]
  rfl
 have hq0:=zfh (on:=x.ob) hga hv0
 have hne0:rchF (lpR x).1 x.ob [((0:Int),([]:List Int))] ≠ []:=by
  obtain ⟨z,hz,_⟩:=hq0.low _ _ (RP.base (List.mem_singleton.2 rfl))
  exact List.ne_nil_of_mem hz
 have hrl:∀ B frm,vdF (lpR x).1 n frm → (∀ y ∈ frm,y.2.length ≤ B) → ∀ y ∈ rchF (lpR x).1 x.ob frm,y.2.length ≤ B + 12:=fun B frm hv hB => ztx hga (by omega) hv hB
 have hrv:∀ frm,vdF (lpR x).1 n frm → vdF (lpR x).1 n (rchF (lpR x).1 x.ob frm):=fun frm hv => zhN hga hv
 have hnv:∀ e W,e ∈ x.ob → vdF (lpR x).1 n W → vdF (lpR x).1 n (nxF (lpR x).1.edges e W):=fun e W he hv => zo9 hga (hal32 e he) hv
 have hnl:∀ e W B,e ∈ x.ob → vdF (lpR x).1 n W → (∀ y ∈ W,y.2.length ≤ B) → ∀ y ∈ nxF (lpR x).1.edges e W,y.2.length ≤ B + 1:=fun e W B he hv hB y hy => by
  obtain ⟨z,hz,rfl,_⟩:=(zlN (es:=(lpR x).1.edges) (hal32 e he) hv.wrd).snd y hy
  have:=hB z hz
  simp only [List.length_append,List.length_singleton]
  omega
 have hrv2':∀ frm B,vdF (lpR x).1 n frm → frm ≠ [] → (∀ y ∈ frm,y.2.length ≤ B) → vdF (lpR x).1 n (rchF (lpR x).1 x.ob frm) ∧ rchF (lpR x).1 x.ob frm ≠ [] ∧ ∀ y ∈ rchF (lpR x).1 x.ob frm,y.2.length ≤ B + 12:=fun frm B hv hne hB => ⟨hrv frm hv,by
  obtain ⟨y,hy⟩:=List.exists_mem_of_ne_nil _ hne
  obtain ⟨z,hz,_⟩:=(zfh (on:=x.ob) hga hv).low _ _ (RP.base hy)
  exact List.ne_nil_of_mem hz,hrl B frm hv hB⟩
 have hrne:∀ frm,vdF (lpR x).1 n frm → frm ≠ [] → rchF (lpR x).1 x.ob frm ≠ []:=fun frm hv hne => by
  obtain ⟨y,hy⟩:=List.exists_mem_of_ne_nil _ hne
  obtain ⟨z,hz,_⟩:=(zfh (on:=x.ob) hga hv).low _ _ (RP.base hy)
  exact List.ne_nil_of_mem hz
 have hE0:EsOk (lpR x).1 n x.ob [zbr ((rchF (lpR x).1 x.ob [((0:Int),([]:List Int))]).map (·.1))] [] [rchF (lpR x).1 x.ob [((0:Int),([]:List Int))]]:=⟨⟨rfl,rfl,fun k h1 h2 => by simp at h2; omega⟩,by simp,fun k s v h1 h2 => by
  have hk:k = 0:=by
   have:=(List.getElem?_eq_some_iff.1 h1).1
   simp at this
   exact this
  subst hk
  simp only [List.getElem?_cons_zero,Option.some.injEq] at h1 h2
  subst h1 h2
  refine ⟨⟨hrv _ hv0,hne0,rfl⟩,fun y hy => ?_⟩
  have:=hrl 0 _ hv0 (fun y hy => by rw [List.mem_singleton] at hy; subst hy; simp) y hy
  omega⟩
 have hU0:UOk (estP n) (unf0 (zbr ((rchF (lpR x).1 x.ob [((0:Int),([]:List Int))]).map (·.1)))):=⟨fun s hs => by
   rw [show s = _ by simpa [unf0] using hs,← hs0]
   exact ⟨zbE _ _,zks hga hn0 x.ob⟩,by simp [unf0],rfl⟩
 have hts:∀ (s:List Int) e (W:List Fd),e ∈ x.ob → vdF (lpR x).1 n W → s = zbr (W.map (·.1)) → (nxF (lpR x).1.edges e W = [] → (zdW (lpR x).1 x.ob n s e).2 = (false,0)) ∧ (nxF (lpR x).1.edges e W ≠ [] → zdW (lpR x).1 x.ob n s e = (zbr ((rchF (lpR x).1 x.ob (nxF (lpR x).1.edges e W)).map (·.1)),true,0)):=by
  intro s e W he hv hs
  have hm:∀ x,x ∈ s ↔ x ∈ W.map (·.1):=fun x => by
   rw [hs]
   exact zgZ hv.nd (fun z hz => by
    obtain ⟨y,hy,rfl⟩:=List.mem_map.1 hz
    exact hv.rng y hy) x
  have hnil:=zpa (on:=x.ob) hga (hal32 e he) hv hm
  have hnx:=zhV (on:=x.ob) hga (hal32 e he) hv hm
  have hr:=zdM (on:=x.ob) hga (hnv e W he hv)
  unfold zdW
  refine ⟨fun h => ?_,fun h => ?_⟩
  ·rw [hnil.1 h]; rfl
  ·have:nxt (lpR x).1.edges (lowP x.ob [] false) n s e ≠ []:=fun e' => h (hnil.2 e')
   rw [hr,hnx,decide_eq_true (show (nxt (lpR x).1.edges (lowP x.ob [] false) n s e).length ≠ 0 from fun e' => this (List.eq_nil_of_length_eq_zero e'))]
 have hvok:=fun i s ev U V' hU hs hi hq => @zes (List Int) _ eqB false (zdW (lpR x).1 x.ob n) (estP n) hF i s ev U V' hU hs hi hq
 have cst:=fun O s e => zlu O (lpR x).1 s e hga.sm.ed
 have cmk:=fun O d nm ho (s:List Int) hs => zd3 O s 98 d nm (fun z => decide (z ∈ (lpR x).1.marked)) hs fun z _ => mk98 ([] :: [] :: O) (lpR x).1 z (d + 2) nm hga.sm.mkd (zaJ (zaJ ho))
 have cof:=fun O B frm hB hv hne hlen hoA hoX => of95 O (lpR x).1 x n B frm 0 4 0 1 hga (by omega) hB hv hne hlen hobs hoA hoX
 have cof0:∀ O,zaa O 0 4 = some (.box (autC (lpR x).1)) → zaa O 0 1 = some (.box (sysC x)) → zam Tryz.prog 95 [.i (.sl 2 1 [[vi 0,.v (.slice none 0 0)]]),.own 0 4 0 0,.own 0 1 0 0] O (esD (zbr ((rchF (lpR x).1 x.ob [((0:Int),([]:List Int))]).map (·.1)),rchF (lpR x).1 x.ob [((0:Int),([]:List Int))])) [] O:=fun O hoA hoX =>
  zsl (.cons (zgA (zd4 (.cons (.cons (CoI.refl _) (.cons zct .nil)) .nil))) (CoDL.refl _)) (cof O 0 [((0:Int),([]:List Int))] (by omega) hv0 (by simp) (fun y hy => by rw [List.mem_singleton] at hy; subst hy; simp) hoA hoX)
 have ceq:=fun O d nm (y:Es2) (l:List Es2) e w hl (hlb:∀ z ∈ l,z.1.length ≤ 1000000) (ho:zaa O e w = some (zhT l)) (hy:zaa O d nm = some (.box [ints y.1,fdsD y.2])) => zrP O l 103 e w d nm (fun z => decide (z.1 = y.1)) hl ho fun z hz => zvN ([] :: O) z y (d + 1) nm (hlb z hz) (zaJ hy)
 have hcl:=fun O l hl => zl7 O l hl
 have hcm:=fun O a b ha hb => zqc O a b ha hb
 have hix:=fun O (l:List Fd) (t:Int) (hl:l.length ≤ 1000000) (h1:zaa O 0 98 = some (ofds l)) (h2:zaa O 0 15 = some (.box [ii t])) => zpt O l 100 0 98 0 15 (fun x => x.1 == t) hl h1 fun x _ => zvx ([] :: O) x t 1 15 (zaJ h2)
 have hsn:∀ s,estP n s → s.length ≤ 1000000:=fun s hs => by
  have:=(zbM hs.1).1
  omega
 have hgst:=hga.st
 have hvlen:∀ l,vdF (lpR x).1 n l → l.length ≤ n:=fun l hv => RGd.few (on:=x.ob) ⟨fun y hy => RP.base hy,hv.nd,fun z hz => ⟨z,hz,rfl,Nat.le_refl _⟩⟩ (hv.ok hga)
 have hmr:∀ s,zcr (lpR x).1 s = s.any fun z => decide (z ∈ (lpR x).1.marked):=fun _ => rfl
 generalize hR:(Except.ok V:Except Int (Unf (List Int))) = Q at *
 clear hs0 hVU hVr hes hVs hke h0 hV0 hx hF hN hga hq0 hne0 hrv h
 generalize zdW (lpR x).1 x.ob n = ts at *
 generalize zcr (lpR x).1 = mr at *
 generalize lpR x = L at *
 obtain ⟨a,ps⟩:=L
 simp only at *
 obtain ⟨al,st,mk,es⟩:=a
 obtain ⟨⟨al',st',mk',es'⟩,⟨al2,st2,mk2,es2⟩,ob,ct⟩:=x
 simp only at *
 refine zat [12,22,29,34,36] Tk Tryz.func43 rfl Tryz.call43 Tryz.ntmps43 (Nat.le_of_ble_eq_true rfl) fun E => ?_
 refine zae Tk Tryz.func43 ?_
 refine zaf Tk Tryz.func43 (c42 _) rfl rfl rfl rfl rfl ?_
 refine zai Tk Tryz.func43 rfl (fun _ => ?_) (fun h => absurd h (by simp; omega))
 refine zaf Tk Tryz.func43 (cof0 _ rfl rfl) rfl rfl rfl rfl rfl ?_
 refine zag Tk Tryz.func43 (by exact ⟨by decide,by decide⟩) ?_
 refine zac ?_
 refine zap (zcH 38 129 rfl rfl rfl) ?_
 refine zap (zaQ 6 56 3 1 (pre:=[ints ob,ii 0]) (post:=[.i (.v (.slice none 0 0))]) rfl rfl rfl) ?_
 refine zap (zaQ 6 137 117 3 (pre:=[ints ob,ii 0,.osl 0 56]) (post:=[]) rfl rfl rfl) ?_
 refine zah (fun x:Nat × Unf (List Int) × List (List Fd) => [(1,.own 0 1 0 0),(2,.own 0 2 0 0),(4,.own 0 4 0 0),(6,.own 0 6 0 0),(7,.fn (.func 95) [] [.own 0 4 0 0,.own 0 1 0 0]),(8,.osl 0 129),(9,ii x.1)])
  (fun x => [(1,.box (sysC ⟨⟨al',st',mk',es'⟩,⟨al2,st2,mk2,es2⟩,ob,ct⟩)),(2,.box [.i (.v (.slice none 0 0)),ii 0,.i (.v (.slice none 0 0)),.i (.v (.slice none 0 0))]),(4,.box [ints al,ii st,ints mk,edgs es]),(6,.box [ints ob,ii 0,.osl 0 56,.osl 0 137]),(129,zhT (x.2.1.sts.zip x.2.2)),(56,zaw x.2.1.mkl),(137,zbC x.2.1.eds)]) (fun _ => O) 145
  (fun x => x.1 ≤ x.2.1.sts.length ∧ UOk (estP n) x.2.1 ∧ EsOk ⟨al,st,mk,es⟩ n ob x.2.1.sts x.2.1.eds x.2.2 ∧ x.2.1.mkl.length ≤ x.1 ∧ x.2.1.eds.length ≤ 32 * x.1 ∧ Q = zbx eqB false ts mr ob (4097 - x.1) x.1 x.2.1) (fun x => 4097 - x.1) (0,unf0 (zbr ((rchF ⟨al,st,mk,es⟩ ob [((0:Int),([]:List Int))]).map (fun y:Fd => y.1))),[rchF ⟨al,st,mk,es⟩ ob [((0:Int),([]:List Int))]])
  ⟨Nat.zero_le _,hU0,hE0,Nat.le_refl _,Nat.le_refl _,hno⟩ ⟨rfl,rfl,rfl,rfl,rfl,rfl,rfl,trivial⟩ rfl ⟨rfl,rfl,rfl,rfl,rfl,rfl,rfl,trivial⟩ rfl rfl ?_
 clear hno hU0 hE0 cof0 c42
 rintro ⟨i,U,W⟩ ⟨hi,hgd,hE,hml,hel,hno⟩ ih
 simp only at hi hgd hE hml hel hno
 have hWl:=hE.w.len
 refine zae Tk Tryz.func43 ?_
 refine zai Tk Tryz.func43 rfl (fun g1 => ?_) (fun g1 => ?_)
 ·have h1:i < U.sts.length:=by
   have:i < (U.sts.zip W).length:=by simpa using g1
   rw [List.length_zip] at this
   omega
  clear g1
  have hle:=hfew U hgd
  have hsi:U.sts[i]? = some U.sts[i]:=List.getElem?_eq_getElem h1
  have hwi:W[i]? = some (W[i]'(by omega)):=List.getElem?_eq_getElem (by omega)
  have hoks:=hgd.ok _ (List.getElem_mem h1)
  generalize W[i]'(by omega) = Wi at *
  generalize U.sts[i] = s at *
  have gz:=zjv hsi hwi
  have gs:((U.sts.zip W).map esI)[(i:Int).toNat]? = some (esI (s,Wi)):=by
   show ((U.sts.zip W).map esI)[i]? = _
   rw [List.getElem?_map,gz]; rfl
  obtain ⟨⟨hvi,hwne,hsw⟩,hwl⟩:=hE.g i s Wi hsi hwi
  have hno:Q = match zau eqB false ts i s ob (zbj mr i s U) with
    | .error e => .error e
    | .ok U' => zbx eqB false ts mr ob (4097 - (i + 1)) (i + 1) U':=by
   rw [hno,show 4097 - i = (4097 - (i + 1)) + 1 by omega]
   simp only [zbx,hsi]
   cases zau eqB false ts i s ob (zbj mr i s U) <;> rfl
  obtain ⟨m1',m2'⟩:=zb1 mr i s U
  have hM:UOk (estP n) (zbj mr i s U):=⟨by rw [m1']; exact hgd.ok,by rw [m1']; exact hgd.nd,by rw [m1',m2']; exact hgd.fr⟩
  have hm3:(zbj mr i s U).mkl = if mr s = true then U.mkl ++ [(i:Int)] else U.mkl:=by
   unfold zbj
   by_cases h:mr s = true <;> simp [h]
  generalize zbj mr i s U = U1 at *
  rw [hmr] at hm3
  have d1:=fun O d nm ho => cmk O d nm ho s (by have:=hsn s hoks; simp only [zar]; omega)
  generalize (s.any fun z => decide (z ∈ mk)) = B1 at *
  obtain ⟨sts,mkl,eds⟩:=U
  obtain ⟨sts1,mkl1,eds1⟩:=U1
  simp only at m1' m2' hm3 hsi gs gz hno h1 hle hel hml hi hgd hE hWl
  subst m1' m2'
  have hzl:(sts1.zip W).length = sts1.length:=by rw [List.length_zip]; omega
  have n1:0 ≤ (i:Int) ∧ (i:Int) < ((sts1.zip W).length:Int):=by omega
  have hml1:mkl1.length ≤ i + 1:=by rw [hm3]; split; (rw [List.length_append,List.length_singleton]; omega); omega
  apply zcd (P:=True) (s6:={ σ:=[(1,.own 0 1 0 0),(2,.own 0 2 0 0),(4,.own 0 4 0 0),(6,.own 0 6 0 0),(7,.fn (.func 95) [] [.own 0 4 0 0,.own 0 1 0 0]),(8,.osl 0 129),(9,ii i)],S:=[(1,.box (sysC ⟨⟨al',st',mk',es'⟩,⟨al2,st2,mk2,es2⟩,ob,ct⟩)),(2,.box [.i (.v (.slice none 0 0)),ii 0,.i (.v (.slice none 0 0)),.i (.v (.slice none 0 0))]),(4,.box [ints al,ii st,ints mk,edgs es]),(6,.box [ints ob,ii 0,.osl 0 56,.osl 0 137]),(129,zhT (sts1.zip W)),(56,zaw mkl1),(137,zbC eds1)] :: O,n:=145 })
  ·intro J
   refine zag Tk Tryz.func43 (by exact n1) ?_
   refine zaq Tk Tryz.func43 (gs) ?_
   refine zaf Tk Tryz.func43 (d1 _ 0 4 rfl) rfl rfl rfl rfl rfl ?_
   refine zai Tk Tryz.func43 rfl (fun c1 => ?_) (fun c1 => ?_)
   ·have c1:B1 = true:=c1
    rw [if_pos c1] at hm3
    refine zag Tk Tryz.func43 (by exact ⟨by show (mkl.length + 1) * 8 ≤ 140737488355328; omega,by show mkl.length + 1 ≤ 9223372036854775807; omega⟩) ?_
    refine zay ?_
    refine zaC (J trivial) ⟨rfl,rfl,rfl,rfl,rfl,rfl,rfl,trivial⟩ rfl ⟨rfl,rfl,rfl,rfl,rfl,by rw [hm3]; exact congrArg some (zaO mkl (i:Int)),rfl,trivial⟩ rfl rfl
   ·have c1:¬ B1 = true:=by rw [show B1 = false from c1]; decide
    rw [if_neg c1] at hm3
    refine zay ?_
    refine zaC (J trivial) ⟨rfl,rfl,rfl,rfl,rfl,rfl,rfl,trivial⟩ rfl ⟨rfl,rfl,rfl,rfl,rfl,by rw [hm3]; rfl,rfl,trivial⟩ rfl rfl
  intro _
  clear hm3 hml d1 gs hgd hmr n1 gz hzl
  have hV0:zau eqB false ts i s ob ⟨sts1,mkl1,eds1⟩ = zau eqB false ts i s (ob.drop 0) ⟨sts1,mkl1,eds1⟩:=rfl
  generalize zau eqB false ts i s ob ⟨sts1,mkl1,eds1⟩ = VV at *
  refine zae Tk Tryz.func43 ?_
  refine g_go Tk Tryz.func43 ?_
  refine zac ?_
  refine zah (fun x:Nat × Unf (List Int) × List (List Fd) => [(1,.own 0 1 0 0),(2,.own 0 2 0 0),(4,.own 0 4 0 0),(6,.own 0 6 0 0),(7,.fn (.func 95) [] [.own 0 4 0 0,.own 0 1 0 0]),(8,.osl 0 129),(9,ii i),(59,ints ob),(60,ii ob.length),(61,ii x.1)])
   (fun x => [(1,.box (sysC ⟨⟨al',st',mk',es'⟩,⟨al2,st2,mk2,es2⟩,ob,ct⟩)),(2,.box [.i (.v (.slice none 0 0)),ii 0,.i (.v (.slice none 0 0)),.i (.v (.slice none 0 0))]),(4,.box [ints al,ii st,ints mk,edgs es]),(6,.box [ints ob,ii 0,.osl 0 56,.osl 0 137]),(129,zhT (x.2.1.sts.zip x.2.2)),(56,zaw x.2.1.mkl),(137,zbC x.2.1.eds)]) (fun _ => O) 145
   (fun x => x.1 ≤ ob.length ∧ UOk (estP n) x.2.1 ∧ EsOk ⟨al,st,mk,es⟩ n ob x.2.1.sts x.2.1.eds x.2.2 ∧ i < x.2.1.sts.length ∧ x.2.1.mkl = mkl1 ∧ x.2.1.eds.length ≤ 32 * i + x.1 ∧ x.2.1.sts[i]? = some s ∧ x.2.2[i]? = some Wi ∧ VV = zau eqB false ts i s (ob.drop x.1) x.2.1) (fun x => ob.length - x.1) (0,⟨sts1,mkl1,eds1⟩,W)
   ⟨Nat.zero_le _,hM,hE,h1,rfl,hel,hsi,hwi,hV0⟩ ⟨rfl,rfl,rfl,rfl,rfl,rfl,rfl,rfl,rfl,rfl,trivial⟩ rfl ⟨rfl,rfl,rfl,rfl,rfl,rfl,rfl,trivial⟩ rfl rfl ?_
  clear hV0 hsi hwi hel hle hM h1 hE hWl
  rintro ⟨j,⟨sts,mk0,eds⟩,W⟩ ⟨hj,hgd,hE,hil,hmke,hel,hsi,hwi,hV⟩ ih2
  simp only at hj hgd hE hil hmke hel hsi hwi hV
  subst hmke
  have hWl:=hE.w.len
  have hle:=hfew _ hgd
  simp only at hle
  have hzl:(sts.zip W).length = sts.length:=by rw [List.length_zip]; omega
  have hj1:ii (IntKind.i64.wrap ((j:Int) + 1)) = ii ((j + 1:Nat):Int):=congrArg ii (zaE (n:=4096) (by omega) (by decide))
  refine zae Tk Tryz.func43 ?_
  refine zai Tk Tryz.func43 rfl (fun g2 => ?_) (fun g2 => ?_)
  ·have h3:j < ob.length:=by simpa using g2
   clear g2
   have ga:(ob.map fun x => [vi x])[(j:Int).toNat]? = some [vi ob[j]]:=zaj (f:=fun x => [vi x]) h3
   have da:ob.drop j = ob[j] :: ob.drop (j + 1):=List.drop_eq_getElem_cons h3
   have he:ob[j] ∈ ob:=List.getElem_mem h3
   rw [da] at hV
   simp only [zau] at hV
   clear da
   generalize ob[j] = e at *
   have gz:=zjv hsi hwi
   have gs:((sts.zip W).map esI)[(i:Int).toNat]? = some (esI (s,Wi)):=by
    show ((sts.zip W).map esI)[i]? = _
    rw [List.getElem?_map,gz]; rfl
   have hvok:=fun V' h => hvok i s e ⟨sts,mk0,eds⟩ V' hgd hoks hil h
   obtain ⟨ht1,ht2⟩:=hts s e Wi he hvi hsw
   have hnx:=hnv e Wi he hvi
   have hnb:=hnl e Wi (13 * (i + 1)) he hvi hwl
   have n3:0 ≤ (i:Int) ∧ (i:Int) < ((sts.zip W).length:Int):=by omega
   have hein:=hal32 e he
   have hwc:=hvlen Wi hvi
   refine zag Tk Tryz.func43 (by exact ⟨by omega,by show (j:Int) < (ob.length:Int); omega⟩) ?_
   refine zaq Tk Tryz.func43 (ga) ?_
   refine zag Tk Tryz.func43 (by exact n3) ?_
   refine zaq Tk Tryz.func43 (gs) ?_
   refine zac ?_
   refine zap (zcb 12 98 178 2 rfl rfl rfl) ?_
   refine zah (fun k:Nat => [(1,.own 0 1 0 0),(2,.own 0 2 0 0),(4,.own 0 4 0 0),(6,.own 0 6 0 0),(7,.fn (.func 95) [] [.own 0 4 0 0,.own 0 1 0 0]),(8,.osl 0 129),(9,ii i),(59,ints ob),(60,ii ob.length),(61,ii j),(11,ii e),(12,.osl 0 98),(69,fdsD Wi),(70,ii Wi.length),(71,ii k)])
    (fun k => [(1,.box (sysC ⟨⟨al',st',mk',es'⟩,⟨al2,st2,mk2,es2⟩,ob,ct⟩)),(2,.box [.i (.v (.slice none 0 0)),ii 0,.i (.v (.slice none 0 0)),.i (.v (.slice none 0 0))]),(4,.box [ints al,ii st,ints mk,edgs es]),(6,.box [ints ob,ii 0,.osl 0 56,.osl 0 137]),(129,zhT (sts.zip W)),(56,zaw mk0),(137,zbC eds),(98,ofds (nxF es e (Wi.take k)))]) (fun _ => O) 145
    (fun k => k ≤ Wi.length) (fun k => Wi.length - k) 0 (Nat.zero_le _) ⟨rfl,rfl,rfl,rfl,rfl,rfl,rfl,rfl,rfl,rfl,rfl,rfl,rfl,rfl,rfl,trivial⟩ rfl ⟨rfl,rfl,rfl,rfl,rfl,rfl,rfl,rfl,trivial⟩ rfl rfl ?_
   intro k hk ih3
   refine zae Tk Tryz.func43 ?_
   refine zai Tk Tryz.func43 rfl (fun g3 => ?_) (fun g3 => ?_)
   ·have h4:k < Wi.length:=by simpa using g3
    clear g3
    have hk1:ii (IntKind.i64.wrap ((k:Int) + 1)) = ii ((k + 1:Nat):Int):=congrArg ii (zaE (n:=4096) (by omega) (by decide))
    have gr:(Wi.map fdI)[(k:Int).toNat]? = some (fdI Wi[k]):=zaj h4
    have htk:Wi.take (k + 1) = Wi.take k ++ [Wi[k]]:=List.take_succ_eq_append_getElem h4
    have hfold:nxF es e (Wi.take (k + 1)) = nxS es e (nxF es e (Wi.take k)) Wi[k]:=by unfold nxF; rw [htk,List.foldl_append]; rfl
    have hnok:=zlN (es:=es) (W:=Wi.take k) hein (fun x hx => hvi.wrd x (List.mem_of_mem_take hx))
    have hacl:(nxF es e (Wi.take k)).length ≤ 12:=by
     have:=zpb es e (Wi.take k)
     rw [List.length_take] at this
     omega
    have hacw:∀ y ∈ nxF es e (Wi.take k),y.2.length ≤ 100000:=fun y hy => by
     obtain ⟨z,hz,rfl,_⟩:=hnok.snd y hy
     have:=hwl z (List.mem_of_mem_take hz)
     simp only [List.length_append,List.length_singleton]
     omega
    have hxl:=hwl _ (List.getElem_mem h4)
    clear hnok htk
    generalize nxF es e (Wi.take k) = acc at *
    generalize Wi[k] = x at *
    obtain ⟨xs,xw⟩:=x
    unfold nxS at hfold
    simp only at hfold hxl
    have d2:=fun O => cst O xs e
    have hcl1:=fun O => hcl O xw (by omega)
    generalize stp3 es xs e = t at *
    refine zag Tk Tryz.func43 (by exact ⟨by omega,by show (k:Int) < (Wi.length:Int); omega⟩) ?_
    refine zaq Tk Tryz.func43 (gr) ?_
    refine zaf Tk Tryz.func43 (d2 _) rfl rfl rfl rfl rfl ?_
    refine zai Tk Tryz.func43 rfl (fun k1 => ?_) (fun k1 => ?_)
    ·have k1:t < 0:=of_decide_eq_true k1
     rw [if_pos k1] at hfold
     refine zac ?_
     refine ih3 (k + 1) _ _ h4 (by omega) ⟨rfl,rfl,rfl,rfl,rfl,rfl,rfl,rfl,rfl,rfl,rfl,rfl,rfl,rfl,hk1,trivial⟩ rfl ⟨rfl,rfl,rfl,rfl,rfl,rfl,rfl,by rw [hfold]; rfl,trivial⟩ rfl rfl
    have k1:¬ t < 0:=of_decide_eq_false k1
    rw [if_neg k1] at hfold
    refine zaf Tk Tryz.func43 (hcl1 _) rfl rfl rfl rfl rfl ?_
    refine zag Tk Tryz.func43 (by exact ⟨by show (xw.length + 1) * 8 ≤ 140737488355328; omega,by show xw.length + 1 ≤ 9223372036854775807; omega⟩) ?_
    refine zay ?_
    refine zap (zan 87 rfl rfl) ?_
    refine zap (zdZ rfl) ?_
    have ew:I.sl 1 (xw.length + 1) (xw.map (fun x => [vi x]) ++ [[vi e]]) = zbt (xw ++ [e]):=by simp
    refine zaC (l:=[(1,.own 0 1 0 0),(2,.own 0 2 0 0),(4,.own 0 4 0 0),(6,.own 0 6 0 0),(7,.fn (.func 95) [] [.own 0 4 0 0,.own 0 1 0 0]),(8,.osl 0 129),(9,ii i),(59,ints ob),(60,ii ob.length),(61,ii j),(11,ii e),(12,.osl 0 98),(69,fdsD Wi),(70,ii Wi.length),(71,ii k),(15,.own 0 15 0 0),(16,ints (xw ++ [e]))]) (Hv:=[(1,.box (sysC ⟨⟨al',st',mk',es'⟩,⟨al2,st2,mk2,es2⟩,ob,ct⟩)),(2,.box [.i (.v (.slice none 0 0)),ii 0,.i (.v (.slice none 0 0)),.i (.v (.slice none 0 0))]),(4,.box [ints al,ii st,ints mk,edgs es]),(6,.box [ints ob,ii 0,.osl 0 56,.osl 0 137]),(129,zhT (sts.zip W)),(56,zaw mk0),(137,zbC eds),(98,ofds acc),(15,.box [ii t])]) ?_ ⟨rfl,rfl,rfl,rfl,rfl,rfl,rfl,rfl,rfl,rfl,rfl,rfl,rfl,rfl,rfl,rfl,congrArg D.i ew,trivial⟩ rfl ⟨rfl,rfl,rfl,rfl,rfl,rfl,rfl,rfl,rfl,trivial⟩ rfl rfl
    have hwl2:(xw ++ [e]).length ≤ 100000:=by rw [List.length_append,List.length_singleton]; omega
    generalize xw ++ [e] = ww at *
    clear ew hcl1
    refine zae Tk Tryz.func43 ?_
    refine g_go Tk Tryz.func43 ?_
    refine zaf Tk Tryz.func43 (hix _ acc t (by omega) rfl rfl) rfl rfl rfl rfl rfl ?_
    refine zai Tk Tryz.func43 rfl (fun k3 => ?_) (fun k3 => ?_)
    ·have k3:zax (fun x:Fd => x.1 == t) acc 0 < 0:=of_decide_eq_true k3
     rw [if_pos k3] at hfold
     refine zag Tk Tryz.func43 (by exact ⟨by show (acc.length + 1) * 32 ≤ 140737488355328; omega,by show acc.length + 1 ≤ 9223372036854775807; omega⟩) ?_
     refine zac ?_
     refine ih3 (k + 1) _ _ h4 (by omega) ⟨rfl,rfl,rfl,rfl,rfl,rfl,rfl,rfl,rfl,rfl,rfl,rfl,rfl,rfl,hk1,trivial⟩ rfl ⟨rfl,rfl,rfl,rfl,rfl,rfl,rfl,?_,trivial⟩ rfl rfl
     rw [hfold]
     show some (Ob.arr 178 2 (acc.length + 1) (acc.map fdI ++ [fdI (t,ww)]) true) = some (ofds (acc ++ [(t,ww)]))
     simp
    ·have k3:¬ zax (fun x:Fd => x.1 == t) acc 0 < 0:=of_decide_eq_false k3
     obtain ⟨q,hq,hqx,hqt⟩:=zcR k3
     rw [if_neg k3] at hfold
     rw [Nat.zero_add] at hqx
     have gk:(acc.map fdI)[(((q:Nat):Int)).toNat]? = some (fdI acc[q]):=zaj hq
     have hgd:acc.getD q (0,[]) = acc[q]:=by rw [List.getD_eq_getElem?_getD,List.getElem?_eq_getElem hq]; rfl
     rw [hqx,Int.toNat_natCast,hgd] at hfold
     have hset:∀ z:Fd,(acc.map fdI).set q (fdI z) = (acc.set q z).map fdI:=fun z => List.map_set.symm
     have hcm1:=fun O => hcm O ww acc[q].2 (by omega) (by have:=hacw _ (List.getElem_mem hq); omega)
     generalize acc[q] = y at *
     obtain ⟨ys,yw⟩:=y
     simp only at hcm1 hfold
     generalize cmpW ww yw = cw at *
     generalize zax (fun x:Fd => x.1 == t) acc 0 = fx at *
     subst hqx
     refine zag Tk Tryz.func43 (by exact ⟨by omega,by show ((q:Nat):Int) < (acc.length:Int); omega⟩) ?_
     refine zaq Tk Tryz.func43 (gk) ?_
     refine zaf Tk Tryz.func43 (hcm1 _) rfl rfl rfl rfl rfl ?_
     refine zai Tk Tryz.func43 rfl (fun k4 => ?_) (fun k4 => ?_)
     ·have k4:cw < 0:=of_decide_eq_true k4
      rw [if_pos k4] at hfold
      refine zag Tk Tryz.func43 (by exact ⟨by omega,by show ((q:Nat):Int) < (acc.length:Int); omega⟩) ?_
      refine zaq Tk Tryz.func43 (gk) ?_
      refine zac ?_
      refine ih3 (k + 1) _ _ h4 (by omega) ⟨rfl,rfl,rfl,rfl,rfl,rfl,rfl,rfl,rfl,rfl,rfl,rfl,rfl,rfl,hk1,trivial⟩ rfl ⟨rfl,rfl,rfl,rfl,rfl,rfl,rfl,?_,trivial⟩ rfl rfl
      rw [hfold]
      show some (Ob.arr 178 2 acc.length ((acc.map fdI).set q (fdI (ys,ww))) true) = some (Ob.arr 178 2 (acc.set q (ys,ww)).length ((acc.set q (ys,ww)).map fdI) true)
      rw [hset,List.length_set]
     ·have k4:¬ cw < 0:=of_decide_eq_false k4
      rw [if_neg k4] at hfold
      refine zac ?_
      refine ih3 (k + 1) _ _ h4 (by omega) ⟨rfl,rfl,rfl,rfl,rfl,rfl,rfl,rfl,rfl,rfl,rfl,rfl,rfl,rfl,hk1,trivial⟩ rfl ⟨rfl,rfl,rfl,rfl,rfl,rfl,rfl,by rw [hfold]; rfl,trivial⟩ rfl rfl
   ·have h4:Wi.length ≤ k:=by simpa using g3
    clear g3 ih3
    rw [List.take_of_length_le h4]
    have hgl:(nxF es e Wi).length ≤ 12:=by
     have:=zpb es e Wi
     omega
    have hEg:=fun (hh:zbr ((rchF ⟨al,st,mk,es⟩ ob (nxF es e Wi)).map (·.1)) ∉ sts) => hE.w.grow hE.b (i:=i) (e:=e) hwi
    have hrv2:=fun hne => hrv2' (nxF es e Wi) (13 * (i + 1) + 1) hnx hne hnb
    have cof2:=fun O hne hoA hoX => cof O (13 * (i + 1) + 1) (nxF es e Wi) (by omega) hnx hne hnb hoA hoX
    clear hnx hnb hwl hvi hwne hsw hwc h4 hk gs gz
    generalize nxF es e Wi = G at *
    refine zai Tk Tryz.func43 rfl (fun k5 => ?_) (fun k5 => ?_)
    ·have k5:G = []:=List.eq_nil_of_length_eq_zero (by have:=k5; simpa using this)
     have hp:=ht1 k5
     unfold zbA at hV
     rw [hp] at hV
     simp only [ne_eq,not_true,if_false,if_true] at hV
     refine zac ?_
     exact ih2 (j + 1,⟨sts,mk0,eds⟩,W) _ _ ⟨h3,hgd,hE,hil,rfl,by simp only; omega,hsi,hwi,hV⟩ (by simp only; omega) ⟨rfl,rfl,rfl,rfl,rfl,rfl,rfl,rfl,rfl,hj1,trivial⟩ rfl ⟨rfl,rfl,rfl,rfl,rfl,rfl,rfl,trivial⟩ rfl rfl
    have k5:G ≠ []:=fun e => by rw [e] at k5; exact absurd k5 (by simp)
    obtain ⟨hr1,hr2,hr3⟩:=hrv2 k5
    have cof3:=fun O hoA hoX => cof2 O k5 hoA hoX
    have hp:=ht2 k5
    refine zay ?_
    refine zap (zan 98 rfl rfl) ?_
    refine zap (zdZ rfl) ?_
    refine zae Tk Tryz.func43 ?_
    refine g_go Tk Tryz.func43 ?_
    refine zaf Tk Tryz.func43 (cof3 _ rfl rfl) rfl rfl rfl rfl rfl ?_
    unfold zbA at hV hvok
    rw [hp] at hV hvok
    simp only [ne_eq,not_true,if_false,Bool.true_eq_false,Bool.false_eq_true,false_and] at hV hvok
    have hnew:∀ y ∈ rchF ⟨al,st,mk,es⟩ ob G,y.2.length ≤ 13 * (sts.length + 1):=fun y hy => by have:=hr3 y hy; omega
    clear cof2 cof3 hp ht1 ht2 hrv2
    generalize rchF ⟨al,st,mk,es⟩ ob G = Rw at *
    generalize hs':zbr (Rw.map (·.1)) = s' at *
    have hzf:=zgU (s:=s') (l:=sts) (m:=W) (i:=0) (by omega)
    obtain ⟨t,ht⟩:∃ t,t = sts.findIdx (eqB s'):=⟨_,rfl⟩
    rw [← ht] at hV hvok hzf
    rw [Nat.zero_add] at hzf
    obtain ⟨sts2,hst3⟩:∃ sts2,sts2 = if s' ∈ sts then sts else sts ++ [s']:=⟨_,rfl⟩
    obtain ⟨W2,hw3⟩:∃ W2,W2 = if s' ∈ sts then W else W ++ [Rw]:=⟨_,rfl⟩
    have htm:s' ∉ sts → t = sts.length:=fun hm => by
     rw [ht]
     exact za3 fun x hx => by simp only [eqB,decide_eq_false_iff_not]; rintro rfl; exact hm hx
    have hU2:VV = zau eqB false ts i s (ob.drop (j + 1)) ⟨sts2,mk0,eds ++ [((i:Int),e,(t:Int))]⟩ ∧ UOk (estP n) ⟨sts2,mk0,eds ++ [((i:Int),e,(t:Int))]⟩ ∧ i < sts2.length ∧ sts2[i]? = some s ∧ W2[i]? = some Wi ∧ EsOk ⟨al,st,mk,es⟩ n ob sts2 (eds ++ [((i:Int),e,(t:Int))]) W2:=by
     by_cases hm:s' ∈ sts
     ·have hlt:t < sts.length:=by rw [ht]; exact zcn ⟨s',hm,by simp [eqB]⟩
      rw [if_pos hm] at hst3 hw3
      rw [if_pos hlt] at hV hvok
      subst hst3 hw3
      have h:=hvok _ rfl
      refine ⟨hV,h.1,h.2.1,h.2.2.trans hsi,hwi,hE.w.edge _,fun x hx => ?_,hE.g⟩
      rcases List.mem_append.1 hx with hx | hx
      ·exact hE.b x hx
      ·rw [List.mem_singleton] at hx
       subst hx
       simp only
       omega
     ·have hlt:=htm hm
      rw [if_neg hm] at hst3 hw3
      rw [if_neg (by omega)] at hV hvok
      subst hst3 hw3
      have h:=hvok _ rfl
      refine ⟨hV,h.1,h.2.1,h.2.2.trans hsi,by rw [List.getElem?_append_left (by omega)]; exact hwi,?_,fun x hx => ?_,fun k s1 v1 f1 f2 => ?_⟩
      ·have h9:=hEg hm
       rw [hlt,List.length_append]
       exact h9
      ·rw [List.length_append,List.length_singleton]
       rcases List.mem_append.1 hx with hx | hx
       ·have:=hE.b x hx; omega
       ·rw [List.mem_singleton] at hx
        subst hx
        simp only
        omega
      ·by_cases hk:k < sts.length
       ·rw [List.getElem?_append_left hk] at f1
        rw [List.getElem?_append_left (by omega)] at f2
        exact hE.g k s1 v1 f1 f2
       ·have hk2:k = sts.length:=by
         have:=(List.getElem?_eq_some_iff.1 f1).1
         rw [List.length_append,List.length_singleton] at this
         omega
        subst hk2
        rw [List.getElem?_append_right (Nat.le_refl _),Nat.sub_self] at f1
        rw [List.getElem?_append_right (by omega),show sts.length - W.length = 0 by omega] at f2
        simp only [List.getElem?_cons_zero,Option.some.injEq] at f1 f2
        subst f1 f2
        exact ⟨⟨hr1,hr2,hs'.symm⟩,hnew⟩
    have hlb:∀ z ∈ sts.zip W,z.1.length ≤ 1000000:=fun z hz => hsn _ (hgd.ok _ (List.of_mem_zip (a:=z.1) (b:=z.2) hz).1)
    have hic:=fun O ho hy => ceq O 0 18 (s',Rw) (sts.zip W) 0 129 (by omega) hlb ho hy
    clear hV hvok ht hEg
    generalize zax (fun z:List Int × List Fd => decide (z.1 = s')) (sts.zip W) 0 = ix at *
    have hq1:ix < 0 → t = (sts.zip W).length ∧ sts2.zip W2 = sts.zip W ++ [(s',Rw)]:=fun h => by
     have c2:s' ∉ sts:=fun hm => by
      rw [if_pos hm] at hzf; omega
     exact ⟨by rw [hzl]; exact htm c2,by rw [hst3,hw3,if_neg c2,if_neg c2]; exact zqQ (by omega)⟩
    have hq2:¬ ix < 0 → ix = t ∧ sts2.zip W2 = sts.zip W:=fun h => by
     have c2:s' ∈ sts:=Classical.byContradiction fun hm => by
      rw [if_neg hm] at hzf; omega
     exact ⟨by rw [hzf,if_pos c2],by rw [hst3,hw3,if_pos c2,if_pos c2]⟩
    clear hzf htm hst3 hw3
    apply zcd (P:=True) (s6:={ σ:=[(1,.own 0 1 0 0),(2,.own 0 2 0 0),(4,.own 0 4 0 0),(6,.own 0 6 0 0),(7,.fn (.func 95) [] [.own 0 4 0 0,.own 0 1 0 0]),(8,.osl 0 129),(9,ii i),(59,ints ob),(60,ii ob.length),(61,ii j),(11,ii e),(19,ii t)],S:=[(1,.box (sysC ⟨⟨al',st',mk',es'⟩,⟨al2,st2,mk2,es2⟩,ob,ct⟩)),(2,.box [.i (.v (.slice none 0 0)),ii 0,.i (.v (.slice none 0 0)),.i (.v (.slice none 0 0))]),(4,.box [ints al,ii st,ints mk,edgs es]),(6,.box [ints ob,ii 0,.osl 0 56,.osl 0 137]),(129,zhT (sts2.zip W2)),(56,zaw mk0),(137,zbC eds)] :: O,n:=145 })
    ·intro J
     refine zaf Tk Tryz.func43 (hic _ rfl rfl) rfl rfl rfl rfl rfl ?_
     refine zai Tk Tryz.func43 rfl (fun c1 => ?_) (fun c1 => ?_)
     ·have c1:=hq1 (of_decide_eq_true c1)
      refine zag Tk Tryz.func43 (by exact ⟨by show ((sts.zip W).length + 1) * 48 ≤ 140737488355328; omega,by show (sts.zip W).length + 1 ≤ 9223372036854775807; omega⟩) ?_
      refine zay ?_
      refine zaC (J trivial) ⟨rfl,rfl,rfl,rfl,rfl,rfl,rfl,rfl,rfl,rfl,rfl,by rw [c1.1]; rfl,trivial⟩ rfl ⟨rfl,rfl,rfl,rfl,by rw [c1.2]; exact congrArg some (zo5 (sts.zip W) (s',Rw)),rfl,rfl,trivial⟩ rfl rfl
     ·have c1:=hq2 (of_decide_eq_false c1)
      refine zay ?_
      refine zaC (J trivial) ⟨rfl,rfl,rfl,rfl,rfl,rfl,rfl,rfl,rfl,rfl,rfl,congrArg ii c1.1,trivial⟩ rfl ⟨rfl,rfl,rfl,rfl,by rw [c1.2]; rfl,rfl,rfl,trivial⟩ rfl rfl
    intro _
    obtain ⟨hV,hg2,hi2,hs2,hw2,hE2⟩:=hU2
    clear hgd hil hsi hwi hic hq1 hq2 hE
    refine zae Tk Tryz.func43 ?_
    refine g_go Tk Tryz.func43 ?_
    refine zag Tk Tryz.func43 (by exact ⟨by show (eds.length + 1) * 24 ≤ 140737488355328; omega,by show eds.length + 1 ≤ 9223372036854775807; omega⟩) ?_
    refine zac ?_
    exact ih2 (j + 1,⟨sts2,mk0,eds ++ [((i:Int),e,(t:Int))]⟩,W2) _ _ ⟨h3,hg2,hE2,hi2,rfl,by simp only [List.length_append,List.length_singleton]; omega,hs2,hw2,hV⟩ (by simp only; omega) ⟨rfl,rfl,rfl,rfl,rfl,rfl,rfl,rfl,rfl,hj1,trivial⟩ rfl ⟨rfl,rfl,rfl,rfl,rfl,rfl,congrArg some (zcN eds ((i:Int),e,(t:Int))),trivial⟩ rfl rfl
  ·have h3:ob.length ≤ j:=by simpa using g2
   rw [List.drop_eq_nil_of_le h3] at hV
   simp only [zau] at hV
   subst hV
   simp only at hno
   refine zac ?_
   exact ih (i + 1,⟨sts,mk0,eds⟩,W) _ _ ⟨by simp only; omega,hgd,hE,hml1,by simp only; omega,hno⟩ (by simp only; omega) ⟨rfl,rfl,rfl,rfl,rfl,rfl,congrArg ii (zaE (n:=4096) (by omega) (by decide)),trivial⟩ rfl ⟨rfl,rfl,rfl,rfl,rfl,rfl,rfl,trivial⟩ rfl rfl
 ·have h1:U.sts.length ≤ i:=by
   have:(U.sts.zip W).length ≤ i:=by simpa using g1
   rw [List.length_zip] at this
   omega
  rw [zdE h1] at hno
  rw [← hR] at hno
  simp only [Except.ok.injEq] at hno
  subst hno
  have hww:=zoa hE.w
  rw [← hww]
  obtain ⟨sts,mk0,eds⟩:=V
  have hzl:(sts.zip W).length = sts.length:=by rw [List.length_zip]; simp only at hWl; omega
  refine zay ?_
  refine zap (zan 129 rfl rfl) ?_
  refine zap (zan 56 rfl rfl) ?_
  refine zap (zan 137 rfl rfl) ?_
  refine zae Tk Tryz.func43 ?_
  refine g_go Tk Tryz.func43 ?_
  refine zal Tk (r:=.tup [autD ⟨ob,((sts.zip W).length:Int),mk0,eds⟩,zr8 (sts.zip W)]) rfl rfl rfl trivial rfl rfl ?_
  rw [hzl]
end Go.AI


namespace Go.AI
set_option maxRecDepth 20000
theorem zoc {a:Aut} {on:List Int}:∀ (rest:List Edg) (eds:List Edg) (k N:Nat) (W:List (List Fd)),kOf rest k = some N → WOk a on eds k W → (∀ x ∈ eds,x.2.2 < (k:Int)) → ∃ W',WOk a on (eds ++ rest) N W'
 | [],eds,k,N,W,hk,h,_ => by
  simp only [kOf,Option.some.injEq] at hk
  subst hk
  exact ⟨W,by rw [List.append_nil]; exact h⟩
 | x :: r,eds,k,N,W,hk,h,hb => by
  obtain ⟨xi,xe,xt⟩:=x
  simp only [kOf] at hk
  split at hk
  ·rename_i hc
   obtain ⟨⟨h1,h2⟩,h3,h4⟩:=hc
   obtain ⟨i,rfl⟩:∃ i:Nat,xi = (i:Int):=⟨xi.toNat,by omega⟩
   have hi:W[i]? = some (W[i]'(by rw [h.len]; omega)):=List.getElem?_eq_getElem _
   by_cases ht:xt = (k:Int)
   ·subst ht
    rw [if_pos rfl] at hk
    have:=zoc r (eds ++ [((i:Int),xe,(k:Int))]) (k + 1) N _ hk (h.grow hb hi) fun x hx => by
     rcases List.mem_append.1 hx with hx | hx
     ·have:=hb x hx; omega
     ·rw [List.mem_singleton] at hx; subst hx; simp only; omega
    rwa [List.append_assoc] at this
   ·rw [if_neg ht] at hk
    have:=zoc r (eds ++ [((i:Int),xe,xt)]) k N W hk (h.edge _) fun x hx => by
     rcases List.mem_append.1 hx with hx | hx
     ·exact hb x hx
     ·rw [List.mem_singleton] at hx; subst hx; simp only; omega
    rwa [List.append_assoc] at this
  ·cases hk
section
variable {a:Aut} {n:Nat} {on:List Int} {V:Unf (List Int)}
theorem zsp (h:prjU a n on V):WOk a on V.eds V.sts.length (wrdF a on V.eds V.sts.length):=by
 have h1:WOk a on [] 1 [rchF a on [((0:Int),([]:List Int))]]:=⟨rfl,rfl,fun k h1 h2 => by omega⟩
 obtain ⟨W,hW⟩:=zoc V.eds [] 1 V.sts.length _ h.hU.fr h1 (by simp)
 rw [List.nil_append] at hW
 rw [← zoa hW]
 exact hW
theorem zvm (h:prjU a n on V) (hal:∀ e ∈ on,0 ≤ e ∧ e < 32):∀ (m k:Nat),k < m → ∀ s v,V.sts[k]? = some s → (wrdF a on V.eds V.sts.length)[k]? = some v → vdF a n v ∧ v ≠ [] ∧ s = zbr (v.map (·.1)):=by
 have hW:=zsp h
 generalize wrdF a on V.eds V.sts.length = W at *
 intro m
 induction m with
 | zero => intro k hk; omega
 | succ m ih =>
  intro k hk s v hs hv
  have hv0:=vd0 (a:=a) h.g h.n0
  have hne:∀ frm,vdF a n frm → frm ≠ [] → rchF a on frm ≠ []:=fun frm hf hne => by
   obtain ⟨y,hy⟩:=List.exists_mem_of_ne_nil _ hne
   obtain ⟨z,hz,_⟩:=(zfh (on:=on) h.g hf).low _ _ (RP.base hy)
   exact List.ne_nil_of_mem hz
  by_cases h0:k = 0
  ·subst h0
   rw [hW.fst] at hv
   obtain rfl:=Option.some.inj hv
   rw [h.fst] at hs
   obtain rfl:=Option.some.inj hs
   exact ⟨zhN h.g hv0,hne _ hv0 (by simp),(zdM h.g hv0).symm⟩
  ·have hkN:k < V.sts.length:=(List.getElem?_eq_some_iff.1 hs).1
   obtain ⟨i,e,Wi,f1,f2,f3,f4⟩:=hW.nxt k (by omega) hkN
   have hmem:=List.mem_of_find?_eq_some f1
   obtain ⟨k',s',j,g1,g2,g3,g4,g5,g6⟩:=zjx h.hU hmem
   simp only at g2 g3 g4 g5 g6
   obtain rfl:i = k':=by omega
   obtain rfl:k = j:=by omega
   rw [f4] at hv
   obtain rfl:=Option.some.inj hv
   rw [g6] at hs
   obtain rfl:=Option.some.inj hs
   obtain ⟨i1,i2,i3⟩:=ih i (by omega) s' Wi g1 f3
   have hev:e ∈ on:=of_decide_eq_true (List.mem_filter.1 g3).2
   have hm:∀ x,x ∈ s' ↔ x ∈ Wi.map (·.1):=fun x => by
    rw [i3]
    exact zgZ i1.nd (fun z hz => by
     obtain ⟨y,hy,rfl⟩:=List.mem_map.1 hz
     exact i1.rng y hy) x
   have hnv:=zo9 (a:=a) h.g (hal e hev) i1
   have hnn:nxF a.edges e Wi ≠ []:=fun hn => by
    have h9:=(zpa (on:=on) h.g (hal e hev) i1 hm).1 hn
    have g4':decide ((nxt a.edges (lowP on [] false) n s' e).length ≠ 0) = true:=g4
    rw [h9] at g4'
    exact absurd g4' (by decide)
   refine ⟨zhN h.g hnv,hne _ hnv hnn,?_⟩
   rw [zdM h.g hnv,zhV h.g (hal e hev) i1 hm]
   rfl
end
theorem zr9 {x:Sys} (hx:gSys x) (hV:(lpV x).length ≤ 4095) (hn:(lpR x).2.length ≤ 11) :
  ((esWR x).map (·.1) = (esR x).2 ∧ (esWR x).length = (esR x).2.length) ∧ ∀ z ∈ esWR x,vdF (lpR x).1 (lpR x).2.length z.2 ∧ z.2 ≠ [] ∧ z.1 = zbr (z.2.map (·.1)):=by
 by_cases h0:(lpR x).2.length = 0
 ·have he:(esR x).2 = []:=zu9 h0
  unfold esWR
  rw [he]
  exact ⟨⟨rfl,rfl⟩,fun z hz => by cases hz⟩
 ·obtain ⟨V,hprj,hVs⟩:=zsV hx hV hn h0
  have hes:esR x = (unfA (zbP (lpR x).1 x.ob) V,V.sts):=by
   unfold esR
   rw [if_neg h0,hprj.hV]
  have hW:=zsp hprj
  have hg:=zvm hprj (zas hx.ob).2.1
  unfold esWR
  rw [hes]
  unfold unfA
  simp only
  generalize wrdF (lpR x).1 x.ob V.eds V.sts.length = W at *
  have hl:V.sts.length = W.length:=hW.len.symm
  refine ⟨⟨by rw [← List.unzip_fst,List.unzip_zip hl],by rw [List.length_zip]; omega⟩,fun z hz => ?_⟩
  obtain ⟨k,hk⟩:=List.getElem?_of_mem hz
  have hk2:=List.getElem?_zip_eq_some.1 hk
  exact hg (k + 1) k (Nat.lt_succ_self k) z.1 z.2 hk2.1 hk2.2
end Go.AI


namespace Go.AI
open Go.Proofs
set_option maxRecDepth 20000
theorem zvo {x:Sk} (h:skOkB x) (hf:(lpR (mkS x)).1.states ≤ 10):obOk (mkS x):=by
 obtain ⟨m1,m2,m3,m4⟩:=zlO h
 exact zrA m1 m2 ⟨by omega,by omega⟩ (by have:=ztG h; omega) (by have:=zst h hf; omega)
end Go.AI


namespace Go.AI
open Go.Proofs
set_option maxRecDepth 20000
theorem zp3 (O:List Heap) (es:List Edg) (he:es.length ≤ zar):zam Tryz.prog 93 [edgs es,edgs es] O (bb true) [] O:=by
 refine zad Tk Tryz.func93 rfl Tryz.call93 Tryz.ntmps93 (Nat.le_of_ble_eq_true rfl) fun E => ?_
 refine zae Tk Tryz.func93 ?_
 refine zai Tk Tryz.func93 rfl (fun g1 => ?_) (fun g1 => ?_)
 ·exact absurd rfl (bneT g1)
 refine zac ?_
 refine zah (fun i:Nat => [(0,edgs es),(1,edgs es),(12,ii es.length),(13,ii i)]) (fun _ => []) (fun _ => O) 26
  (fun i => i ≤ es.length) (fun i => es.length - i) 0 (Nat.zero_le _) ⟨rfl,rfl,rfl,rfl,trivial⟩ rfl trivial rfl rfl ?_
 rintro i hi ih
 refine zae Tk Tryz.func93 ?_
 refine zai Tk Tryz.func93 rfl (fun g3 => ?_) (fun g3 => ?_)
 ·have h3:i < es.length:=by simpa using g3
  have ge:(es.map edgI)[(i:Int).toNat]? = some (edgI es[i]):=zaj h3
  generalize es[i] = e at *
  refine zaB Tk Tryz.func93 zaK rfl ?_
  refine zaz Tk (by exact ⟨by omega,by show (i:Int) < (es.length:Int); omega⟩) ?_
  refine zaG Tk (ge) ?_
  refine zaz Tk (by exact ⟨by omega,by show (i:Int) < (es.length:Int); omega⟩) ?_
  refine zaG Tk (ge) ?_
  refine zaS Tk Tryz.func93 (by kernel_rfl) ?_
  refine zai Tk Tryz.func93 rfl (fun g4 => ?_) (fun g4 => ?_)
  ·simp at g4
  ·refine zac ?_
   exact ih (i + 1) _ _ h3 (by omega) ⟨rfl,rfl,rfl,congrArg ii (zaE h3 he),trivial⟩ rfl trivial rfl rfl
 ·refine zal Tk (r:=bb true) rfl rfl rfl trivial rfl rfl ?_
  rfl
theorem zji (O:List Heap) (a:Aut) (ha:a.alpha.length ≤ zar) (hm:a.marked.length ≤ zar) (he:a.edges.length ≤ zar):zam Tryz.prog 38 [autD a,autD a] O (bb true) [] O:=by
 obtain ⟨al,n,mk,es⟩:=a
 simp only at ha hm he
 have h1:∀ O,zam Tryz.prog 41 [ints al,ints al] O (bb true) [] O:=fun O => by
  have h:=zdz O al al ha
  rwa [decide_eq_true rfl] at h
 have h2:∀ O,zam Tryz.prog 41 [ints mk,ints mk] O (bb true) [] O:=fun O => by
  have h:=zdz O mk mk hm
  rwa [decide_eq_true rfl] at h
 have h3:=fun O => zp3 O es he
 refine zad Tk Tryz.func38 rfl Tryz.call38 Tryz.ntmps38 (Nat.le_of_ble_eq_true rfl) fun E => ?_
 refine zae Tk Tryz.func38 ?_
 refine za1 Tk Tryz.func38 rfl (fun c1 => ?_) (fun c1 => ?_)
 rotate_left
 ·exact absurd rfl (beqF c1)
 refine zaf Tk Tryz.func38 (h1 _) rfl rfl rfl rfl rfl ?_
 refine gkT Tk Tryz.func38 rfl ?_
 refine zaf Tk Tryz.func38 (h2 _) rfl rfl rfl rfl rfl ?_
 refine gkT Tk Tryz.func38 rfl ?_
 refine zaf Tk Tryz.func38 (h3 _) rfl rfl rfl rfl rfl ?_
 refine zal Tk (r:=bb true) rfl rfl rfl trivial rfl rfl ?_
 rfl
theorem zkn {g:Nat} (hg:zfo g) {ty:TypeId} {fr:Nat × Nat} (O:List Heap) (x:Sys) (h:obOk x):ASpecT g (ptab ty fr) Tryz.prog 27 [sysD x] O (.tup [autD (esR x).1,.i (zdk (esR x).2),ii 0]) [] O:=by
 have h1:=fun O => zo3 hg (ty:=ty) (fr:=fr) O x h.sm h.hx h.h64 h.hV h.hn
 have e:zuu x = zbH x (lpR x).1 (lpR x).2 (esR x).1 (esR x).2:=rfl
 rw [e] at h1
 generalize lpR x = L at *
 generalize esR x = M at *
 clear h e
 obtain ⟨⟨al1,s1,m1,e1⟩,ps⟩:=L
 obtain ⟨⟨al2,s2,m2,e2⟩,rows⟩:=M
 obtain ⟨⟨al,st,mk,es⟩,⟨al',st',mk',es'⟩,ob,ct⟩:=x
 simp only at h1
 refine za0 [] Tk Tryz.func27 rfl Tryz.call27 Tryz.ntmps27 (Nat.le_of_ble_eq_true rfl) fun E hE => ?_
 refine zae Tk Tryz.func27 ?_
 refine zbf Tk Tryz.func27 hE (h1 _) rfl rfl rfl rfl rfl rfl ?_
 refine gcF Tk Tryz.func27 rfl ?_
 refine zaB Tk Tryz.func27 zaK rfl ?_
 refine zaG Tk (rfl) ?_
 refine zaG Tk (rfl) ?_
 refine znb Tk rfl rfl rfl ?_
 refine zaS Tk Tryz.func27 (by kernel_rfl) ?_
 refine zal Tk (r:=.tup [autD ⟨al2,s2,m2,e2⟩,.i (zdk rows),ii 0]) rfl rfl rfl trivial rfl rfl ?_
 rfl
theorem zt7 (O:List Heap) (l:List (Int × Int)) (hl:l.length ≤ 1000000):zam Tryz.prog 44 [.i (prsI l),.i (prsI l)] O (bb true) [] O:=by
 refine zad Tk Tryz.func44 rfl Tryz.call44 Tryz.ntmps44 (Nat.le_of_ble_eq_true rfl) fun E => ?_
 refine zae Tk Tryz.func44 ?_
 refine zai Tk Tryz.func44 rfl (fun h => absurd h (by simp)) (fun _ => ?_)
 refine zac ?_
 refine zah (fun i:Nat => [(0,.i (prsI l)),(1,.i (prsI l)),(12,ii l.length),(13,ii i)]) (fun _ => []) (fun _ => O) 26
  (fun i => i ≤ l.length) (fun i => l.length - i) 0 (Nat.zero_le _) ⟨rfl,rfl,rfl,rfl,trivial⟩ rfl trivial rfl rfl ?_
 rintro i hi ih
 refine zae Tk Tryz.func44 ?_
 refine zai Tk Tryz.func44 rfl (fun g1 => ?_) (fun g1 => ?_)
 ·have h3:i < l.length:=by simpa using g1
  clear g1
  have hi1:ii (IntKind.i64.wrap ((i:Int) + 1)) = ii ((i + 1:Nat):Int):=congrArg ii (zaE (n:=1000001) (by omega) (by decide))
  have gp:(l.map prI)[(i:Int).toNat]? = some (prI l[i]):=zaj h3
  generalize l[i] = z at *
  refine zaB Tk Tryz.func44 zaK rfl ?_
  refine zaz Tk (by exact ⟨by omega,by show (i:Int) < (l.length:Int); omega⟩) ?_
  refine zaG Tk (gp) ?_
  refine zaz Tk (by exact ⟨by omega,by show (i:Int) < (l.length:Int); omega⟩) ?_
  refine zaG Tk (gp) ?_
  refine zaS Tk Tryz.func44 (by kernel_rfl) ?_
  refine zai Tk Tryz.func44 rfl (fun h => absurd h (by simp)) (fun _ => ?_)
  refine zac ?_
  refine ih (i + 1) _ _ h3 (by omega) ⟨rfl,rfl,rfl,hi1,trivial⟩ rfl trivial rfl rfl
 ·refine zal Tk (r:=bb true) rfl rfl rfl trivial rfl rfl ?_
  rfl
theorem zvM (O:List Heap) (r:List Int) (z:Es2) (hr:r.length ≤ 1000000):zam Tryz.prog 46 [ints r,esD z] O (bb (decide (r = z.1))) [] O:=by
 have h:=fun O => zdz O r z.1 (by simp only [zar]; omega)
 refine zad Tk Tryz.func46 rfl Tryz.call46 Tryz.ntmps46 (Nat.le_of_ble_eq_true rfl) fun E => ?_
 refine zae Tk Tryz.func46 ?_
 refine zaf Tk Tryz.func46 (h _) rfl rfl rfl rfl rfl ?_
 refine zal Tk (r:=bb (decide (r = z.1))) rfl rfl rfl trivial rfl rfl ?_
 rfl
theorem zsa (O:List Heap) (L:List Es2) (hl:L.length ≤ 1000000) (hb:∀ z ∈ L,z.1.length ≤ 1000000):zam Tryz.prog 45 [.i (zdk (L.map (·.1))),zr8 L,.fn (.func 46) [] []] O (bb true) [] O:=by
 have h:=fun O z hz => zvM O z.1 z (hb z hz)
 have hml:(L.map (·.1)).length = L.length:=by rw [List.length_map]
 refine zad Tk Tryz.func45 rfl Tryz.call45 Tryz.ntmps45 (Nat.le_of_ble_eq_true rfl) fun E => ?_
 refine zae Tk Tryz.func45 ?_
 refine zai Tk Tryz.func45 rfl (fun h => absurd h (by simp)) (fun _ => ?_)
 refine zac ?_
 refine zah (fun i:Nat => [(1,zr8 L),(2,.fn (.func 46) [] []),(15,.i (zdk (L.map (·.1)))),(16,ii (L.map (·.1)).length),(17,ii i)]) (fun _ => []) (fun _ => O) 32
  (fun i => i ≤ L.length) (fun i => L.length - i) 0 (Nat.zero_le _) ⟨rfl,rfl,rfl,rfl,rfl,trivial⟩ rfl trivial rfl rfl ?_
 rintro i hi ih
 refine zae Tk Tryz.func45 ?_
 refine zai Tk Tryz.func45 rfl (fun g1 => ?_) (fun g1 => ?_)
 ·have h3:i < L.length:=by simpa using g1
  clear g1
  have hi1:ii (IntKind.i64.wrap ((i:Int) + 1)) = ii ((i + 1:Nat):Int):=congrArg ii (zaE (n:=1000001) (by omega) (by decide))
  have gr:((L.map (·.1)).map fun r => [zbt r])[(i:Int).toNat]? = some [zbt L[i].1]:=by
   rw [List.map_map]
   exact zaj (f:=(fun r => [zbt r]) ∘ (fun z:Es2 => z.1)) h3
  have gz:(L.map esI)[(i:Int).toNat]? = some (esI L[i]):=zaj h3
  have h':=fun O => h O L[i] (List.getElem_mem h3)
  rw [decide_eq_true rfl] at h'
  generalize L[i] = z at *
  refine zag Tk Tryz.func45 (by exact ⟨by omega,by rw [hml]; omega⟩) ?_
  refine zaq Tk Tryz.func45 (gr) ?_
  refine zag Tk Tryz.func45 (by exact ⟨by omega,by show (i:Int) < (L.length:Int); omega⟩) ?_
  refine zaq Tk Tryz.func45 (gz) ?_
  refine zaf Tk Tryz.func45 (h' _) rfl rfl rfl rfl rfl ?_
  refine gcF Tk Tryz.func45 rfl ?_
  refine zac ?_
  refine ih (i + 1) _ _ h3 (by omega) ⟨rfl,rfl,rfl,rfl,hi1,trivial⟩ rfl trivial rfl rfl
 ·refine zal Tk (r:=bb true) rfl rfl rfl trivial rfl rfl ?_
  rfl
set_option maxHeartbeats 16000000 in
theorem zuO {g:Nat} (hg:zfo g) {ty:TypeId} {fr:Nat × Nat} (O:List Heap) (x:Sk) (h:skOkB x):ASpecT g (ptab ty fr) Tryz.prog 9 [.agg (skC x)] O (bb true) [] O:=by
 have hk:=fun O => ztR hg (ty:=ty) (fr:=fr) O
 have h1:=fun O => zu3 O x h
 by_cases hf:(lpR (mkS x)).1.states ≤ 10
 ·have hob:=zvo h hf
  have hfit:=zst h hf
  have k1:=fun O => zsG O x h
  have k2:=fun O => zsK hg (ty:=ty) (fr:=fr) O (mkS x) hob.sm hob.hx hob.h64 hob.hV
  have k3:=fun O => zkn hg (ty:=ty) (fr:=fr) O (mkS x) hob
  have k4:=fun O => zpl O (mkS x) hob.sm hob.hx hob.hV
  have k5:=fun O => zkm O (mkS x) hob.sm hob.hx hob.hV (by omega)
  have hga:=(lp_g hob.hx hob.hV).1
  have hgo:=hob.tn.go
  have hel:=hob.tn.el
  obtain ⟨⟨hw1,hw2⟩,hw3⟩:=zr9 hob.hx hob.hV (show (lpR (mkS x)).2.length ≤ 11 by omega)
  have q1:=fun O => zji O (lpR (mkS x)).1 (by have:=hga.sm.al; simp only [zar]; omega) (by have:=hga.sm.mkd; simp only [zar]; omega) (by have:=hga.sm.ed; simp only [zar]; omega)
  have q2:=fun O => zji O (esR (mkS x)).1 (by have:=hgo.sm.al; simp only [zar]; omega) (by have:=hgo.sm.mkd; simp only [zar]; omega) (by have:=hgo.sm.ed; simp only [zar]; omega)
  have q3:=fun O => zt7 O (lpR (mkS x)).2 (by omega)
  have q4:=fun O => zsa O (esWR (mkS x)) (by omega) (fun z hz => by
   obtain ⟨g1,_,g3⟩:=hw3 z hz
   rw [g3,zex,List.length_map]
   have:=RGd.few (a:=(lpR (mkS x)).1) (on:=[]) (n:=(lpR (mkS x)).2.length) ⟨fun y hy => RP.base hy,g1.nd,fun z hz => ⟨z,hz,rfl,Nat.le_refl _⟩⟩ (g1.ok hga)
   omega)
  rw [hw1] at q4
  rw [decide_eq_true hf] at h1
  clear hw1 hw2 hw3 hel hgo hga hfit hob hf h
  generalize esWR (mkS x) = LW at *
  generalize esR (mkS x) = M at *
  generalize lpR (mkS x) = L at *
  generalize mkS x = X at *
  obtain ⟨⟨al,st,mk,es⟩,⟨al',st',mk',es'⟩,ob,ct⟩:=X
  obtain ⟨⟨oal,ost,omk,oes⟩,rows⟩:=M
  obtain ⟨⟨lal,lst,lmk,leds⟩,ps⟩:=L
  obtain ⟨xst,xps,xpm,xpt,xss,xsm,xt2,xob,xct⟩:=x
  simp only at h1 k1 k2 k3 k4 k5 q1 q2 q3 q4
  refine za0 [] Tk Tryz.func9 rfl Tryz.call9 Tryz.ntmps9 (Nat.le_of_ble_eq_true rfl) fun E hE => ?_
  refine zae Tk Tryz.func9 ?_
  refine zbf Tk Tryz.func9 hE (hk _) rfl rfl rfl rfl rfl rfl ?_
  refine gkF Tk Tryz.func9 rfl ?_
  refine zaf Tk Tryz.func9 (h1 _) rfl rfl rfl rfl rfl ?_
  refine gcF Tk Tryz.func9 rfl ?_
  refine zaf Tk Tryz.func9 (k1 _) rfl rfl rfl rfl rfl ?_
  refine zbf Tk Tryz.func9 hE (k2 _) rfl rfl rfl rfl rfl rfl ?_
  refine zbf Tk Tryz.func9 hE (k3 _) rfl rfl rfl rfl rfl rfl ?_
  refine zaf Tk Tryz.func9 (k4 _) rfl rfl rfl rfl rfl ?_
  refine zaf Tk Tryz.func9 (k5 _) rfl rfl rfl rfl rfl ?_
  refine gkT Tk Tryz.func9 rfl ?_
  refine gkT Tk Tryz.func9 rfl ?_
  refine zaf Tk Tryz.func9 (q1 _) rfl rfl rfl rfl rfl ?_
  refine gkT Tk Tryz.func9 rfl ?_
  refine zaf Tk Tryz.func9 (q3 _) rfl rfl rfl rfl rfl ?_
  refine gkT Tk Tryz.func9 rfl ?_
  refine zaf Tk Tryz.func9 (q2 _) rfl rfl rfl rfl rfl ?_
  refine gkT Tk Tryz.func9 rfl ?_
  refine zaf Tk Tryz.func9 (q4 _) rfl rfl rfl rfl rfl ?_
  refine zal Tk (r:=bb true) rfl rfl rfl trivial rfl rfl ?_
  rfl
 ·rw [decide_eq_false hf] at h1
  clear hf h
  obtain ⟨xst,xps,xpm,xpt,xss,xsm,xt2,xob,xct⟩:=x
  refine za0 [] Tk Tryz.func9 rfl Tryz.call9 Tryz.ntmps9 (Nat.le_of_ble_eq_true rfl) fun E hE => ?_
  refine zae Tk Tryz.func9 ?_
  refine zbf Tk Tryz.func9 hE (hk _) rfl rfl rfl rfl rfl rfl ?_
  refine gkF Tk Tryz.func9 rfl ?_
  refine zaf Tk Tryz.func9 (h1 _) rfl rfl rfl rfl rfl ?_
  refine gcT Tk Tryz.func9 rfl ?_
  refine zbf Tk Tryz.func9 hE (hk _) rfl rfl rfl rfl rfl rfl ?_
  refine zal Tk (r:=bb true) rfl rfl rfl trivial rfl rfl ?_
  rfl
end Go.AI


namespace Go.Proofs.YtlcekmemdnjjbaaGreatDoor
set_option maxRecDepth 100000
theorem zb2:laidOutB Tryz.prog = true:=by kernel_rfl
theorem zdq:mapsRowed Tryz.prog = true:=by kernel_rfl
theorem zdg:(Rows.observabilityLoopsRow.inPlace == Tryz.prog.inPlace 9) = true:=by kernel_rfl
theorem zdf:(Rows.observabilityLoopsRow.unfollowed == Tryz.prog.unfollowed 9) = true:=by kernel_rfl
theorem zde:(Rows.observabilityLoopsRow.recurses == Tryz.prog.recurses 9) = true:=by kernel_rfl
theorem zdd:(Rows.observabilityLoopsRow.named == Tryz.prog.varsNamed 9) = true:=by kernel_rfl
theorem zcF:joinedFacts Tryz.prog 9 Tryz.f9 Rows.observabilityLoopsSpec Rows.observabilityLoopsRow = true:=by
 simp only [joinedFacts,Bool.and_eq_true]
 repeat' refine And.intro ?_ ?_
 ·kernel_rfl
 ·exact zb2
 ·exact zdq
 ·kernel_rfl
 ·kernel_rfl
 ·kernel_rfl
 ·kernel_rfl
 ·kernel_rfl
 ·kernel_rfl
 ·exact zdg
 ·exact zdf
 ·exact zde
 ·exact zdd
 ·kernel_rfl
 ·kernel_rfl
 ·kernel_rfl
 ·kernel_rfl
 ·kernel_rfl
 ·kernel_rfl
 ·kernel_rfl
 ·kernel_rfl
 ·kernel_rfl
 ·kernel_rfl
 ·kernel_rfl
 ·kernel_rfl
 ·kernel_rfl
 ·kernel_rfl
 ·kernel_rfl
 ·kernel_rfl
 ·kernel_rfl
 ·kernel_rfl
 ·kernel_rfl
theorem zcY : Tryz.prog.mainIs = some (true, "5041c38c3c15c3199033450f7632fe41f4871cb850793ec5542bbc9f8af1fc7c".toList) := by kernel_rfl
theorem zcO:false = Tryz.prog.looks []:=by kernel_rfl
theorem zcZ:false = Rows.observabilityLoopsRow.goesBy Tryz.prog:=by kernel_rfl
end Go.Proofs.YtlcekmemdnjjbaaGreatDoor
