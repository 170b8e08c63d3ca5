/- The layer of abstract runs, part 31. -/
import Derived.Test.YtlcekmemdnjjbaaGreatDoorAshZD
import Derived.Test.YtlcekmemdnjjbaaGreatDoorRows
import Derived.KernelRfl
import Derived.JoinedOf
import Derived.SevenTiedAt
set_option linter.unusedSimpArgs false
set_option linter.unusedVariables false
set_option linter.all false

set_option maxHeartbeats 4000000
namespace Go.AI
open Go.Proofs
set_option maxRecDepth 20000
structure EsOk (a:Aut) (n:Nat) (ob:List Int) (sts:List (List Int)) (eds:List Edg) (W:List (List Fd)):Prop where
 w:WOk a ob eds sts.length W
 b:∀ x ∈ eds,x.2.2 < (sts.length:Int)
 g:∀ (k:Nat) s v,sts[k]? = some s → W[k]? = some v → (vdF a n v ∧ v ≠ [] ∧ s = zbs (v.map (·.1))) ∧ ∀ y ∈ v,y.2.length ≤ 13 * (k + 1)
theorem zjI {α β:Type}:∀ {l:List α} {m:List β} {i:Nat} {x:α} {y:β},l[i]? = some x → m[i]? = some y → (l.zip m)[i]? = some (x,y)
 | [],_,_,_,_,h,_ => by simp at h
 | _ :: _,[],_,_,_,_,h => by simp at h
 | a :: l,b :: m,0,x,y,h,h' => by
  simp only [List.getElem?_cons_zero,Option.some.injEq] at h h'
  subst h h'
  rfl
 | a :: l,b :: m,i + 1,x,y,h,h' => by
  simp only [List.getElem?_cons_succ] at h h'
  simpa using zjI h h'
theorem zq8 {α β:Type} {l:List α} {m:List β} {x:α} {y:β} (h:l.length = m.length):(l ++ [x]).zip (m ++ [y]) = l.zip m ++ [(x,y)]:=by
 rw [List.zip_append h]; rfl
theorem zg7 {β:Type} {s:List Int}:∀ {l:List (List Int)} {m:List β} {i:Nat},l.length = m.length → zay (fun z:List Int × β => decide (z.1 = s)) (l.zip m) i = if s ∈ l then ((i + l.findIdx (eqB s):Nat):Int) else -1
 | [],[],i,_ => by simp [zay]
 | [],_ :: _,_,h => by simp at h
 | _ :: _,[],_,h => by simp at h
 | a :: l,b :: m,i,h => by
  simp only [List.zip_cons_cons,zay]
  by_cases c:a = s
  ·subst c
   rw [if_pos (by simp),if_pos (by simp)]
   simp [List.findIdx_cons,eqB]
  ·rw [if_neg (by simpa using c),zg7 (by simpa using h)]
   by_cases hm:s ∈ l
   ·rw [if_pos hm,if_pos (by simp [hm])]
    rw [List.findIdx_cons]
    have:eqB s a = false:=by simp [eqB,Ne.symm c]
    rw [this]
    simp only [cond_false]
    omega
   ·rw [if_neg hm,if_neg (by simp [hm,Ne.symm c])]
theorem zeZ {l:List Int} {n:Nat} (h:l.Nodup) (hl:∀ x ∈ l,0 ≤ x ∧ x < (n:Int)) (x:Int):x ∈ zbs l ↔ x ∈ l:=by
 rw [zed h hl,zbP]
 exact ⟨fun h => h.2,fun h => ⟨hl x h,h⟩⟩
theorem ztV (es:List Edg) (e:Int) (acc:List Fd) (x:Fd):(nxS es e acc x).length ≤ acc.length + 1:=by
 unfold nxS
 split
 ·omega
 ·split
  ·simp
  ·split
   ·simp
   ·omega
theorem zpq (es:List Edg) (e:Int) (W:List Fd):(nxF es e W).length ≤ W.length:=by
 have key:∀ (W acc:List Fd),(W.foldl (nxS es e) acc).length ≤ acc.length + W.length:=by
  intro W
  induction W with
  | nil => intro acc; simp
  | cons x W ih =>
   intro acc
   have:=ih (nxS es e acc x)
   have:=ztV es e acc x
   simp only [List.foldl_cons,List.length_cons]
   omega
 simpa [nxF] using key W []
theorem zjW {a:Aut} {on:List Int} {frm:List Fd} {n B:Nat} (h:gAut a n) (hn:n ≤ 12) (hv:vdF a n frm) (hB:∀ y ∈ frm,y.2.length ≤ B):∀ y ∈ rchF a on frm,y.2.length ≤ B + 12:=by
 have hq:=zfq (on:=on) h hv
 have hfew:(rchF a on frm).length ≤ n:=RGd.few ⟨hq.snd,hq.nd,fun x hx => hq.low _ _ (RP.base hx)⟩ (hv.ok h)
 generalize rchF a on frm = l at *
 have hcs:∀ t w,RP a on frm t w → (t,w) ∈ frm ∨ ∃ s v e,RP a on frm s v ∧ e ∈ a.alpha ∧ e ∉ on ∧ 0 ≤ stp3 a.edges s e ∧ t = stp3 a.edges s e ∧ w = v ++ [e]:=by
  intro t w hp
  cases hp with
  | base hx => exact .inl hx
  | step h1 h2 h3 h4 => exact .inr ⟨_,_,_,h1,h2,h3,h4,rfl,rfl⟩
 have key:∀ (m i:Nat) (hi:i < l.length),i < m → l[i].2.length ≤ B + i:=by
  intro m
  induction m with
  | zero => intro i _ hi; omega
  | succ m ih =>
   intro i hi him
   have hp:=hq.snd _ (List.getElem_mem hi)
   rcases hcs _ _ hp with hf | ⟨s,v,e,h1,h2,h3,h4,h5,h6⟩
   ·have:=hB _ hf
    simp only at this
    omega
   ·obtain ⟨z,hz,e1,e2⟩:=hq.low s v h1
    have hpz:=hq.snd z hz
    rw [e1] at hpz
    have hst:=RP.step hpz h2 h3 h4
    obtain ⟨y',hy',e3,e4⟩:=hq.low _ _ hst
    have hyy:y' = l[i]:=zjd hq.nd hy' (List.getElem_mem hi) (by rw [e3,h5])
    subst hyy
    rw [h6] at e4 ⊢
    have hle:rk (z.2 ++ [e]) ≤ rk (v ++ [e]):=zuX e2
    have heq:rk (z.2 ++ [e]) = rk (v ++ [e]):=by omega
    have hwz:=(hst.ok (hv.ok h)).2
    have hwv:=(RP.step h1 h2 h3 h4).ok (hv.ok h)
    have hvz:=ztN hwz hwv.2 heq
    obtain ⟨j,hj,rfl⟩:=List.mem_iff_getElem.1 hz
    have hji:j < i:=by
     rcases Nat.lt_trichotomy j i with hlt | rfl | hgt
     ·exact hlt
     ·have:rk l[j].2 < rk (v ++ [e]):=by rw [← heq,zcw]; omega
      rw [← h6] at this
      omega
     ·have h8:=List.pairwise_iff_getElem.1 hq.srt i j hi hj hgt
      rw [h6,← heq,zcw] at h8
      omega
    have:=ih j hj (by omega)
    rw [← hvz]
    simp only [List.length_append,List.length_singleton]
    omega
 intro y hy
 obtain ⟨i,hi,rfl⟩:=List.mem_iff_getElem.1 hy
 have:=key (i + 1) i hi (Nat.lt_succ_self i)
 omega
noncomputable abbrev esWR (x:Sys):List Es2:=(esR x).2.zip (wrdF (lpR x).1 x.ob (esR x).1.edges (esR x).2.length)
set_option maxHeartbeats 32000000 in
theorem zgM (O:List Heap) (x:Sys) (h:smallS x) (hx:gSys x) (hV0:(lpV x).length ≤ 4095) (hn11:(lpR x).2.length ≤ 11):zan Tryz.prog 43 [sysD x] O (.tup [autD (esR x).1,znP (esWR x)]) [] O:=by
 have c42:=fun O => zpA O x h hx hV0
 have hga:=(lp_g hx hV0).1
 have hke:=zpC hx hV0
 have hobs:=h.ob
 by_cases h0:(lpR x).2.length = 0
 ·have he:esR x = (⟨x.ob,0,[],[]⟩,[]):=by unfold esR; rw [if_pos h0,hke]
  unfold esWR
  rw [he]
  have hst:=hga.st
  rw [h0] at hst
  generalize lpR x = L at *
  obtain ⟨⟨al,st,mk,es⟩,ps⟩:=L
  simp only at hst c42
  obtain ⟨⟨al',st',mk',es'⟩,⟨al2,st2,mk2,es2⟩,ob,ct⟩:=x
  simp only at c42 ⊢
  subst hst
  refine zat [] Tk Tryz.func43 rfl Tryz.call43 Tryz.ntmps43 (Nat.le_of_ble_eq_true rfl) fun E => ?_
  refine zae Tk Tryz.func43 ?_
  refine zaf Tk Tryz.func43 (c42 _) rfl rfl rfl rfl rfl ?_
  refine gcF Tk Tryz.func43 rfl ?_
  refine zac ?_
  refine zae Tk Tryz.func43 ?_
  refine gcF Tk Tryz.func43 rfl ?_
  refine zb2 Tk (r:=.tup [.agg [ints ob,ii 0,.i (.v (.slice none 0 0)),.i (.v (.slice none 0 0))],.i (.v (.slice none 0 0))]) rfl rfl rfl trivial rfl rfl ?_
  repeat' (first | refine zcR ?_ | refine zcS ?_ | refine zfi ?_ | refine CoDL.cons ?_ ?_ | exact CoDL.nil | exact zbZ | refine zdF ?_ | refine CoLL.cons ?_ ?_ | exact CoLL.nil | refine CoL.cons ?_ ?_ | exact CoL.nil | exact CoI.refl _ | exact CoL.refl _ | exact CoLL.refl _ | exact CoDL.refl _ | exact CoD.refl _)
 obtain ⟨V,hprj,hVs⟩:=zqh hx hV0 hn11 h0
 obtain ⟨-,hn0,-,hVr,hVU⟩:=hprj
 have hes:esR x = (unfA x.ob V,V.sts):=by
  unfold esR
  rw [if_neg h0,hVr,hke]
 unfold esWR
 rw [hes]
 unfold unfA
 simp only
 have hal32:∀ e ∈ x.ob,0 ≤ e ∧ e < 32:=(zar hx.ob).2.1
 have hobl:=zaX (by decide) hx.ob
 generalize hN:(lpR x).2.length = n at *
 have hF:=zj0 (lpR x).1 x.ob n
 have hfew:∀ U:Unf (List Int),UOk (estP n) U → U.sts.length ≤ 4095:=fun U hU => by
  have:=zbl hU.nd (fun s hs => (hU.ok s hs).1)
  rw [zfy] at this
  have:2 ^ n ≤ 2 ^ 11:=Nat.pow_le_pow_right (by decide) hn11
  omega
 have hv0:=vd0 (a:=(lpR x).1) hga hn0
 have hs0:clo (lpR x).1.edges (lowP x.ob [] false) n [0] = zbs ((rchF (lpR x).1 x.ob [((0:Int),([]:List Int))]).map (·.1)):=(zdR hga hv0).symm
 have hno:(Except.ok V:Except Int (Unf (List Int))) = zby eqB false (zd1 (lpR x).1 x.ob n) (zcD (lpR x).1) x.ob (4097 - 0) 0 (unf0 (zbs ((rchF (lpR x).1 x.ob [((0:Int),([]:List Int))]).map (·.1)))):=by
  rw [← hs0,← hVr]
  unfold prjR
  rw [hke]
  rfl
 have hq0:=zfq (on:=x.ob) hga hv0
 have hne0:rchF (lpR x).1 x.ob [((0:Int),([]:List Int))] ≠ []:=by
  obtain ⟨z,hz,_⟩:=hq0.low _ _ (RP.base (List.mem_singleton.2 rfl))
  exact List.ne_nil_of_mem hz
 have hrl:∀ B frm,vdF (lpR x).1 n frm → (∀ y ∈ frm,y.2.length ≤ B) → ∀ y ∈ rchF (lpR x).1 x.ob frm,y.2.length ≤ B + 12:=fun B frm hv hB => zjW hga (by omega) hv hB
 have hrv:∀ frm,vdF (lpR x).1 n frm → vdF (lpR x).1 n (rchF (lpR x).1 x.ob frm):=fun frm hv => zh1 hga hv
 have hnv:∀ e W,e ∈ x.ob → vdF (lpR x).1 n W → vdF (lpR x).1 n (nxF (lpR x).1.edges e W):=fun e W he hv => zlY hga (hal32 e he) hv
 have hnl:∀ e W B,e ∈ x.ob → vdF (lpR x).1 n W → (∀ y ∈ W,y.2.length ≤ B) → ∀ y ∈ nxF (lpR x).1.edges e W,y.2.length ≤ B + 1:=fun e W B he hv hB y hy => by
  obtain ⟨z,hz,rfl,_⟩:=(zjc (es:=(lpR x).1.edges) (hal32 e he) hv.wrd).snd y hy
  have:=hB z hz
  simp only [List.length_append,List.length_singleton]
  omega
 have hrv2':∀ frm B,vdF (lpR x).1 n frm → frm ≠ [] → (∀ y ∈ frm,y.2.length ≤ B) → vdF (lpR x).1 n (rchF (lpR x).1 x.ob frm) ∧ rchF (lpR x).1 x.ob frm ≠ [] ∧ ∀ y ∈ rchF (lpR x).1 x.ob frm,y.2.length ≤ B + 12:=fun frm B hv hne hB => ⟨hrv frm hv,by
  obtain ⟨y,hy⟩:=List.exists_mem_of_ne_nil _ hne
  obtain ⟨z,hz,_⟩:=(zfq (on:=x.ob) hga hv).low _ _ (RP.base hy)
  exact List.ne_nil_of_mem hz,hrl B frm hv hB⟩
 have hrne:∀ frm,vdF (lpR x).1 n frm → frm ≠ [] → rchF (lpR x).1 x.ob frm ≠ []:=fun frm hv hne => by
  obtain ⟨y,hy⟩:=List.exists_mem_of_ne_nil _ hne
  obtain ⟨z,hz,_⟩:=(zfq (on:=x.ob) hga hv).low _ _ (RP.base hy)
  exact List.ne_nil_of_mem hz
 have hE0:EsOk (lpR x).1 n x.ob [zbs ((rchF (lpR x).1 x.ob [((0:Int),([]:List Int))]).map (·.1))] [] [rchF (lpR x).1 x.ob [((0:Int),([]:List Int))]]:=⟨⟨rfl,rfl,fun k h1 h2 => by simp at h2; omega⟩,by simp,fun k s v h1 h2 => by
  have hk:k = 0:=by
   have:=(List.getElem?_eq_some_iff.1 h1).1
   simp at this
   exact this
  subst hk
  simp only [List.getElem?_cons_zero,Option.some.injEq] at h1 h2
  subst h1 h2
  refine ⟨⟨hrv _ hv0,hne0,rfl⟩,fun y hy => ?_⟩
  have:=hrl 0 _ hv0 (fun y hy => by rw [List.mem_singleton] at hy; subst hy; simp) y hy
  omega⟩
 have hU0:UOk (estP n) (unf0 (zbs ((rchF (lpR x).1 x.ob [((0:Int),([]:List Int))]).map (·.1)))):=⟨fun s hs => by
   rw [show s = _ by simpa [unf0] using hs,← hs0]
   exact ⟨zbF _ _,zkD hga hn0 x.ob⟩,by simp [unf0],rfl⟩
 have hts:∀ (s:List Int) e (W:List Fd),e ∈ x.ob → vdF (lpR x).1 n W → s = zbs (W.map (·.1)) → (nxF (lpR x).1.edges e W = [] → (zd1 (lpR x).1 x.ob n s e).2 = (false,0)) ∧ (nxF (lpR x).1.edges e W ≠ [] → zd1 (lpR x).1 x.ob n s e = (zbs ((rchF (lpR x).1 x.ob (nxF (lpR x).1.edges e W)).map (·.1)),true,0)):=by
  intro s e W he hv hs
  have hm:∀ x,x ∈ s ↔ x ∈ W.map (·.1):=fun x => by
   rw [hs]
   exact zeZ hv.nd (fun z hz => by
    obtain ⟨y,hy,rfl⟩:=List.mem_map.1 hz
    exact hv.rng y hy) x
  have hnil:=zpp (on:=x.ob) hga (hal32 e he) hv hm
  have hnx:=zh8 (on:=x.ob) hga (hal32 e he) hv hm
  have hr:=zdR (on:=x.ob) hga (hnv e W he hv)
  unfold zd1
  refine ⟨fun h => ?_,fun h => ?_⟩
  ·rw [hnil.1 h]; rfl
  ·have:nxt (lpR x).1.edges (lowP x.ob [] false) n s e ≠ []:=fun e' => h (hnil.2 e')
   rw [hr,hnx,decide_eq_true (show (nxt (lpR x).1.edges (lowP x.ob [] false) n s e).length ≠ 0 from fun e' => this (List.eq_nil_of_length_eq_zero e'))]
 have hvok:=fun i s ev U V' hU hs hi hq => @zew (List Int) _ eqB false (zd1 (lpR x).1 x.ob n) (estP n) hF i s ev U V' hU hs hi hq
 have cst:=fun O s e => zhc O (lpR x).1 s e hga.sm.ed
 have cmk:=fun O d nm ho (s:List Int) hs => zd8 O s 98 d nm (fun z => decide (z ∈ (lpR x).1.marked)) hs fun z _ => mk98 ([] :: [] :: O) (lpR x).1 z (d + 2) nm hga.sm.mkd (zaI (zaI ho))
 have cof:=fun O B frm hB hv hne hlen hoA hoX => of95 O (lpR x).1 x n B frm 0 4 0 1 hga (by omega) hB hv hne hlen hobs hoA hoX
 have cof0:∀ O,zaa O 0 4 = some (.box (autC (lpR x).1)) → zaa O 0 1 = some (.box (sysC x)) → zan Tryz.prog 95 [.i (.sl 2 1 [[vi 0,.v (.slice none 0 0)]]),.own 0 4 0 0,.own 0 1 0 0] O (esD (zbs ((rchF (lpR x).1 x.ob [((0:Int),([]:List Int))]).map (·.1)),rchF (lpR x).1 x.ob [((0:Int),([]:List Int))])) [] O:=fun O hoA hoX =>
  zsE (.cons (zfi (zdF (.cons (.cons (CoI.refl _) (.cons zbZ .nil)) .nil))) (CoDL.refl _)) (cof O 0 [((0:Int),([]:List Int))] (by omega) hv0 (by simp) (fun y hy => by rw [List.mem_singleton] at hy; subst hy; simp) hoA hoX)
 have ceq:=fun O d nm (y:Es2) (l:List Es2) e w hl (hlb:∀ z ∈ l,z.1.length ≤ 1000000) (ho:zaa O e w = some (zh6 l)) (hy:zaa O d nm = some (.box [ints y.1,fdsD y.2])) => zr9 O l 103 e w d nm (fun z => decide (z.1 = y.1)) hl ho fun z hz => zwa ([] :: O) z y (d + 1) nm (hlb z hz) (zaI hy)
 have hcl:=fun O l hl => zmj O l hl
 have hcm:=fun O a b ha hb => zmi O a b ha hb
 have hix:=fun O (l:List Fd) (t:Int) (hl:l.length ≤ 1000000) (h1:zaa O 0 98 = some (ofds l)) (h2:zaa O 0 15 = some (.box [ii t])) => zpI O l 100 0 98 0 15 (fun x => x.1 == t) hl h1 fun x _ => zvU ([] :: O) x t 1 15 (zaI h2)
 have hsn:∀ s,estP n s → s.length ≤ 1000000:=fun s hs => by
  have:=(zbO hs.1).1
  omega
 have hgst:=hga.st
 have hvlen:∀ l,vdF (lpR x).1 n l → l.length ≤ n:=fun l hv => RGd.few (on:=x.ob) ⟨fun y hy => RP.base hy,hv.nd,fun z hz => ⟨z,hz,rfl,Nat.le_refl _⟩⟩ (hv.ok hga)
 have hmr:∀ s,zcD (lpR x).1 s = s.any fun z => decide (z ∈ (lpR x).1.marked):=fun _ => rfl
 generalize hR:(Except.ok V:Except Int (Unf (List Int))) = Q at *
 clear hs0 hVU hVr hes hVs hke h0 hV0 hx hF hN hga hq0 hne0 hrv h
 generalize zd1 (lpR x).1 x.ob n = ts at *
 generalize zcD (lpR x).1 = mr at *
 generalize lpR x = L at *
 obtain ⟨a,ps⟩:=L
 simp only at *
 obtain ⟨al,st,mk,es⟩:=a
 obtain ⟨⟨al',st',mk',es'⟩,⟨al2,st2,mk2,es2⟩,ob,ct⟩:=x
 simp only at *
 refine zat [12,22,29,34,36] Tk Tryz.func43 rfl Tryz.call43 Tryz.ntmps43 (Nat.le_of_ble_eq_true rfl) fun E => ?_
 refine zae Tk Tryz.func43 ?_
 refine zaf Tk Tryz.func43 (c42 _) rfl rfl rfl rfl rfl ?_
 refine zai Tk Tryz.func43 rfl (fun _ => ?_) (fun h => absurd h (by simp; omega))
 refine zaf Tk Tryz.func43 (cof0 _ rfl rfl) rfl rfl rfl rfl rfl ?_
 refine zag Tk Tryz.func43 (by exact ⟨by decide,by decide⟩) ?_
 refine zac ?_
 refine zao (zcT 38 129 rfl rfl rfl) ?_
 refine zao (zaO 6 56 3 1 (pre:=[ints ob,ii 0]) (post:=[.i (.v (.slice none 0 0))]) rfl rfl rfl) ?_
 refine zao (zaO 6 137 117 3 (pre:=[ints ob,ii 0,.osl 0 56]) (post:=[]) rfl rfl rfl) ?_
 refine zah (fun x:Nat × Unf (List Int) × List (List Fd) => [(1,.own 0 1 0 0),(2,.own 0 2 0 0),(4,.own 0 4 0 0),(6,.own 0 6 0 0),(7,.fn (.func 95) [] [.own 0 4 0 0,.own 0 1 0 0]),(8,.osl 0 129),(9,ii x.1)])
  (fun x => [(1,.box (sysC ⟨⟨al',st',mk',es'⟩,⟨al2,st2,mk2,es2⟩,ob,ct⟩)),(2,.box [.i (.v (.slice none 0 0)),ii 0,.i (.v (.slice none 0 0)),.i (.v (.slice none 0 0))]),(4,.box [ints al,ii st,ints mk,edgs es]),(6,.box [ints ob,ii 0,.osl 0 56,.osl 0 137]),(129,zh6 (x.2.1.sts.zip x.2.2)),(56,zaw x.2.1.mkl),(137,zbD x.2.1.eds)]) (fun _ => O) 145
  (fun x => x.1 ≤ x.2.1.sts.length ∧ UOk (estP n) x.2.1 ∧ EsOk ⟨al,st,mk,es⟩ n ob x.2.1.sts x.2.1.eds x.2.2 ∧ x.2.1.mkl.length ≤ x.1 ∧ x.2.1.eds.length ≤ 32 * x.1 ∧ Q = zby eqB false ts mr ob (4097 - x.1) x.1 x.2.1) (fun x => 4097 - x.1) (0,unf0 (zbs ((rchF ⟨al,st,mk,es⟩ ob [((0:Int),([]:List Int))]).map (fun y:Fd => y.1))),[rchF ⟨al,st,mk,es⟩ ob [((0:Int),([]:List Int))]])
  ⟨Nat.zero_le _,hU0,hE0,Nat.le_refl _,Nat.le_refl _,hno⟩ ⟨rfl,rfl,rfl,rfl,rfl,rfl,rfl,trivial⟩ rfl ⟨rfl,rfl,rfl,rfl,rfl,rfl,rfl,trivial⟩ rfl rfl ?_
 clear hno hU0 hE0 cof0 c42
 rintro ⟨i,U,W⟩ ⟨hi,hgd,hE,hml,hel,hno⟩ ih
 simp only at hi hgd hE hml hel hno
 have hWl:=hE.w.len
 refine zae Tk Tryz.func43 ?_
 refine zai Tk Tryz.func43 rfl (fun g1 => ?_) (fun g1 => ?_)
 ·have h1:i < U.sts.length:=by
   have:i < (U.sts.zip W).length:=by simpa using g1
   rw [List.length_zip] at this
   omega
  clear g1
  have hle:=hfew U hgd
  have hsi:U.sts[i]? = some U.sts[i]:=List.getElem?_eq_getElem h1
  have hwi:W[i]? = some (W[i]'(by omega)):=List.getElem?_eq_getElem (by omega)
  have hoks:=hgd.ok _ (List.getElem_mem h1)
  generalize W[i]'(by omega) = Wi at *
  generalize U.sts[i] = s at *
  have gz:=zjI hsi hwi
  have gs:((U.sts.zip W).map esI)[(i:Int).toNat]? = some (esI (s,Wi)):=by
   show ((U.sts.zip W).map esI)[i]? = _
   rw [List.getElem?_map,gz]; rfl
  obtain ⟨⟨hvi,hwne,hsw⟩,hwl⟩:=hE.g i s Wi hsi hwi
  have hno:Q = match zau eqB false ts i s ob (zbk mr i s U) with
    | .error e => .error e
    | .ok U' => zby eqB false ts mr ob (4097 - (i + 1)) (i + 1) U':=by
   rw [hno,show 4097 - i = (4097 - (i + 1)) + 1 by omega]
   simp only [zby,hsi]
   cases zau eqB false ts i s ob (zbk mr i s U) <;> rfl
  obtain ⟨m1',m2'⟩:=zb5 mr i s U
  have hM:UOk (estP n) (zbk mr i s U):=⟨by rw [m1']; exact hgd.ok,by rw [m1']; exact hgd.nd,by rw [m1',m2']; exact hgd.fr⟩
  have hm3:(zbk mr i s U).mkl = if mr s = true then U.mkl ++ [(i:Int)] else U.mkl:=by
   unfold zbk
   by_cases h:mr s = true <;> simp [h]
  generalize zbk mr i s U = U1 at *
  rw [hmr] at hm3
  have d1:=fun O d nm ho => cmk O d nm ho s (by have:=hsn s hoks; simp only [zas]; omega)
  generalize (s.any fun z => decide (z ∈ mk)) = B1 at *
  obtain ⟨sts,mkl,eds⟩:=U
  obtain ⟨sts1,mkl1,eds1⟩:=U1
  simp only at m1' m2' hm3 hsi gs gz hno h1 hle hel hml hi hgd hE hWl
  subst m1' m2'
  have hzl:(sts1.zip W).length = sts1.length:=by rw [List.length_zip]; omega
  have n1:0 ≤ (i:Int) ∧ (i:Int) < ((sts1.zip W).length:Int):=by omega
  have hml1:mkl1.length ≤ i + 1:=by rw [hm3]; split; (rw [List.length_append,List.length_singleton]; omega); omega
  apply zcj (P:=True) (s6:={ σ:=[(1,.own 0 1 0 0),(2,.own 0 2 0 0),(4,.own 0 4 0 0),(6,.own 0 6 0 0),(7,.fn (.func 95) [] [.own 0 4 0 0,.own 0 1 0 0]),(8,.osl 0 129),(9,ii i)],S:=[(1,.box (sysC ⟨⟨al',st',mk',es'⟩,⟨al2,st2,mk2,es2⟩,ob,ct⟩)),(2,.box [.i (.v (.slice none 0 0)),ii 0,.i (.v (.slice none 0 0)),.i (.v (.slice none 0 0))]),(4,.box [ints al,ii st,ints mk,edgs es]),(6,.box [ints ob,ii 0,.osl 0 56,.osl 0 137]),(129,zh6 (sts1.zip W)),(56,zaw mkl1),(137,zbD eds1)] :: O,n:=145 })
  ·intro J
   refine zag Tk Tryz.func43 (by exact n1) ?_
   refine zap Tk Tryz.func43 (gs) ?_
   refine zaf Tk Tryz.func43 (d1 _ 0 4 rfl) rfl rfl rfl rfl rfl ?_
   refine zai Tk Tryz.func43 rfl (fun c1 => ?_) (fun c1 => ?_)
   ·have c1:B1 = true:=c1
    rw [if_pos c1] at hm3
    refine zag Tk Tryz.func43 (by exact ⟨by show (mkl.length + 1) * 8 ≤ 140737488355328; omega,by show mkl.length + 1 ≤ 9223372036854775807; omega⟩) ?_
    refine zax ?_
    refine zaC (J trivial) ⟨rfl,rfl,rfl,rfl,rfl,rfl,rfl,trivial⟩ rfl ⟨rfl,rfl,rfl,rfl,rfl,by rw [hm3]; exact congrArg some (zaL mkl (i:Int)),rfl,trivial⟩ rfl rfl
   ·have c1:¬ B1 = true:=by rw [show B1 = false from c1]; decide
    rw [if_neg c1] at hm3
    refine zax ?_
    refine zaC (J trivial) ⟨rfl,rfl,rfl,rfl,rfl,rfl,rfl,trivial⟩ rfl ⟨rfl,rfl,rfl,rfl,rfl,by rw [hm3]; rfl,rfl,trivial⟩ rfl rfl
  intro _
  clear hm3 hml d1 gs hgd hmr n1 gz hzl
  have hV0:zau eqB false ts i s ob ⟨sts1,mkl1,eds1⟩ = zau eqB false ts i s (ob.drop 0) ⟨sts1,mkl1,eds1⟩:=rfl
  generalize zau eqB false ts i s ob ⟨sts1,mkl1,eds1⟩ = VV at *
  refine zae Tk Tryz.func43 ?_
  refine g_go Tk Tryz.func43 ?_
  refine zac ?_
  refine zah (fun x:Nat × Unf (List Int) × List (List Fd) => [(1,.own 0 1 0 0),(2,.own 0 2 0 0),(4,.own 0 4 0 0),(6,.own 0 6 0 0),(7,.fn (.func 95) [] [.own 0 4 0 0,.own 0 1 0 0]),(8,.osl 0 129),(9,ii i),(59,ints ob),(60,ii ob.length),(61,ii x.1)])
   (fun x => [(1,.box (sysC ⟨⟨al',st',mk',es'⟩,⟨al2,st2,mk2,es2⟩,ob,ct⟩)),(2,.box [.i (.v (.slice none 0 0)),ii 0,.i (.v (.slice none 0 0)),.i (.v (.slice none 0 0))]),(4,.box [ints al,ii st,ints mk,edgs es]),(6,.box [ints ob,ii 0,.osl 0 56,.osl 0 137]),(129,zh6 (x.2.1.sts.zip x.2.2)),(56,zaw x.2.1.mkl),(137,zbD x.2.1.eds)]) (fun _ => O) 145
   (fun x => x.1 ≤ ob.length ∧ UOk (estP n) x.2.1 ∧ EsOk ⟨al,st,mk,es⟩ n ob x.2.1.sts x.2.1.eds x.2.2 ∧ i < x.2.1.sts.length ∧ x.2.1.mkl = mkl1 ∧ x.2.1.eds.length ≤ 32 * i + x.1 ∧ x.2.1.sts[i]? = some s ∧ x.2.2[i]? = some Wi ∧ VV = zau eqB false ts i s (ob.drop x.1) x.2.1) (fun x => ob.length - x.1) (0,⟨sts1,mkl1,eds1⟩,W)
   ⟨Nat.zero_le _,hM,hE,h1,rfl,hel,hsi,hwi,hV0⟩ ⟨rfl,rfl,rfl,rfl,rfl,rfl,rfl,rfl,rfl,rfl,trivial⟩ rfl ⟨rfl,rfl,rfl,rfl,rfl,rfl,rfl,trivial⟩ rfl rfl ?_
  clear hV0 hsi hwi hel hle hM h1 hE hWl
  rintro ⟨j,⟨sts,mk0,eds⟩,W⟩ ⟨hj,hgd,hE,hil,hmke,hel,hsi,hwi,hV⟩ ih2
  simp only at hj hgd hE hil hmke hel hsi hwi hV
  subst hmke
  have hWl:=hE.w.len
  have hle:=hfew _ hgd
  simp only at hle
  have hzl:(sts.zip W).length = sts.length:=by rw [List.length_zip]; omega
  have hj1:ii (IntKind.i64.wrap ((j:Int) + 1)) = ii ((j + 1:Nat):Int):=congrArg ii (zaB (n:=4096) (by omega) (by decide))
  refine zae Tk Tryz.func43 ?_
  refine zai Tk Tryz.func43 rfl (fun g2 => ?_) (fun g2 => ?_)
  ·have h3:j < ob.length:=by simpa using g2
   clear g2
   have ga:(ob.map fun x => [vi x])[(j:Int).toNat]? = some [vi ob[j]]:=zaj (f:=fun x => [vi x]) h3
   have da:ob.drop j = ob[j] :: ob.drop (j + 1):=List.drop_eq_getElem_cons h3
   have he:ob[j] ∈ ob:=List.getElem_mem h3
   rw [da] at hV
   simp only [zau] at hV
   clear da
   generalize ob[j] = e at *
   have gz:=zjI hsi hwi
   have gs:((sts.zip W).map esI)[(i:Int).toNat]? = some (esI (s,Wi)):=by
    show ((sts.zip W).map esI)[i]? = _
    rw [List.getElem?_map,gz]; rfl
   have hvok:=fun V' h => hvok i s e ⟨sts,mk0,eds⟩ V' hgd hoks hil h
   obtain ⟨ht1,ht2⟩:=hts s e Wi he hvi hsw
   have hnx:=hnv e Wi he hvi
   have hnb:=hnl e Wi (13 * (i + 1)) he hvi hwl
   have n3:0 ≤ (i:Int) ∧ (i:Int) < ((sts.zip W).length:Int):=by omega
   have hein:=hal32 e he
   have hwc:=hvlen Wi hvi
   refine zag Tk Tryz.func43 (by exact ⟨by omega,by show (j:Int) < (ob.length:Int); omega⟩) ?_
   refine zap Tk Tryz.func43 (ga) ?_
   refine zag Tk Tryz.func43 (by exact n3) ?_
   refine zap Tk Tryz.func43 (gs) ?_
   refine zac ?_
   refine zao (zb4 12 98 178 2 rfl rfl rfl) ?_
   refine zah (fun k:Nat => [(1,.own 0 1 0 0),(2,.own 0 2 0 0),(4,.own 0 4 0 0),(6,.own 0 6 0 0),(7,.fn (.func 95) [] [.own 0 4 0 0,.own 0 1 0 0]),(8,.osl 0 129),(9,ii i),(59,ints ob),(60,ii ob.length),(61,ii j),(11,ii e),(12,.osl 0 98),(69,fdsD Wi),(70,ii Wi.length),(71,ii k)])
    (fun k => [(1,.box (sysC ⟨⟨al',st',mk',es'⟩,⟨al2,st2,mk2,es2⟩,ob,ct⟩)),(2,.box [.i (.v (.slice none 0 0)),ii 0,.i (.v (.slice none 0 0)),.i (.v (.slice none 0 0))]),(4,.box [ints al,ii st,ints mk,edgs es]),(6,.box [ints ob,ii 0,.osl 0 56,.osl 0 137]),(129,zh6 (sts.zip W)),(56,zaw mk0),(137,zbD eds),(98,ofds (nxF es e (Wi.take k)))]) (fun _ => O) 145
    (fun k => k ≤ Wi.length) (fun k => Wi.length - k) 0 (Nat.zero_le _) ⟨rfl,rfl,rfl,rfl,rfl,rfl,rfl,rfl,rfl,rfl,rfl,rfl,rfl,rfl,rfl,trivial⟩ rfl ⟨rfl,rfl,rfl,rfl,rfl,rfl,rfl,rfl,trivial⟩ rfl rfl ?_
   intro k hk ih3
   refine zae Tk Tryz.func43 ?_
   refine zai Tk Tryz.func43 rfl (fun g3 => ?_) (fun g3 => ?_)
   ·have h4:k < Wi.length:=by simpa using g3
    clear g3
    have hk1:ii (IntKind.i64.wrap ((k:Int) + 1)) = ii ((k + 1:Nat):Int):=congrArg ii (zaB (n:=4096) (by omega) (by decide))
    have gr:(Wi.map fdI)[(k:Int).toNat]? = some (fdI Wi[k]):=zaj h4
    have htk:Wi.take (k + 1) = Wi.take k ++ [Wi[k]]:=List.take_succ_eq_append_getElem h4
    have hfold:nxF es e (Wi.take (k + 1)) = nxS es e (nxF es e (Wi.take k)) Wi[k]:=by unfold nxF; rw [htk,List.foldl_append]; rfl
    have hnok:=zjc (es:=es) (W:=Wi.take k) hein (fun x hx => hvi.wrd x (List.mem_of_mem_take hx))
    have hacl:(nxF es e (Wi.take k)).length ≤ 12:=by
     have:=zpq es e (Wi.take k)
     rw [List.length_take] at this
     omega
    have hacw:∀ y ∈ nxF es e (Wi.take k),y.2.length ≤ 100000:=fun y hy => by
     obtain ⟨z,hz,rfl,_⟩:=hnok.snd y hy
     have:=hwl z (List.mem_of_mem_take hz)
     simp only [List.length_append,List.length_singleton]
     omega
    have hxl:=hwl _ (List.getElem_mem h4)
    clear hnok htk
    generalize nxF es e (Wi.take k) = acc at *
    generalize Wi[k] = x at *
    obtain ⟨xs,xw⟩:=x
    unfold nxS at hfold
    simp only at hfold hxl
    have d2:=fun O => cst O xs e
    have hcl1:=fun O => hcl O xw (by omega)
    generalize stp3 es xs e = t at *
    refine zag Tk Tryz.func43 (by exact ⟨by omega,by show (k:Int) < (Wi.length:Int); omega⟩) ?_
    refine zap Tk Tryz.func43 (gr) ?_
    refine zaf Tk Tryz.func43 (d2 _) rfl rfl rfl rfl rfl ?_
    refine zai Tk Tryz.func43 rfl (fun k1 => ?_) (fun k1 => ?_)
    ·have k1:t < 0:=of_decide_eq_true k1
     rw [if_pos k1] at hfold
     refine zac ?_
     refine ih3 (k + 1) _ _ h4 (by omega) ⟨rfl,rfl,rfl,rfl,rfl,rfl,rfl,rfl,rfl,rfl,rfl,rfl,rfl,rfl,hk1,trivial⟩ rfl ⟨rfl,rfl,rfl,rfl,rfl,rfl,rfl,by rw [hfold]; rfl,trivial⟩ rfl rfl
    have k1:¬ t < 0:=of_decide_eq_false k1
    rw [if_neg k1] at hfold
    refine zaf Tk Tryz.func43 (hcl1 _) rfl rfl rfl rfl rfl ?_
    refine zag Tk Tryz.func43 (by exact ⟨by show (xw.length + 1) * 8 ≤ 140737488355328; omega,by show xw.length + 1 ≤ 9223372036854775807; omega⟩) ?_
    refine zax ?_
    refine zao (zam 87 rfl rfl) ?_
    refine zao (zd4 rfl) ?_
    have ew:I.sl 1 (xw.length + 1) (xw.map (fun x => [vi x]) ++ [[vi e]]) = zbu (xw ++ [e]):=by simp
    refine zaC (l:=[(1,.own 0 1 0 0),(2,.own 0 2 0 0),(4,.own 0 4 0 0),(6,.own 0 6 0 0),(7,.fn (.func 95) [] [.own 0 4 0 0,.own 0 1 0 0]),(8,.osl 0 129),(9,ii i),(59,ints ob),(60,ii ob.length),(61,ii j),(11,ii e),(12,.osl 0 98),(69,fdsD Wi),(70,ii Wi.length),(71,ii k),(15,.own 0 15 0 0),(16,ints (xw ++ [e]))]) (Hv:=[(1,.box (sysC ⟨⟨al',st',mk',es'⟩,⟨al2,st2,mk2,es2⟩,ob,ct⟩)),(2,.box [.i (.v (.slice none 0 0)),ii 0,.i (.v (.slice none 0 0)),.i (.v (.slice none 0 0))]),(4,.box [ints al,ii st,ints mk,edgs es]),(6,.box [ints ob,ii 0,.osl 0 56,.osl 0 137]),(129,zh6 (sts.zip W)),(56,zaw mk0),(137,zbD eds),(98,ofds acc),(15,.box [ii t])]) ?_ ⟨rfl,rfl,rfl,rfl,rfl,rfl,rfl,rfl,rfl,rfl,rfl,rfl,rfl,rfl,rfl,rfl,congrArg D.i ew,trivial⟩ rfl ⟨rfl,rfl,rfl,rfl,rfl,rfl,rfl,rfl,rfl,trivial⟩ rfl rfl
    have hwl2:(xw ++ [e]).length ≤ 100000:=by rw [List.length_append,List.length_singleton]; omega
    generalize xw ++ [e] = ww at *
    clear ew hcl1
    refine zae Tk Tryz.func43 ?_
    refine g_go Tk Tryz.func43 ?_
    refine zaf Tk Tryz.func43 (hix _ acc t (by omega) rfl rfl) rfl rfl rfl rfl rfl ?_
    refine zai Tk Tryz.func43 rfl (fun k3 => ?_) (fun k3 => ?_)
    ·have k3:zay (fun x:Fd => x.1 == t) acc 0 < 0:=of_decide_eq_true k3
     rw [if_pos k3] at hfold
     refine zag Tk Tryz.func43 (by exact ⟨by show (acc.length + 1) * 32 ≤ 140737488355328; omega,by show acc.length + 1 ≤ 9223372036854775807; omega⟩) ?_
     refine zac ?_
     refine ih3 (k + 1) _ _ h4 (by omega) ⟨rfl,rfl,rfl,rfl,rfl,rfl,rfl,rfl,rfl,rfl,rfl,rfl,rfl,rfl,hk1,trivial⟩ rfl ⟨rfl,rfl,rfl,rfl,rfl,rfl,rfl,?_,trivial⟩ rfl rfl
     rw [hfold]
     show some (Ob.arr 178 2 (acc.length + 1) (acc.map fdI ++ [fdI (t,ww)]) true) = some (ofds (acc ++ [(t,ww)]))
     simp
    ·have k3:¬ zay (fun x:Fd => x.1 == t) acc 0 < 0:=of_decide_eq_false k3
     obtain ⟨q,hq,hqx,hqt⟩:=zc2 k3
     rw [if_neg k3] at hfold
     rw [Nat.zero_add] at hqx
     have gk:(acc.map fdI)[(((q:Nat):Int)).toNat]? = some (fdI acc[q]):=zaj hq
     have hgd:acc.getD q (0,[]) = acc[q]:=by rw [List.getD_eq_getElem?_getD,List.getElem?_eq_getElem hq]; rfl
     rw [hqx,Int.toNat_natCast,hgd] at hfold
     have hset:∀ z:Fd,(acc.map fdI).set q (fdI z) = (acc.set q z).map fdI:=fun z => List.map_set.symm
     have hcm1:=fun O => hcm O ww acc[q].2 (by omega) (by have:=hacw _ (List.getElem_mem hq); omega)
     generalize acc[q] = y at *
     obtain ⟨ys,yw⟩:=y
     simp only at hcm1 hfold
     generalize cmpW ww yw = cw at *
     generalize zay (fun x:Fd => x.1 == t) acc 0 = fx at *
     subst hqx
     refine zag Tk Tryz.func43 (by exact ⟨by omega,by show ((q:Nat):Int) < (acc.length:Int); omega⟩) ?_
     refine zap Tk Tryz.func43 (gk) ?_
     refine zaf Tk Tryz.func43 (hcm1 _) rfl rfl rfl rfl rfl ?_
     refine zai Tk Tryz.func43 rfl (fun k4 => ?_) (fun k4 => ?_)
     ·have k4:cw < 0:=of_decide_eq_true k4
      rw [if_pos k4] at hfold
      refine zag Tk Tryz.func43 (by exact ⟨by omega,by show ((q:Nat):Int) < (acc.length:Int); omega⟩) ?_
      refine zap Tk Tryz.func43 (gk) ?_
      refine zac ?_
      refine ih3 (k + 1) _ _ h4 (by omega) ⟨rfl,rfl,rfl,rfl,rfl,rfl,rfl,rfl,rfl,rfl,rfl,rfl,rfl,rfl,hk1,trivial⟩ rfl ⟨rfl,rfl,rfl,rfl,rfl,rfl,rfl,?_,trivial⟩ rfl rfl
      rw [hfold]
      show some (Ob.arr 178 2 acc.length ((acc.map fdI).set q (fdI (ys,ww))) true) = some (Ob.arr 178 2 (acc.set q (ys,ww)).length ((acc.set q (ys,ww)).map fdI) true)
      rw [hset,List.length_set]
     ·have k4:¬ cw < 0:=of_decide_eq_false k4
      rw [if_neg k4] at hfold
      refine zac ?_
      refine ih3 (k + 1) _ _ h4 (by omega) ⟨rfl,rfl,rfl,rfl,rfl,rfl,rfl,rfl,rfl,rfl,rfl,rfl,rfl,rfl,hk1,trivial⟩ rfl ⟨rfl,rfl,rfl,rfl,rfl,rfl,rfl,by rw [hfold]; rfl,trivial⟩ rfl rfl
   ·have h4:Wi.length ≤ k:=by simpa using g3
    clear g3 ih3
    rw [List.take_of_length_le h4]
    have hgl:(nxF es e Wi).length ≤ 12:=by
     have:=zpq es e Wi
     omega
    have hEg:=fun (hh:zbs ((rchF ⟨al,st,mk,es⟩ ob (nxF es e Wi)).map (·.1)) ∉ sts) => hE.w.grow hE.b (i:=i) (e:=e) hwi
    have hrv2:=fun hne => hrv2' (nxF es e Wi) (13 * (i + 1) + 1) hnx hne hnb
    have cof2:=fun O hne hoA hoX => cof O (13 * (i + 1) + 1) (nxF es e Wi) (by omega) hnx hne hnb hoA hoX
    clear hnx hnb hwl hvi hwne hsw hwc h4 hk gs gz
    generalize nxF es e Wi = G at *
    refine zai Tk Tryz.func43 rfl (fun k5 => ?_) (fun k5 => ?_)
    ·have k5:G = []:=List.eq_nil_of_length_eq_zero (by have:=k5; simpa using this)
     have hp:=ht1 k5
     unfold zbB at hV
     rw [hp] at hV
     simp only [ne_eq,not_true,if_false,if_true] at hV
     refine zac ?_
     exact ih2 (j + 1,⟨sts,mk0,eds⟩,W) _ _ ⟨h3,hgd,hE,hil,rfl,by simp only; omega,hsi,hwi,hV⟩ (by simp only; omega) ⟨rfl,rfl,rfl,rfl,rfl,rfl,rfl,rfl,rfl,hj1,trivial⟩ rfl ⟨rfl,rfl,rfl,rfl,rfl,rfl,rfl,trivial⟩ rfl rfl
    have k5:G ≠ []:=fun e => by rw [e] at k5; exact absurd k5 (by simp)
    obtain ⟨hr1,hr2,hr3⟩:=hrv2 k5
    have cof3:=fun O hoA hoX => cof2 O k5 hoA hoX
    have hp:=ht2 k5
    refine zax ?_
    refine zao (zam 98 rfl rfl) ?_
    refine zao (zd4 rfl) ?_
    refine zae Tk Tryz.func43 ?_
    refine g_go Tk Tryz.func43 ?_
    refine zaf Tk Tryz.func43 (cof3 _ rfl rfl) rfl rfl rfl rfl rfl ?_
    unfold zbB at hV hvok
    rw [hp] at hV hvok
    simp only [ne_eq,not_true,if_false,Bool.true_eq_false,Bool.false_eq_true,false_and] at hV hvok
    have hnew:∀ y ∈ rchF ⟨al,st,mk,es⟩ ob G,y.2.length ≤ 13 * (sts.length + 1):=fun y hy => by have:=hr3 y hy; omega
    clear cof2 cof3 hp ht1 ht2 hrv2
    generalize rchF ⟨al,st,mk,es⟩ ob G = Rw at *
    generalize hs':zbs (Rw.map (·.1)) = s' at *
    have hzf:=zg7 (s:=s') (l:=sts) (m:=W) (i:=0) (by omega)
    obtain ⟨t,ht⟩:∃ t,t = sts.findIdx (eqB s'):=⟨_,rfl⟩
    rw [← ht] at hV hvok hzf
    rw [Nat.zero_add] at hzf
    obtain ⟨sts2,hst3⟩:∃ sts2,sts2 = if s' ∈ sts then sts else sts ++ [s']:=⟨_,rfl⟩
    obtain ⟨W2,hw3⟩:∃ W2,W2 = if s' ∈ sts then W else W ++ [Rw]:=⟨_,rfl⟩
    have htm:s' ∉ sts → t = sts.length:=fun hm => by
     rw [ht]
     exact za4 fun x hx => by simp only [eqB,decide_eq_false_iff_not]; rintro rfl; exact hm hx
    have hU2:VV = zau eqB false ts i s (ob.drop (j + 1)) ⟨sts2,mk0,eds ++ [((i:Int),e,(t:Int))]⟩ ∧ UOk (estP n) ⟨sts2,mk0,eds ++ [((i:Int),e,(t:Int))]⟩ ∧ i < sts2.length ∧ sts2[i]? = some s ∧ W2[i]? = some Wi ∧ EsOk ⟨al,st,mk,es⟩ n ob sts2 (eds ++ [((i:Int),e,(t:Int))]) W2:=by
     by_cases hm:s' ∈ sts
     ·have hlt:t < sts.length:=by rw [ht]; exact zcv ⟨s',hm,by simp [eqB]⟩
      rw [if_pos hm] at hst3 hw3
      rw [if_pos hlt] at hV hvok
      subst hst3 hw3
      have h:=hvok _ rfl
      refine ⟨hV,h.1,h.2.1,h.2.2.trans hsi,hwi,hE.w.edge _,fun x hx => ?_,hE.g⟩
      rcases List.mem_append.1 hx with hx | hx
      ·exact hE.b x hx
      ·rw [List.mem_singleton] at hx
       subst hx
       simp only
       omega
     ·have hlt:=htm hm
      rw [if_neg hm] at hst3 hw3
      rw [if_neg (by omega)] at hV hvok
      subst hst3 hw3
      have h:=hvok _ rfl
      refine ⟨hV,h.1,h.2.1,h.2.2.trans hsi,by rw [List.getElem?_append_left (by omega)]; exact hwi,?_,fun x hx => ?_,fun k s1 v1 f1 f2 => ?_⟩
      ·have h9:=hEg hm
       rw [hlt,List.length_append]
       exact h9
      ·rw [List.length_append,List.length_singleton]
       rcases List.mem_append.1 hx with hx | hx
       ·have:=hE.b x hx; omega
       ·rw [List.mem_singleton] at hx
        subst hx
        simp only
        omega
      ·by_cases hk:k < sts.length
       ·rw [List.getElem?_append_left hk] at f1
        rw [List.getElem?_append_left (by omega)] at f2
        exact hE.g k s1 v1 f1 f2
       ·have hk2:k = sts.length:=by
         have:=(List.getElem?_eq_some_iff.1 f1).1
         rw [List.length_append,List.length_singleton] at this
         omega
        subst hk2
        rw [List.getElem?_append_right (Nat.le_refl _),Nat.sub_self] at f1
        rw [List.getElem?_append_right (by omega),show sts.length - W.length = 0 by omega] at f2
        simp only [List.getElem?_cons_zero,Option.some.injEq] at f1 f2
        subst f1 f2
        exact ⟨⟨hr1,hr2,hs'.symm⟩,hnew⟩
    have hlb:∀ z ∈ sts.zip W,z.1.length ≤ 1000000:=fun z hz => hsn _ (hgd.ok _ (List.of_mem_zip (a:=z.1) (b:=z.2) hz).1)
    have hic:=fun O ho hy => ceq O 0 18 (s',Rw) (sts.zip W) 0 129 (by omega) hlb ho hy
    clear hV hvok ht hEg
    generalize zay (fun z:List Int × List Fd => decide (z.1 = s')) (sts.zip W) 0 = ix at *
    have hq1:ix < 0 → t = (sts.zip W).length ∧ sts2.zip W2 = sts.zip W ++ [(s',Rw)]:=fun h => by
     have c2:s' ∉ sts:=fun hm => by
      rw [if_pos hm] at hzf; omega
     exact ⟨by rw [hzl]; exact htm c2,by rw [hst3,hw3,if_neg c2,if_neg c2]; exact zq8 (by omega)⟩
    have hq2:¬ ix < 0 → ix = t ∧ sts2.zip W2 = sts.zip W:=fun h => by
     have c2:s' ∈ sts:=Classical.byContradiction fun hm => by
      rw [if_neg hm] at hzf; omega
     exact ⟨by rw [hzf,if_pos c2],by rw [hst3,hw3,if_pos c2,if_pos c2]⟩
    clear hzf htm hst3 hw3
    apply zcj (P:=True) (s6:={ σ:=[(1,.own 0 1 0 0),(2,.own 0 2 0 0),(4,.own 0 4 0 0),(6,.own 0 6 0 0),(7,.fn (.func 95) [] [.own 0 4 0 0,.own 0 1 0 0]),(8,.osl 0 129),(9,ii i),(59,ints ob),(60,ii ob.length),(61,ii j),(11,ii e),(19,ii t)],S:=[(1,.box (sysC ⟨⟨al',st',mk',es'⟩,⟨al2,st2,mk2,es2⟩,ob,ct⟩)),(2,.box [.i (.v (.slice none 0 0)),ii 0,.i (.v (.slice none 0 0)),.i (.v (.slice none 0 0))]),(4,.box [ints al,ii st,ints mk,edgs es]),(6,.box [ints ob,ii 0,.osl 0 56,.osl 0 137]),(129,zh6 (sts2.zip W2)),(56,zaw mk0),(137,zbD eds)] :: O,n:=145 })
    ·intro J
     refine zaf Tk Tryz.func43 (hic _ rfl rfl) rfl rfl rfl rfl rfl ?_
     refine zai Tk Tryz.func43 rfl (fun c1 => ?_) (fun c1 => ?_)
     ·have c1:=hq1 (of_decide_eq_true c1)
      refine zag Tk Tryz.func43 (by exact ⟨by show ((sts.zip W).length + 1) * 48 ≤ 140737488355328; omega,by show (sts.zip W).length + 1 ≤ 9223372036854775807; omega⟩) ?_
      refine zax ?_
      refine zaC (J trivial) ⟨rfl,rfl,rfl,rfl,rfl,rfl,rfl,rfl,rfl,rfl,rfl,by rw [c1.1]; rfl,trivial⟩ rfl ⟨rfl,rfl,rfl,rfl,by rw [c1.2]; exact congrArg some (zpl (sts.zip W) (s',Rw)),rfl,rfl,trivial⟩ rfl rfl
     ·have c1:=hq2 (of_decide_eq_false c1)
      refine zax ?_
      refine zaC (J trivial) ⟨rfl,rfl,rfl,rfl,rfl,rfl,rfl,rfl,rfl,rfl,rfl,congrArg ii c1.1,trivial⟩ rfl ⟨rfl,rfl,rfl,rfl,by rw [c1.2]; rfl,rfl,rfl,trivial⟩ rfl rfl
    intro _
    obtain ⟨hV,hg2,hi2,hs2,hw2,hE2⟩:=hU2
    clear hgd hil hsi hwi hic hq1 hq2 hE
    refine zae Tk Tryz.func43 ?_
    refine g_go Tk Tryz.func43 ?_
    refine zag Tk Tryz.func43 (by exact ⟨by show (eds.length + 1) * 24 ≤ 140737488355328; omega,by show eds.length + 1 ≤ 9223372036854775807; omega⟩) ?_
    refine zac ?_
    exact ih2 (j + 1,⟨sts2,mk0,eds ++ [((i:Int),e,(t:Int))]⟩,W2) _ _ ⟨h3,hg2,hE2,hi2,rfl,by simp only [List.length_append,List.length_singleton]; omega,hs2,hw2,hV⟩ (by simp only; omega) ⟨rfl,rfl,rfl,rfl,rfl,rfl,rfl,rfl,rfl,hj1,trivial⟩ rfl ⟨rfl,rfl,rfl,rfl,rfl,rfl,congrArg some (zc0 eds ((i:Int),e,(t:Int))),trivial⟩ rfl rfl
  ·have h3:ob.length ≤ j:=by simpa using g2
   rw [List.drop_eq_nil_of_le h3] at hV
   simp only [zau] at hV
   subst hV
   simp only at hno
   refine zac ?_
   exact ih (i + 1,⟨sts,mk0,eds⟩,W) _ _ ⟨by simp only; omega,hgd,hE,hml1,by simp only; omega,hno⟩ (by simp only; omega) ⟨rfl,rfl,rfl,rfl,rfl,rfl,congrArg ii (zaB (n:=4096) (by omega) (by decide)),trivial⟩ rfl ⟨rfl,rfl,rfl,rfl,rfl,rfl,rfl,trivial⟩ rfl rfl
 ·have h1:U.sts.length ≤ i:=by
   have:(U.sts.zip W).length ≤ i:=by simpa using g1
   rw [List.length_zip] at this
   omega
  rw [zdJ h1] at hno
  rw [← hR] at hno
  simp only [Except.ok.injEq] at hno
  subst hno
  have hww:=zom hE.w
  rw [← hww]
  obtain ⟨sts,mk0,eds⟩:=V
  have hzl:(sts.zip W).length = sts.length:=by rw [List.length_zip]; simp only at hWl; omega
  refine zax ?_
  refine zao (zam 129 rfl rfl) ?_
  refine zao (zam 56 rfl rfl) ?_
  refine zao (zam 137 rfl rfl) ?_
  refine zae Tk Tryz.func43 ?_
  refine g_go Tk Tryz.func43 ?_
  refine zal Tk (r:=.tup [autD ⟨ob,((sts.zip W).length:Int),mk0,eds⟩,znP (sts.zip W)]) rfl rfl rfl trivial rfl rfl ?_
  rw [hzl]
end Go.AI


namespace Go.AI
set_option maxRecDepth 20000
theorem zoo {a:Aut} {on:List Int}:∀ (rest:List Edg) (eds:List Edg) (k N:Nat) (W:List (List Fd)),kOf rest k = some N → WOk a on eds k W → (∀ x ∈ eds,x.2.2 < (k:Int)) → ∃ W',WOk a on (eds ++ rest) N W'
 | [],eds,k,N,W,hk,h,_ => by
  simp only [kOf,Option.some.injEq] at hk
  subst hk
  exact ⟨W,by rw [List.append_nil]; exact h⟩
 | x :: r,eds,k,N,W,hk,h,hb => by
  obtain ⟨xi,xe,xt⟩:=x
  simp only [kOf] at hk
  split at hk
  ·rename_i hc
   obtain ⟨⟨h1,h2⟩,h3,h4⟩:=hc
   obtain ⟨i,rfl⟩:∃ i:Nat,xi = (i:Int):=⟨xi.toNat,by omega⟩
   have hi:W[i]? = some (W[i]'(by rw [h.len]; omega)):=List.getElem?_eq_getElem _
   by_cases ht:xt = (k:Int)
   ·subst ht
    rw [if_pos rfl] at hk
    have:=zoo r (eds ++ [((i:Int),xe,(k:Int))]) (k + 1) N _ hk (h.grow hb hi) fun x hx => by
     rcases List.mem_append.1 hx with hx | hx
     ·have:=hb x hx; omega
     ·rw [List.mem_singleton] at hx; subst hx; simp only; omega
    rwa [List.append_assoc] at this
   ·rw [if_neg ht] at hk
    have:=zoo r (eds ++ [((i:Int),xe,xt)]) k N W hk (h.edge _) fun x hx => by
     rcases List.mem_append.1 hx with hx | hx
     ·exact hb x hx
     ·rw [List.mem_singleton] at hx; subst hx; simp only; omega
    rwa [List.append_assoc] at this
  ·cases hk
section
variable {a:Aut} {n:Nat} {on:List Int} {V:Unf (List Int)}
theorem zlw (h:prjU a n on V):WOk a on V.eds V.sts.length (wrdF a on V.eds V.sts.length):=by
 have h1:WOk a on [] 1 [rchF a on [((0:Int),([]:List Int))]]:=⟨rfl,rfl,fun k h1 h2 => by omega⟩
 obtain ⟨W,hW⟩:=zoo V.eds [] 1 V.sts.length _ h.hU.fr h1 (by simp)
 rw [List.nil_append] at hW
 rw [← zom hW]
 exact hW
theorem zuK (h:prjU a n on V) (hal:∀ e ∈ on,0 ≤ e ∧ e < 32):∀ (m k:Nat),k < m → ∀ s v,V.sts[k]? = some s → (wrdF a on V.eds V.sts.length)[k]? = some v → vdF a n v ∧ v ≠ [] ∧ s = zbs (v.map (·.1)):=by
 have hW:=zlw h
 generalize wrdF a on V.eds V.sts.length = W at *
 intro m
 induction m with
 | zero => intro k hk; omega
 | succ m ih =>
  intro k hk s v hs hv
  have hv0:=vd0 (a:=a) h.g h.n0
  have hne:∀ frm,vdF a n frm → frm ≠ [] → rchF a on frm ≠ []:=fun frm hf hne => by
   obtain ⟨y,hy⟩:=List.exists_mem_of_ne_nil _ hne
   obtain ⟨z,hz,_⟩:=(zfq (on:=on) h.g hf).low _ _ (RP.base hy)
   exact List.ne_nil_of_mem hz
  by_cases h0:k = 0
  ·subst h0
   rw [hW.fst] at hv
   obtain rfl:=Option.some.inj hv
   rw [h.fst] at hs
   obtain rfl:=Option.some.inj hs
   exact ⟨zh1 h.g hv0,hne _ hv0 (by simp),(zdR h.g hv0).symm⟩
  ·have hkN:k < V.sts.length:=(List.getElem?_eq_some_iff.1 hs).1
   obtain ⟨i,e,Wi,f1,f2,f3,f4⟩:=hW.nxt k (by omega) hkN
   have hmem:=List.mem_of_find?_eq_some f1
   obtain ⟨k',s',j,g1,g2,g3,g4,g5,g6⟩:=zhH h.hU hmem
   simp only at g2 g3 g4 g5 g6
   obtain rfl:i = k':=by omega
   obtain rfl:k = j:=by omega
   rw [f4] at hv
   obtain rfl:=Option.some.inj hv
   rw [g6] at hs
   obtain rfl:=Option.some.inj hs
   obtain ⟨i1,i2,i3⟩:=ih i (by omega) s' Wi g1 f3
   have hev:e ∈ on:=of_decide_eq_true (List.mem_filter.1 g3).2
   have hm:∀ x,x ∈ s' ↔ x ∈ Wi.map (·.1):=fun x => by
    rw [i3]
    exact zeZ i1.nd (fun z hz => by
     obtain ⟨y,hy,rfl⟩:=List.mem_map.1 hz
     exact i1.rng y hy) x
   have hnv:=zlY (a:=a) h.g (hal e hev) i1
   have hnn:nxF a.edges e Wi ≠ []:=fun hn => by
    have h9:=(zpp (on:=on) h.g (hal e hev) i1 hm).1 hn
    have g4':decide ((nxt a.edges (lowP on [] false) n s' e).length ≠ 0) = true:=g4
    rw [h9] at g4'
    exact absurd g4' (by decide)
   refine ⟨zh1 h.g hnv,hne _ hnv hnn,?_⟩
   rw [zdR h.g hnv,zh8 h.g (hal e hev) i1 hm]
   rfl
end
theorem zdb {x:Sys} (hx:gSys x) (hV:(lpV x).length ≤ 4095) (hn:(lpR x).2.length ≤ 11) :
  ((esWR x).map (·.1) = (esR x).2 ∧ (esWR x).length = (esR x).2.length) ∧ ∀ z ∈ esWR x,vdF (lpR x).1 (lpR x).2.length z.2 ∧ z.2 ≠ [] ∧ z.1 = zbs (z.2.map (·.1)):=by
 by_cases h0:(lpR x).2.length = 0
 ·have he:(esR x).2 = []:=ztc h0
  unfold esWR
  rw [he]
  exact ⟨⟨rfl,rfl⟩,fun z hz => by cases hz⟩
 ·obtain ⟨V,hprj,hVs⟩:=zqh hx hV hn h0
  have hes:esR x = (unfA (zbK (lpR x).1 x.ob) V,V.sts):=by
   unfold esR
   rw [if_neg h0,hprj.hV]
  have hW:=zlw hprj
  have hg:=zuK hprj (zar hx.ob).2.1
  unfold esWR
  rw [hes]
  unfold unfA
  simp only
  generalize wrdF (lpR x).1 x.ob V.eds V.sts.length = W at *
  have hl:V.sts.length = W.length:=hW.len.symm
  refine ⟨⟨by rw [← List.unzip_fst,List.unzip_zip hl],by rw [List.length_zip]; omega⟩,fun z hz => ?_⟩
  obtain ⟨k,hk⟩:=List.getElem?_of_mem hz
  have hk2:=List.getElem?_zip_eq_some.1 hk
  exact hg (k + 1) k (Nat.lt_succ_self k) z.1 z.2 hk2.1 hk2.2
end Go.AI


namespace Go.AI
open Go.Proofs
set_option maxRecDepth 20000
theorem zvL {x:Sk} (h:skOkB x) (hf:(lpR (mkS x)).1.states ≤ 10):obOk (mkS x):=by
 obtain ⟨m1,m2,m3,m4⟩:=zlZ h
 exact zrU m1 m2 ⟨by omega,by omega⟩ (by have:=zt1 h; omega) (by have:=zsL h hf; omega)
end Go.AI


namespace Go.AI
open Go.Proofs
set_option maxRecDepth 20000
abbrev bhOk (x:Sys) (la:Aut) (ps:List (Int × Int)) (e:Int) (p:Bool) (y:Fd):Bool:=canF x ps y.1 e && (ze3 la y.1 e == p)
def bhS (ok:Fd → Bool) (acc:List Int × Bool) (y:Fd):List Int × Bool:=if ok y = true ∧ (acc.2 = false ∨ cmpW y.2 acc.1 < 0) then (y.2,true) else acc
def bhR (ok:Fd → Bool) (L:List Fd):List Int × Bool:=L.foldl (bhS ok) ([],false)
theorem ztm {ok:Fd → Bool}:∀ (L:List Fd) (acc:List Int × Bool),((L.foldl (bhS ok) acc).2 = true ↔ acc.2 = true ∨ ∃ y ∈ L,ok y = true)
 | [],acc => by simp
 | y :: r,acc => by
  rw [List.foldl_cons,ztm r]
  unfold bhS
  by_cases h1:ok y = true
  ·by_cases h2:acc.2 = false ∨ cmpW y.2 acc.1 < 0
   ·rw [if_pos ⟨h1,h2⟩]
    exact ⟨fun _ => .inr ⟨y,by simp,h1⟩,fun _ => .inl rfl⟩
   ·rw [if_neg (fun h => h2 h.2)]
    have h3:acc.2 = true:=by cases h:acc.2; exact absurd (.inl h) h2; rfl
    exact ⟨fun _ => .inl h3,fun _ => .inl h3⟩
  ·rw [if_neg (fun h => h1 h.1)]
   constructor
   ·rintro (h | ⟨z,hz,h⟩)
    ·exact .inl h
    ·exact .inr ⟨z,by simp [hz],h⟩
   ·rintro (h | ⟨z,hz,h⟩)
    ·exact .inl h
    ·rcases List.mem_cons.1 hz with rfl | hz
     ·exact absurd h h1
     ·exact .inr ⟨z,hz,h⟩
theorem ztn {ok:Fd → Bool} {L:List Fd}:(bhR ok L).2 = true ↔ ∃ y ∈ L,ok y = true:=by
 unfold bhR
 rw [ztm]
 simp
theorem zuG {ok:Fd → Bool} {acc:List Int × Bool} {y:Fd} {B:Nat} (ha:acc.1.length ≤ B) (hy:y.2.length ≤ B):(bhS ok acc y).1.length ≤ B:=by
 unfold bhS
 split
 ·exact hy
 ·exact ha
theorem zuZ {ps:List (Int × Int)} {s:Int} (h:0 ≤ s ∧ s < (ps.length:Int)):(ps.map prI)[s.toNat]? = some (prI (ps.getD s.toNat (0,0))):=by
 have hl:s.toNat < ps.length:=by omega
 rw [List.getElem?_map,List.getElem?_eq_getElem hl,List.getD_eq_getElem?_getD,List.getElem?_eq_getElem hl]
 rfl
set_option maxHeartbeats 16000000 in
theorem zmq (O:List Heap) (x:Sys) (h:smallS x) (hx:gSys x) (hV0:(lpV x).length ≤ 4095) (z:Es2) (e:Int) (p:Bool) (hl:z.2.length ≤ 1000000) (hr:∀ y ∈ z.2,(0 ≤ y.1 ∧ y.1 < ((lpR x).2.length:Int)) ∧ y.2.length ≤ 1000000) :
  zan Tryz.prog 92 [sysD x,esD z,ii e,bb p] O (.tup [ints (bhR (bhOk x (lpR x).1 (lpR x).2 e p) z.2).1,bb (bhR (bhOk x (lpR x).1 (lpR x).2 e p) z.2).2]) [] O:=by
 have h1:=fun O => zpA O x h hx hV0
 have s1:=fun O s e => zhc O x.p s e h.p.ed
 have hga:=(lp_g hx hV0).1
 have s2:=fun O s e => zhc O (lpR x).1 s e hga.sm.ed
 have hok:∀ y,bhOk x (lpR x).1 (lpR x).2 e p y = (decide (0 ≤ stp3 x.p.edges (((lpR x).2.getD y.1.toNat (0,0)).1) e) && (decide (0 ≤ stp3 (lpR x).1.edges y.1 e) == p)):=fun y => rfl
 generalize bhOk x (lpR x).1 (lpR x).2 e p = ok at *
 clear hga h hx hV0
 generalize lpR x = L at *
 obtain ⟨⟨al,st,mk,es⟩,⟨al',st',mk',es'⟩,ob,ct⟩:=x
 obtain ⟨⟨lal,lst,lmk,leds⟩,ps⟩:=L
 obtain ⟨sts,fs⟩:=z
 simp only at hl hr h1 s1 s2 hok ⊢
 generalize hR:bhR ok fs = R at *
 refine zad Tk Tryz.func92 rfl Tryz.call92 Tryz.ntmps92 (Nat.le_of_ble_eq_true rfl) fun E => ?_
 refine zae Tk Tryz.func92 ?_
 refine zaf Tk Tryz.func92 (h1 _) rfl rfl rfl rfl rfl ?_
 refine zac ?_
 refine zao (zvI 12 (d:=ints []) (by exact zfi zbZ)) ?_
 refine zah (fun q:Nat × List Int × Bool => [(2,ii e),(3,bb p),(4,.own 0 4 0 0),(5,.own 0 5 0 0),(10,.own 0 10 0 0),(11,.i (prsI ps)),(12,ints q.2.1),(13,bb q.2.2),(22,fdsD fs),(23,ii fs.length),(24,ii q.1)])
  (fun _ => [(4,.box (sysC ⟨⟨al,st,mk,es⟩,⟨al',st',mk',es'⟩,ob,ct⟩)),(5,.box [ints sts,fdsD fs]),(10,.box [ints lal,ii lst,ints lmk,edgs leds])]) (fun _ => O) 63
  (fun q => q.1 ≤ fs.length ∧ (fs.drop q.1).foldl (bhS ok) q.2 = R ∧ q.2.1.length ≤ 1000000) (fun q => fs.length - q.1) (0,[],false) ⟨Nat.zero_le _,hR,Nat.zero_le _⟩ ⟨rfl,rfl,rfl,rfl,rfl,rfl,rfl,rfl,rfl,rfl,rfl,trivial⟩ rfl ⟨rfl,rfl,rfl,trivial⟩ rfl rfl ?_
 rintro ⟨i,out,is⟩ ⟨hi,hno,hol⟩ ih
 simp only at hi hno hol
 clear hR
 refine zae Tk Tryz.func92 ?_
 refine zai Tk Tryz.func92 rfl (fun g1 => ?_) (fun g1 => ?_)
 ·have h3:i < fs.length:=by simpa using g1
  clear g1
  have hi1:ii (IntKind.i64.wrap ((i:Int) + 1)) = ii ((i + 1:Nat):Int):=congrArg ii (zaB (n:=1000001) (by omega) (by decide))
  have gr:(fs.map fdI)[(i:Int).toNat]? = some (fdI fs[i]):=zaj h3
  rw [List.drop_eq_getElem_cons h3,List.foldl_cons] at hno
  have hry:=hr fs[i] (List.getElem_mem h3)
  generalize fs[i] = y at *
  have hok1:=hok y
  have hlS:=zuG (ok:=ok) (acc:=(out,is)) hol hry.2
  have hSd:bhS ok (out,is) y = if ok y = true ∧ (is = false ∨ cmpW y.2 out < 0) then (y.2,true) else (out,is):=rfl
  have gp:=zuZ hry.1
  obtain ⟨hry1,hry2⟩:=hry
  obtain ⟨s,w⟩:=y
  simp only at hok1 hSd gp hry1 hry2
  generalize ps.getD s.toNat (0,0) = z at *
  obtain ⟨z1,z2⟩:=z
  simp only at hok1
  have d1:=fun O => s1 O z1 e
  have d2:=fun O => s2 O s e
  have dc:=fun O => zmi O w out hry2 hol
  generalize stp3 es z1 e = t1 at *
  generalize stp3 leds s e = t2 at *
  generalize bhS ok (out,is) (s,w) = acc' at *
  generalize ok (s,w) = okv at *
  generalize cmpW w out = cw at *
  refine zag Tk Tryz.func92 (by exact ⟨by omega,by show (i:Int) < (fs.length:Int); omega⟩) ?_
  refine zap Tk Tryz.func92 (gr) ?_
  refine zaD Tk Tryz.func92 zaN rfl ?_
  refine zaz Tk (by exact hry1) ?_
  refine zaz Tk (by exact ⟨by decide,by decide⟩) ?_
  refine zaJ Tk (gp) ?_
  refine za2 Tk (fun _ => d1 _) rfl rfl rfl ?_
  refine zcW Tk (fun c1 => ?_) (fun c1 => ?_)
  ·have c1:t1 < 0:=of_decide_eq_true c1
   rw [decide_eq_false (show ¬ 0 ≤ t1 by omega),Bool.false_and] at hok1
   rw [hok1,if_neg (by simp)] at hSd
   subst hSd
   refine zaS Tk Tryz.func92 (by kernel_rfl) ?_
   refine gcT Tk Tryz.func92 rfl ?_
   refine zac ?_
   refine ih (i + 1,out,is) _ _ ⟨h3,hno,hol⟩ (by simp only; omega) ⟨rfl,rfl,rfl,rfl,rfl,rfl,rfl,rfl,rfl,rfl,hi1,trivial⟩ rfl ⟨rfl,rfl,rfl,trivial⟩ rfl rfl
  ·have c1:¬ t1 < 0:=of_decide_eq_false c1
   rw [decide_eq_true (show 0 ≤ t1 by omega),Bool.true_and] at hok1
   refine za2 Tk (fun _ => d2 _) rfl rfl rfl ?_
   refine zaS Tk Tryz.func92 (by kernel_rfl) ?_
   have hc2:decide (0 ≤ t2) = decide (t2 ≥ 0):=rfl
   rw [hc2] at hok1
   clear hc2
   refine zai Tk Tryz.func92 rfl (fun c2 => ?_) (fun c2 => ?_)
   ·have hk:okv = false:=by
     rw [hok1]
     revert c2
     cases decide (t2 ≥ 0) <;> cases p <;> simp
    rw [hk,if_neg (by simp)] at hSd
    subst hSd
    refine zac ?_
    refine ih (i + 1,out,is) _ _ ⟨h3,hno,hol⟩ (by simp only; omega) ⟨rfl,rfl,rfl,rfl,rfl,rfl,rfl,rfl,rfl,rfl,hi1,trivial⟩ rfl ⟨rfl,rfl,rfl,trivial⟩ rfl rfl
   ·have hk:okv = true:=by
     rw [hok1]
     revert c2
     cases decide (t2 ≥ 0) <;> cases p <;> simp
    rw [hk] at hSd
    clear hok1 c2 c1 hk hok
    refine zaW Tk Tryz.func92 rfl (fun c3 => ?_) (fun c3 => ?_)
    ·have c3:is = false:=by
      revert c3
      cases is <;> simp
     rw [if_pos ⟨rfl,.inl c3⟩] at hSd
     subst hSd
     refine gcT Tk Tryz.func92 rfl ?_
     refine zac ?_
     refine ih (i + 1,w,true) _ _ ⟨h3,hno,hry2⟩ (by simp only; omega) ⟨rfl,rfl,rfl,rfl,rfl,rfl,rfl,rfl,rfl,rfl,hi1,trivial⟩ rfl ⟨rfl,rfl,rfl,trivial⟩ rfl rfl
    ·have c3:is = true:=by
      revert c3
      cases is <;> simp
     refine zaf Tk Tryz.func92 (dc _) rfl rfl rfl rfl rfl ?_
     refine zai Tk Tryz.func92 rfl (fun c4 => ?_) (fun c4 => ?_)
     ·have c4:cw < 0:=of_decide_eq_true c4
      rw [if_pos ⟨rfl,.inr c4⟩] at hSd
      subst hSd
      refine zac ?_
      refine ih (i + 1,w,true) _ _ ⟨h3,hno,hry2⟩ (by simp only; omega) ⟨rfl,rfl,rfl,rfl,rfl,rfl,rfl,rfl,rfl,rfl,hi1,trivial⟩ rfl ⟨rfl,rfl,rfl,trivial⟩ rfl rfl
     ·have c4:¬ cw < 0:=of_decide_eq_false c4
      rw [if_neg (by rintro ⟨_,h | h⟩; rw [c3] at h; cases h; exact c4 h)] at hSd
      subst hSd
      refine zac ?_
      refine ih (i + 1,out,is) _ _ ⟨h3,hno,hol⟩ (by simp only; omega) ⟨rfl,rfl,rfl,rfl,rfl,rfl,rfl,rfl,rfl,rfl,hi1,trivial⟩ rfl ⟨rfl,rfl,rfl,trivial⟩ rfl rfl
 ·have h3:fs.length ≤ i:=by simpa using g1
  rw [List.drop_eq_nil_of_le h3] at hno
  simp only [List.foldl_nil] at hno
  subst hno
  refine zal Tk (r:=.tup [ints out,bb is]) rfl rfl rfl trivial rfl rfl ?_
  rfl
end Go.AI


namespace Go.AI
open Go.Proofs
set_option maxRecDepth 20000
section
variable {a:Aut} {n:Nat} {on:List Int} {V:Unf (List Int)}
theorem ztx (h:prjU a n on V) (hn:n ≤ 12) (hal:∀ e ∈ on,0 ≤ e ∧ e < 32):∀ (m k:Nat),k < m → ∀ v,(wrdF a on V.eds V.sts.length)[k]? = some v → ∀ y ∈ v,y.2.length ≤ 13 * (k + 1):=by
 have hW:=zlw h
 have hWg:=zuK h hal
 generalize wrdF a on V.eds V.sts.length = W at *
 intro m
 induction m with
 | zero => intro k hk; omega
 | succ m ih =>
  intro k hk v hv
  have hv0:=vd0 (a:=a) h.g h.n0
  by_cases h0:k = 0
  ·subst h0
   rw [hW.fst] at hv
   obtain rfl:=Option.some.inj hv
   intro y hy
   have:=zjW (B:=0) h.g hn hv0 (fun y hy => by rw [List.mem_singleton.1 hy]; exact Nat.le_refl _) y hy
   omega
  ·have hkN:k < W.length:=(List.getElem?_eq_some_iff.1 hv).1
   obtain ⟨i,e,Wi,f1,f2,f3,f4⟩:=hW.nxt k (by omega) (by rw [← hW.len]; exact hkN)
   have hmem:=List.mem_of_find?_eq_some f1
   obtain ⟨k',s',j,g1,g2,g3,g4,g5,g6⟩:=zhH h.hU hmem
   simp only at g2 g3 g4 g5 g6
   obtain rfl:i = k':=by omega
   obtain rfl:k = j:=by omega
   rw [f4] at hv
   obtain rfl:=Option.some.inj hv
   have i0:=ih i (by omega) Wi f3
   obtain ⟨i1,i2,i3⟩:=hWg (i + 1) i (by omega) s' Wi g1 f3
   have hev:e ∈ on:=of_decide_eq_true (List.mem_filter.1 g3).2
   have hnv:=zlY (a:=a) h.g (hal e hev) i1
   intro y hy
   have:=zjW (B:=13 * (i + 1) + 1) h.g hn hnv (fun y hy => by
    obtain ⟨z,hz,rfl,_⟩:=(zjc (es:=a.edges) (hal e hev) i1.wrd).snd y hy
    have:=i0 z hz
    simp only [List.length_append,List.length_singleton]
    omega) y hy
   omega
end
theorem zte {x:Sys} (hx:gSys x) (hV:(lpV x).length ≤ 4095) (hn:(lpR x).2.length ≤ 11) (hel:(esR x).2.length ≤ 4095):∀ z ∈ esWR x,z.2.length ≤ 1000000 ∧ ∀ y ∈ z.2,(0 ≤ y.1 ∧ y.1 < ((lpR x).2.length:Int)) ∧ y.2.length ≤ 1000000:=by
 have hga:=(lp_g hx hV).1
 intro z hz
 obtain ⟨_,hw⟩:=zdb hx hV hn
 obtain ⟨w1,w2,w3⟩:=hw z hz
 have hfew:=RGd.few (a:=(lpR x).1) (on:=[]) (n:=(lpR x).2.length) (l:=z.2) ⟨fun y hy => RP.base hy,w1.nd,fun z hz => ⟨z,hz,rfl,Nat.le_refl _⟩⟩ (w1.ok hga)
 refine ⟨by omega,fun y hy => ⟨w1.rng y hy,?_⟩⟩
 by_cases h0:(lpR x).2.length = 0
 ·have he:(esR x).2 = []:=ztc h0
  unfold esWR at hz
  rw [he] at hz
  cases hz
 ·obtain ⟨V,hprj,hVs⟩:=zqh hx hV hn h0
  have hes:esR x = (unfA (zbK (lpR x).1 x.ob) V,V.sts):=by
   unfold esR
   rw [if_neg h0,hprj.hV]
  have hl:=ztx hprj (by omega) (zar hx.ob).2.1
  have hWl:=(zlw hprj).len
  unfold esWR at hz
  rw [hes] at hz hel
  unfold unfA at hz
  simp only at hz hel
  obtain ⟨k,hk⟩:=List.getElem?_of_mem hz
  have hk2:=List.getElem?_zip_eq_some.1 hk
  have:=hl (k + 1) k (Nat.lt_succ_self k) z.2 hk2.2 y hy
  have hk3:=(List.getElem?_eq_some_iff.1 hk2.1).1
  omega
def zgW (B:Int → Bool → List Int × Bool):List Int → Option Wit
 | [] => none
 | e :: r => if (B e true).2 = true ∧ (B e false).2 = true then some ((B e true).1,(B e false).1,e) else zgW B r
def zdk (B:Es2 → Int → Bool → List Int × Bool) (ct:List Int):List Es2 → Option Wit
 | [] => none
 | z :: r => match zgW (B z) ct with
  | some w => some w
  | none => zdk B ct r
abbrev bhB (x:Sys) (z:Es2) (e:Int) (p:Bool):List Int × Bool:=bhR (bhOk x (lpR x).1 (lpR x).2 e p) z.2
noncomputable abbrev witR (x:Sys):Option Wit:=zdk (bhB x) x.ct (esWR x)
set_option maxHeartbeats 16000000 in
theorem zos (O:List Heap) (x:Sys) (h:smallS x) (hx:gSys x) (hV0:(lpV x).length ≤ 4095) (hn11:(lpR x).2.length ≤ 11) (hel:(esR x).2.length ≤ 4095):zan Tryz.prog 36 [sysD x] O (.tup [.agg (witC ((witR x).getD zWit)),bb (witR x).isSome]) [] O:=by
 have h1:=fun O => zgM O x h hx hV0 hn11
 have hlen:=zte hx hV0 hn11 hel
 have hb:=fun O z e p (hz:z ∈ esWR x) => zmq O x h hx hV0 z e p (hlen z hz).1 (hlen z hz).2
 have hb:∀ O z e p,z ∈ esWR x → zan Tryz.prog 92 [sysD x,esD z,ii e,bb p] O (.tup [ints (bhB x z e p).1,bb (bhB x z e p).2]) [] O:=hb
 have hle:(esWR x).length ≤ 4095:=by rw [(zdb hx hV0 hn11).1.2]; exact hel
 have hct:=h.ct
 obtain ⟨R,hR⟩:∃ R,R = witR x:=⟨_,rfl⟩
 rw [← hR]
 have hR:R = zdk (bhB x) x.ct ((esWR x).drop 0):=hR
 generalize bhB x = B at *
 generalize esWR x = L at *
 generalize esR x = M at *
 clear h hx hV0 hlen hel hn11
 obtain ⟨⟨al,st,mk,es⟩,⟨al',st',mk',es'⟩,ob,ct⟩:=x
 obtain ⟨⟨mal,mst,mmk,meds⟩,rows⟩:=M
 simp only at h1 hb hct hR
 refine zad Tk Tryz.func36 rfl Tryz.call36 Tryz.ntmps36 (Nat.le_of_ble_eq_true rfl) fun E => ?_
 refine zae Tk Tryz.func36 ?_
 refine zaf Tk Tryz.func36 (h1 _) rfl rfl rfl rfl rfl ?_
 refine zac ?_
 refine zah (fun i:Nat => [(1,.own 0 1 0 0),(2,.own 0 2 0 0),(19,znP L),(20,ii L.length),(21,ii i)]) (fun _ => [(1,.box (sysC ⟨⟨al,st,mk,es⟩,⟨al',st',mk',es'⟩,ob,ct⟩)),(2,.box [.i (.v (.slice none 0 0)),.i (.v (.slice none 0 0)),ii 0])]) (fun _ => O) 57
  (fun i => i ≤ L.length ∧ R = zdk B ct (L.drop i)) (fun i => L.length - i) 0 ⟨Nat.zero_le _,hR⟩ ⟨rfl,rfl,rfl,rfl,rfl,trivial⟩ rfl ⟨rfl,rfl,trivial⟩ rfl rfl ?_
 clear hR
 rintro i ⟨hi,hno⟩ ih
 have hj0:ii (IntKind.i64.wrap ((i:Int) + 1)) = ii ((i + 1:Nat):Int):=congrArg ii (zaB (n:=5000) (by omega) (by decide))
 refine zae Tk Tryz.func36 ?_
 refine zai Tk Tryz.func36 rfl (fun g1 => ?_) (fun g1 => ?_)
 ·have h2:i < L.length:=by simpa using g1
  have ge:(L.map esI)[(i:Int).toNat]? = some (esI L[i]):=zaj h2
  have hm:=List.getElem_mem h2
  rw [List.drop_eq_getElem_cons h2] at hno
  simp only [zdk] at hno
  generalize L[i] = z at *
  have hb1:=fun O e p => hb O z e p hm
  obtain ⟨z1,z2⟩:=z
  generalize B (z1,z2) = Bz at *
  have hno:R = match zgW Bz (ct.drop 0) with
   | some w => some w
   | none => zdk B ct (L.drop (i + 1)):=hno
  refine zag Tk Tryz.func36 (by exact ⟨by omega,by show (i:Int) < (L.length:Int); omega⟩) ?_
  refine zap Tk Tryz.func36 (ge) ?_
  refine zac ?_
  refine zah (fun j:Nat => [(1,.own 0 1 0 0),(2,.own 0 2 0 0),(19,znP L),(20,ii L.length),(21,ii i),(7,.own 0 7 0 0),(26,ints ct),(27,ii ct.length),(28,ii j)]) (fun _ => [(1,.box (sysC ⟨⟨al,st,mk,es⟩,⟨al',st',mk',es'⟩,ob,ct⟩)),(2,.box [.i (.v (.slice none 0 0)),.i (.v (.slice none 0 0)),ii 0]),(7,.box [ints z1,fdsD z2])]) (fun _ => O) 57
   (fun j => j ≤ ct.length ∧ R = match zgW Bz (ct.drop j) with
    | some w => some w
    | none => zdk B ct (L.drop (i + 1))) (fun j => ct.length - j) 0 ⟨Nat.zero_le _,hno⟩ ⟨rfl,rfl,rfl,rfl,rfl,rfl,rfl,rfl,rfl,trivial⟩ rfl ⟨rfl,rfl,rfl,trivial⟩ rfl rfl ?_
  clear hno
  rintro j ⟨hj,hno⟩ ih2
  have hj1:ii (IntKind.i64.wrap ((j:Int) + 1)) = ii ((j + 1:Nat):Int):=congrArg ii (zaB (n:=1000001) (by omega) (by decide))
  refine zae Tk Tryz.func36 ?_
  refine zai Tk Tryz.func36 rfl (fun g2 => ?_) (fun g2 => ?_)
  ·have h3:j < ct.length:=by simpa using g2
   have gc:(ct.map fun x => [vi x])[(j:Int).toNat]? = some [vi ct[j]]:=zaj (f:=fun x => [vi x]) h3
   rw [List.drop_eq_getElem_cons h3] at hno
   simp only [zgW] at hno
   generalize ct[j] = e at *
   have hA:=fun O => hb1 O e true
   have hB:=fun O => hb1 O e false
   generalize Bz e true = b1 at *
   generalize Bz e false = b2 at *
   obtain ⟨w1,f1⟩:=b1
   obtain ⟨w2,f2⟩:=b2
   simp only at hno hA hB
   refine zag Tk Tryz.func36 (by exact ⟨by omega,by show (j:Int) < (ct.length:Int); omega⟩) ?_
   refine zap Tk Tryz.func36 (gc) ?_
   refine zaf Tk Tryz.func36 (hA _) rfl rfl rfl rfl rfl ?_
   refine zaf Tk Tryz.func36 (hB _) rfl rfl rfl rfl rfl ?_
   refine zaW Tk Tryz.func36 rfl (fun c1 => ?_) (fun c1 => ?_)
   ·have c1:f1 = true:=c1
    refine zai Tk Tryz.func36 rfl (fun c2 => ?_) (fun c2 => ?_)
    ·have c2:f2 = true:=c2
     rw [if_pos ⟨c1,c2⟩] at hno
     simp only at hno
     subst hno
     refine zal Tk (r:=.tup [.agg [ints w1,ints w2,ii e],bb true]) rfl rfl rfl trivial rfl rfl ?_
     rfl
    ·have c2:f2 = false:=c2
     rw [if_neg (fun h => by rw [c2] at h; cases h.2)] at hno
     refine zac ?_
     exact ih2 (j + 1) _ _ ⟨h3,hno⟩ (by omega) ⟨rfl,rfl,rfl,rfl,rfl,rfl,rfl,rfl,hj1,trivial⟩ rfl ⟨rfl,rfl,rfl,trivial⟩ rfl rfl
   ·have c1:f1 = false:=c1
    rw [if_neg (fun h => by rw [c1] at h; cases h.1)] at hno
    refine gcF Tk Tryz.func36 rfl ?_
    refine zac ?_
    exact ih2 (j + 1) _ _ ⟨h3,hno⟩ (by omega) ⟨rfl,rfl,rfl,rfl,rfl,rfl,rfl,rfl,hj1,trivial⟩ rfl ⟨rfl,rfl,rfl,trivial⟩ rfl rfl
  ·have h3:ct.length ≤ j:=by simpa using g2
   rw [List.drop_eq_nil_of_le h3] at hno
   simp only [zgW] at hno
   refine zac ?_
   exact ih (i + 1) _ _ ⟨h2,hno⟩ (by omega) ⟨rfl,rfl,rfl,rfl,hj0,trivial⟩ rfl ⟨rfl,rfl,trivial⟩ rfl rfl
 ·have h2:L.length ≤ i:=by simpa using g1
  rw [List.drop_eq_nil_of_le h2] at hno
  simp only [zdk] at hno
  subst hno
  refine zb2 Tk (r:=.tup [.agg [.i (.v (.slice none 0 0)),.i (.v (.slice none 0 0)),ii 0],bb false]) rfl rfl rfl trivial rfl rfl ?_
  repeat' (first | refine zcR ?_ | refine zcS ?_ | refine zfi ?_ | refine CoDL.cons ?_ ?_ | exact CoDL.nil | exact zbZ | refine zdF ?_ | refine CoLL.cons ?_ ?_ | exact CoLL.nil | refine CoL.cons ?_ ?_ | exact CoL.nil | exact CoI.refl _ | exact CoL.refl _ | exact CoLL.refl _ | exact CoDL.refl _ | exact CoD.refl _)
noncomputable abbrev ctlW (x:Sys):List (List Int):=(esWR x).map fun z => x.ct.filter fun e => (bhB x z e true).2
set_option maxHeartbeats 16000000 in
theorem zqs (O:List Heap) (x:Sys) (h:smallS x) (hx:gSys x) (hV0:(lpV x).length ≤ 4095) (hn11:(lpR x).2.length ≤ 11) (hel:(esR x).2.length ≤ 4095):zan Tryz.prog 37 [sysD x] O (ctlD (esR x).1 (ctlW x)) [] O:=by
 have h1:=fun O => zgM O x h hx hV0 hn11
 have hlen:=zte hx hV0 hn11 hel
 have hb:=fun O z e p (hz:z ∈ esWR x) => zmq O x h hx hV0 z e p (hlen z hz).1 (hlen z hz).2
 have hb:∀ O z e p,z ∈ esWR x → zan Tryz.prog 92 [sysD x,esD z,ii e,bb p] O (.tup [ints (bhB x z e p).1,bb (bhB x z e p).2]) [] O:=hb
 have hle:(esWR x).length ≤ 4095:=by rw [(zdb hx hV0 hn11).1.2]; exact hel
 have hct:=h.ct
 unfold ctlW
 generalize bhB x = B at *
 generalize esWR x = L at *
 generalize esR x = M at *
 clear h hx hV0 hlen hel hn11
 obtain ⟨⟨al,st,mk,es⟩,⟨al',st',mk',es'⟩,ob,ct⟩:=x
 obtain ⟨⟨mal,mst,mmk,meds⟩,rows⟩:=M
 simp only at h1 hb hct
 refine zat [14,16] Tk Tryz.func37 rfl Tryz.call37 Tryz.ntmps37 (Nat.le_of_ble_eq_true rfl) fun E => ?_
 refine zae Tk Tryz.func37 ?_
 refine zaf Tk Tryz.func37 (h1 _) rfl rfl rfl rfl rfl ?_
 refine zac ?_
 refine zao (zaO 5 50 31 1 (pre:=[ints mal,ii mst,ints mmk,edgs meds]) (post:=[]) rfl rfl rfl) ?_
 refine zah (fun i:Nat => [(1,.own 0 1 0 0),(2,.own 0 2 0 0),(5,.own 0 5 0 0),(20,znP L),(21,ii L.length),(22,ii i)])
  (fun i => [(1,.box (sysC ⟨⟨al,st,mk,es⟩,⟨al',st',mk',es'⟩,ob,ct⟩)),(2,.box [.i (.v (.slice none 0 0)),ii 0,.i (.v (.slice none 0 0)),.i (.v (.slice none 0 0)),.i (.v (.slice none 0 0))]),(5,.box [ints mal,ii mst,ints mmk,edgs meds,.osl 0 50]),(50,ze4 ((L.take i).map fun z => ct.filter fun e => (B z e true).2))]) (fun _ => O) 54
  (fun i => i ≤ L.length) (fun i => L.length - i) 0 (Nat.zero_le _) ⟨rfl,rfl,rfl,rfl,rfl,rfl,trivial⟩ rfl ⟨rfl,rfl,rfl,rfl,trivial⟩ rfl rfl ?_
 rintro i hi ih
 have hj0:ii (IntKind.i64.wrap ((i:Int) + 1)) = ii ((i + 1:Nat):Int):=congrArg ii (zaB (n:=5000) (by omega) (by decide))
 refine zae Tk Tryz.func37 ?_
 refine zai Tk Tryz.func37 rfl (fun g1 => ?_) (fun g1 => ?_)
 ·have hh2:i < L.length:=by simpa using g1
  have ge:(L.map esI)[(i:Int).toNat]? = some (esI L[i]):=zaj hh2
  have hm:=List.getElem_mem hh2
  have htk:=zcl (f:=fun z => ct.filter fun e => (B z e true).2) hh2
  have hl0:((L.take i).map fun z => ct.filter fun e => (B z e true).2).length = i:=by rw [List.length_map,List.length_take]; omega
  generalize L[i] = z at *
  generalize hQ:(L.take i).map (fun z => ct.filter fun e => (B z e true).2) = Q at *
  have hb1:=fun O e => hb O z e true hm
  obtain ⟨z1,z2⟩:=z
  generalize B (z1,z2) = Bz at *
  obtain ⟨pf,hpf⟩:∃ pf:Int → Bool,pf = fun e => (Bz e true).2:=⟨_,rfl⟩
  rw [← hpf] at htk
  have hpe:∀ e,(Bz e true).2 = pf e:=fun e => by rw [hpf]
  simp only [hpe] at hb1
  clear hpf hpe
  refine zag Tk Tryz.func37 (by exact ⟨by omega,by show (i:Int) < (L.length:Int); omega⟩) ?_
  refine zap Tk Tryz.func37 (ge) ?_
  refine zac ?_
  refine zao (zb4 8 44 3 1 rfl rfl rfl) ?_
  refine zah (fun j:Nat => [(1,.own 0 1 0 0),(2,.own 0 2 0 0),(5,.own 0 5 0 0),(20,znP L),(21,ii L.length),(22,ii i),(7,.own 0 7 0 0),(8,.osl 0 44),(27,ints ct),(28,ii ct.length),(29,ii j)])
   (fun j => [(1,.box (sysC ⟨⟨al,st,mk,es⟩,⟨al',st',mk',es'⟩,ob,ct⟩)),(2,.box [.i (.v (.slice none 0 0)),ii 0,.i (.v (.slice none 0 0)),.i (.v (.slice none 0 0)),.i (.v (.slice none 0 0))]),(5,.box [ints mal,ii mst,ints mmk,edgs meds,.osl 0 50]),(50,ze4 Q),(7,.box [ints z1,fdsD z2]),(44,zaw ((ct.take j).filter pf))]) (fun _ => O) 54
   (fun j => j ≤ ct.length) (fun j => ct.length - j) 0 (Nat.zero_le _) ⟨rfl,rfl,rfl,rfl,rfl,rfl,rfl,rfl,rfl,rfl,rfl,trivial⟩ rfl ⟨rfl,rfl,rfl,rfl,rfl,rfl,trivial⟩ rfl rfl ?_
  rintro j hj ih2
  have hj1:ii (IntKind.i64.wrap ((j:Int) + 1)) = ii ((j + 1:Nat):Int):=congrArg ii (zaB (n:=1000001) (by omega) (by decide))
  refine zae Tk Tryz.func37 ?_
  refine zai Tk Tryz.func37 rfl (fun g2 => ?_) (fun g2 => ?_)
  ·have h3:j < ct.length:=by simpa using g2
   have gc:(ct.map fun x => [vi x])[(j:Int).toNat]? = some [vi ct[j]]:=zaj (f:=fun x => [vi x]) h3
   have htk2:ct.take (j + 1) = ct.take j ++ [ct[j]]:=List.take_succ_eq_append_getElem h3
   have hA:=zeO pf (ct.take j) ct[j]
   rw [← htk2] at hA
   have lA:((ct.take j).filter pf).length ≤ 1000000:=Nat.le_trans (List.length_filter_le _ _) (by rw [List.length_take]; omega)
   generalize ct[j] = e at *
   clear htk2
   generalize (ct.take j).filter pf = A at *
   refine zag Tk Tryz.func37 (by exact ⟨by omega,by show (j:Int) < (ct.length:Int); omega⟩) ?_
   refine zap Tk Tryz.func37 (gc) ?_
   refine zaf Tk Tryz.func37 (hb1 _ _) rfl rfl rfl rfl rfl ?_
   refine zai Tk Tryz.func37 rfl (fun c1 => ?_) (fun c1 => ?_)
   ·have c1:pf e = true:=c1
    rw [if_pos c1] at hA
    refine zag Tk Tryz.func37 (by exact ⟨by show (A.length + 1) * 8 ≤ 140737488355328; omega,by show A.length + 1 ≤ 9223372036854775807; omega⟩) ?_
    refine zac ?_
    exact ih2 (j + 1) _ _ h3 (by omega) ⟨rfl,rfl,rfl,rfl,rfl,rfl,rfl,rfl,rfl,rfl,hj1,trivial⟩ rfl ⟨rfl,rfl,rfl,rfl,rfl,by rw [hA]; exact congrArg some (zaL A e),trivial⟩ rfl rfl
   ·have c1:pf e = false:=c1
    rw [if_neg (by rw [c1]; decide),List.append_nil] at hA
    refine zac ?_
    exact ih2 (j + 1) _ _ h3 (by omega) ⟨rfl,rfl,rfl,rfl,rfl,rfl,rfl,rfl,rfl,rfl,hj1,trivial⟩ rfl ⟨rfl,rfl,rfl,rfl,rfl,by rw [hA]; rfl,trivial⟩ rfl rfl
  ·have h3:ct.length ≤ j:=by simpa using g2
   rw [List.take_of_length_le h3]
   refine zax ?_
   refine zao (zam 44 rfl rfl) ?_
   refine zae Tk Tryz.func37 ?_
   refine g_go Tk Tryz.func37 ?_
   refine zag Tk Tryz.func37 (by exact ⟨by show (Q.length + 1) * 24 ≤ 140737488355328; omega,by show Q.length + 1 ≤ 9223372036854775807; omega⟩) ?_
   refine zac ?_
   refine ih (i + 1) _ _ hh2 (by omega) ⟨rfl,rfl,rfl,rfl,rfl,hj0,trivial⟩ rfl ⟨rfl,rfl,rfl,?_,trivial⟩ rfl rfl
   rw [htk]
   exact congrArg some (zeD Q (ct.filter pf))
 ·have hh2:L.length ≤ i:=by simpa using g1
  rw [List.take_of_length_le hh2]
  refine zax ?_
  refine zao (zam 50 rfl rfl) ?_
  refine zae Tk Tryz.func37 ?_
  refine g_go Tk Tryz.func37 ?_
  refine zal Tk (r:=ctlD ⟨mal,mst,mmk,meds⟩ (L.map fun z => ct.filter fun e => (B z e true).2)) rfl rfl rfl trivial rfl rfl ?_
  rfl
end Go.AI


namespace Go.AI
set_option maxRecDepth 20000
theorem zu8 {x:Sys} (hx:gSys x) (hV:(lpV x).length ≤ 4095) {i:Nat} {z:Int × Int} (hz:(lpR x).2[i]? = some z) {e:Int} (he:e ∈ x.p.alpha) :
  (stp3 (lpR x).1.edges i e = -1 ∧ ¬ (0 ≤ stp3 x.p.edges z.1 e ∧ 0 ≤ stp3 x.s.edges z.2 e)) ∨ ((0 ≤ stp3 x.p.edges z.1 e ∧ 0 ≤ stp3 x.s.edges z.2 e) ∧ ∃ j:Nat,stp3 (lpR x).1.edges i e = (j:Int) ∧ (lpR x).2[j]? = some (stp3 x.p.edges z.1 e,stp3 x.s.edges z.2 e)):=by
 by_cases h0:0 < x.p.states ∧ 0 < x.s.states
 ·obtain ⟨V,hV1,hU⟩:=zgn hx h0 (by omega)
  have hlp:lpR x = (unfA x.p.alpha V,V.sts):=by unfold lpR; rw [if_pos h0,hV1]
  rw [hlp] at hz ⊢
  have hal:=(zar (zaK hx.p).1).1
  have hs:(zdx x z e).2.1 = (decide (0 ≤ stp3 x.p.edges z.1 e) && decide (0 ≤ stp3 x.s.edges z.2 e)):=rfl
  rcases zow hU hal hz he with ⟨h1,h2⟩ | ⟨h1,h2⟩
  ·rw [hs] at h1
   refine .inl ⟨h2,fun hc => ?_⟩
   rw [decide_eq_true hc.1,decide_eq_true hc.2] at h1
   cases h1
  ·rw [hs] at h1
   simp only [Bool.and_eq_true,decide_eq_true_eq] at h1
   exact .inr ⟨h1,h2⟩
 ·have hlp:lpR x = (⟨x.p.alpha,0,[],[]⟩,[]):=by unfold lpR; rw [if_neg h0]
  rw [hlp] at hz
  simp at hz
section
variable {x:Sys} {V:Unf (List Int)}
end
end Go.AI


namespace Go.AI
set_option maxRecDepth 20000
theorem zrQ {x:Sys} (hx:gSys x) (hV:(lpV x).length ≤ 4095) {s e:Int} (hs:0 ≤ s ∧ s < ((lpR x).2.length:Int)) (h:ze3 (lpR x).1 s e = true):canF x (lpR x).2 s e = true:=by
 have h0:0 ≤ stp3 (lpR x).1.edges s e:=of_decide_eq_true h
 obtain ⟨hga,hal⟩:=lp_g hx hV
 obtain ⟨z,hz,e1,e2,e3⟩:=zdm h0
 have he:e ∈ x.p.alpha:=by rw [← hal,← e2]; exact hga.ev z hz
 obtain ⟨i,rfl⟩:∃ i:Nat,s = (i:Int):=⟨s.toNat,by omega⟩
 have hi:i < (lpR x).2.length:=by omega
 have hzi:(lpR x).2[i]? = some (lpR x).2[i]:=List.getElem?_eq_getElem hi
 rcases zu8 hx hV hzi he with ⟨h1,_⟩ | ⟨⟨h1,_⟩,_⟩
 ·omega
 ·show decide (0 ≤ stp3 x.p.edges (((lpR x).2.getD (i:Int).toNat (0,0)).1) e) = true
  rw [show ((i:Int).toNat) = i from rfl,List.getD_eq_getElem?_getD,hzi]
  exact decide_eq_true h1
theorem ztd {x:Sys} (hx:gSys x) (hV:(lpV x).length ≤ 4095) (hn:(lpR x).2.length ≤ 11) {z:Es2} (hz:z ∈ esWR x):∀ s,s ∈ z.1 ↔ ∃ y ∈ z.2,y.1 = s:=by
 obtain ⟨_,hw⟩:=zdb hx hV hn
 obtain ⟨w1,w2,w3⟩:=hw z hz
 intro s
 rw [w3,zeZ w1.nd (fun z hz => by
  obtain ⟨y,hy,rfl⟩:=List.mem_map.1 hz
  exact w1.rng y hy) s,List.mem_map]
theorem zkI {x:Sys} (hx:gSys x) (hV:(lpV x).length ≤ 4095) (hn:(lpR x).2.length ≤ 11) {z:Es2} (hz:z ∈ esWR x) {e:Int}:(bhB x z e true).2 = true ↔ ∃ s ∈ z.1,ze3 (lpR x).1 s e = true:=by
 have hm:=ztd hx hV hn hz
 have hw:=((zdb hx hV hn).2 z hz).1
 rw [ztn]
 constructor
 ·rintro ⟨y,hy,h⟩
  simp only [bhOk,Bool.and_eq_true,beq_iff_eq] at h
  exact ⟨y.1,(hm _).2 ⟨y,hy,rfl⟩,h.2⟩
 ·rintro ⟨s,hs,h⟩
  obtain ⟨y,hy,rfl⟩:=(hm s).1 hs
  refine ⟨y,hy,?_⟩
  simp only [bhOk,Bool.and_eq_true,beq_iff_eq]
  exact ⟨zrQ hx hV (hw.rng y hy) h,h⟩
theorem ztl {x:Sys} (hx:gSys x) (hV:(lpV x).length ≤ 4095) (hn:(lpR x).2.length ≤ 11) {z:Es2} (hz:z ∈ esWR x) {e:Int}:(bhB x z e false).2 = true ↔ ∃ s ∈ z.1,refF x (lpR x).1 (lpR x).2 s e = true:=by
 have hm:=ztd hx hV hn hz
 rw [ztn]
 constructor
 ·rintro ⟨y,hy,h⟩
  refine ⟨y.1,(hm _).2 ⟨y,hy,rfl⟩,?_⟩
  simp only [bhOk,refF,Bool.and_eq_true,beq_iff_eq,Bool.not_eq_true'] at h ⊢
  exact h
 ·rintro ⟨s,hs,h⟩
  obtain ⟨y,hy,rfl⟩:=(hm s).1 hs
  refine ⟨y,hy,?_⟩
  simp only [bhOk,refF,Bool.and_eq_true,beq_iff_eq,Bool.not_eq_true'] at h ⊢
  exact h
theorem zg8 {B:Int → Bool → List Int × Bool}:∀ {l:List Int},(zgW B l).isSome = true ↔ ∃ e ∈ l,(B e true).2 = true ∧ (B e false).2 = true
 | [] => by simp [zgW]
 | e :: r => by
  simp only [zgW]
  by_cases c:(B e true).2 = true ∧ (B e false).2 = true
  ·rw [if_pos c]
   exact ⟨fun _ => ⟨e,by simp,c⟩,fun _ => rfl⟩
  ·rw [if_neg c,zg8 (l:=r)]
   refine ⟨fun ⟨e',h1,h2⟩ => ⟨e',by simp [h1],h2⟩,fun ⟨e',h1,h2⟩ => ?_⟩
   rcases List.mem_cons.1 h1 with rfl | h1
   ·exact absurd h2 c
   ·exact ⟨e',h1,h2⟩
theorem zfI {B:Es2 → Int → Bool → List Int × Bool} {ct:List Int}:∀ {L:List Es2},(zdk B ct L).isSome = true ↔ ∃ z ∈ L,∃ e ∈ ct,(B z e true).2 = true ∧ (B z e false).2 = true
 | [] => by simp [zdk]
 | z :: r => by
  simp only [zdk]
  have h:=zg8 (B:=B z) (l:=ct)
  cases hI:zgW (B z) ct with
  | some w =>
   rw [hI] at h
   obtain ⟨e,h1,h2⟩:=h.1 rfl
   exact ⟨fun _ => ⟨z,by simp,e,h1,h2⟩,fun _ => rfl⟩
  | none =>
   rw [hI] at h
   simp only
   rw [zfI (L:=r)]
   refine ⟨fun ⟨z',h1,h2⟩ => ⟨z',by simp [h1],h2⟩,fun ⟨z',h1,h2⟩ => ?_⟩
   rcases List.mem_cons.1 h1 with rfl | h1
   ·have:=h.2 h2; cases this
   ·exact ⟨z',h1,h2⟩
theorem zrc {x:Sys} (hx:gSys x) (hV:(lpV x).length ≤ 4095) (hn:(lpR x).2.length ≤ 11):(witR x).isSome = (zfL x).isSome:=by
 have hw:=(zdb hx hV hn).1.1
 rw [Bool.eq_iff_iff,zfI,zfo]
 constructor
 ·rintro ⟨z,hz,e,he,h1,h2⟩
  exact ⟨z.1,by rw [← hw]; exact List.mem_map.2 ⟨z,hz,rfl⟩,e,he,(zkI hx hV hn hz).1 h1,(ztl hx hV hn hz).1 h2⟩
 ·rintro ⟨E,hE,e,he,h1,h2⟩
  rw [← hw] at hE
  obtain ⟨z,hz,rfl⟩:=List.mem_map.1 hE
  exact ⟨z,hz,e,he,(zkI hx hV hn hz).2 h1,(ztl hx hV hn hz).2 h2⟩
theorem zsu {x:Sys} (hx:gSys x) (hV:(lpV x).length ≤ 4095) (hn:(lpR x).2.length ≤ 11):ctlW x = ctlR x (lpR x).1 (esR x).2:=by
 have hw:=(zdb hx hV hn).1.1
 unfold ctlW ctlR
 rw [← hw,List.map_map]
 refine List.map_congr_left fun z hz => ?_
 refine List.filter_congr fun e he => ?_
 rw [Bool.eq_iff_iff,zkI hx hV hn hz,decide_eq_true_iff]
 exact filt_pos.symm
end Go.AI


namespace Go.AI
open Go.Proofs
set_option maxRecDepth 20000
theorem zqj (O:List Heap) (es:List Edg) (he:es.length ≤ zas):zan Tryz.prog 93 [edgs es,edgs es] O (bb true) [] O:=by
 refine zad Tk Tryz.func93 rfl Tryz.call93 Tryz.ntmps93 (Nat.le_of_ble_eq_true rfl) fun E => ?_
 refine zae Tk Tryz.func93 ?_
 refine zai Tk Tryz.func93 rfl (fun g1 => ?_) (fun g1 => ?_)
 ·exact absurd rfl (bneT g1)
 refine zac ?_
 refine zah (fun i:Nat => [(0,edgs es),(1,edgs es),(12,ii es.length),(13,ii i)]) (fun _ => []) (fun _ => O) 26
  (fun i => i ≤ es.length) (fun i => es.length - i) 0 (Nat.zero_le _) ⟨rfl,rfl,rfl,rfl,trivial⟩ rfl trivial rfl rfl ?_
 rintro i hi ih
 refine zae Tk Tryz.func93 ?_
 refine zai Tk Tryz.func93 rfl (fun g3 => ?_) (fun g3 => ?_)
 ·have h3:i < es.length:=by simpa using g3
  have ge:(es.map edgI)[(i:Int).toNat]? = some (edgI es[i]):=zaj h3
  generalize es[i] = e at *
  refine zaD Tk Tryz.func93 zaN rfl ?_
  refine zaz Tk (by exact ⟨by omega,by show (i:Int) < (es.length:Int); omega⟩) ?_
  refine zaJ Tk (ge) ?_
  refine zaz Tk (by exact ⟨by omega,by show (i:Int) < (es.length:Int); omega⟩) ?_
  refine zaJ Tk (ge) ?_
  refine zaS Tk Tryz.func93 (by kernel_rfl) ?_
  refine zai Tk Tryz.func93 rfl (fun g4 => ?_) (fun g4 => ?_)
  ·simp at g4
  ·refine zac ?_
   exact ih (i + 1) _ _ h3 (by omega) ⟨rfl,rfl,rfl,congrArg ii (zaB h3 he),trivial⟩ rfl trivial rfl rfl
 ·refine zal Tk (r:=bb true) rfl rfl rfl trivial rfl rfl ?_
  rfl
theorem zqk (O:List Heap) (a:Aut) (ha:a.alpha.length ≤ zas) (hm:a.marked.length ≤ zas) (he:a.edges.length ≤ zas):zan Tryz.prog 38 [autD a,autD a] O (bb true) [] O:=by
 obtain ⟨al,n,mk,es⟩:=a
 simp only at ha hm he
 have h1:∀ O,zan Tryz.prog 41 [ints al,ints al] O (bb true) [] O:=fun O => by
  have h:=zdD O al al ha
  rwa [decide_eq_true rfl] at h
 have h2:∀ O,zan Tryz.prog 41 [ints mk,ints mk] O (bb true) [] O:=fun O => by
  have h:=zdD O mk mk hm
  rwa [decide_eq_true rfl] at h
 have h3:=fun O => zqj O es he
 refine zad Tk Tryz.func38 rfl Tryz.call38 Tryz.ntmps38 (Nat.le_of_ble_eq_true rfl) fun E => ?_
 refine zae Tk Tryz.func38 ?_
 refine zaW Tk Tryz.func38 rfl (fun c1 => ?_) (fun c1 => ?_)
 rotate_left
 ·exact absurd rfl (beqF c1)
 refine zaf Tk Tryz.func38 (h1 _) rfl rfl rfl rfl rfl ?_
 refine gkT Tk Tryz.func38 rfl ?_
 refine zaf Tk Tryz.func38 (h2 _) rfl rfl rfl rfl rfl ?_
 refine gkT Tk Tryz.func38 rfl ?_
 refine zaf Tk Tryz.func38 (h3 _) rfl rfl rfl rfl rfl ?_
 refine zal Tk (r:=bb true) rfl rfl rfl trivial rfl rfl ?_
 rfl
end Go.AI


namespace Go.AI
open Go.Proofs
set_option maxRecDepth 20000
theorem zv9 (O:List Heap) (r:List Int) (hr:r.length ≤ 1000000):zan Tryz.prog 40 [ints r,ints r] O (bb true) [] O:=by
 have h:=fun O => zdD O r r (by simp only [zas]; omega)
 rw [decide_eq_true rfl] at h
 refine zad Tk Tryz.func40 rfl Tryz.call40 Tryz.ntmps40 (Nat.le_of_ble_eq_true rfl) fun E => ?_
 refine zae Tk Tryz.func40 ?_
 refine zaf Tk Tryz.func40 (h _) rfl rfl rfl rfl rfl ?_
 refine zal Tk (r:=bb true) rfl rfl rfl trivial rfl rfl ?_
 rfl
theorem zss (O:List Heap) (L:List (List Int)) (hl:L.length ≤ 1000000) (hb:∀ z ∈ L,z.length ≤ 1000000):zan Tryz.prog 39 [.i (zdo L),.i (zdo L),.fn (.func 40) [] []] O (bb true) [] O:=by
 have h:=fun O z hz => zv9 O z (hb z hz)
 refine zad Tk Tryz.func39 rfl Tryz.call39 Tryz.ntmps39 (Nat.le_of_ble_eq_true rfl) fun E => ?_
 refine zae Tk Tryz.func39 ?_
 refine zai Tk Tryz.func39 rfl (fun h => absurd h (by simp)) (fun _ => ?_)
 refine zac ?_
 refine zah (fun i:Nat => [(1,.i (zdo L)),(2,.fn (.func 40) [] []),(15,.i (zdo L)),(16,ii L.length),(17,ii i)]) (fun _ => []) (fun _ => O) 32
  (fun i => i ≤ L.length) (fun i => L.length - i) 0 (Nat.zero_le _) ⟨rfl,rfl,rfl,rfl,rfl,trivial⟩ rfl trivial rfl rfl ?_
 rintro i hi ih
 refine zae Tk Tryz.func39 ?_
 refine zai Tk Tryz.func39 rfl (fun g1 => ?_) (fun g1 => ?_)
 ·have h3:i < L.length:=by simpa using g1
  clear g1
  have hi1:ii (IntKind.i64.wrap ((i:Int) + 1)) = ii ((i + 1:Nat):Int):=congrArg ii (zaB (n:=1000001) (by omega) (by decide))
  have gr:(L.map fun r => [zbu r])[(i:Int).toNat]? = some [zbu L[i]]:=zaj (f:=fun r => [zbu r]) h3
  have h':=fun O => h O L[i] (List.getElem_mem h3)
  generalize L[i] = z at *
  refine zag Tk Tryz.func39 (by exact ⟨by omega,by show (i:Int) < (L.length:Int); omega⟩) ?_
  refine zap Tk Tryz.func39 (gr) ?_
  refine zag Tk Tryz.func39 (by exact ⟨by omega,by show (i:Int) < (L.length:Int); omega⟩) ?_
  refine zap Tk Tryz.func39 (gr) ?_
  refine zaf Tk Tryz.func39 (h' _) rfl rfl rfl rfl rfl ?_
  refine gcF Tk Tryz.func39 rfl ?_
  refine zac ?_
  refine ih (i + 1) _ _ h3 (by omega) ⟨rfl,rfl,rfl,rfl,hi1,trivial⟩ rfl trivial rfl rfl
 ·refine zal Tk (r:=bb true) rfl rfl rfl trivial rfl rfl ?_
  rfl
set_option maxHeartbeats 16000000 in
theorem zkl {g:Nat} (hg:zfx g) {ty:TypeId} {fr:Nat × Nat} (O:List Heap) (x:Sk) (h:skOkB x):ASpecT g (ptab ty fr) Tryz.prog 8 [.agg (skC x)] O (bb true) [] O:=by
 have hk:=fun O => zuc hg (ty:=ty) (fr:=fr) O
 have h1:=fun O => zvq O x h
 by_cases hf:(lpR (mkS x)).1.states ≤ 10
 ·have hob:=zvL h hf
  have hfit:=zsL h hf
  have k1:=fun O => zsY O x h
  have hn:(lpR (mkS x)).2.length ≤ 11:=by omega
  have hel:=hob.tn.el
  have k3:=fun O => zos O (mkS x) hob.sm hob.hx hob.hV hn hel
  rw [zrc hob.hx hob.hV hn] at k3
  have k4:=fun O => zqs O (mkS x) hob.sm hob.hx hob.hV hn hel
  rw [zsu hob.hx hob.hV hn] at k4
  have himt:(zfL (mkS x)).isSome = true → ∀ O,ASpecT g (ptab ty fr) Tryz.prog 19 [sysD (mkS x)] O (.tup [zCtl,ii 26]) [] O:=fun ht O => zjk hg O _ hob ht
  have himf:(zfL (mkS x)).isSome = false → ∀ O,ASpecT g (ptab ty fr) Tryz.prog 19 [sysD (mkS x)] O (.tup [ctlD (esR (mkS x)).1 (ctlR (mkS x) (lpR (mkS x)).1 (esR (mkS x)).2),ii 0]) [] O:=fun ht O => zgx hg O _ hob ht
  have hgo:=hob.tn.go
  have q2:=fun O => zqk O (esR (mkS x)).1 (by have:=hgo.sm.al; simp only [zas]; omega) (by have:=hgo.sm.mkd; simp only [zas]; omega) (by have:=hgo.sm.ed; simp only [zas]; omega)
  have hcl:(ctlR (mkS x) (lpR (mkS x)).1 (esR (mkS x)).2).length ≤ 4095:=by unfold ctlR; rw [List.length_map]; exact hel
  have q3:=fun O => zss O (ctlR (mkS x) (lpR (mkS x)).1 (esR (mkS x)).2) (by omega) fun r hr => by
   obtain ⟨E,_,rfl⟩:=List.mem_map.1 hr
   exact Nat.le_trans (List.length_filter_le _ _) hob.sm.ct
  rw [decide_eq_true hf] at h1
  clear hgo hel hfit hob hf hn h
  generalize ctlR (mkS x) (lpR (mkS x)).1 (esR (mkS x)).2 = rows at *
  generalize (zfL (mkS x)).isSome = T at *
  generalize (witR (mkS x)).getD zWit = W at *
  generalize (esR (mkS x)).1 = o at *
  generalize mkS x = X at *
  obtain ⟨⟨al,st,mk,es⟩,⟨al',st',mk',es'⟩,ob,ct⟩:=X
  obtain ⟨oal,ost,omk,oes⟩:=o
  obtain ⟨w1,w2,w3⟩:=W
  obtain ⟨xst,xps,xpm,xpt,xss,xsm,xt2,xob,xct⟩:=x
  cases T with
  | true =>
   have himt:=himt rfl
   clear himf
   refine zaU [] Tk Tryz.func8 rfl Tryz.call8 Tryz.ntmps8 (Nat.le_of_ble_eq_true rfl) fun E hE => ?_
   refine zae Tk Tryz.func8 ?_
   refine zbf Tk Tryz.func8 hE (hk _) rfl rfl rfl rfl rfl rfl ?_
   refine gkF Tk Tryz.func8 rfl ?_
   refine zaf Tk Tryz.func8 (h1 _) rfl rfl rfl rfl rfl ?_
   refine gcF Tk Tryz.func8 rfl ?_
   refine zaf Tk Tryz.func8 (k1 _) rfl rfl rfl rfl rfl ?_
   refine zbf Tk Tryz.func8 hE (himt _) rfl rfl rfl rfl rfl rfl ?_
   refine zaf Tk Tryz.func8 (k3 _) rfl rfl rfl rfl rfl ?_
   repeat (first | refine gcT Tk Tryz.func8 rfl ?_ | refine gkT Tk Tryz.func8 rfl ?_ | refine skT Tk ?_ | refine gcF Tk Tryz.func8 rfl ?_ | refine gkF Tk Tryz.func8 rfl ?_ | refine skF Tk ?_)
   refine zal Tk (r:=bb true) rfl rfl rfl trivial rfl rfl ?_
   rfl
  | false =>
   have himf:=himf rfl
   clear himt
   refine zaU [] Tk Tryz.func8 rfl Tryz.call8 Tryz.ntmps8 (Nat.le_of_ble_eq_true rfl) fun E hE => ?_
   refine zae Tk Tryz.func8 ?_
   refine zbf Tk Tryz.func8 hE (hk _) rfl rfl rfl rfl rfl rfl ?_
   refine gkF Tk Tryz.func8 rfl ?_
   refine zaf Tk Tryz.func8 (h1 _) rfl rfl rfl rfl rfl ?_
   refine gcF Tk Tryz.func8 rfl ?_
   refine zaf Tk Tryz.func8 (k1 _) rfl rfl rfl rfl rfl ?_
   refine zbf Tk Tryz.func8 hE (himf _) rfl rfl rfl rfl rfl rfl ?_
   refine zaf Tk Tryz.func8 (k3 _) rfl rfl rfl rfl rfl ?_
   refine gcF Tk Tryz.func8 rfl ?_
   refine zaf Tk Tryz.func8 (k4 _) rfl rfl rfl rfl rfl ?_
   refine gkT Tk Tryz.func8 rfl ?_
   refine zaf Tk Tryz.func8 (q2 _) rfl rfl rfl rfl rfl ?_
   refine gkT Tk Tryz.func8 rfl ?_
   refine zaf Tk Tryz.func8 (q3 _) rfl rfl rfl rfl rfl ?_
   refine zal Tk (r:=bb true) rfl rfl rfl trivial rfl rfl ?_
   rfl
 ·rw [decide_eq_false hf] at h1
  clear hf h
  obtain ⟨xst,xps,xpm,xpt,xss,xsm,xt2,xob,xct⟩:=x
  refine zaU [] Tk Tryz.func8 rfl Tryz.call8 Tryz.ntmps8 (Nat.le_of_ble_eq_true rfl) fun E hE => ?_
  refine zae Tk Tryz.func8 ?_
  refine zbf Tk Tryz.func8 hE (hk _) rfl rfl rfl rfl rfl rfl ?_
  refine gkF Tk Tryz.func8 rfl ?_
  refine zaf Tk Tryz.func8 (h1 _) rfl rfl rfl rfl rfl ?_
  refine gcT Tk Tryz.func8 rfl ?_
  refine zbf Tk Tryz.func8 hE (hk _) rfl rfl rfl rfl rfl rfl ?_
  refine zal Tk (r:=bb true) rfl rfl rfl trivial rfl rfl ?_
  rfl
end Go.AI


namespace Go.Proofs.YtlcekmemdnjjbaaGreatDoor
set_option maxRecDepth 100000
theorem zbz:laidOutB Tryz.prog = true:=by kernel_rfl
theorem zcI:mapsRowed Tryz.prog = true:=by kernel_rfl
theorem zcB:(Rows.observabilityImplementsRow.inPlace == Tryz.prog.inPlace 8) = true:=by kernel_rfl
theorem zcA:(Rows.observabilityImplementsRow.unfollowed == Tryz.prog.unfollowed 8) = true:=by kernel_rfl
theorem zcz:(Rows.observabilityImplementsRow.recurses == Tryz.prog.recurses 8) = true:=by kernel_rfl
theorem zcy:(Rows.observabilityImplementsRow.named == Tryz.prog.varsNamed 8) = true:=by kernel_rfl
theorem zb7:joinedFacts Tryz.prog 8 Tryz.f8 Rows.observabilityImplementsSpec Rows.observabilityImplementsRow = true:=by
 simp only [joinedFacts,Bool.and_eq_true]
 repeat' refine And.intro ?_ ?_
 ·kernel_rfl
 ·exact zbz
 ·exact zcI
 ·kernel_rfl
 ·kernel_rfl
 ·kernel_rfl
 ·kernel_rfl
 ·kernel_rfl
 ·kernel_rfl
 ·exact zcB
 ·exact zcA
 ·exact zcz
 ·exact zcy
 ·kernel_rfl
 ·kernel_rfl
 ·kernel_rfl
 ·kernel_rfl
 ·kernel_rfl
 ·kernel_rfl
 ·kernel_rfl
 ·kernel_rfl
 ·kernel_rfl
 ·kernel_rfl
 ·kernel_rfl
 ·kernel_rfl
 ·kernel_rfl
 ·kernel_rfl
 ·kernel_rfl
 ·kernel_rfl
 ·kernel_rfl
 ·kernel_rfl
 ·kernel_rfl
theorem zcn : Tryz.prog.mainIs = some (true, "5041c38c3c15c3199033450f7632fe41f4871cb850793ec5542bbc9f8af1fc7c".toList) := by kernel_rfl
theorem zcc:false = Tryz.prog.looks []:=by kernel_rfl
theorem zco:false = Rows.observabilityImplementsRow.goesBy Tryz.prog:=by kernel_rfl
end Go.Proofs.YtlcekmemdnjjbaaGreatDoor
