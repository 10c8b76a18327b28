/-
  The kind of an instruction: input, if; all of them.
-/
import Derived.Test.YtcikenlflcofbaaGreatDoorVfKi
import Derived.Test.YtcikenlflcofbaaGreatDoorKVfH
set_option maxRecDepth 100000
set_option maxHeartbeats 8000000
namespace Go.Proofs.YtcikenlflcofbaaGreatDoor
open Go.RowKit
theorem zhD {w:World} {vb:Nat} {p:Pg} {l:Pl} {sv:Value} {v:Vs} (h:VfW w vb p l sv v) (a:Int) (A:Option Addr) (c:Nat) (h0:0≤a) (h1:a<p.ins.length) :
    Calls Tryz.prog 97 #[.pointer (some ⟨vb,0,none⟩),.agg #[.int .i64 30,.int .i64 a],.slice A 0 c] w (RetKind (kndP p ⟨30,a⟩ []) w):=by
  have hlt:=h.lt;obtain ⟨p0,p1,p2,p4,p5,p6⟩:=h.seven;obtain ⟨k,rfl⟩:∃ k:Nat,a=(k:Int):=⟨a.toNat,by omega⟩;have hk:k<p.ins.length:=by omega
  obtain ⟨b,o,s,hA,hSb,hx,-,-,y0,y1⟩:=sgAt h.pg.r1 hk;have hbl:b<w.heap.size:=Nat.lt_trans hSb hlt
  have HE:=Hi (show kndP p ⟨30,(k:Int)⟩ []=some s.kind by
    unfold kndP;simp [hx])
  have HB:=Hi (zad (zaa w (Obj.cells #[.int .i64 30,.int .i64 (k:Int)] 76)));rw [hA] at p0;have hm:=h.pg.m1;have hc:=h.pg.h1;unfold maxLen at hm;clear hA hx h;go_enter Tryz.func97,Tryz.ntmps97;go_upto_region 4 with fail
  go_region
  go_wp2;refine wp_loop_rounds 1 ?_
  rw [rounds_succ];go_wp2
  go_ret2
  exact RetKind.some_ HE.out HB.out
theorem zlr {w:World} {vb:Nat} {p:Pg} {l:Pl} {sv:Value} {v:Vs} (_h:VfW w vb p l sv v) (a:Int) (A:Option Addr) (c:Nat) (args:List Int) (hl:args.length=3) (_ha:3≤c) (_hc:c≤maxLen) (hr:Rw IaC 1 w (Old w) A 3 args) :
    Calls Tryz.prog 97 #[.pointer (some ⟨vb,0,none⟩),.agg #[.int .i64 16,.int .i64 a],.slice A 3 c] w (RetKind (kndP p ⟨16,a⟩ args) w):=by
  obtain ⟨k0,k1,k2,rfl⟩:∃ x y z,args=[x,y,z]:=by
    match args,hl with
    | [x,y,z],_=>exact ⟨x,y,z,rfl⟩
  obtain ⟨b,o,x,hA,hSb,hx,y0⟩:=iaAt hr (show 0<3 by decide);obtain ⟨b1,o1,x1,hA1,-,hx1,y1⟩:=iaAt hr (show 1<3 by decide);obtain ⟨b2,o2,x2,hA2,-,hx2,y2⟩:=iaAt hr (show 2<3 by decide);subst hA;injection hA1 with hA1
  injection hA1 with q1 q2
  subst q1;subst q2;injection hA2 with hA2
  injection hA2 with q1 q2
  subst q1;subst q2
  cases hx
  cases hx1
  cases hx2
  have HB:=Hi (zad (zaa w (Obj.cells #[.int .i64 16,.int .i64 a] 76)));have hbl:b<w.heap.size:=hSb;rw [Nat.add_zero] at y0;unfold maxLen at _hc;clear hr hl
  rcases (show (k0=1∧k1=k2)∨(k0=1∧k1≠k2)∨k0≠1 by omega) with ⟨rfl,rfl⟩ | ⟨rfl,hk⟩ | hk
  · have HE:=Hi (show kndP p ⟨16,a⟩ [1,k1,k1]=some k1 by unfold kndP;simp)
    have hd:(k1 == k1)=true:=by simp
    go_enter Tryz.func97,Tryz.ntmps97
    go_upto_region 6 with fail
    go_region
    go_wp2
    go_ret2
    exact RetKind.some_ HE.out HB.out
  · have HE:=Hi (show kndP p ⟨16,a⟩ [1,k1,k2]=none by unfold kndP;simp [hk])
    have hd:(k1 == k2)=false:=by simpa using hk
    clear hk
    go_enter Tryz.func97,Tryz.ntmps97
    go_upto_region 6 with fail
    go_region
    go_wp2
    go_ret2
    exact RetKind.none_ _ HE.out HB.out
  · have HE:=Hi (show kndP p ⟨16,a⟩ [k0,k1,k2]=none by unfold kndP;simp [hk])
    have hd:(k0 == 1)=false:=by simpa using hk
    clear hk
    go_enter Tryz.func97,Tryz.ntmps97
    go_upto_region 6 with fail
    go_region
    go_wp2
    go_ret2
    exact RetKind.none_ _ HE.out HB.out
theorem zj1 {w:World} {vb:Nat} {p:Pg} {l:Pl} {sv:Value} {v:Vs} (h:VfW w vb p l sv v) (op a:Int) (A:Option Addr) (n c:Nat) (args:List Int) (ha:n≤c) (hc:c≤maxLen) (hr:Rw IaC 1 w (Old w) A n args)
    (hn:opnP op=n) (h30:op=30→0≤a∧a<p.ins.length) :
    Calls Tryz.prog 97 #[.pointer (some ⟨vb,0,none⟩),.agg #[.int .i64 op,.int .i64 a],.slice A n c] w (RetKind (kndP p ⟨op,a⟩ args) w):=by
  have hl:=hr.1
  by_cases e30:op=30
  · subst e30
    have:opnP 30=0:=by decide
    obtain rfl:n=0:=by omega
    obtain rfl:args=[]:=List.eq_nil_of_length_eq_zero hl
    exact zhD h a A c (h30 rfl).1 (h30 rfl).2
  by_cases e16:op=16
  · subst e16
    have:opnP 16=3:=by decide
    obtain rfl:n=3:=by omega
    exact zlr h a A c args hl ha hc hr
  subst hl;exact zhE h op a A c args ha hc hr (by omega) e16 e30
end Go.Proofs.YtcikenlflcofbaaGreatDoor
namespace Go.Proofs.YtcikenlflcofbaaGreatDoor
open Go.RowKit
theorem zlz {w:World} {base n c:Nat} {e:TypeId} {A:Option Addr} {xs:List Int} (h:w.ownsRow base e 1 (.slice A n c) n (xs.map (Value.int .i64))) (hn:xs.length=n) {r:Nat} (hr:r≤n) :
    Rw IaC 1 w (Old w) (if c=r then A else Option.map (fun x=>x.add r) A) (n-r) (xs.drop r):=by
  refine ⟨by rw [List.length_drop,hn],fun hpos => ?_⟩
  rcases h.2 with ⟨h1,h2⟩ | ⟨g,cap,cur,h1,h2,h3,h4,h5,h6,h7⟩
  · omega
  · injection h1 with q1 q2 q3
    subst q1
    subst q3
    rw [if_neg (by omega)]
    refine ⟨g,r,by rw [Option.map_some,Addr.add_mid,Nat.zero_add],(Array.getElem?_eq_some_iff.1 h3).1,fun k x hx=>⟨[.int .i64 x],rfl,rfl,fun j u hu => ?_⟩⟩
    rw [List.getElem?_drop] at hx
    have hc:=h.cells (g:=g) rfl (r+k) (.int .i64 x) (by rw [List.getElem?_map,hx];rfl)
    cases j with
    | zero =>
      simp at hu
      subst hu
      rw [Addr.add_mid,Nat.zero_add] at hc
      simpa using hc
    | succ j=>simp at hu
theorem zkd {w:World} {base n c:Nat} {e:TypeId} {A:Option Addr} {xs:List Value} (h:w.ownsRow base e 1 (.slice A n c) n xs) {r:Nat} (hr:r≤n):w.ownsRow base e 1 (.slice A r c) r (xs.take r):=by
  refine ⟨by rw [List.length_take];have:=h.1;omega,?_⟩
  rcases h.2 with ⟨h1,h2⟩ | ⟨g,cap,cur,h1,h2,h3,h4,h5,h6,h7⟩
  · injection h1 with q1 q2 q3
    subst q1
    subst q3
    obtain rfl:r=0:=by omega
    exact .inl ⟨rfl,rfl⟩
  · injection h1 with q1 q2 q3
    subst q1
    subst q3
    refine .inr ⟨g,c,cur,rfl,h2,h3,by omega,h5,h6,?_⟩
    rw [← h7,List.take_take]
    congr 1
    omega
theorem VfW.setS {w:World} {vb:Nat} {p:Pg} {l:Pl} {sv:Value} {v:Vs} (h:VfW w vb p l sv v) {sv':Value} {st':List Int} (ho:w.ownsRow (vb+1) 3 1 sv' st'.length (st'.map (Value.int .i64))) :
    VfW (w.setCell ⟨vb,4,none⟩ sv') vb p l sv' ⟨st',v.stored,v.used⟩:=
  ⟨by have:=heap_setCell_same w vb 4 _ _ sv' h.heap;rw [this];rfl,zam ho (fun g e hg=>(zaf w vb 4 _).block g hg (fun q=>by injection q;have:=(ho.lt g e).1;omega)),h.pg.mono (fun _ q=>q) (zah (zaf w vb 4 _) fun b hb=>⟨Nat.lt_trans hb h.lt,fun q=>by injection q;omega⟩)⟩
theorem VfW.setP {w:World} {vb:Nat} {p:Pg} {l:Pl} {sv:Value} {v:Vs} (h:VfW w vb p l sv v):VfW (w.setCell ⟨vb,5,none⟩ (.int .i64 ((v.stored:Int)+1))) vb p l sv ⟨v.st,v.stored+1,v.used⟩:=
  ⟨by have:=heap_setCell_same w vb 5 _ _ (.int .i64 ((v.stored:Int)+1)) h.heap;rw [this];rfl,zam h.st (fun g e hg=>(zaf w vb 5 _).block g hg (fun q=>by injection q;have:=(h.st.lt g e).1;omega)),h.pg.mono (fun _ q=>q) (zah (zaf w vb 5 _) fun b hb=>⟨Nat.lt_trans hb h.lt,fun q=>by injection q;omega⟩)⟩
theorem VfW.setU {w:World} {vb:Nat} {p:Pg} {l:Pl} {sv:Value} {v:Vs} (h:VfW w vb p l sv v):VfW (w.setCell ⟨vb,6,none⟩ (.int .i64 ((v.used:Int)+1))) vb p l sv ⟨v.st,v.stored,v.used+1⟩:=
  ⟨by have:=heap_setCell_same w vb 6 _ _ (.int .i64 ((v.used:Int)+1)) h.heap;rw [this];rfl,zam h.st (fun g e hg=>(zaf w vb 6 _).block g hg (fun q=>by injection q;have:=(h.st.lt g e).1;omega)),h.pg.mono (fun _ q=>q) (zah (zaf w vb 6 _) fun b hb=>⟨Nat.lt_trans hb h.lt,fun q=>by injection q;omega⟩)⟩
theorem infoI:(Tryz.prog.info? 3).map (fun i=>(i.zero,i.size,i.bytes))=some (some (.int .i64 0),1,8):=by kernel_rfl
theorem VfW.push {w w6:World} {vb:Nat} {p:Pg} {l:Pl} {sv v6:Value} {v:Vs} (h:VfW w vb p l sv v) (o:Obj) (k:Int) (hg:(w.alloc o).grownBy w6 sv.ownBlock) (ho:w6.ownsRow (vb+1) 3 1 v6 (v.st.length+1) (v.st.map (Value.int .i64)++[.int .i64 k])) :
    VfW (w6.setCell ⟨vb,4,none⟩ v6) vb p l v6 ⟨v.st++[k],v.stored,v.used⟩∧w6.heap[vb]? = w.heap[vb]?:=by
  have hlt:=h.lt;have hne:some vb≠sv.ownBlock:=fun q=>by have:=(h.st.lt vb q.symm).1;omega
  have hh:w6.heap[vb]? = w.heap[vb]? := (hg.block vb (by rw [World.size_alloc];omega) hne).trans (Lib.alloc_old w o vb hlt);have hs:=hg.size;rw [World.size_alloc] at hs;have g:=zaf w6 vb 4 v6;refine ⟨⟨by have:=heap_setCell_same w6 vb 4 _ _ v6 (hh.trans h.heap);rw [this];rfl,?_,?_⟩,hh⟩
  · have h2:=zam ho (w':=w6.setCell ⟨vb,4,none⟩ v6) (fun g' e hgs=>g.block g' hgs (fun q=>by injection q;have:=(ho.lt g' e).1;omega))
    simpa using h2
  · refine h.pg.mono (fun _ q=>q) (fun b hb => ?_)
    have hbs:b<w.heap.size:=Nat.lt_trans hb hlt
    exact (g.block b (by omega) (fun q=>by injection q;omega)).trans ((hg.block b (by rw [World.size_alloc];omega) (fun q=>by have:=(h.st.lt b q.symm).1;omega)).trans (Lib.alloc_old w o b hbs))
theorem zbB {w w':World} {vb:Nat} (h:Below vb w w') (hv:vb≤w.heap.size) (i:Nat) (v:Value):Below vb w (w'.setCell ⟨vb,i,none⟩ v):=
  have g:=zaf w' vb i v
  ⟨g.os.trans h.os,g.tape.trans h.tape,g.output.trans h.output,Nat.le_trans h.size g.size,fun b hb=>(g.block b (Nat.lt_of_lt_of_le (Nat.lt_of_lt_of_le hb hv) h.size) (fun q=>by injection q;omega)).trans (h.block b hb)⟩
def RetStep (vb:Nat) (p:Pg) (l:Pl) (r:Except Int Vs) (w:World) (e:Ending) (w':World):Prop:=
  ∃ er:Int,e = .returned (.int .i64 er)∧Below vb w w'∧((er≠0∧r = .error er)∨(er=0∧∃ v' sv',r = .ok v'∧VfW w' vb p l sv' v'))
theorem RetStep.err {vb:Nat} {p:Pg} {l:Pl} {r:Except Int Vs} {w w':World} {er:Int} (h:r = .error er) (he:er≠0) (hb:Below vb w w'):RetStep vb p l r w (.returned (.int .i64 er)) w':=⟨er,rfl,hb,.inl ⟨he,h⟩⟩
theorem zkA {w:World} {vb:Nat} {p:Pg} {l:Pl} {sv:Value} {v:Vs} (h:VfW w vb p l sv v) (op a:Int) (hs24:v.st.length≤24) (hst:v.stored≤100000) (hus:v.used≤100000) :
    Calls Tryz.prog 83 #[.pointer (some ⟨vb,0,none⟩),.agg #[.int .i64 op,.int .i64 a]] w (RetStep vb p l (zby p v ⟨op,a⟩) w):=by
  have hlt:=h.lt;have hbx:=zaa w (Obj.cells #[.int .i64 op,.int .i64 a] 76);have HO:=Hi (fun W=>zly op W);obtain ⟨r,hr⟩:∃ r,zby p v ⟨op,a⟩=r:=⟨_,rfl⟩;have hr0:=hr;unfold zby at hr;dsimp only at hr;rw [hr0];have HR:=Hi hr;obtain ⟨on,hon⟩:∃ on,opnP op=on:=⟨_,rfl⟩;have HON:=Hi hon;have HB:=Hi hbx;have HW:=Hi (h.below hbx);clear hr hr0 hon hbx;rw [HON.out] at HO
  by_cases h0:on<0
  · have HE:=Hi (show r = .error 15 by rw [← HR.out,HON.out,if_pos h0])
    go_enter Tryz.func83,Tryz.ntmps83
    go_wp2_with fail
    refine (HO.out _).mono ?_
    rintro e w1 ⟨rfl,rfl⟩
    go_wp2
    go_ret
    exact RetStep.err HE.out (by decide) (HB.out.mono (Nat.le_of_lt hlt))
  have hon3:on≤3:=by
    rw [← HON.out];unfold opnP
    split
    · omega
    split
    · omega
    split
    · omega
    split
    · omega
    · omega
  have hh0:0≤on:=by omega
  have HA:=Hi (zle HW.out op a (by rw [HON.out];omega));obtain ⟨b,hb⟩:∃ b,argP p v.stored v.used ⟨op,a⟩=b:=⟨_,rfl⟩;have HBB:=Hi hb;rw [hb] at HA;clear hb
  cases b with
  | false =>
    have HE:=Hi (show r = .error 9 by rw [← HR.out,HON.out,if_neg h0,if_pos HBB.out]);go_enter Tryz.func83,Tryz.ntmps83;go_wp2_with fail
    refine (HO.out _).mono ?_
    rintro e w1 ⟨rfl,rfl⟩
    go_wp2_with fail
    refine HA.out.mono ?_
    rintro e w2 ⟨rfl,hb2⟩
    go_wp2;go_ret
    exact RetStep.err HE.out (by decide) ((HB.out.trans (hb2.mono (by rw [World.size_alloc];omega))).mono (Nat.le_of_lt hlt))
  | true =>
  go_enter Tryz.func83,Tryz.ntmps83;go_wp2_with fail
  refine (HO.out _).mono ?_
  rintro e w1 ⟨rfl,rfl⟩
  go_wp2_with fail
  refine HA.out.mono ?_
  rintro e w2 ⟨rfl,hb2⟩
  have hw2:=HW.out.below hb2;have HBQ:=Hi (zac HB.out hb2 HB.out.size);have hbh:w2.heap[w.heap.size]? = some (.cells #[.int .i64 op,.int .i64 a] 76 (0,0)):=(hb2.block _ (by rw [World.size_alloc];omega)).trans (heap_alloc_new w _);have c0:w2.cell? ⟨w.heap.size,0,none⟩=some (.int .i64 op):=by simp [World.cell?,hbh]
  have c1:w2.cell? ⟨w.heap.size,1,none⟩=some (.int .i64 a):=by simp [World.cell?,hbh]
  have hs2:=HBQ.out.size;have HBH:=Hi hbh;clear hb2 HA HW hbh;obtain ⟨A,cp,hsv,hcl,hcm⟩:=zag hw2.st;subst hsv;obtain ⟨p0,p1,p2,p4,p5,p6⟩:=hw2.seven;have f4:=hw2.free 4;have f5:=hw2.free 5;have f6:=hw2.free 6;have hlt2:=hw2.lt;have HW2:=Hi hw2;clear hw2
  by_cases hlen:(v.st.length:Int)<on
  · have HE:=Hi (show r = .error 11 by rw [← HR.out,HON.out,if_neg (by omega),if_neg (by rw [HBB.out];decide),if_pos (by omega)])
    go_wp2
    go_ret
    exact RetStep.err HE.out (by decide) (HBQ.out.mono (Nat.le_of_lt hlt))
  unfold maxLen at hcm;obtain ⟨rs,hrs⟩:∃ rs:Nat,(v.st.length:Int)-on=rs:=⟨v.st.length-on.toNat,by omega⟩;have HRS:=Hi hrs;go_upto_region 9 with fail
  clear hrs;have hrl:(rs:Int)≤(v.st.length:Int):=by have:=HRS.out;omega
  have hrn:rs≤v.st.length:=by omega
  have hdr:=zlz HW2.out.drew.st rfl hrn
  have HKN:=Hi (zj1 HW2.out.drew op a _ (v.st.length-rs) (cp-rs) (v.st.drop rs) (by omega) (by unfold maxLen;omega) hdr (by rw [HON.out];have:=HRS.out;omega) (fun q=>by
    subst q;have:=HBB.out;unfold argP at this;simpa using this))
  clear hdr
  go_region_law ((go_simp;go_at_call 97;refine HKN.out.mono ?_;rintro e3 w3 ⟨k3,b3,rfl,hb3,hbe,hk3⟩))
  all_goals
    generalize (if cp=rs then A else Option.map (fun x=>x.add rs) A)=A9 at *
    have hrest:zbp v ⟨op,a⟩=rs:=by
      unfold zbp;dsimp only;rw [HON.out];have:=HRS.out;omega
    have HRR:=Hi (show (match kndP p ⟨op,a⟩ (v.st.drop rs) with
        | none=>Except.error 10
        | some k =>
          if op=32 then (if 0<rs then Except.error 20 else Except.ok ⟨v.st.take rs,v.stored+1,v.used⟩)
          else if 24<rs+1 then Except.error 17
          else Except.ok ⟨v.st.take rs++[k],v.stored,if zaG op then v.used+1 else v.used⟩)=r by
      have:=HR.out;rw [HON.out,if_neg (by omega),if_neg (by rw [HBB.out];decide),if_neg (by omega),hrest] at this;exact this)
    clear HR hrest;generalize hkn:kndP p ⟨op,a⟩ (v.st.drop rs)=kn at *;have hw3:=HW2.out.drew.below hb3;have hs3:=hb3.size;have hbh3:w3.heap[w.heap.size]? = some (.cells #[.int .i64 op,.int .i64 a] 76 (0,0)):=(hb3.block _ (show w.heap.size<w2.heap.size from (Array.getElem?_eq_some_iff.1 HBH.out).1)).trans HBH.out;have d0:w3.cell? ⟨w.heap.size,0,none⟩=some (.int .i64 op):=by simp [World.cell?,hbh3]
    have d1:w3.cell? ⟨w.heap.size,1,none⟩=some (.int .i64 a):=by simp [World.cell?,hbh3]
    have hbl3:w.heap.size<w3.heap.size:=(Array.getElem?_eq_some_iff.1 hbh3).1;have HB3:=Hi (zac HBQ.out (zad (Below.refl _ _)) HBQ.out.size);have HB4:=Hi (show Below w.heap.size w w3 from zac HB3.out hb3 HB3.out.size);clear HKN hkn c0 c1 HBH p0 p1 p2 p4 p5 p6 f4 f5 f6 hbh3 HB3
    cases kn with
    | none =>
      obtain rfl:b3=false:=hbe;have HE:=Hi (show r = .error 10 from HRR.out.symm);clear HRR hk3 hb3;go_wp2;go_ret
      exact RetStep.err HE.out (by decide) (HB4.out.mono (Nat.le_of_lt hlt))
    | some k =>
    obtain rfl:b3=true:=hbe;obtain rfl:k3=k:=hk3 k rfl;clear hk3 hb3;obtain ⟨p0,p1,p2,p4,p5,p6⟩:=hw3.seven;have f4:=hw3.free 4;have f5:=hw3.free 5;have f6:=hw3.free 6;have hlt3:=hw3.lt;have HW3:=Hi hw3;clear hw3 HW2
    have hot:w3.ownsRow (vb+1) 3 1 (.slice A rs cp) (v.st.take rs).length ((v.st.take rs).map (Value.int .i64)):=by
      have:=zkd HW3.out.st hrn;rw [← List.map_take] at this;rw [List.length_take,Nat.min_eq_left hrn];exact this
    have HOT:=Hi hot;clear hot;have hvb:vb≤w.heap.size:=Nat.le_of_lt hlt;have HBV:=Hi (HB4.out.mono hvb)
    by_cases h32:op=32
    · subst h32
      have hon1:on=1:=HON.out.symm
      subst hon1
      by_cases hr0:rs=0
      · subst hr0
        have HE:=Hi (show r = .ok ⟨v.st.take 0,v.stored+1,v.used⟩ from HRR.out.symm)
        clear HRR
        go_wp2
        go_ret
        exact ⟨0,rfl,zbB (zbB HBV.out hvb _ _) hvb _ _,.inr ⟨rfl,_,_,HE.out,(HW3.out.setS HOT.out).setP⟩⟩
      have HE:=Hi (show r = .error 20 by rw [← HRR.out];simp;omega)
      have hrp:(0:Int)<(rs:Int):=by omega
      clear HRR hr0
      go_wp2
      go_ret
      exact RetStep.err HE.out (by decide) (zbB (zbB HBV.out hvb _ _) hvb _ _)
    have HKK:=Hi (fun W=>zeW op W);have hb32:(op == 32)=false:=by simpa using h32
    have HR2:=Hi (show (if 24<rs+1 then Except.error 17 else Except.ok ⟨v.st.take rs++[k3],v.stored,if zaG op then v.used+1 else v.used⟩)=r by rw [← HRR.out];simp [h32]);clear HRR h32;go_wp2_with fail
    refine (HKK.out _).mono ?_
    rintro e4 w4 ⟨rfl,rfl⟩
    obtain ⟨kb,hkb⟩:∃ kb,zaG op=kb:=⟨_,rfl⟩;rw [hkb];have hR2:=HR2.out;rw [hkb] at hR2;have HR3:=Hi hR2;clear HR2 hR2 hkb HKK;have hnr:(v.st.take rs).length=rs:=by rw [List.length_take,Nat.min_eq_left hrn]
    have HNR:=Hi hnr;clear hnr
    have hkb2:(kb=false∧∃ U,(if kb then v.used+1 else v.used)=U∧U=v.used)∨(kb=true∧∃ U,(if kb then v.used+1 else v.used)=U∧U=v.used+1):=by
      cases kb
      · exact .inl ⟨rfl,_,rfl,rfl⟩
      · exact .inr ⟨rfl,_,rfl,rfl⟩
    rcases hkb2 with ⟨rfl,U,hU,hU2⟩ | ⟨rfl,U,hU,hU2⟩
    case' inl =>
      have hR4:=HR3.out;rw [hU] at hR4;go_upto_region 20 with fail
      have hw4:=HW3.out.setS HOT.out;rw [← hU2] at hw4;have hb4:=zbB HBV.out hvb 4 (.slice A rs cp);generalize w3.setCell ⟨vb,4,none⟩ (.slice A rs cp)=W4 at *
    case' inr =>
      have hR4:=HR3.out;rw [hU] at hR4;go_upto_region 20 with fail
      have hw4:=(HW3.out.setS HOT.out).setU;dsimp only at hw4;rw [← hU2] at hw4;have hb4:=zbB (zbB HBV.out hvb 4 (.slice A rs cp)) hvb 6 (.int .i64 ((v.used:Int)+1));generalize (w3.setCell ⟨vb,4,none⟩ (.slice A rs cp)).setCell ⟨vb,6,none⟩ (.int .i64 ((v.used:Int)+1))=W4 at *
    all_goals
      clear p0 p1 p2 p4 p5 p6 f4 f5 f6 d0 d1 hU hU2 HR3;have HRX:=Hi hR4;have HW4:=Hi hw4;have HB5:=Hi hb4;have how:=hw4.st;dsimp only at how;rw [HNR.out] at how;have HOW:=Hi (how.alloc (Obj.cells #[.int .i64 k3] 3));have HSR:=Hi (zaL W4 [.int .i64 k3] 3 1 1 rfl);obtain ⟨ti,hti,hzi⟩:=Option.map_eq_some_iff.1 infoI;obtain ⟨hz0,hz1,hz2⟩:ti.zero=some (.int .i64 0)∧ti.size=1∧ti.bytes=8:=by simpa using hzi
      have HTI:=Hi (And.intro hti (And.intro hz0 (And.intro hz1 hz2)));have hlt4:=hw4.lt;obtain ⟨-,-,-,q4,-,-⟩:=hw4.seven;have g4:=hw4.free 4;have HM1:=Hi (show rs+1≤maxLen by unfold maxLen;omega);have HM2:=Hi (show (rs+1)*8≤140737488355328 by omega);have HBS:=Hi (show vb+1≤(W4.alloc (Obj.cells #[.int .i64 k3] 3)).heap.size by rw [World.size_alloc];omega);clear hw4 hb4 how hti hzi hz0 hz1 hz2 hR4;go_upto_region 21 with (at_builtin;refine zaj (o:=⟨some 84,_,_,_,_,_⟩) (w:=W4.alloc (Obj.cells #[.int .i64 k3] 3)) _ _ 38 rfl rfl Tryz.underlying38 HTI.out.1 HTI.out.2.1 HTI.out.2.2.1 HTI.out.2.2.2 rfl (by decide) rfl HOW.out rfl HSR.out (by intro u hu;rw [List.mem_singleton.1 hu];rfl) HM1.out HM2.out HBS.out ?_;intro v6 w6 hown6 hg6 hv6;have hown7:w6.ownsRow (vb+1) 3 1 v6 ((v.st.take rs).length+1) ((v.st.take rs).map (Value.int .i64)++[.int .i64 k3]):=(by rw [HNR.out];exact hown6);have HP:=Hi (HW4.out.push (Obj.cells #[.int .i64 k3] 3) k3 hg6 hown7);have HG6:=Hi hg6;have hh6:=HP.out.2.trans HW4.out.heap;have c6:w6.cell? ⟨vb,4,none⟩=some (.slice A rs cp):=(by simp [World.cell?,hh6]);have f6:w6.frozen? ⟨vb,4,none⟩=false:=Lib.frozen_of_heap hh6 4;have h6l:=(Array.getElem?_eq_some_iff.1 hh6).1;obtain ⟨A6,k6,hv6e,-,-⟩:=zag hown6;clear hg6 hh6 hv6 hown6 hown7;subst hv6e)
      have hb6:=((HB5.out.alloc (by omega) (Obj.cells #[.int .i64 k3] 3)).grown HG6.out (by rw [World.size_alloc];omega) (fun j hj=>by have:=(HOW.out.lt j hj).1;omega));have HB6:=Hi (zbB hb6 hvb 4 (.slice A6 (rs+1) k6));clear hb6
      by_cases hq:rs+1≤24
      · have HE:=Hi (show r = .ok ⟨v.st.take rs++[k3],v.stored,U⟩ by rw [← HRX.out,if_neg (by omega)])
        have hq1:decide ((24:Int)<((rs+1:Nat):Int))=false:=by simp;omega
        have hq2:((rs:Int)+1)≤24:=by omega
        clear HRX
        go_wp2
        go_ret
        exact ⟨0,rfl,HB6.out,.inr ⟨rfl,_,_,HE.out,HP.out.1⟩⟩
      · have HE:=Hi (show r = .error 17 by rw [← HRX.out,if_pos (by omega)])
        have hq2:(24:Int)<((rs:Int)+1):=by omega
        clear HRX
        go_wp2
        go_ret
        exact RetStep.err HE.out (by decide) HB6.out
end Go.Proofs.YtcikenlflcofbaaGreatDoor
namespace Go.Proofs.YtcikenlflcofbaaGreatDoor
open Go.RowKit
def RetVer (r:Int × Int × Int) (w:World) (e:Ending) (w':World):Prop:=e = .returned (.tuple #[.int .i64 r.1,.int .i64 r.2.1,.int .i64 r.2.2])∧Below w.heap.size w w'
theorem RetVer.mk {r:Int × Int × Int} {w w':World} {a b c:Int} (h:(a,b,c)=r) (hb:Below w.heap.size w w'):RetVer r w (.returned (.tuple #[.int .i64 a,.int .i64 b,.int .i64 c])) w':=by subst h;exact ⟨rfl,hb⟩
def VeR (w:World) (vb:Nat) (p:Pg) (l:Pl) (r:Int × Int × Int) (g:Nat) (v3 v21:Value) (wr:World):Prop:=
  ∃ (k:Nat) (v:Vs) (sv:Value) (most:Int),k≤p.code.length∧p.code.length-k<g∧v21 = .int .i64 (k:Int)∧v3 = .int .i64 most∧runG p (p.code.drop k) k v most=r∧VfW wr vb p l sv v ∧
    v.st.length≤24∧v.stored≤k∧v.used≤k∧0≤most∧most≤24∧Below vb w wr
theorem zh7 {p:Pg} {v v':Vs} {c:Ins} (h:zby p v c = .ok v'):v'.st.length≤24∨v'.st.length≤v.st.length:=by
  unfold zby at h
  split at h
  · cases h
  split at h
  · cases h
  split at h
  · cases h
  split at h
  · cases h
  split at h
  · split at h
    · cases h
    · cases h
      right
      simp only [List.length_take]
      omega
  · split at h
    · cases h
    · cases h
      left
      simp only [List.length_append,List.length_take,List.length_singleton]
      omega
theorem zh6 {p:Pg} {v v':Vs} {c:Ins} (h:zby p v c = .ok v'):v'.stored≤v.stored+1∧v'.used≤v.used+1:=by
  unfold zby at h
  split at h
  · cases h
  split at h
  · cases h
  split at h
  · cases h
  split at h
  · cases h
  split at h
  · split at h
    · cases h
    · cases h
      exact ⟨Nat.le_refl _,Nat.le_succ _⟩
  · split at h
    · cases h
    · cases h
      refine ⟨Nat.le_succ _,?_⟩
      dsimp only
      split <;> omega
theorem zie {w:World} {p:Pg} {l:Pl} (hpg:PgI w (Old w) p l):Calls Tryz.prog 60 #[pgV p l] w (RetVer (verP p) w):=by
  obtain ⟨B1,k1,B2,k2,B3,k3,B4,k4⟩:=l;have HPG:=Hi hpg;have m1:=hpg.m1;have m2:=hpg.m2;have m3:=hpg.m3;have m4:=hpg.m4;have h1:=hpg.h1;have h2:=hpg.h2;have h3:=hpg.h3;have h4:=hpg.h4;dsimp only at m1 m2 m3 m4 h1 h2 h3 h4;unfold maxLen at m1 m2 m3 m4;obtain ⟨r,hr⟩:∃ r,verP p=r:=⟨_,rfl⟩;rw [hr];unfold verP at hr;have HR:=Hi hr;have hb0:=zaa w (Obj.cells (pgC p ⟨B1,k1,B2,k2,B3,k3,B4,k4⟩) 35);have HB0:=Hi hb0;have HC:=Hi (zhw (hpg.below hb0));have hbx0:(w.alloc (Obj.cells (pgC p ⟨B1,k1,B2,k2,B3,k3,B4,k4⟩) 35)).heap[w.heap.size]? = some (.cells (pgC p ⟨B1,k1,B2,k2,B3,k3,B4,k4⟩) 35 (0,0)):=heap_alloc_new w _;have HBX:=Hi hbx0
  have hn4:p.code.length≤600∨hdrP p≠0:=by
    unfold hdrP
    by_cases h:64<p.ins.length∨16<p.rls.length∨64<p.cells.length∨600<p.code.length
    · right;rw [if_pos h];decide
    · left;omega
  generalize hdrP p=hd at *;have HN4:=Hi hn4;clear hr hpg hb0 hbx0 hn4;go_enter Tryz.func60,Tryz.ntmps60;go_wp2_with fail
  refine HC.out.mono ?_
  rintro e w1 ⟨rfl,hb1⟩
  have HB1:=Hi hb1;have hbh1:=(hb1.block w.heap.size (by rw [World.size_alloc];omega)).trans HBX.out;have HBH1:=Hi hbh1;have q0:w1.cell? ⟨w.heap.size,0,none⟩=some (.slice B1 p.ins.length k1):=by simp [World.cell?,hbh1]
  have q1:w1.cell? ⟨w.heap.size,1,none⟩=some (.slice B2 p.rls.length k2):=by simp [World.cell?,hbh1]
  have q2:w1.cell? ⟨w.heap.size,2,none⟩=some (.slice B3 p.cells.length k3):=by simp [World.cell?,hbh1]
  have q3:w1.cell? ⟨w.heap.size,3,none⟩=some (.slice B4 p.code.length k4):=by simp [World.cell?,hbh1]
  have HBW1:=Hi (zac HB0.out hb1 HB0.out.size);have hs1:w.heap.size+1≤w1.heap.size:=by have:=hb1.size;rw [World.size_alloc] at this;exact this
  clear hb1 hbh1 HC HB1
  by_cases hh:hd=0
  case neg =>
    have HE:=Hi (show (0,0,hd)=r by rw [← HR.out,if_pos hh]);have f1:(hd != 0)=true:=by simpa using hh
    clear hh HR;go_wp2
    go_ret3
    exact RetVer.mk HE.out HBW1.out
  subst hh;have HR2:=Hi (show runG p p.code 0 ⟨[],0,0⟩ 0=r by rw [← HR.out];rfl);clear HR;have hn4:p.code.length≤600:=HN4.out.resolve_right (by simp);go_upto_region 5 with fail
  have hbv:Below w1.heap.size w1 (w1.alloc (Obj.cells #[.slice B1 p.ins.length k1,.slice B2 p.rls.length k2,.slice B3 p.cells.length k3,.slice B4 p.code.length k4,.slice Option.none 0 0,.int .i64 0,.int .i64 0] 143)):=zaa w1 _
  have hvf:VfW (w1.alloc (Obj.cells #[.slice B1 p.ins.length k1,.slice B2 p.rls.length k2,.slice B3 p.cells.length k3,.slice B4 p.code.length k4,.slice Option.none 0 0,.int .i64 0,.int .i64 0] 143)) w1.heap.size p ⟨B1,k1,B2,k2,B3,k3,B4,k4⟩ (.slice Option.none 0 0) ⟨[],0,0⟩:=
    ⟨heap_alloc_new w1 _,World.ownsRow_nil _ _ _ _,HPG.out.mono (fun b q=>Nat.lt_of_lt_of_le q HBW1.out.size) (zab (zac HBW1.out hbv HBW1.out.size) fun b q=>q)⟩
  have hbh2:=(hbv.block w.heap.size (by omega)).trans HBH1.out;have hsv:=World.size_alloc w1 (Obj.cells #[.slice B1 p.ins.length k1,.slice B2 p.rls.length k2,.slice B3 p.cells.length k3,.slice B4 p.code.length k4,.slice Option.none 0 0,.int .i64 0,.int .i64 0] 143);generalize w1.alloc (Obj.cells #[.slice B1 p.ins.length k1,.slice B2 p.rls.length k2,.slice B3 p.cells.length k3,.slice B4 p.code.length k4,.slice Option.none 0 0,.int .i64 0,.int .i64 0] 143)=W2 at *;have q3:W2.cell? ⟨w.heap.size,3,none⟩=some (.slice B4 p.code.length k4):=by simp [World.cell?,hbh2]
  have HBV:=Hi (zac HBW1.out hbv HBW1.out.size);have HVF:=Hi hvf;have HBOX:=Hi (fun (W:World) (h:Below w1.heap.size W2 W)=>show W.heap[w.heap.size]? = some (.cells (pgC p ⟨B1,k1,B2,k2,B3,k3,B4,k4⟩) 35 (0,0)) from (h.block _ (by omega)).trans hbh2);clear hbv hvf hbh2 HBH1 HBX HB0 HBW1;go_wp2;clear q3;go_loopg [3,21] (p.code.length+1) (fun g v3 v21 wr=>VeR W2 w1.heap.size p ⟨B1,k1,B2,k2,B3,k3,B4,k4⟩ r g v3 v21 wr)
  case atStart=>exact ⟨0,⟨[],0,0⟩,_,0,Nat.zero_le _,by omega,rfl,rfl,by rw [List.drop_zero];exact HR2.out,HVF.out,by simp,by simp,by simp,by decide,by decide,Below.refl _ _⟩
  case round =>
    clear HVF;obtain ⟨k,v,sv,most,hk,hgk,rfl,rfl,hrun,hvf,hst,hso,hus,hm0,hm24,hbr⟩:=hrel;have hszr:=hbr.size;have hbw:=HBV.out.trans (hbr.mono (show w.heap.size≤w1.heap.size by omega))
    by_cases hlt:k<p.code.length
    case pos =>
      obtain ⟨b,o,i,hA,hSb,hx,y0,y1⟩:=inAt hvf.pg.r4 hlt;subst hA;obtain ⟨op,a⟩:=i;dsimp only at y0 y1
      have hget:p.code[k]=⟨op,a⟩:=by
        rw [List.getElem?_eq_getElem hlt] at hx;injection hx
      rw [List.drop_eq_getElem_cons hlt,hget,zdg] at hrun;have hvlt:=hvf.lt;have hbk:b<wr.heap.size:=Nat.lt_trans hSb hvlt;have hbx:=zaa wr (Obj.cells #[.int .i64 op,.int .i64 a] 76);have HC:=Hi (zkA (hvf.below hbx) op a hst (by omega) (by omega));have HBR:=Hi (hbr.alloc (by omega) (Obj.cells #[.int .i64 op,.int .i64 a] 76));have HBW:=Hi hbw;have HRUN:=Hi hrun;clear hx hget hSb hbx hrun hbr hbw hvf;go_wp2_with fail
      refine HC.out.mono ?_
      rintro e w5 ⟨er,rfl,hb5,⟨he,hst5⟩ | ⟨rfl,v',sv',hst5,hv5⟩⟩
      · have f1:(er != 0)=true:=by simpa using he
        have HE:=Hi (show ((k:Int),(0:Int),er)=r by rw [← HRUN.out,hst5])
        have HBF:=Hi ((HBV.out.trans (HBR.out.mono (show w.heap.size≤w1.heap.size by omega))).trans (hb5.mono (show w.heap.size≤w1.heap.size by omega)))
        clear hst5 hb5 HRUN he HC
        go_wp2
        go_ret3
        exact RetVer.mk HE.out HBF.out
      · obtain ⟨A5,c5,hsv5,-,-⟩:=zag hv5.st
        subst hsv5
        obtain ⟨-,-,-,z4,-,-⟩:=hv5.seven
        have hsm:=zh7 hst5
        have hct:=zh6 hst5
        have hlt5:=hv5.lt
        have HV5:=Hi hv5
        have HRUN2:=Hi (show runG p (p.code.drop (k+1)) ((k+1:Nat):Int) v' (max most v'.st.length)=r by
          have q:=HRUN.out
          rw [hst5] at q
          rw [Int.natCast_add]
          exact q)
        have HBF:=Hi (HBR.out.trans hb5)
        clear hst5 hb5 hv5 HRUN HC
        go_wp2
        go_roundg (p.code.length-k)
        case measure=>omega
        case rel=>exact ⟨k+1,v',_,max most v'.st.length,by omega,by omega,by go_num,rfl,HRUN2.out,HV5.out,by omega,by omega,by omega,by omega,by omega,HBF.out⟩
    obtain rfl:k=p.code.length:=by omega
    rw [List.drop_length,zdV] at hrun;obtain ⟨A5,c5,hsv5,-,-⟩:=zag hvf.st;subst hsv5;obtain ⟨-,-,-,z4,z5,z6⟩:=hvf.seven;have hbo:=HBOX.out wr hbr;have q1:wr.cell? ⟨w.heap.size,1,none⟩=some (.slice B2 p.rls.length k2):=by simp [World.cell?,hbo]
    have q2:wr.cell? ⟨w.heap.size,2,none⟩=some (.slice B3 p.cells.length k3):=by simp [World.cell?,hbo]
    have q3:wr.cell? ⟨w.heap.size,3,none⟩=some (.slice B4 p.code.length k4):=by simp [World.cell?,hbo]
    have HBF:=Hi hbw;have HRUN:=Hi hrun;have hvl:=hvf.lt;obtain ⟨st,so,us⟩:=v;dsimp only at *;clear hbo hbr hbw hrun hvf hlt HBOX
    cases st with
    | cons x st =>
      have HE:=Hi (show ((p.code.length:Int),(0:Int),(14:Int))=r by rw [← HRUN.out,if_pos (by simp)]);have f1:(0:Int)<((x::st).length:Int):=by simp
      clear HRUN;generalize (x::st).length=sl at *;go_wp2
      go_ret3
      exact RetVer.mk HE.out HBF.out
    | nil =>
      have HR3:=Hi (show (if so<p.rls.length∨us<p.cells.length then ((p.code.length:Int),(0:Int),(11:Int)) else (0,most,0))=r by
        have q:=HRUN.out;rw [if_neg (by simp)] at q;exact q)
      simp only [List.length_nil] at z4;clear HRUN
      rcases (show (so:Int)<(p.rls.length:Int)∨(¬ (so:Int)<(p.rls.length:Int)∧(us:Int)<(p.cells.length:Int))∨(¬ (so:Int)<(p.rls.length:Int)∧¬ (us:Int)<(p.cells.length:Int)) by omega) with f1 | ⟨f1,f2⟩ | ⟨f1,f2⟩
      · have HE:=Hi (show ((p.code.length:Int),(0:Int),(11:Int))=r by rw [← HR3.out,if_pos (by omega)])
        clear HR3
        go_upto_region 15 with fail
        go_region
        go_wp2
        go_ret3
        exact RetVer.mk HE.out (zad HBF.out)
      · have HE:=Hi (show ((p.code.length:Int),(0:Int),(11:Int))=r by rw [← HR3.out,if_pos (by omega)])
        have f3:decide ((so:Int)<(p.rls.length:Int))=false:=by simpa using f1
        clear HR3
        go_upto_region 15 with fail
        go_region
        go_wp2
        go_ret3
        exact RetVer.mk HE.out (zad HBF.out)
      · have HE:=Hi (show ((0:Int),most,(0:Int))=r by rw [← HR3.out,if_neg (by omega)])
        have f3:decide ((so:Int)<(p.rls.length:Int))=false:=by simpa using f1
        have f4:decide ((us:Int)<(p.cells.length:Int))=false:=by simpa using f2
        clear HR3
        go_upto_region 15 with fail
        go_region
        go_wp2
        go_ret3
        exact RetVer.mk HE.out (zad HBF.out)
theorem zht {w:World} {p:Pg} {l:Pl} (hpg:PgI w (Old w) p l):Calls Tryz.prog 35 #[pgV p l] w fun e w'=>e = .returned (.tuple #[.int .i64 (verP p).1,.int .i64 (verP p).2.2])∧Below w.heap.size w w':=by
  obtain ⟨B1,k1,B2,k2,B3,k3,B4,k4⟩:=l;have hb0:=zaa w (Obj.cells (pgC p ⟨B1,k1,B2,k2,B3,k3,B4,k4⟩) 35);have HB0:=Hi hb0;have HC:=Hi (zie (hpg.below hb0));generalize verP p=r at *;obtain ⟨a,b,c⟩:=r;clear hb0;go_enter Tryz.func35,Tryz.ntmps35;go_wp2_with fail
  refine HC.out.mono ?_
  rintro e w1 ⟨rfl,hb1⟩
  have HB1:=Hi (zac HB0.out hb1 HB0.out.size);clear hb1;dsimp only;go_wp2
  go_ret2
  exact ⟨rfl,HB1.out⟩
end Go.Proofs.YtcikenlflcofbaaGreatDoor
