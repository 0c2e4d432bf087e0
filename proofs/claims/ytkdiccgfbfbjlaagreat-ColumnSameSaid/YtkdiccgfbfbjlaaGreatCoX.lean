import Derived.Test.YtkdiccgfbfbjlaaGreatCoX0
set_option linter.unusedSectionVars false
namespace Go.Proofs.YtkdiccgfbfbjlaaGreat
open Go Go.Ev
variable [Sh]
set_option maxHeartbeats 16000000
set_option maxRecDepth 100000
abbrev kOut:List Kf:=[.c (.exit 0),.b 3,.c (.seq aoy (.exit 0)),.b 4,.c (.seq (.seq aox aow) (.exit 0)),.b 5,.c (.seq (.seq aov aou) (.exit 0)),.b 6,.c aot,.b 7,.c (.seq aos (.exit 0)),.b 8,.c (.seq aor (.exit 0)),.b 9,.c (.seq aoq (.exit 0)),.b 0,.c (.seq aop (.cond (.t 130) (.seq aoo .ret) (.seq aon .ret)))]
theorem bcf {o:Op} (ho:Gh o) (Bp:evL cfg Hq 0 [.d o.d] []=some (.d (.int .i64 (0)),[])) (t:Ty) (ks:List Nat) (par deep col:Int) (c:Col) (hc:EU c) (hsc:inI t.scale):WR t ks par deep col c o:=by
 obtain⟨hM,hM2,hM3,hM4⟩:=hc.most;have hH:=hc.here;have hh:=Xu c abu;have hA:=mA_ok t ks par deep c o;obtain⟨xb,xl,hfl⟩:=akw (l:=c.here) hH;obtain⟨w0,n0,q0⟩:=sf hA ⟨col,o,0,0,[],0⟩ ho abw 0 (b:=xb) abu;obtain⟨c0,o0,ne0,le0⟩:w0.co=col∧w0.o=o∧w0.L≠[]∧w0.L.length≤3:=⟨n0.co,n0.o,n0.ne,by simpa using n0.len⟩
 obtain⟨_,_,wk0,wd0,wL0,we0⟩:=w0;simp only at c0 o0 ne0 le0;obtain rfl:=c0.symm;obtain rfl:=o0.symm;have ow0:=au (co:=col) ne0;obtain⟨W,hW⟩:∃ W:Wr,c.here.all id=true∧W=⟨col,o,0,0,[],0⟩∨c.here.all id=false∧W=⟨col,o,wk0,wd0,wL0,we0⟩:=by
   cases c.here.all id
   · exact⟨_,.inr ⟨rfl,rfl⟩⟩
   · exact⟨_,.inl ⟨rfl,rfl⟩⟩
 have hWc:W.co=col:=by rcases hW with⟨_,rfl⟩|⟨_,rfl⟩<;>rfl
 have hWo:W.o=o:=by rcases hW with⟨_,rfl⟩|⟨_,rfl⟩<;>rfl
 have hWl:W.L.length≤3:=by rcases hW with⟨_,rfl⟩|⟨_,rfl⟩<;>first|exact le0|simp
 have hoW:Gh W.o:=by rw[hWo];exact ho
 have hK:t.kind=12∨t.kind=10∨t.kind=11∨t.kind=1∨t.kind=13∨t.kind=9∨t.kind=14∨t.kind=7∨t.kind=16∨t.kind=17∨t.kind=8∨t.kind=0∨((t.kind==0)=false∧(t.kind==1)=false∧(t.kind==7)=false∧(t.kind==8)=false∧(t.kind==9)=false∧(t.kind==10)=false∧(t.kind==11)=false∧(t.kind==12)=false∧(t.kind==13)=false∧(t.kind==14)=false∧(t.kind==16)=false∧(t.kind==17)=false):=by
   simp only[ab6];omega
 rcases hK with hk|hK
 · rcases hW with⟨hn,rfl⟩|⟨hn,rfl⟩
   all_goals rw[hn] at hh
   · refine⟨0,0,0,[],by simp,?_⟩
     rw[UJ];simp only[Col.d,CO,Op.d,E3,hk] at hh Bp ⊢;simp(disch:=first|exact abt|fail) only[go_sem,Gg,IE,Bp,hh,Int.reduceBEq,Int.reduceBNe]
     done
   · simp only[mA,DS,dx,ow0,hk,List.cons_append,List.nil_append,AR,cf] at q0 hfl
     by_cases he:we0=0
     · refine⟨wk0,wd0,0,wL0,by omega,?_⟩
       rw[UJ];simp only[Col.d,CO,Op.d,E3,hk] at hh Bp ⊢;simp(disch:=first|exact abt|fail) only[go_sem,Gg,IE,Bp,hh,q0,hfl,he,Int.reduceBEq,Int.reduceBNe]
       done
     · have he:(we0 !=0)=true:=by simpa using he
       refine⟨0,0,we0,[],by simp,?_⟩
       rw[UJ];simp only[Col.d,CO,Op.d,E3,hk] at hh Bp ⊢;simp(disch:=first|exact abt|fail) only[go_sem,Gg,IE,Bp,hh,q0,hfl,he,Int.reduceBEq,Int.reduceBNe]
       done
 rcases hK with hk|hk|hk|hk|hk|hk|hk|hk|hk|hk|hk|hk
 all_goals (first
   | (have hk:t.kind=10:=hk
      obtain⟨wf,nf,q1⟩:=lm hA W hoW abu 2 (sg:=false) (l:=c.lens) (fun v hv=>⟨by have:=hc.lens v hv;unfold inI;omega,fun _=>(hc.lens v hv).1⟩) abu
      have fa:=Bp;have fb:=Bp;have fc:=Bp;have q2:=Bp;have ow1:=Bp;have le1:=Bp;have ne1:=Bp;obtain⟨c1,o1,nef,lef⟩:wf.co=col∧wf.o=o∧wf.L≠[]∧wf.L.length≤6:=⟨nf.co.trans hWc,nf.o.trans hWo,nf.ne,by have:=nf.len;omega⟩
      obtain⟨_,_,wkf,wdf,wLf,wef⟩:=wf;simp only at c1 o1 nef lef;obtain rfl:=c1.symm;obtain rfl:=o1.symm;have owf:=au (co:=col) nef)
   | (have hk:t.kind=11:=hk
      obtain⟨wf,nf,q1⟩:=lm hA W hoW abu 2 (sg:=false) (l:=c.lens) (fun v hv=>⟨by have:=hc.lens v hv;unfold inI;omega,fun _=>(hc.lens v hv).1⟩) abu
      have fa:=Bp;have fb:=Bp;have fc:=Bp;have q2:=Bp;have ow1:=Bp;have le1:=Bp;have ne1:=Bp;obtain⟨c1,o1,nef,lef⟩:wf.co=col∧wf.o=o∧wf.L≠[]∧wf.L.length≤6:=⟨nf.co.trans hWc,nf.o.trans hWo,nf.ne,by have:=nf.len;omega⟩
      obtain⟨_,_,wkf,wdf,wLf,wef⟩:=wf;simp only at c1 o1 nef lef;obtain rfl:=c1.symm;obtain rfl:=o1.symm;have owf:=au (co:=col) nef)
   | (have hk:t.kind=1:=hk
      obtain⟨y0,bl,hby⟩:=alc (l:=c.ints) abu;obtain⟨bx,bxl,hbr⟩:=aaa (l:=y0) abu;unfold AR at hby;obtain⟨wf,nf,q1⟩:=sf hA W hoW abu 1 (b:=bx) abu;have fa:=hby;have fb:=hbr;have fc:=bld bx;have q2:=Bp;have ow1:=Bp;have le1:=Bp;have ne1:=Bp;obtain⟨c1,o1,nef,lef⟩:wf.co=col∧wf.o=o∧wf.L≠[]∧wf.L.length≤6:=⟨nf.co.trans hWc,nf.o.trans hWo,nf.ne,by have:=nf.len;omega⟩
      obtain⟨_,_,wkf,wdf,wLf,wef⟩:=wf;simp only at c1 o1 nef lef;obtain rfl:=c1.symm;obtain rfl:=o1.symm;have owf:=au (co:=col) nef)
   | (have hk:t.kind=13:=hk
      obtain⟨y0,bl,hby⟩:=alc (l:=c.ints) abu;obtain⟨bx,bxl,hbr⟩:=aaa (l:=y0) abu;unfold AR at hby;obtain⟨wf,nf,q1⟩:=sf hA W hoW abu 1 (b:=bx) abu;have fa:=hby;have fb:=hbr;have fc:=bld bx;have q2:=Bp;have ow1:=Bp;have le1:=Bp;have ne1:=Bp;obtain⟨c1,o1,nef,lef⟩:wf.co=col∧wf.o=o∧wf.L≠[]∧wf.L.length≤6:=⟨nf.co.trans hWc,nf.o.trans hWo,nf.ne,by have:=nf.len;omega⟩
      obtain⟨_,_,wkf,wdf,wLf,wef⟩:=wf;simp only at c1 o1 nef lef;obtain rfl:=c1.symm;obtain rfl:=o1.symm;have owf:=au (co:=col) nef)
   | (have hk:t.kind=9:=hk
      obtain⟨x1,l1,f1,p1⟩:=bb9 (l:=c.ints) abu;obtain⟨x2,l2,f2,p2⟩:=bmv (l:=c.ns) abu hc.ns;unfold AR at p1 p2;obtain⟨w1,n1,q1⟩:=lm hA W hoW abu 1 (sg:=true) (l:=x1) f1 abu;have h1c:=n1.co.trans hWc;have h1o:=n1.o.trans hWo;have h1l:=n1.len;have o1':Gh w1.o:=by rw[h1o];exact ho
      obtain⟨wf,nf,q2⟩:=lm hA w1 o1' abu 5 (sg:=false) (l:=x2) f2 abu;have fa:=p1;have fb:=p2;have fc:=Bp;obtain⟨c1,o1,nef,lef⟩:wf.co=col∧wf.o=o∧wf.L≠[]∧wf.L.length≤9:=⟨nf.co.trans h1c,nf.o.trans h1o,nf.ne,by have:=nf.len;omega⟩
      obtain⟨_,_,wkf,wdf,wLf,wef⟩:=wf;simp only at c1 o1 nef lef;obtain rfl:=c1.symm;obtain rfl:=o1.symm;have owf:=au (co:=col) nef;have ne1:=n1.ne;obtain⟨_,_,wk1,wd1,wL1,we1⟩:=w1;simp only at h1c h1o ne1;obtain rfl:=h1c.symm;obtain rfl:=h1o.symm;have ow1:=au (co:=col) ne1)
   | (have hk:t.kind=14:=hk
      obtain⟨bx,bxl,hdc⟩:=VQ (l:=c.ints) abu hc.ints;unfold AR at hdc;have hrp:=ba2 t.scale c.ints.length abu;obtain⟨w1,n1,q1⟩:=sf hA W hoW abu 1 (b:=bx) abu;have h1c:=n1.co.trans hWc;have h1o:=n1.o.trans hWo;have h1l:=n1.len;have o1':Gh w1.o:=by rw[h1o];exact ho
      obtain⟨wf,nf,q2⟩:=lm hA w1 o1' abu 5 (sg:=true) (l:=List.replicate c.ints.length t.scale) (fun v hv=>by rw[(adr.1 hv).2];exact⟨hsc,fun h=>by cases h⟩) (by rw[List.length_replicate];omega)
      have fa:=hdc;have fb:=hrp;have fc:=dv_or bx;obtain⟨c1,o1,nef,lef⟩:wf.co=col∧wf.o=o∧wf.L≠[]∧wf.L.length≤9:=⟨nf.co.trans h1c,nf.o.trans h1o,nf.ne,by have:=nf.len;omega⟩
      obtain⟨_,_,wkf,wdf,wLf,wef⟩:=wf;simp only at c1 o1 nef lef;obtain rfl:=c1.symm;obtain rfl:=o1.symm;have owf:=au (co:=col) nef;have ne1:=n1.ne;obtain⟨_,_,wk1,wd1,wL1,we1⟩:=w1;simp only at h1c h1o ne1;obtain rfl:=h1c.symm;obtain rfl:=h1o.symm;have ow1:=au (co:=col) ne1)
   | (have hk:t.kind=7:=hk
      have hwo:=ij (l:=c.texts) abu o.sh;generalize aav c.texts o.sh=wb at hwo;obtain⟨wf,nf,q1⟩:=mr hA W hoW abu (tx:=c.texts) abu hc.texts wb;have fa:=hwo;have fb:=Bp;have fc:=Bp;have q2:=Bp;have ow1:=Bp;have le1:=Bp;have ne1:=Bp;obtain⟨c1,o1,nef,lef⟩:wf.co=col∧wf.o=o∧wf.L≠[]∧wf.L.length≤6:=⟨nf.co.trans hWc,nf.o.trans hWo,nf.ne,by have:=nf.len;omega⟩
      obtain⟨_,_,wkf,wdf,wLf,wef⟩:=wf;simp only at c1 o1 nef lef;obtain rfl:=c1.symm;obtain rfl:=o1.symm;have owf:=au (co:=col) nef)
   | (have hk:t.kind=16:=hk
      have hwo:=ij (l:=c.texts) abu o.sh;generalize aav c.texts o.sh=wb at hwo;obtain⟨wf,nf,q1⟩:=mr hA W hoW abu (tx:=c.texts) abu hc.texts wb;have fa:=hwo;have fb:=Bp;have fc:=Bp;have q2:=Bp;have ow1:=Bp;have le1:=Bp;have ne1:=Bp;obtain⟨c1,o1,nef,lef⟩:wf.co=col∧wf.o=o∧wf.L≠[]∧wf.L.length≤6:=⟨nf.co.trans hWc,nf.o.trans hWo,nf.ne,by have:=nf.len;omega⟩
      obtain⟨_,_,wkf,wdf,wLf,wef⟩:=wf;simp only at c1 o1 nef lef;obtain rfl:=c1.symm;obtain rfl:=o1.symm;have owf:=au (co:=col) nef)
   | (have hk:t.kind=17:=hk
      have hwo:=ij (l:=c.texts) abu o.sh;generalize aav c.texts o.sh=wb at hwo;obtain⟨wf,nf,q1⟩:=mr hA W hoW abu (tx:=c.texts) abu hc.texts wb;have fa:=hwo;have fb:=Bp;have fc:=Bp;have q2:=Bp;have ow1:=Bp;have le1:=Bp;have ne1:=Bp;obtain⟨c1,o1,nef,lef⟩:wf.co=col∧wf.o=o∧wf.L≠[]∧wf.L.length≤6:=⟨nf.co.trans hWc,nf.o.trans hWo,nf.ne,by have:=nf.len;omega⟩
      obtain⟨_,_,wkf,wdf,wLf,wef⟩:=wf;simp only at c1 o1 nef lef;obtain rfl:=c1.symm;obtain rfl:=o1.symm;have owf:=au (co:=col) nef)
   | (have hk:t.kind=8:=hk
      obtain⟨wf,nf,q1⟩:=mr hA W hoW abu (tx:=c.texts) abu hc.texts false;have fa:=Bp;have fb:=Bp;have fc:=Bp;have q2:=Bp;have ow1:=Bp;have le1:=Bp;have ne1:=Bp;obtain⟨c1,o1,nef,lef⟩:wf.co=col∧wf.o=o∧wf.L≠[]∧wf.L.length≤6:=⟨nf.co.trans hWc,nf.o.trans hWo,nf.ne,by have:=nf.len;omega⟩
      obtain⟨_,_,wkf,wdf,wLf,wef⟩:=wf;simp only at c1 o1 nef lef;obtain rfl:=c1.symm;obtain rfl:=o1.symm;have owf:=au (co:=col) nef)
   | (have hk:t.kind=0:=hk
      have hs:∀ e,BG e (mA t ks par deep c o++DS W)=mA t ks par deep c o++DS W:=fun e=>by
        rw[xm hA];rcases hW with⟨_,rfl⟩|⟨_,rfl⟩<;>(simp only[DS,dx,ow0];rfl)
      obtain⟨bx,hbx,qb⟩:=bnq c.ints abu hs kOut c.ints 0 (List.replicate c.ints.length false) rfl (aco _) abw;obtain⟨fb2,fl2,hf2⟩:=akw (l:=bx) abu;simp only[kOut,blE,List.map_replicate,Int.natCast_zero,cf] at qb hf2;obtain⟨wf,nf,q1⟩:=sf hA W hoW abu 1 (b:=fb2) abu;have fa:=qb;have fb:=hf2;have fc:=Bp;have q2:=Bp;have ow1:=Bp;have le1:=Bp;have ne1:=Bp;obtain⟨c1,o1,nef,lef⟩:wf.co=col∧wf.o=o∧wf.L≠[]∧wf.L.length≤6:=⟨nf.co.trans hWc,nf.o.trans hWo,nf.ne,by have:=nf.len;omega⟩
      obtain⟨_,_,wkf,wdf,wLf,wef⟩:=wf;simp only at c1 o1 nef lef;obtain rfl:=c1.symm;obtain rfl:=o1.symm;have owf:=au (co:=col) nef)
   | (have hk:(t.kind==0)=false∧(t.kind==1)=false∧(t.kind==7)=false∧(t.kind==8)=false∧(t.kind==9)=false∧(t.kind==10)=false∧(t.kind==11)=false∧(t.kind==12)=false∧(t.kind==13)=false∧(t.kind==14)=false∧(t.kind==16)=false∧(t.kind==17)=false:=hk
      obtain⟨wf,nf,q1⟩:=lm hA W hoW abu 1 (sg:=true) (l:=c.ints) (fun v hv=>⟨hc.ints v hv,fun h=>by cases h⟩) abu
      have fa:=Bp;have fb:=Bp;have fc:=Bp;have q2:=Bp;have ow1:=Bp;have le1:=Bp;have ne1:=Bp;obtain⟨c1,o1,nef,lef⟩:wf.co=col∧wf.o=o∧wf.L≠[]∧wf.L.length≤6:=⟨nf.co.trans hWc,nf.o.trans hWo,nf.ne,by have:=nf.len;omega⟩
      obtain⟨_,_,wkf,wdf,wLf,wef⟩:=wf;simp only at c1 o1 nef lef;obtain rfl:=c1.symm;obtain rfl:=o1.symm;have owf:=au (co:=col) nef))
 all_goals (rcases hW with⟨hn,rfl⟩|⟨hn,rfl⟩)
 all_goals try(rcases fc with⟨fc,rfl⟩|fc)
 all_goals (
   rw[hn] at hh
   try rw[fc] at fa
   try rw[fc] at fb
   unfold WR;simp only[mA,DS,dx,ow0,ow1,owf,hk,List.cons_append,List.nil_append,List.map_nil,List.map_replicate,AR,cf] at fa fb q0 q1 q2 hfl;simp only[Col.d,CO,Op.d,E3,hk] at hh Bp fa fb q2 ⊢;by_cases he:wef=0
   · refine⟨wkf,wdf,0,wLf,by omega,?_⟩
     rw[UJ];simp(disch:=first|exact abt|fail) only[go_sem,Gg,IE,Bp,hh,fa,fb,q0,q1,q2,hfl,he,hk,Int.reduceBEq,Int.reduceBNe,aby,List.map_nil,List.map_replicate]
     done
   · have he:(wef !=0)=true:=by simpa using he
     refine⟨0,0,wef,[],by simp,?_⟩
     rw[UJ];simp(disch:=first|exact abt|fail) only[go_sem,Gg,IE,Bp,hh,fa,fb,q0,q1,q2,hfl,he,hk,Int.reduceBEq,Int.reduceBNe,aby,List.map_nil,List.map_replicate]
     done)
