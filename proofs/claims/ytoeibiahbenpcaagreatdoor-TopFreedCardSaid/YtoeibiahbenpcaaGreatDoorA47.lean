/- Part. -/
import Derived.Test.YtoeibiahbenpcaaGreatDoorA46
namespace Go.Proofs.YtoeibiahbenpcaaGreatDoor
open RowKit Maps Proofs.Tryz
set_option linter.unusedVariables false
set_option maxRecDepth 99999
set_option maxHeartbeats 9000000
def zz4(r:Nat):Code->Bool
 | .region id _ _=>id == r
 | .seq (.region id _ _) _=>id == r
 | _=>false
def gm(r:Nat):Code->Option Code
 | .seq a b=>if zz4 r a then some (.seq a b) else match gm r a with
  | some c=>some c
  | none=>gm r b
 | .cond _ a b=>match gm r a with
  | some c=>some c
  | none=>gm r b
 | .block _ c=>gm r c
 | .loop c=>gm r c
 | .scope c=>gm r c
 | _=>none
noncomputable def zn4(r:Nat)(f:Func):Code:=((f.body.bind (gm r)).getD .skip)
theorem z6r{R:Ending->World->Prop}{wA w:World}{J:LmI}{K NW base m mp made U q n c:Nat}{Y0:List FE}{a:Option Addr}{fr:Int}{u0 u1 u2 u3 u5 u6 u7 u8 u9 u10 u12 u14 u15 u16 u17 u18 u19 u20 u21 u22 u23 u24 u25 u26 u27 u28 u29 u30 u31 u32 u33 u34 u35 u36 u37 u38 u39 u40 u41 u42 u43 u44 u45 u46 u47 u48 u49 u50 u51 u52 u53 u54 u55 u56 u57 u58 u59 u60 u61 u62 u63 u64 u65 u66 u67 u68 u69 u70 u71 u72 u73 u74 u75 u76 u77 u78 u79 u80 u81 u82 u83 u84 u85 u86 u87 u88 u89 u90 u91 u92 u93 u94 u95 u96 u97 u98 u99 u100 u101 u102 u103 u104 u105 u106 u107 u108 u109 u110 u111 u112 u113 u114 u115 u116 u117 u118 u119 u120 u121 u122 u123 u124 u125 u126 u127 u128 u129 u130 u131 u132 u133 u134 u135 u136 u137 u138 u139 u140 u141 u142 u143 u144 u145 u146 u147 u148 u149 u150 u151 u152 u153 u154 u155 u156 u157 u158 u159 u160 u161 u162 u163 u164 u165 u166 u167 u168 u169 u170 u171 u172 u173 u174 u175 u176 u177 u178 u179 u180 u181 u182 u183 u184 u185 u186 u187 u188 u189 u190 u191 u192 u193 u194 u195 u196 u197 u198 u199 u200 u201 u202 u203 u204 u205 u206 u207 u208 u209 u210 u211 u212 u213 u214 u215 u216 u217 u218 u219 u220 u221 u222 u223 u224 u225 u226 u227 u228 u229 u230 u231 u232 u233 u234 u235 u236 u237 u238 u239 u240 u241 u242 u243 u244 u245 u246 u247 u248 u249 u250 u251 u252 u253 u254 u255 u256 u257 u258 u259 u260 u261 u262 u263 u264 u265 u266 u267 u268 u269 u270 u271 u272 u273 u274 u275 u276 u277:Value}
 (h:TF wA w J K NW base m mp Y0 made U) (f0:-9223372036854775808<=fr) (f1:fr<=9223372036854775807)
 (hq:Row wA q 24 [.slice a n c,.int .i64 fr]) (hR:∀w',Below wA.heap.size wA w'->R (.returned (.bool true)) w') :
 Code.wp prog (zn4 23 Tryz.f3) (bodyPost prog Tryz.f3 R) ⟨#[u0,u1,u2,u3,.pointer (some ⟨q,0,none⟩),u5,u6,u7,u8,u9,u10,.pointer (some ⟨J.m,0,none⟩),u12,.pointer (some ⟨m,0,none⟩),u14,u15,u16,u17,u18,u19,u20,u21,u22,u23,u24,u25,u26,u27,u28,u29,u30,u31,u32,u33,u34,u35,u36,u37,u38,u39,u40,u41,u42,u43,u44,u45,u46,u47,u48,u49,u50,u51,u52,u53,u54,u55,u56,u57,u58,u59,u60,u61,u62,u63,u64,u65,u66,u67,u68,u69,u70,u71,u72,u73,u74,u75,u76,u77,u78,u79,u80,u81,u82,u83,u84,u85,u86,u87,u88,u89,u90,u91,u92,u93,u94,u95,u96,u97,u98,u99,u100,u101,u102,u103,u104,u105,u106,u107,u108,u109,u110,u111,u112,u113,u114,u115,u116,u117,u118,u119,u120,u121,u122,u123,u124,u125,u126,u127,u128,u129,u130,u131,u132,u133,u134,u135,u136,u137,u138,u139,u140,u141,u142,u143,u144,u145,u146,u147,u148,u149,u150,u151,u152,u153,u154,u155,u156,u157,u158,u159,u160,u161,u162,u163,u164,u165,u166,u167,u168,u169,u170,u171,u172,u173,u174,u175,u176,u177,u178,u179,u180,u181,u182,u183,u184,u185,u186,u187,u188,u189,u190,u191,u192,u193,u194,u195,u196,u197,u198,u199,u200,u201,u202,u203,u204,u205,u206,u207,u208,u209,u210,u211,u212,u213,u214,u215,u216,u217,u218,u219,u220,u221,u222,u223,u224,u225,u226,u227,u228,u229,u230,u231,u232,u233,u234,u235,u236,u237,u238,u239,u240,u241,u242,u243,u244,u245,u246,u247,u248,u249,u250,u251,u252,u253,u254,u255,u256,u257,u258,u259,u260,u261,u262,u263,u264,u265,u266,u267,u268,u269,u270,u271,u272,u273,u274,u275,u276,u277],[]⟩ w:=by
 conv=>arg 2;whnf
 have E2:=hq.keep (l:=[]) (.of_below h.bel) (by simp);have d1:=E2.cell (i:=1) rfl;obtain⟨W2,C6⟩:=zx (w.alloc (.cells #[.int .i64 2,.int .i64 4,.int .i64 6,.int .i64 8,.int .i64 fr] 3));have b2:Below w.heap.size w W2:=by rw[C6];exact zn (Below.refl _ _)
 have r2:Row W2 w.heap.size 3 ([2,4,6,8,fr].map (Value.int .i64)):=by rw[C6];exact Row.made w _ _
 have o2:W2.ownsRow w.heap.size 3 1 (.slice (some ⟨w.heap.size,0,none⟩) 5 5) 5 ([2,4,6,8,fr].map (Value.int .i64)):=by
  have:=r2.owns (base:=w.heap.size) (n:=5) (c:=5) (Nat.le_refl _) rfl (by decide) (by decide);simpa using this
 have D5:=zh (zt4 (h.below b2) o2 h.fixlt rfl (by decide) (λx hx=>by simp at hx;rcases hx with rfl|rfl|rfl|rfl|rfl<;>first|exact⟨by decide,by decide⟩|exact⟨f0,f1⟩));have HQ:=zh hq;have HR:=zh hR;have E3:=zh C6;have H0:=zh h.two.fl.rise;have HM:=zh h.two.fl.few;obtain⟨q2,D6⟩:=zx (w.heap.size);rw[<-D6] at D5;have E4:=zh D6;clear hq hR C6 b2 r2 o2 h D6;refine wp_seq_k (λK23 A3=>?_);have A4:=zh A3;clear A3;go_wp2;rw[<-E3.out,<-E4.out];refine A4 _ _ ?_;clear A4;clear d1 E2 E3 E4;refine wp_seq_k (λK24 A5=>?_);have A6:=zh A5;clear A5;go_wp2_with fail;go_call D5 as e w3 ⟨g,rfl,E5⟩;clear D5;go_wp2;refine A6 _ _ ?_;clear A6;refine wp_seq_k (λK25 A7=>?_);have A8:=zh A7;clear A7;go_wp2_with fail;refine(E5 w3 (Below.refl _ _)).mono ?_;rintro e w4 ⟨rfl,HY⟩;obtain⟨Y,E6,E7⟩:=HY.out;obtain⟨N,hN⟩:=zx ((fTb Y).length);have HN:=zh hN;have G7:=zh E7;have C7:=zh E6;have C8:Hid (N=(yk (zt (fTb Y)) made).length):=by rw[HN.out];exact C7.count.symm
 have E8:Hid (N<=1000000):=by rw[C8.out];exact Nat.le_trans (zip _ _) (by have:=HM.out;omega)
 clear hN E7 E6 HY E5;go_wp2;refine A8 _ _ ?_;clear A8;refine wp_seq_k (λK26 A9=>?_);have B0:=zh A9;clear A9;go_wp2_with fail;refine(z4a C7 HN).mono ?_;rintro e w5 ⟨al,ac,rfl,A2,B1⟩;have D7:Hid (∀k∈J.fix,k<w4.heap.size):=C7.out.fixlt;obtain⟨B,hB⟩:=zx (w4.heap.size);rw[<-hB] at A2 D7;clear hB C7;go_wp2;refine B0 _ _ ?_;clear B0;refine wp_seq_k (λK27 B2=>?_);have B3:=zh B2;clear B2;go_wp2_with fail;refine(z4d B1 HN).mono ?_;rintro e w6 ⟨al2,ac2,rfl,C9,D0,E9⟩;have F0:=(Upd.of_below (l:=[]) E9.out).owns A2.out (by simp);have A0:=zh F0;clear F0 A2;go_wp2_with fail;obtain⟨_,_,hv,rd5,-,-⟩:=zk A0;cases hv
 obtain⟨_,_,hv,rd6,-,-⟩:=zk C9;cases hv
 refine(zhh al al2 N ac ac2 _ _ C8.out rd5 rd6 (by have:=E8.out;omega)).mono ?_;rintro e w7 ⟨rfl,D8⟩;have F1:=zh (D0.below D8);have F2:=zh ((Upd.of_below (l:=[]) D8).owns A0.out (by simp));clear rd5 rd6 D8 A0 C9 D0 E9 B1;go_wp2_with fail;refine(z09 F1).mono ?_;rintro e w8 ⟨rfl,F3,F4⟩;have F5:=zh (F4.out.owns F2.out D7.out (by decide));clear F1 F2 F4;go_wp2;refine B3 _ _ ?_;clear B3;refine wp_seq_k (λK29 B4=>?_);have B5:=zh B4;clear B4;go_wp2;go_loopw [25] (λi wr=>∃k:Nat,k<=N/\i=.int .i64 k/\Hid (TF wA wr J K NW base m mp Y made U)/\Hid (wr.ownsRow B 3 1 (.slice al N ac) N ((yk (zt (fTb Y)) made).map (Value.int .i64)))) (λi _=>N-(intOf i).toNat)
 case atStart=>exact⟨0,Nat.zero_le _,rfl,F3,F5⟩
 case round =>
  obtain⟨k,hk,rfl,HT,HO⟩:=hrel;clear F3 F5;by_cases G8:k<N
  ·have D1:k<(yk (zt (fTb Y)) made).length:=by have:=C8.out;omega
   obtain⟨_,_,hv,rd,-,-⟩:=zk HO;cases hv
   obtain⟨b,off,rfl,G9,B6⟩:=rd.at (by simp;omega);obtain⟨x,hx⟩:=zx ((yk (zt (fTb Y)) made).getD k 0);have B7:=B6 k (.int .i64 x) (by rw[hx];exact zr D1);have I0:Hid (x∈yk (zt (fTb Y)) made):=by rw[hx,zg,ze D1];exact List.getElem_mem _
   have F6:=zh (z6b HT x I0);have I1:Hid ((List.map (Value.int .i64) (yk (zt (fTb Y)) made))[k]?=some (.int .i64 x)):=by rw[hx];exact zr D1
   have I2:(k:Int)<(N:Int):=by omega
   have I4:N<=1000000:=E8.out;clear rd B6 hx D1;refine wp_seq_k (λK50 B8=>?_);have B9:=zh B8;clear B8;go_wp2;refine B9 _ _ ?_;clear B9;refine wp_seq_k (λK51 C0=>?_);have C1:=zh C0;clear C0;refine wp_block ?_;refine wp_seq_k (λK32 C2=>?_);have C3:=zh C2;clear C2;go_wp2_with fail;go_call F6 as e w2 ⟨d,rfl,HU,F7,HF⟩;have F8:=zh (HU.out.owns HO.out D7.out (by decide));clear F6 HO HT B7;go_wp2;obtain⟨p,hp⟩:=zx (w2.heap.size);obtain⟨W3,D2⟩:=zx (w2.alloc (.cells #[.int .i64 d.cls,.int .i64 d.kind,.slice d.wa d.wn d.wc,.slice d.ba d.bn d.bc] 28));have b3:Below w2.heap.size w2 W3:=by rw[D2];exact zn (Below.refl _ _)
   have r3:Row W3 p 28 [.int .i64 d.cls,.int .i64 d.kind,.slice d.wa d.wn d.wc,.slice d.ba d.bn d.bc]:=by rw[D2,hp];exact Row.made w2 _ _
   rw[<-D2,<-hp];refine C3 _ _ ?_;clear C3 D2 hp;have D9:=(Upd.of_below (l:=[]) b3).owns F8.out (by simp);have F9:=zh D9;have G0:=zh (HF W3 b3);have G1:=zh (F7.below b3);have G2:=zh r3;obtain⟨_,_,hv,rd,-,-⟩:=zk D9;cases hv
   obtain⟨_,_,hv,G3,B6⟩:=rd.at (by simp;have:=C8.out;omega);cases hv
   have A1:=B6 k (.int .i64 x) I1;clear b3 r3 D9 rd B6 F7 HF F8;refine wp_seq_k (λK33 C4=>?_);have C5:=zh C4;clear C4;go_wp2_with fail;go_call G0 as e w4 ⟨d',rfl,G4,G5⟩;clear G0 A1;go_wp2;obtain⟨p',E0⟩:=zx (w4.heap.size);obtain⟨W5,D3⟩:=zx (w4.alloc (.cells #[.int .i64 d'.cls,.int .i64 d'.kind,.slice d'.wa d'.wn d'.wc,.slice d'.ba d'.bn d'.bc] 28));have b5:Below w4.heap.size w4 W5:=by rw[D3];exact zn (Below.refl _ _)
   have r5:Row W5 p' 28 [.int .i64 d'.cls,.int .i64 d'.kind,.slice d'.wa d'.wn d'.wc,.slice d'.ba d'.bn d'.bc]:=by rw[D3,E0];exact Row.made w4 _ _
   rw[<-D3,<-E0];refine C5 _ _ ?_;clear C5 D3 E0;have D4:Below W3.heap.size W3 W5:=zy G4 b5;have s3:=G2.out.keep (l:=[]) (.of_below D4) (by simp);have x0:=s3.cell (i:=0) rfl;have x1:=s3.cell (i:=1) rfl;have x2:=s3.cell (i:=2) rfl;have x3:=s3.cell (i:=3) rfl;have xl:=s3.lt;have y0:=r5.cell (i:=0) rfl;have y1:=r5.cell (i:=1) rfl;have y2:=r5.cell (i:=2) rfl;have y3:=r5.cell (i:=3) rfl;have yl:=r5.lt;have G6:=zh (G5 W5 b5);have B1:=zh (G1.below D4);have A2:=zh ((Upd.of_below (l:=[]) D4).owns F9.out (by simp));clear s3 r5 D4 b5 G5 G4 G2 G1 F9;go_wp2_with fail;go_call G6 as e w6 ⟨rfl,E1⟩;have D0:=zh (B1.below E1);have C9:=zh ((Upd.of_below (l:=[]) E1).owns A2.out (by simp));clear B1 A2 E1 G6 x0 x1 x2 x3 xl y0 y1 y2 y3 yl;go_wp2;refine C1 _ _ ?_;clear C1;go_wp2;go_roundw
   case rel=>exact⟨k+1,by omega,by go_num,D0.out,C9.out⟩
   case measure=>simp[intOf];omega
  ·have I3:N=k:=by omega
   subst I3;clear G8 hk;go_wp2;refine B5 _ _ ?_;clear B5;exact z6q HT H0 f0 f1 G7 HN HQ HR
theorem z6s{R:Ending->World->Prop}{wA w:World}{J:LmI}{K NW base m mp made U q n c ln lc:Nat}{Y0:List FE}{a la:Option Addr}{fr:Int}{ls:List Int}{u0 u2 u3 u5 u6 u7 u8 u9 u10 u12 u14 u15 u16 u17 u18 u19 u20 u21 u22 u23 u24 u25 u26 u27 u28 u29 u30 u31 u32 u33 u34 u35 u36 u37 u38 u39 u40 u41 u42 u43 u44 u45 u46 u47 u48 u49 u50 u51 u52 u53 u54 u55 u56 u57 u58 u59 u60 u61 u62 u63 u64 u65 u66 u67 u68 u69 u70 u71 u72 u73 u74 u75 u76 u77 u78 u79 u80 u81 u82 u83 u84 u85 u86 u87 u88 u89 u90 u91 u92 u93 u94 u95 u96 u97 u98 u99 u100 u101 u102 u103 u104 u105 u106 u107 u108 u109 u110 u111 u112 u113 u114 u115 u116 u117 u118 u119 u120 u121 u122 u123 u124 u125 u126 u127 u128 u129 u130 u131 u132 u133 u134 u135 u136 u137 u138 u139 u140 u141 u142 u143 u144 u145 u146 u147 u148 u149 u150 u151 u152 u153 u154 u155 u156 u157 u158 u159 u160 u161 u162 u163 u164 u165 u166 u167 u168 u169 u170 u171 u172 u173 u174 u175 u176 u177 u178 u179 u180 u181 u182 u183 u184 u185 u186 u187 u188 u189 u190 u191 u192 u193 u194 u195 u196 u197 u198 u199 u200 u201 u202 u203 u204 u205 u206 u207 u208 u209 u210 u211 u212 u213 u214 u215 u216 u217 u218 u219 u220 u221 u222 u223 u224 u225 u226 u227 u228 u229 u230 u231 u232 u233 u234 u235 u236 u237 u238 u239 u240 u241 u242 u243 u244 u245 u246 u247 u248 u249 u250 u251 u252 u253 u254 u255 u256 u257 u258 u259 u260 u261 u262 u263 u264 u265 u266 u267 u268 u269 u270 u271 u272 u273 u274 u275 u276 u277:Value}
 (h:TF wA w J K NW base m mp Y0 made U) (f0:-9223372036854775808<=fr) (f1:fr<=9223372036854775807) (B8:ln=ls.length) (D9:ln<=60) (B9:zv wA la lc (ls.map (Value.int .i64))) (C0:I64 ls)
 (hq:Row wA q 24 [.slice a n c,.int .i64 fr]) (hR:∀w',Below wA.heap.size wA w'->R (.returned (.bool true)) w') :
 Code.wp prog (zn4 16 Tryz.f3) (bodyPost prog Tryz.f3 R) ⟨#[u0,.slice la ln lc,u2,u3,.pointer (some ⟨q,0,none⟩),u5,u6,u7,u8,u9,u10,.pointer (some ⟨J.m,0,none⟩),u12,.pointer (some ⟨m,0,none⟩),u14,u15,u16,u17,u18,u19,u20,u21,u22,u23,u24,u25,u26,u27,u28,u29,u30,u31,u32,u33,u34,u35,u36,u37,u38,u39,u40,u41,u42,u43,u44,u45,u46,u47,u48,u49,u50,u51,u52,u53,u54,u55,u56,u57,u58,u59,u60,u61,u62,u63,u64,u65,u66,u67,u68,u69,u70,u71,u72,u73,u74,u75,u76,u77,u78,u79,u80,u81,u82,u83,u84,u85,u86,u87,u88,u89,u90,u91,u92,u93,u94,u95,u96,u97,u98,u99,u100,u101,u102,u103,u104,u105,u106,u107,u108,u109,u110,u111,u112,u113,u114,u115,u116,u117,u118,u119,u120,u121,u122,u123,u124,u125,u126,u127,u128,u129,u130,u131,u132,u133,u134,u135,u136,u137,u138,u139,u140,u141,u142,u143,u144,u145,u146,u147,u148,u149,u150,u151,u152,u153,u154,u155,u156,u157,u158,u159,u160,u161,u162,u163,u164,u165,u166,u167,u168,u169,u170,u171,u172,u173,u174,u175,u176,u177,u178,u179,u180,u181,u182,u183,u184,u185,u186,u187,u188,u189,u190,u191,u192,u193,u194,u195,u196,u197,u198,u199,u200,u201,u202,u203,u204,u205,u206,u207,u208,u209,u210,u211,u212,u213,u214,u215,u216,u217,u218,u219,u220,u221,u222,u223,u224,u225,u226,u227,u228,u229,u230,u231,u232,u233,u234,u235,u236,u237,u238,u239,u240,u241,u242,u243,u244,u245,u246,u247,u248,u249,u250,u251,u252,u253,u254,u255,u256,u257,u258,u259,u260,u261,u262,u263,u264,u265,u266,u267,u268,u269,u270,u271,u272,u273,u274,u275,u276,u277],[]⟩ w:=by
 conv=>arg 2;whnf
 have HQ:=zh hq;have HR:=zh hR;have C1:=zh h;have C9:=zh B8;have D0:=zh B9;have D1:=zh C0;clear hq hR h B8 B9 C0;refine wp_seq_k (λK16 A0=>?_);have A1:=zh A0;clear A0;go_wp2;go_loopw [16] (λiv wr=>∃(i:Nat) (Y:List FE),i<=100/\iv=.int .i64 i/\Hid (TF wA wr J K NW base m mp Y made U)) (λiv _=>100-(intOf iv).toNat)
 case atStart=>exact⟨0,Y0,by decide,rfl,C1⟩
 case round =>
  obtain⟨i,Y,hi,rfl,HT⟩:=hrel;clear C1;by_cases E0:i+2<ln
  ·have D2:i+2<ls.length:=by have:=C9.out;omega
   obtain⟨b,off,rfl,D3,B0⟩:=D0.out.at (by simp;omega);obtain⟨x0,B2⟩:=zx (ls.getD i 0);obtain⟨x1,B3⟩:=zx (ls.getD (i+1) 0);obtain⟨x2,B4⟩:=zx (ls.getD (i+2) 0);have c0:=B0 i (.int .i64 x0) (by rw[B2];exact zr (by omega));have c1:=B0 (i+1) (.int .i64 x1) (by rw[B3];exact zr (by omega));have c2:=B0 (i+2) (.int .i64 x2) (by rw[B4];exact zr (by omega));have mem:∀j,j<ls.length->-9223372036854775808<=ls.getD j 0/\ls.getD j 0<=9223372036854775807:=λj hj=>D1.out _ (by rw[zg,ze hj];exact List.getElem_mem _)
   have m0:=mem i (by omega);have m1:=mem (i+1) (by omega);have m2:=mem (i+2) (by omega);rw[<-B2] at m0;rw[<-B3] at m1;rw[<-B4] at m2;have B1:=zh (λz (hb:Below wA.heap.size wA z)=>And.intro (zu hb c0) (And.intro (zu hb c1) (zu hb c2)));have C2:=zh (HT.below (Zd (Below.refl _ wr)));have C3:=zh (z6a C2 x0 x1 x2 m0 m1 m2);have HC:=zh (B1 wr HT.bel);have B5:(i:Int)+2<(ln:Int):=by omega
   have D4:i<ln:=by omega
   have D5:(i:Int)+1<(ln:Int):=by omega
   have D6:0<=(i:Int)+1:=by omega
   have D7:0<=(i:Int)+2:=by omega
   clear c0 c1 c2 m0 m1 m2 mem B2 B3 B4 B0 D2 HT;refine wp_seq_k (λK50 A2=>?_);have A3:=zh A2;clear A2;go_wp2;refine A3 _ _ ?_;clear A3;refine wp_seq_k (λK51 A4=>?_);have A5:=zh A4;clear A4;refine wp_block ?_;refine wp_seq_k (λK19 A6=>?_);have A7:=zh A6;clear A6;go_wp2_with fail;refine zm (λz=>z.cell? ⟨b,off+i,none⟩=some (.int .i64 x0)/\z.cell? ⟨b,off+(i+1),none⟩=some (.int .i64 x1)/\z.cell? ⟨b,off+(i+2),none⟩=some (.int .i64 x2)) (zp [0,1,2,3,4,5,6,7,8,9,10,11,12,13,14,1015,16]) (by kernel_rfl) (by kernel_rfl) (λ_ _ _ _ _ h=>h) (HC.out) ?_
   (repeat (refine zi rfl (λK hK=>?_);go_simp;(try go_bits);refine hK _ ?_;clear hK K))
   refine zl (.int .i64 x0) rfl rfl (λx hS=>by obtain⟨s0,s1,s2⟩:=hS;go_simp) ?_
   (repeat (refine zi rfl (λK hK=>?_);go_simp;(try go_bits);refine hK _ ?_;clear hK K))
   refine zl (.int .i64 x1) rfl rfl (λx hS=>by obtain⟨s0,s1,s2⟩:=hS;go_simp) ?_
   (repeat (refine zi rfl (λK hK=>?_);go_simp;(try go_bits);refine hK _ ?_;clear hK K))
   refine zl (.int .i64 x2) rfl rfl (λx hS=>by obtain⟨s0,s1,s2⟩:=hS;go_simp) ?_
   (repeat (refine zi rfl (λK hK=>?_);go_simp;(try go_bits);refine hK _ ?_;clear hK K))
   refine zj rfl ?_;go_wp2_with fail;go_call C3 as e w2 ⟨g,rfl,C4,C5⟩;have B6:=zh (B1 w2 C4);clear C3 C2 HC;go_wp2_with fail;refine⟨B6,?_⟩
   (repeat (refine zi rfl (λK hK=>?_);go_simp;(try go_bits);refine hK _ ?_;clear hK K))
   refine zo ?_;go_wp2;refine A7 _ _ ?_;clear A7;refine wp_seq_k (λK20 A8=>?_);have A9:=zh A8;clear A8;have C6:=zh (C5 w2.drew (Zd (Below.refl _ w2)));clear C5;go_wp2_with fail;refine zm (λz=>z.cell? ⟨b,off+i,none⟩=some (.int .i64 x0)/\z.cell? ⟨b,off+(i+1),none⟩=some (.int .i64 x1)/\z.cell? ⟨b,off+(i+2),none⟩=some (.int .i64 x2)) (zp [0,1,2,3,4,5,6,7,8,9,10,11,12,13,14,1015,16]) (by kernel_rfl) (by kernel_rfl) (λ_ _ _ _ _ h=>h) (B6.out) ?_
   (repeat (refine zi rfl (λK hK=>?_);go_simp;(try go_bits);refine hK _ ?_;clear hK K))
   refine zl (.int .i64 x0) rfl rfl (λx hS=>by obtain⟨s0,s1,s2⟩:=hS;go_simp) ?_
   (repeat (refine zi rfl (λK hK=>?_);go_simp;(try go_bits);refine hK _ ?_;clear hK K))
   refine zl (.int .i64 x1) rfl rfl (λx hS=>by obtain⟨s0,s1,s2⟩:=hS;go_simp) ?_
   (repeat (refine zi rfl (λK hK=>?_);go_simp;(try go_bits);refine hK _ ?_;clear hK K))
   refine zl (.int .i64 x2) rfl rfl (λx hS=>by obtain⟨s0,s1,s2⟩:=hS;go_simp) ?_
   (repeat (refine zi rfl (λK hK=>?_);go_simp;(try go_bits);refine hK _ ?_;clear hK K))
   refine zj rfl ?_;go_wp2_with fail;go_call C6 as e w3 ⟨rfl,C7⟩;obtain⟨Y3,B7⟩:=C7.out;have D8:=zh B7;have C8:=zh (B1 w3 B7.bel);clear C6 B6 C7 B7 C4;go_wp2_with fail;refine⟨C8,?_⟩
   (repeat (refine zi rfl (λK hK=>?_);go_simp;(try go_bits);refine hK _ ?_;clear hK K))
   refine zo ?_;go_wp2;refine A9 _ _ ?_;clear A9 C8 B1;go_wp2;refine A5 _ _ ?_;clear A5;go_wp2;go_roundw
   case rel=>exact⟨i+3,Y3,by omega,by go_num,D8.out⟩
   case measure=>simp[intOf];omega
  ·have B5:¬(i:Int)+2<(ln:Int):=by omega
   go_wp2;refine A1 _ _ ?_;clear A1;exact z6r HT f0 f1 HQ HR
theorem tf8{R:Ending->World->Prop}{w:World}{q n c ln lc:Nat}{a la:Option Addr}{fr wd sl:Int}{l:List Za}{ls:List Int}{u0 u5 u6 u7 u8 u9 u10 u11 u12 u13 u14 u15 u16 u17 u18 u19 u20 u21 u22 u23 u24 u25 u26 u27 u28 u29 u30 u31 u32 u33 u34 u35 u36 u37 u38 u39 u40 u41 u42 u43 u44 u45 u46 u47 u48 u49 u50 u51 u52 u53 u54 u55 u56 u57 u58 u59 u60 u61 u62 u63 u64 u65 u66 u67 u68 u69 u70 u71 u72 u73 u74 u75 u76 u77 u78 u79 u80 u81 u82 u83 u84 u85 u86 u87 u88 u89 u90 u91 u92 u93 u94 u95 u96 u97 u98 u99 u100 u101 u102 u103 u104 u105 u106 u107 u108 u109 u110 u111 u112 u113 u114 u115 u116 u117 u118 u119 u120 u121 u122 u123 u124 u125 u126 u127 u128 u129 u130 u131 u132 u133 u134 u135 u136 u137 u138 u139 u140 u141 u142 u143 u144 u145 u146 u147 u148 u149 u150 u151 u152 u153 u154 u155 u156 u157 u158 u159 u160 u161 u162 u163 u164 u165 u166 u167 u168 u169 u170 u171 u172 u173 u174 u175 u176 u177 u178 u179 u180 u181 u182 u183 u184 u185 u186 u187 u188 u189 u190 u191 u192 u193 u194 u195 u196 u197 u198 u199 u200 u201 u202 u203 u204 u205 u206 u207 u208 u209 u210 u211 u212 u213 u214 u215 u216 u217 u218 u219 u220 u221 u222 u223 u224 u225 u226 u227 u228 u229 u230 u231 u232 u233 u234 u235 u236 u237 u238 u239 u240 u241 u242 u243 u244 u245 u246 u247 u248 u249 u250 u251 u252 u253 u254 u255 u256 u257 u258 u259 u260 u261 u262 u263 u264 u265 u266 u267 u268 u269 u270 u271 u272 u273 u274 u275 u276 u277:Value}
 (hG:Glb w) (HA:yf w a n c l) (f0:-9223372036854775808<=fr) (f1:fr<=9223372036854775807) (B7:ln=ls.length) (D0:ln<=60) (B8:zv w la lc (ls.map (Value.int .i64))) (B9:I64 ls)
 (wd0:0<=wd) (wd1:wd<=255) (sl0:0<=sl) (sl1:sl<=255) (hU:gv l fr=0->Z5 l l.length<=8000)
 (hq:Row w q 24 [.slice a n c,.int .i64 fr]) (hR:∀w',Below w.heap.size w w'->R (.returned (.bool true)) w') :
 Code.wp prog (zn4 8 Tryz.f3) (bodyPost prog Tryz.f3 R) ⟨#[u0,.slice la ln lc,.int .u8 wd,.int .u8 sl,.pointer (some ⟨q,0,none⟩),u5,u6,u7,u8,u9,u10,u11,u12,u13,u14,u15,u16,u17,u18,u19,u20,u21,u22,u23,u24,u25,u26,u27,u28,u29,u30,u31,u32,u33,u34,u35,u36,u37,u38,u39,u40,u41,u42,u43,u44,u45,u46,u47,u48,u49,u50,u51,u52,u53,u54,u55,u56,u57,u58,u59,u60,u61,u62,u63,u64,u65,u66,u67,u68,u69,u70,u71,u72,u73,u74,u75,u76,u77,u78,u79,u80,u81,u82,u83,u84,u85,u86,u87,u88,u89,u90,u91,u92,u93,u94,u95,u96,u97,u98,u99,u100,u101,u102,u103,u104,u105,u106,u107,u108,u109,u110,u111,u112,u113,u114,u115,u116,u117,u118,u119,u120,u121,u122,u123,u124,u125,u126,u127,u128,u129,u130,u131,u132,u133,u134,u135,u136,u137,u138,u139,u140,u141,u142,u143,u144,u145,u146,u147,u148,u149,u150,u151,u152,u153,u154,u155,u156,u157,u158,u159,u160,u161,u162,u163,u164,u165,u166,u167,u168,u169,u170,u171,u172,u173,u174,u175,u176,u177,u178,u179,u180,u181,u182,u183,u184,u185,u186,u187,u188,u189,u190,u191,u192,u193,u194,u195,u196,u197,u198,u199,u200,u201,u202,u203,u204,u205,u206,u207,u208,u209,u210,u211,u212,u213,u214,u215,u216,u217,u218,u219,u220,u221,u222,u223,u224,u225,u226,u227,u228,u229,u230,u231,u232,u233,u234,u235,u236,u237,u238,u239,u240,u241,u242,u243,u244,u245,u246,u247,u248,u249,u250,u251,u252,u253,u254,u255,u256,u257,u258,u259,u260,u261,u262,u263,u264,u265,u266,u267,u268,u269,u270,u271,u272,u273,u274,u275,u276,u277],[]⟩ w:=by
 conv=>arg 2;whnf
 obtain⟨NW,C0⟩:∃NW:Nat,(NW:Int)=1000+wd:=⟨(1000+wd).toNat,by omega⟩;obtain⟨K,hK⟩:∃K:Nat,(K:Int)=1+sl:=⟨(1+sl).toNat,by omega⟩;have B1:=zh (z39 w NW K (by omega) (by omega));rw[C0,hK] at B1;have C1:Hid (1<=K/\1000<=NW):=by unfold Hid;omega
 have HG:=zh hG;have C2:=zh HA;have HQ:=zh hq;have HR:=zh hR;have D1:=zh B7;have D2:=zh B8;have D3:=zh B9;have HU:=zh hU;clear C0 hK hG HA hq hR B7 B8 B9 hU;refine wp_seq_k (λK8 C3=>?_);have C4:=zh C3;clear C3;go_wp2_with fail;go_call B1 as e w1 ⟨J,rfl,C5⟩;have C6:=zh (z4c C5 C1);clear B1 C5 C1 wd0 wd1 sl0 sl1;go_wp2;refine C4 _ _ ?_;clear C4;refine wp_seq_k (λK9 C7=>?_);have C8:=zh C7;clear C7;go_wp2_with fail;go_call C6 as e w2 ⟨base,m,mp,rfl,B2⟩;have B3:=zh (z1a B2 HG a n c l fr C2 f0 f1 HU);have A9:=HQ.out.keep (l:=[]) (.of_below B2.out.ld.args) (by simp);have p0:=A9.cell (i:=0) rfl;have p1:=A9.cell (i:=1) rfl;have pl:=A9.lt;obtain⟨E,hE⟩:=zx (gv l fr);rw[<-hE] at B3;have HE:=zh hE;clear C6 B2 A9 hE;go_wp2;refine C8 _ _ ?_;clear C8;refine wp_seq_k (λK10 A2=>?_);have A3:=zh A2;clear A2;go_wp2;refine A3 _ _ ?_;clear A3;refine wp_seq_k (λK12 A4=>?_);have A5:=zh A4;clear A4;go_wp2_with fail;go_call B3 as e w3 ⟨rfl,B4⟩;have B5:=zh (z1b B4 HG a c C2 f0 f1 HU);have B0:=HQ.out.keep (l:=[]) (.of_below B4.out.bel) (by simp);rw[<-HE.out] at B5;clear B3 B4 p0 p1 pl;have p0:=B0.cell (i:=0) rfl;have p1:=B0.cell (i:=1) rfl;have pl:=B0.lt;clear B0;go_wp2;refine A5 _ _ ?_;clear A5;refine wp_seq_k (λK13 A6=>?_);have A7:=zh A6;clear A6;go_wp2_with fail;go_call B5 as e w4 ⟨rfl,B6,A1,C9⟩;clear B5 p0 p1 pl;go_wp2;refine A7 _ _ ?_;clear A7;by_cases h0:E=0
 ·have HT:=A1 h0;obtain⟨Y,HT⟩:=HT;have HT:=zh HT;subst h0;clear B6 A1 HE;refine wp_seq_k (λK14 A0=>?_);have A8:=zh A0;clear A0;go_wp2;refine A8 _ _ ?_;clear A8;exact z6s HT f0 f1 D1 D0 D2 D3 HQ HR
 ·have D4:=zh (z38 (B6 h0));have D5:=zh (λz=>znp z);clear B6 A1 HE;refine wp_seq_k (λK14 A0=>?_);clear A0;go_wp2_with fail;go_call D4 as e w5 ⟨rfl,rfl⟩;go_wp2_with fail;refine(D5 _).mono ?_;rintro e w6 ⟨rfl,D6⟩;go_wp2;exact HR _ (C9.trans (D6.mono C9.size))
theorem tf6{R:Ending->World->Prop}{w:World}{q n c ln lc:Nat}{a la:Option Addr}{fr wd sl v:Int}{l:List Za}{ls:List Int}{u0 u5 u6 u7 u8 u10 u11 u12 u13 u14 u15 u16 u17 u18 u19 u20 u21 u22 u23 u24 u25 u26 u27 u28 u29 u30 u31 u32 u33 u34 u35 u36 u37 u38 u39 u40 u41 u42 u43 u44 u45 u46 u47 u48 u49 u50 u51 u52 u53 u54 u55 u56 u57 u58 u59 u60 u61 u62 u63 u64 u65 u66 u67 u68 u69 u70 u71 u72 u73 u74 u75 u76 u77 u78 u79 u80 u81 u82 u83 u84 u85 u86 u87 u88 u89 u90 u91 u92 u93 u94 u95 u96 u97 u98 u99 u100 u101 u102 u103 u104 u105 u106 u107 u108 u109 u110 u111 u112 u113 u114 u115 u116 u117 u118 u119 u120 u121 u122 u123 u124 u125 u126 u127 u128 u129 u130 u131 u132 u133 u134 u135 u136 u137 u138 u139 u140 u141 u142 u143 u144 u145 u146 u147 u148 u149 u150 u151 u152 u153 u154 u155 u156 u157 u158 u159 u160 u161 u162 u163 u164 u165 u166 u167 u168 u169 u170 u171 u172 u173 u174 u175 u176 u177 u178 u179 u180 u181 u182 u183 u184 u185 u186 u187 u188 u189 u190 u191 u192 u193 u194 u195 u196 u197 u198 u199 u200 u201 u202 u203 u204 u205 u206 u207 u208 u209 u210 u211 u212 u213 u214 u215 u216 u217 u218 u219 u220 u221 u222 u223 u224 u225 u226 u227 u228 u229 u230 u231 u232 u233 u234 u235 u236 u237 u238 u239 u240 u241 u242 u243 u244 u245 u246 u247 u248 u249 u250 u251 u252 u253 u254 u255 u256 u257 u258 u259 u260 u261 u262 u263 u264 u265 u266 u267 u268 u269 u270 u271 u272 u273 u274 u275 u276 u277:Value}
 (hG:Glb w) (HA:yf w a n c l) (f0:-9223372036854775808<=fr) (f1:fr<=9223372036854775807) (A1:ln=ls.length) (A2:zv w la lc (ls.map (Value.int .i64))) (A3:I64 ls)
 (wd0:0<=wd) (wd1:wd<=255) (sl0:0<=sl) (sl1:sl<=255) (hU:v<=200->gv l fr=0->Z5 l l.length<=8000)
 (hq:Row w q 24 [.slice a n c,.int .i64 fr]) (hR:∀w',Below w.heap.size w w'->R (.returned (.bool true)) w') :
 Code.wp prog (zn4 6 Tryz.f3) (bodyPost prog Tryz.f3 R) ⟨#[u0,.slice la ln lc,.int .u8 wd,.int .u8 sl,.pointer (some ⟨q,0,none⟩),u5,u6,u7,u8,.int .i64 v,u10,u11,u12,u13,u14,u15,u16,u17,u18,u19,u20,u21,u22,u23,u24,u25,u26,u27,u28,u29,u30,u31,u32,u33,u34,u35,u36,u37,u38,u39,u40,u41,u42,u43,u44,u45,u46,u47,u48,u49,u50,u51,u52,u53,u54,u55,u56,u57,u58,u59,u60,u61,u62,u63,u64,u65,u66,u67,u68,u69,u70,u71,u72,u73,u74,u75,u76,u77,u78,u79,u80,u81,u82,u83,u84,u85,u86,u87,u88,u89,u90,u91,u92,u93,u94,u95,u96,u97,u98,u99,u100,u101,u102,u103,u104,u105,u106,u107,u108,u109,u110,u111,u112,u113,u114,u115,u116,u117,u118,u119,u120,u121,u122,u123,u124,u125,u126,u127,u128,u129,u130,u131,u132,u133,u134,u135,u136,u137,u138,u139,u140,u141,u142,u143,u144,u145,u146,u147,u148,u149,u150,u151,u152,u153,u154,u155,u156,u157,u158,u159,u160,u161,u162,u163,u164,u165,u166,u167,u168,u169,u170,u171,u172,u173,u174,u175,u176,u177,u178,u179,u180,u181,u182,u183,u184,u185,u186,u187,u188,u189,u190,u191,u192,u193,u194,u195,u196,u197,u198,u199,u200,u201,u202,u203,u204,u205,u206,u207,u208,u209,u210,u211,u212,u213,u214,u215,u216,u217,u218,u219,u220,u221,u222,u223,u224,u225,u226,u227,u228,u229,u230,u231,u232,u233,u234,u235,u236,u237,u238,u239,u240,u241,u242,u243,u244,u245,u246,u247,u248,u249,u250,u251,u252,u253,u254,u255,u256,u257,u258,u259,u260,u261,u262,u263,u264,u265,u266,u267,u268,u269,u270,u271,u272,u273,u274,u275,u276,u277],[]⟩ w:=by
 conv=>arg 2;whnf
 have A5:=zh (λz=>znp z);have HR:=zh hR;clear hR;by_cases hv:v<=200
 ·by_cases hl:ln<=60
  ·have A6:(ln:Int)<=60:=by omega
   refine wp_seq_k (λK6 A0=>?_);have A7:=zh A0;have HG:=zh hG;have A8:=zh HA;have HQ:=zh hq;have A9:=zh A1;have B0:=zh A2;have B1:=zh A3;have HU:=zh (hU hv);clear A0 hG HA hq A1 A2 A3 hU;go_wp2;refine A7 _ _ ?_;exact tf8 HG A8 f0 f1 A9 hl B0 B1 wd0 wd1 sl0 sl1 HU HQ HR
  ·have A6:60<(ln:Int):=by omega
   clear hG HA hq A1 A2 A3 hU;refine wp_seq_k (λK6 A0=>?_);clear A0;go_wp2_with fail;refine(A5 _).mono ?_;rintro e w6 ⟨rfl,A4⟩;go_wp2;exact HR _ A4
 ·have B2:200<v:=by omega
  clear hG HA hq A1 A2 A3 hU;refine wp_seq_k (λK6 A0=>?_);clear A0;go_wp2_with fail;refine(A5 _).mono ?_;rintro e w6 ⟨rfl,A4⟩;go_wp2;exact HR _ A4
theorem w64(n:Int)(h:-9223372036854775808<=n/\n<=9223372036854775807):RowKit.wrap64 n=n:=by unfold RowKit.wrap64;omega
theorem z6v(y:Nat):((y:Int)).tdiv 10=((y / 10:Nat):Int):=by
 rw[Int.tdiv_eq_ediv_of_nonneg (Int.natCast_nonneg y)];exact(Int.natCast_ediv y 10).symm
theorem zqw{x q z:Nat}(hz:z<=404000)(hq:z=x+(1+q)):RowKit.wrap64 (RowKit.wrap64 ((x:Int)+1)+RowKit.wrap64 (q:Int))=(z:Int):=by
 have h1:((x:Int)+1)=((x+1:Nat):Int):=by omega
 have h2:((x+1:Nat):Int)+(q:Int)=(z:Int):=by omega
 have hb:∀a:Nat,a<=404000->RowKit.wrap64 (a:Int)=a:=λa ha=>w64 _ (by omega)
 rw[h1,hb _ (by omega),hb q (by omega),h2,hb z hz]
theorem zs8{x y z:Nat}(h:x+y<=2000)(hz:z=(x+y) / 10):RowKit.wrap64 ((RowKit.wrap64 ((x:Int)+(y:Int))).tdiv 10)=RowKit.wrap64 (z:Int):=by
 have h1:(x:Int)+(y:Int)=((x+y:Nat):Int):=by omega
 rw[h1,w64 ((x+y:Nat):Int) (by omega),z6v,hz]
theorem zqv{l:List Za}{n k:Nat}{v:Int}{d:Za}{w:World}(hv:zg8 l=false->n<=2000->v=zej l k)(hl:n=l.length)(hd:d=l.getD k Za.nothing)(hm:d∈l)(A0:d.ok w)(hk:k<n) :
 zg8 l=false->n<=2000->RowKit.wrap64 (RowKit.wrap64 (v+1)+RowKit.wrap64 ((RowKit.wrap64 ((d.wn:Int)+(d.bn:Int))).tdiv 10))=zej l (k+1):=by
 intro hb A1;have h1:=hv hb A1;have A2:k+1<=l.length:=by omega
 have h2:zej l (k+1)<=404000:=Nat.le_trans (z1f hb (k+1) A2) (by omega);have h3:=zh6 (l:=l) (k:=k) (by omega);rw[<-hd] at h3;have h4:=zb4.1 hb d hm
 have h6:d.W.length+d.B.length<=2000:=by
  rcases h4.2 with⟨_,a,b,_⟩|⟨_,a,b⟩<;>rw[a]<;>simp<;>omega
 unfold znk at h3;rw[<-A0.wl,<-A0.bl] at h3 h6;rw[h1,zs8 h6 rfl,zqw h2 h3]
theorem zs2{l:List Za}{n:Nat}{v fr:Int}(hv:zg8 l=false->n<=2000->v=zej l n)(hl:n=l.length)(A0:v<=200)(hE:gv l fr=0):Z5 l l.length<=8000:=by
 by_cases hi:zm5 l fr
 ·obtain⟨-,h2,-,-,-,-,hb,-⟩:=hi;have h1:=hv hb (by omega);have h3:=z0l hb l.length;rw[hl] at h1;omega
 ·unfold gv at hE;rw[if_neg hi] at hE;cases hE
theorem zq3(w:World)(hG:Glb w)(a:Option Addr)(n c:Nat)(l:List Za)(fr:Int)(HA:yf w a n c l)(f0:-9223372036854775808<=fr)(f1:fr<=9223372036854775807)(la:Option Addr)(ln lc:Nat)(ls:List Int)(A9:ln=ls.length)(D2:ln<=lc)(D3:lc<=9223372036854775807)(B0:zv w la lc (ls.map (Value.int .i64)))(B1:I64 ls)(wd sl:Int)(wd0:0<=wd)(wd1:wd<=255)(sl0:0<=sl)(sl1:sl<=255) :
 Calls prog 3 #[.agg #[.slice a n c,.int .i64 fr],.slice la ln lc,.int .u8 wd,.int .u8 sl] w λe w'=>e=.returned (.bool true)/\Below w.heap.size w w':=by
 have A5:=HA.cap;have B2:=HA.len;obtain⟨q,hq⟩:=zx (w.heap.size);obtain⟨W1,A3⟩:=zx (w.alloc (.cells #[.slice a n c,.int .i64 fr] 24));have b1:Below w.heap.size w W1:=by rw[A3];exact zn (Below.refl _ _)
 have r1:Row W1 q 24 [.slice a n c,.int .i64 fr]:=by rw[A3,hq];exact Row.made w _ _
 have HQ:=zh hq;have C1:=zh A3;have C2:=zh b1;have B3:=zh r1;have HG:=zh hG;have C3:=zh HA;have B4:=zh B2;have C4:=zh (HA.below b1);have C5:=zh A9;have C6:=zh B0;have C7:=zh B1;obtain⟨C8,A6⟩:=A5;have D4:n<=9223372036854775807:=by unfold maxLen at A6;omega
 clear hq A3 b1 r1 hG HA B2 A9 B0 B1;go_enter func3,ntmps3;refine wp_seq_k (λK0 B5=>?_);have B6:=zh B5;clear B5;go_wp2;rw[<-C1.out,<-HQ.out];refine B6 _ _ ?_;clear B6;refine wp_seq_k (λK1 B7=>?_);have B8:=zh B7;clear B7;go_wp2;refine B8 _ _ ?_;clear B8;refine wp_seq_k (λK2 B9=>?_);have C0:=zh B9;clear B9;go_wp2;go_loopw [9,10] (λs i wq=>∃(k:Nat) (v:Int),k<=n/\s=.int .i64 v/\i=.int .i64 k/\Hid (Below W1.heap.size W1 wq)/\Hid (zg8 l=false->n<=2000->v=zej l k)) (λ_ i _=>n-(intOf i).toNat)
 case atStart=>exact⟨0,0,Nat.zero_le _,rfl,rfl,Below.refl _ _,λ_ _=>by simp[zej]⟩
 case round =>
  obtain⟨k,v,hk,rfl,rfl,A1,HV⟩:=hrel;have A4:=B3.out.keep (l:=[]) (.of_below A1.out) (by simp);have q0:=A4.cell (i:=0) rfl;have q1:=A4.cell (i:=1) rfl;have ql:=A4.lt;clear A4;by_cases A7:k<n
  ·obtain⟨b,off,rfl,D5,A8,A0,A2⟩:=(C4.below A1).get A7;obtain⟨d,hd⟩:=zx (l.getD k Za.nothing);rw[<-hd] at A8 A0 A2;unfold kq at A2;have x2:=A2 2 _ rfl;have x3:=A2 3 _ rfl;have C9:(k:Int)<(n:Int):=by omega
   have D0:=zh A8;have HD:=zh hd;have HM:=zh A0;clear A2 hd A8 A0;go_wp2_with fail;go_region;go_wp2;go_roundw
   case rel =>
    refine⟨k+1,_,by omega,rfl,by go_num,Zd A1.out,?_⟩;exact zqv HV B4 HD HM D0 A7
   case measure=>simp[intOf];omega
  ·have D1:n=k:=by omega
   subst D1;clear A7 hk;go_wp2;refine C0 _ _ ?_;clear C0;have hb:=zy C2 A1;exact tf6 (HG.out.next hb) (C3.out.below hb) f0 f1 C5.out (C6.out.below hb) C7.out wd0 wd1 sl0 sl1 (zs2 HV.out B4.out) (B3.out.keep (l:=[]) (.of_below A1.out) (by simp)) (λw' h=>⟨rfl,zy hb h⟩)
end Go.Proofs.YtoeibiahbenpcaaGreatDoor
