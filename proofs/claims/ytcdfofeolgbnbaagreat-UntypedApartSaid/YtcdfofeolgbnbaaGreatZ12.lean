/- The small code of the functions of this seat,printed by a program,and that the model's code compiles to it. -/
import Derived.Test.YtcdfofeolgbnbaaGreatProg
import Derived.Test.YtcdfofeolgbnbaaGreatZ5
import Derived.KernelRfl
/- The small code of the functions of this seat,printed by a program,and that the model's code compiles to it. -/
namespace Go.Proofs.YtcdfofeolgbnbaaGreat
open Go.D
set_option linter.all false
set_option maxRecDepth 100000


abbrev Ld (a:Nat):I:=.ld (.t a) none
abbrev Lm (a n:Nat):I:=.ld (.t a) (some n)
abbrev Bo (o:BinOp) (a b:Nat):I:=.bin o (.t a) (.t b)
abbrev Bk (o:BinOp) (a:Nat) (k:Int):I:=.bin o (.t a) (Ki k)
abbrev Xt (a n:Nat):I:=.ext (.t a) n
abbrev Fa (a n:Nat):I:=.fa (.t a) n
abbrev Nl (a:Nat):I:=.nil (.t a)
abbrev Pk (a b:Nat):I:=.pick (.t a) (.t b) (.k (.s (.b false)))
abbrev Pq (a b:Nat):I:=.pick (.t a) (.k (.s (.b true))) (.t b)
abbrev Ca (f a:Nat):I:=.call f [.t a]
abbrev Cb (f a b:Nat):I:=.call f [.t a, .t b]
abbrev Cc (f a b c:Nat):I:=.call f [.t a, .t b, .t c]
abbrev Cd (f a b c d:Nat):I:=.call f [.t a, .t b, .t c, .t d]
abbrev Cn (a:Nat) (x y:DC):DC:=.cond (.t a) x y
abbrev Sr (l:List GI) (x:DC):DC:=.seq (.reg l) x
abbrev Gh (d:Nat) (x:I) (g:Nat) (b:Bool):GI:=⟨some d,x,some (g,b)⟩
abbrev Gv (d a g:Nat) (b:Bool):GI:=⟨some d, .mv (.t a),some (g,b)⟩
abbrev Gs (a b n:Nat):GI:=⟨none, .st (.t a) (.t b) n,none⟩
abbrev Yt:Opd:=.k (.s (.b true))
abbrev Yf:Opd:=.k (.s (.b false))
noncomputable instance tabs:Tabs:=⟨[],Tryz.prog⟩

def df9:DF:= ⟨164,Sr [Gg 2 (.mv Yf)] (Sr [Gg 18 (.call 14 []),Gm 3 18] (Sr [Gg 19 (.call 17 []),Gm 4 19] (.seq (Sr [Gm 20 4,
 Gg 21 (.eqn false false (.t 20))] (Cn 21 (Sr [Gg 2 (.mv Yf)] .ret) .skip)) (.seq (Sr [Gg 5 (.mv (Ki 0))] (.block 0 (.loop (.seq (Sr [Gm 22 5,Gm 23 0,
 Gg 24 (.len (.t 23)),Gg 25 (Bo .lss 22 24),Gm 26 25,Gv 27 5 26 true,Gh 28 (Bk .lss 27 60) 26 true,
 Gg 29 (Pk 26 28)] (Cn 29 .skip (.exit 0))) (.seq (.block 1 (.reg [Gm 32 4,Gm 33 0,Gm 34 5,Gg 35 (.ia none 8 (.t 33) (.t 34)),Gg 36 (Lm 35 8),
 Gg 37 (Cb 24 32 36)])) (.reg [Gm 30 5,Gg 31 (Bk .add 30 1),Gm 5 31])))))) (Sr [Gm 39 4,Gg 40 (Nl 39),Gg 41 (Fa 40 0),Gg 42 (Ld 41),Gg 43 (Ca 33 42),Gm 38 43,
 Gg 44 (Xt 38 0),Gg 45 (Xt 38 1),Gm 6 44,Gm 7 45] (.seq (Sr [Gm 46 7,
 Gg 47 (Bk .neq 46 0)] (Cn 47 (Sr [Gg 2 (.mv Yf)] .ret) .skip)) (.seq (Sr [Gg 8 (.mv (Ki 0))] (.block 2 (.loop (.seq (Sr [Gm 48 8,Gm 49 6,Gg 50 (.len (.t 49)),
 Gg 51 (Bo .lss 48 50)] (Cn 51 .skip (.exit 2))) (.seq (.block 3 (.seq (.drx (.tk true (Gm 55 4) (.tk true (Gg 56 (Nl 55)) (.tk true (Gg 57 (Fa 56 0)) (.tk true (Gm 59 6) (.tk true (Gm 60 8) (.tk true (Gg 61 (.ia none 1 (.t 59) (.t 60))) (.tk true (Gg 58 (Ld 57)) (.tk true (Gg 62 (Ld 61)) (.both (.tk false (Gg 63 (Cb 26 58 62)) (.tk true (Gm 54 63) (.tk true (Gg 64 (Xt 54 0)) (.tk true (Gg 65 (Xt 54 1)) (.tk false (Gg 9 (.new (Zi 14))) (.tk false (Gs 9 64 14) (.tk true (Gm 10 65) .done))))))) (.tk false (Gg 9 (.new (Zi 14))) (.tk false (Gg 63 (Cb 26 58 62)) (.tk true (Gm 54 63) (.tk true (Gg 64 (Xt 54 0)) (.tk true (Gg 65 (Xt 54 1)) (.tk false (Gs 9 64 14) (.tk true (Gm 10 65) .done))))))))))))))))) (.seq (Sr [Gm 66 10,
 Gg 67 (Bk .neq 66 0)] (Cn 67 (Sr [Gg 2 (.mv Yf)] .ret) .skip)) (Sr [Gg 11 (.mv (Ki 0))] (.block 4 (.loop (.seq (Sr [Gm 68 11,Gm 69 8,
 Gg 70 (Bo .lss 68 69)] (Cn 70 .skip (.exit 4))) (.seq (.block 5 (.seq (.drx (.tk true (Gm 74 4) (.tk true (Gg 75 (Nl 74)) (.tk true (Gg 76 (Fa 75 0)) (.tk true (Gm 78 6) (.tk true (Gm 79 11) (.tk true (Gg 80 (.ia none 1 (.t 78) (.t 79))) (.tk true (Gg 77 (Ld 76)) (.tk true (Gg 81 (Ld 80)) (.both (.tk false (Gg 82 (Cb 26 77 81)) (.tk true (Gm 73 82) (.tk true (Gg 83 (Xt 73 0)) (.tk true (Gg 84 (Xt 73 1)) (.tk false (Gg 12 (.new (Zi 14))) (.tk false (Gs 12 83 14) (.tk true (Gm 13 84) .done))))))) (.tk false (Gg 12 (.new (Zi 14))) (.tk false (Gg 82 (Cb 26 77 81)) (.tk true (Gm 73 82) (.tk true (Gg 83 (Xt 73 0)) (.tk true (Gg 84 (Xt 73 1)) (.tk false (Gs 12 83 14) (.tk true (Gm 13 84) .done))))))))))))))))) (Sr [Gg 85 (Fa 9 0),
 Gg 86 (Fa 85 0),Gg 87 (Ld 86),Gg 88 (Fa 12 0),Gg 89 (Fa 88 0),Gg 90 (Ld 89),Gg 91 (Bo .eql 87 90),
 Gm 92 91,Gh 93 (Fa 9 0) 92 true,Gh 94 (Fa 93 1) 92 true,Gh 95 (Ld 94) 92 true,Gh 96 (Fa 12 0) 92 true,Gh 97 (Fa 96 1) 92 true,Gh 98 (Ld 97) 92 true,Gh 99 (Bo .eql 95 98) 92 true,
 Gg 100 (Pk 92 99),Gm 14 100] (.seq (.drt 12 [Gm 101 4,Gg 102 (Nl 101),Gg 103 (Fa 102 0),Gg 104 (Ld 103),Gm 105 6,Gm 106 11,
 Gg 107 (.ia none 1 (.t 105) (.t 106)),Gg 108 (Ld 107),Gm 109 6,Gm 110 8,Gg 111 (.ia none 1 (.t 109) (.t 110)),Gg 112 (Ld 111),Gg 113 (Cc 31 104 108 112),
 Gm 15 113]) (Sr [Gg 114 (Fa 9 0),Gg 115 (Lm 114 11),Gg 116 (Fa 12 0),Gg 117 (Lm 116 11),Gg 118 (Cb 34 115 117),Gm 16 118] (Sr [Gg 119 (Fa 9 0),
 Gg 120 (Lm 119 11),Gg 121 (Fa 12 0),Gg 122 (Lm 121 11),Gg 123 (Cb 35 120 122),Gm 17 123] (Sr [Gm 124 13,Gg 125 (Bk .neq 124 0),
 Gm 126 125,Gv 127 14 126 false,Gh 128 (.un .not (.t 127)) 126 false,Gv 129 128 126 false,Gv 130 15 129 true,Gh 131 (.un .not (.t 130)) 129 true,Gh 132 (Pk 129 131) 126 false,Gv 133 132 126 false,Gv 134 16 133 true,Gh 135 (.un .not (.t 134)) 133 true,Gh 136 (Pk 133 135) 126 false,Gv 137 136 126 false,Gh 138 (Fa 9 0) 137 true,Gh 139 (Fa 138 1) 137 true,Gh 140 (Ld 139) 137 true,Gh 141 (Bk .neq 140 0) 137 true,Gh 142 (Pk 137 141) 126 false,Gv 143 142 126 false,Gh 144 (Fa 12 0) 143 true,Gh 145 (Fa 144 1) 143 true,Gh 146 (Ld 145) 143 true,Gh 147 (Bk .neq 146 0) 143 true,Gh 148 (Pk 143 147) 126 false,
 Gg 149 (Pq 126 148),
 Gm 150 149,Gv 151 15 150 false,Gv 152 151 150 false,Gh 153 (Fa 12 0) 152 true,Gh 154 (Fa 153 0) 152 true,Gh 155 (Ld 154) 152 true,Gh 156 (Bk .eql 155 1) 152 true,Gh 157 (Pk 152 156) 150 false,Gv 158 157 150 false,Gv 159 17 158 true,Gh 160 (.un .not (.t 159)) 158 true,Gh 161 (Pk 158 160) 150 false,
 Gg 162 (Pq 150 161)] (Cn 162 (Sr [Gg 2 (.mv Yf)] .ret) .skip)))))))) (.reg [Gm 71 11,Gg 72 (Bk .add 71 1),Gm 11 72]))))))))) (.reg [Gm 52 8,
 Gg 53 (Bk .add 52 1),Gm 8 53])))))) (Sr [Gm 163 3,Gm 2 163] .ret)))))))),[.t 2]⟩

theorem dc9:compF Tryz.prog Tryz.f9=some df9:=by kernel_rfl
def df14:DF:= ⟨110,Sr [Gg 0 (.mv Yf)] (Sr [Gg 13 (.call 17 []),Gm 1 13] (.seq (Sr [Gm 14 1,
 Gg 15 (.eqn false false (.t 14))] (Cn 15 (Sr [Gg 0 (.mv Yf)] .ret) .skip)) (Sr [Gm 16 1,Gg 17 (Nl 16),Gg 18 (Fa 17 1),Gg 19 (Ld 18),
 Gg 20 (.call 20 [(.t 19),(Ki 1024)]),Gg 2 (.new (Zi 11)),Gs 2 20 11] (Sr [Gg 21 (.call 22 [(Ki 0)]),Gm 3 21] (.seq (.drt 6 [Gm 22 1,Gg 23 (Nl 22),
 Gg 24 (Fa 23 0),Gg 25 (Ld 24),Gm 26 3,Gg 27 (Lm 2 11),Gg 28 (.call 21 [(.t 25),(.t 26),(Ki 4),(Ki 0),(.t 27),(Ki 20),(Ki 2),(.k (.s (.np)))]),
 Gm 4 28]) (.seq (.drt 6 [Gm 29 1,Gg 30 (Nl 29),Gg 31 (Fa 30 0),Gg 32 (Ld 31),Gm 33 3,Gg 34 (Lm 2 11),
 Gg 35 (.call 21 [(.t 32),(.t 33),(Ki 3),(Ki 0),(.t 34),(Ki 22),(Ki 1),(.k (.s (.np)))]),Gm 5 35]) (.seq (.drt 6 [Gm 36 1,Gg 37 (Nl 36),Gg 38 (Fa 37 0),
 Gg 39 (Ld 38),Gm 40 3,Gg 41 (Lm 2 11),Gg 42 (.call 21 [(.t 39),(.t 40),(Ki 2),(Ki 8),(.t 41),(Ki 23),(Ki 1),(.k (.s (.np)))]),Gm 6 42]) (Sr [Gm 44 1,
 Gg 45 (Nl 44),Gg 46 (Fa 45 0),Gg 47 (Ld 46),Gm 48 3,Gg 49 (Cb 26 47 48),Gm 43 49,Gg 50 (Xt 43 0),Gg 51 (Xt 43 1),Gg 7 (.new (Zi 14)),Gs 7 50 14,
 Gm 8 51] (Sr [Gm 53 1,Gg 54 (Nl 53),Gg 55 (Fa 54 0),Gg 56 (Ld 55),Gg 57 (.call 26 [(.t 56),(Ki 2136)]),Gm 52 57,Gg 58 (Xt 52 0),Gg 59 (Xt 52 1),
 Gg 9 (.new (Zi 14)),Gs 9 58 14,Gm 10 59] (Sr [Gm 60 1,Gg 61 (Nl 60),Gg 62 (Fa 61 0),Gg 63 (Ld 62),Gm 64 3,Gg 65 (.call 27 [(.t 63),(.t 64),(.k (.s (.np)))]),
 Gm 11 65] (Sr [Gm 66 1,Gg 67 (Nl 66),Gg 68 (Fa 67 0),Gg 69 (Ld 68),Gm 70 3,Gg 71 (Cb 41 69 70),Gm 12 71] (Sr [Gm 72 4,Gg 73 (Bk .eql 72 0),
 Gm 74 73,Gv 75 5 74 true,Gh 76 (Bk .eql 75 0) 74 true,Gg 77 (Pk 74 76),Gm 78 77,Gv 79 6 78 true,Gh 80 (Bk .eql 79 151) 78 true,Gg 81 (Pk 78 80),
 Gm 82 81,Gv 83 8 82 true,Gh 84 (Bk .eql 83 0) 82 true,Gg 85 (Pk 82 84),
 Gm 86 85,Gh 87 (Fa 7 0) 86 true,Gh 88 (Fa 87 3) 86 true,Gh 89 (Ld 88) 86 true,Gh 90 (Bk .eql 89 128) 86 true,Gg 91 (Pk 86 90),
 Gm 92 91,Gv 93 10 92 true,Gh 94 (Bk .eql 93 0) 92 true,Gg 95 (Pk 92 94),
 Gm 96 95,Gh 97 (Fa 9 0) 96 true,Gh 98 (Lm 97 11) 96 true,Gh 99 (.build (Zi 11) [(0,1,(Ki 3)),(1,1,(Ki 3648))]) 96 true,Gh 100 (.eqa false [true,true,true,true,true,true,true,true,true,true,true] (.t 98) (.t 99)) 96 true,
 Gg 101 (Pk 96 100),Gm 102 101,Gv 103 11 102 true,Gh 104 (Bk .eql 103 152) 102 true,Gg 105 (Pk 102 104),
 Gm 106 105,Gv 107 12 106 true,Gh 108 (Bk .eql 107 2136) 106 true,Gg 109 (Pk 106 108),Gm 0 109] .ret)))))))))))),[.t 0]⟩

theorem dc14:compF Tryz.prog Tryz.f14=some df14:=by kernel_rfl
theorem ok14:FnOk Tryz.prog 14:=⟨Tryz.f14,Tryz.func14,by kernel_rfl,by kernel_rfl⟩

def df15:DF:= ⟨84,Sr [Gg 4 (.box (.t 0)),Gg 8 (.mv (Ki 0)),Gg 9 (.mv (Ki 0))] (.seq (Sr [Gg 13 (Fa 4 0),Gg 14 (Ld 13),Gg 15 (Bk .neq 14 1),
 Gm 16 15,Gh 17 (Fa 4 1) 16 false,Gh 18 (Ld 17) 16 false,Gh 19 (Bk .lss 18 0) 16 false,Gg 20 (Pq 16 19),
 Gm 21 20,Gh 22 (Fa 4 1) 21 false,Gh 23 (Ld 22) 21 false,Gh 24 (Bk .gtr 23 65536) 21 false,Gg 25 (Pq 21 24),
 Gm 26 25,Gh 27 (Fa 4 3) 26 false,Gh 28 (Ld 27) 26 false,Gh 29 (Bk .lss 28 0) 26 false,Gg 30 (Pq 26 29),
 Gm 31 30,Gh 32 (Fa 4 3) 31 false,Gh 33 (Ld 32) 31 false,Gh 34 (Bk .gtr 33 65536) 31 false,Gg 35 (Pq 31 34),
 Gm 36 35,Gh 37 (Fa 4 2) 36 false,Gh 38 (Ld 37) 36 false,Gh 39 (Bk .lss 38 0) 36 false,Gg 40 (Pq 36 39),
 Gm 41 40,Gh 42 (Fa 4 2) 41 false,Gh 43 (Ld 42) 41 false,Gh 44 (Bk .gtr 43 16) 41 false,Gg 45 (Pq 41 44)] (Cn 45 (Sr [Gg 8 (.mv (Ki 0)),
 Gg 9 (.mv (Ki 60))] .ret) .skip)) (.seq (Sr [Gm 46 1,Gm 47 2,Gm 48 3,Gg 49 (Cc 60 46 47 48),Gm 10 49] (Sr [Gm 50 10,Gg 51 (Bk .neq 50 0)] (Cn 51 (Sr [Gm 52 10,
 Gg 8 (.mv (Ki 0)),Gm 9 52] .ret) .skip))) (Sr [Gm 54 1,Gm 55 2,Gg 56 (Cb 19 54 55),Gm 53 56,Gg 57 (Xt 53 0),Gg 58 (Xt 53 1),Gm 11 57,
 Gm 12 58] (Sr [Gg 59 (Fa 4 1),Gg 60 (Ld 59),Gg 61 (Fa 4 3),Gg 62 (Ld 61),Gg 63 (Bo .add 60 62),Gm 64 11,Gg 65 (Bo .add 63 64),Gg 66 (Bk .sub 65 1),Gm 67 11,
 Gg 68 (Bo .quo 66 67),Gm 69 11,Gg 70 (Bo .mul 68 69),Gm 8 70] (.seq (.seq (.drq [Gm 71 8,Gm 72 3,Gm 73 11,Gg 74 (Bo .mul 72 73),Gg 75 (Bo .add 71 74),
 Gg 76 (Fa 4 1),Gg 77 (Ld 76),Gg 78 (Fa 4 2),Gg 79 (Ld 78),Gg 80 (.bin .shl (Ki 1) (.t 79)),Gg 81 (Bo .add 77 80),
 Gg 82 (Bo .gtr 75 81)]) (Cn 82 (Sr [Gg 8 (.mv (Ki 0)),Gg 9 (.mv (Ki 151))] .ret) .skip)) (Sr [Gm 83 8,Gm 8 83,Gg 9 (.mv (Ki 0))] .ret)))))),[.t 8, .t 9]⟩

theorem dc15:compF Tryz.prog Tryz.f15=some df15:=by kernel_rfl
theorem ok15:FnOk Tryz.prog 15:=⟨Tryz.f15,Tryz.func15,by kernel_rfl,by kernel_rfl⟩

def df16:DF:= ⟨84,Sr [Gg 4 (.box (.t 0)),Gg 8 (.mv (Ki 0)),Gg 9 (.mv (Ki 0))] (.seq (Sr [Gg 14 (Fa 4 0),Gg 15 (Ld 14),Gg 16 (Bk .neq 15 1),
 Gm 17 16,Gh 18 (Fa 4 1) 17 false,Gh 19 (Ld 18) 17 false,Gh 20 (Bk .lss 19 0) 17 false,Gg 21 (Pq 17 20),
 Gm 22 21,Gh 23 (Fa 4 1) 22 false,Gh 24 (Ld 23) 22 false,Gh 25 (Bk .gtr 24 65536) 22 false,Gg 26 (Pq 22 25),
 Gm 27 26,Gh 28 (Fa 4 3) 27 false,Gh 29 (Ld 28) 27 false,Gh 30 (Bk .lss 29 0) 27 false,Gg 31 (Pq 27 30),
 Gm 32 31,Gh 33 (Fa 4 3) 32 false,Gh 34 (Ld 33) 32 false,Gh 35 (Bk .gtr 34 65536) 32 false,Gg 36 (Pq 32 35),
 Gm 37 36,Gh 38 (Fa 4 2) 37 false,Gh 39 (Ld 38) 37 false,Gh 40 (Bk .lss 39 0) 37 false,Gg 41 (Pq 37 40),
 Gm 42 41,Gh 43 (Fa 4 2) 42 false,Gh 44 (Ld 43) 42 false,Gh 45 (Bk .gtr 44 16) 42 false,Gg 46 (Pq 42 45)] (Cn 46 (Sr [Gg 8 (.mv (Ki 0)),
 Gg 9 (.mv (Ki 60))] .ret) .skip)) (Sr [Gm 47 1,Gm 48 2,Gm 49 3,Gg 50 (Cc 61 47 48 49),Gm 10 50] (.seq (Sr [Gm 51 10,Gg 52 (Bk .neq 51 0)] (Cn 52 (Sr [Gm 53 10,
 Gg 8 (.mv (Ki 0)),Gm 9 53] .ret) .skip)) (Sr [Gm 55 1,Gm 56 2,Gg 57 (Cb 62 55 56),Gm 54 57,Gg 58 (Xt 54 0),Gg 59 (Xt 54 1),Gm 11 58,
 Gm 12 59] (Sr [Gg 60 (Fa 4 1),Gg 61 (Ld 60),Gg 62 (Fa 4 3),Gg 63 (Ld 62),Gg 64 (Bo .add 61 63),Gm 13 64] (.seq (.block 0 (.loop (.seq (Sr [Gm 65 13,Gm 66 11,
 Gg 67 (Bo .rem 65 66),Gg 68 (Bk .neq 67 0)] (Cn 68 .skip (.exit 0))) (.block 1 (.reg [Gm 69 13,Gg 70 (Bk .add 69 1),Gm 13 70]))))) (.seq (.seq (.drq [Gm 71 13,
 Gm 72 3,Gm 73 11,Gg 74 (Bo .mul 72 73),Gg 75 (Bo .add 71 74),Gg 76 (Fa 4 1),Gg 77 (Ld 76),Gg 78 (Fa 4 2),Gg 79 (Ld 78),Gg 80 (.bin .shl (Ki 1) (.t 79)),
 Gg 81 (Bo .add 77 80),Gg 82 (Bo .gtr 75 81)]) (Cn 82 (Sr [Gg 8 (.mv (Ki 0)),Gg 9 (.mv (Ki 151))] .ret) .skip)) (Sr [Gm 83 13,Gm 8 83,
 Gg 9 (.mv (Ki 0))] .ret)))))))),[.t 8, .t 9]⟩

theorem dc16:compF Tryz.prog Tryz.f16=some df16:=by kernel_rfl
theorem ok16:FnOk Tryz.prog 16:=⟨Tryz.f16,Tryz.func16,by kernel_rfl,by kernel_rfl⟩

def df17:DF:= ⟨28,Sr [Gg 0 (.mv (.k (.s (.np))))] (Sr [Gg 5 (.call 63 []),Gm 1 5] (Sr [Gg 7 (.call 49 [(Ki 13)]),Gm 6 7,Gg 8 (Xt 6 0),Gg 9 (Xt 6 1),Gm 2 8,
 Gm 3 9] (.seq (Sr [Gm 10 3,Gg 11 (Bk .neq 10 0),Gm 12 11,Gv 13 2 12 false,Gh 14 (.eqn false false (.t 13)) 12 false,
 Gg 15 (Pq 12 14)] (Cn 15 (Sr [Gg 0 (.mv (.k (.s (.np))))] .ret) .skip)) (Sr [Gm 16 2,Gm 17 1,Gg 18 (Nl 17),Gg 19 (Fa 18 0),Gg 20 (Ld 19),
 Gg 21 (.call 64 [(.t 16),(Ki 0),(.t 20)]),Gm 4 21] (.seq (Sr [Gm 22 4,
 Gg 23 (Bk .neq 22 0)] (Cn 23 (Sr [Gg 0 (.mv (.k (.s (.np))))] .ret) .skip)) (Sr [Gm 24 2,Gm 25 1,Gg 26 (.build [.np, .np] [(0,1,(.t 24)),(1,1,(.t 25))]),
 Gg 27 (.box (.t 26)),Gm 0 27] .ret)))))),[.t 0]⟩

theorem dc17:compF Tryz.prog Tryz.f17=some df17:=by kernel_rfl
theorem ok17:FnOk Tryz.prog 17:=⟨Tryz.f17,Tryz.func17,by kernel_rfl,by kernel_rfl⟩

def df18:DF:= ⟨13,Sr [Gg 4 (.mv (Ki 0))] (.seq (Sr [Gm 5 0,Gg 6 (Bk .lss 5 0)] (Cn 6 (.reg [Gm 7 0,Gg 8 (Bk .add 7 1),Gg 9 (.un .neg (.t 8)),Gm 0 9]) .skip)) (Sr [Gm 10 0,
 Gm 11 1,Gg 12 (Bo .rem 10 11),Gm 4 12] .ret)),[.t 4]⟩

theorem dc18:compF Tryz.prog Tryz.f18=some df18:=by kernel_rfl
theorem ok18:FnOk Tryz.prog 18:=⟨Tryz.f18,Tryz.func18,by kernel_rfl,by kernel_rfl⟩

def df19:DF:= ⟨46,Sr [Gg 4 (.mv (Ki 0)),Gg 5 (.mv (Ki 0))] (.seq (.block 0 (Sr [Gm 7 0,Gg 8 (Bk .eql 7 1),Gm 9 8,Gv 10 1 9 true,Gh 11 (Bk .geq 10 4) 9 true,
 Gg 12 (Pk 9 11),Gm 13 12,Gv 14 1 13 true,Gh 15 (Bk .leq 14 15) 13 true,Gg 16 (Pk 13 15),Gm 6 16] (Cn 6 (Sr [Gm 17 1,Gg 18 (.bin .shl (Ki 1) (.t 17)),Gm 4 18,
 Gg 5 (.mv (Ki 0))] .ret) (Sr [Gm 20 0,Gg 21 (Bk .eql 20 2),Gm 22 21,Gv 23 1 22 true,Gh 24 (Bk .geq 23 1) 22 true,Gg 25 (Pk 22 24),
 Gm 26 25,Gv 27 1 26 true,Gh 28 (Bk .leq 27 8) 26 true,Gg 29 (Pk 26 28),Gm 19 29] (Cn 19 (Sr [Gm 30 1,Gg 31 (.bin .shl (Ki 4) (.t 30)),Gm 4 31,
 Gg 5 (.mv (Ki 0))] .ret) (Sr [Gm 33 0,Gg 34 (Bk .geq 33 3),Gm 35 34,Gv 36 0 35 true,Gh 37 (Bk .leq 36 8) 35 true,Gg 38 (Pk 35 37),
 Gm 39 38,Gv 40 1 39 true,Gh 41 (Bk .eql 40 0) 39 true,Gg 42 (Pk 39 41),Gm 32 42] (Cn 32 (Sr [Gg 43 (.call 65 []),Gm 44 0,Gg 45 (.ix 9 1 none (.t 43) (.t 44)),
 Gm 4 45,Gg 5 (.mv (Ki 0))] .ret) .skip))))))) (Sr [Gg 4 (.mv (Ki 0)),Gg 5 (.mv (Ki 90))] .ret)),[.t 4, .t 5]⟩

theorem dc19:compF Tryz.prog Tryz.f19=some df19:=by kernel_rfl
theorem ok19:FnOk Tryz.prog 19:=⟨Tryz.f19,Tryz.func19,by kernel_rfl,by kernel_rfl⟩

def df20:DF:= ⟨9,Sr [Gg 4 (.new (Zi 11))] (Sr [Gm 5 0,Gm 6 1,Gg 7 (Bk .add 6 0),Gg 8 (Cb 66 5 7),Gs 4 8 11] .ret),[.c 4 (some 11)]⟩

theorem dc20:compF Tryz.prog Tryz.f20=some df20:=by kernel_rfl
theorem ok20:FnOk Tryz.prog 20:=⟨Tryz.f20,Tryz.func20,by kernel_rfl,by kernel_rfl⟩

def df21:DF:= ⟨134,Sr [Gg 12 (.box (.t 4)),Gg 16 (.mv (Ki 0))] (Sr [Gm 27 0,Gm 28 1,Gg 29 (Cb 67 27 28),Gg 17 (.new (Zi 11)),Gs 17 29 11] (.seq (Sr [Gm 30 0,
 Gg 31 (Lm 17 11),Gm 32 2,Gm 33 3,Gg 34 (Lm 12 11),Gm 35 5,Gm 36 6,Gg 37 (.call 68 [(.t 30),(.t 31),(.t 32),(.t 33),(.t 34),(.t 35),(.t 36)]),
 Gm 18 37] (Sr [Gm 38 18,Gg 39 (Bk .neq 38 0)] (Cn 39 (Sr [Gm 40 18,Gm 16 40] .ret) .skip))) (.seq (Sr [Gm 41 0,Gm 42 1,Gg 43 (Cb 41 41 42),
 Gg 44 (Bk .eql 43 0)] (Cn 44 (.seq (Sr [Gm 45 0,Gm 46 1,Gm 47 7,Gg 48 (Cc 27 45 46 47),Gm 19 48] (Sr [Gm 49 19,Gg 50 (Bk .neq 49 0)] (Cn 50 (Sr [Gm 51 19,
 Gm 16 51] .ret) .skip))) (.reg [Gm 52 0,Gm 53 1,Gg 54 (Cb 67 52 53),Gs 17 54 11])) .skip)) (Sr [Gg 56 (Lm 17 11),Gm 57 2,Gm 58 3,Gm 59 6,
 Gg 60 (Cd 15 56 57 58 59),Gm 55 60,Gg 61 (Xt 55 0),Gg 62 (Xt 55 1),Gm 20 61,Gm 21 62] (.seq (Sr [Gm 63 21,Gg 64 (Bk .neq 63 0)] (Cn 64 (Sr [Gm 65 21,
 Gm 16 65] .ret) .skip)) (Sr [Gm 67 2,Gm 68 3,Gg 69 (Cb 19 67 68),Gm 66 69,Gg 70 (Xt 66 0),Gg 71 (Xt 66 1),Gm 22 70,Gm 23 71] (.seq (Sr [Gm 72 6,
 Gg 73 (.mv (Ki 0))] (.block 0 (.loop (Sr [Gg 74 (Bo .lss 73 72)] (.seq (Cn 74 .skip (.exit 0)) (.seq (.block 1 (Sr [Gm 75 73,
 Gm 24 75] (.seq (.drx (.tk true (Gm 76 2) (.tk true (Gm 77 3) (.tk true (Gm 78 20) (.tk true (Gm 79 24) (.tk true (Gm 80 22) (.tk true (Gg 81 (Bo .mul 79 80)) (.tk true (Gg 82 (Bo .add 78 81)) (.tk true (Gm 85 5) (.tk true (Gm 86 24) (.tk true (Gg 87 (Bo .add 85 86)) (.both (.tk false (Gg 83 (Cc 70 76 77 82)) (.tk true (Gg 84 (Lm 12 11)) (.tk false (Gg 88 (Cb 30 84 87)) (.tk false (Gg 89 (Cb 69 83 88)) (.tk true (Gg 90 (.un .not (.t 89))) .done))))) (.tk true (Gg 84 (Lm 12 11)) (.tk false (Gg 83 (Cc 70 76 77 82)) (.tk false (Gg 88 (Cb 30 84 87)) (.tk false (Gg 89 (Cb 69 83 88)) (.tk true (Gg 90 (.un .not (.t 89))) .done))))))))))))))))) (Cn 90 (Sr [Gg 16 (.mv (Ki 122))] .ret) .skip)))) (.reg [Gg 91 (Bk .add 73 1),
 Gm 73 91]))))))) (Sr [Gm 92 20,Gm 93 6,Gm 94 22,Gg 95 (Bo .mul 93 94),Gg 96 (Bo .add 92 95),Gg 97 (Fa 17 1),Gg 98 (Ld 97),Gg 99 (Bo .sub 96 98),
 Gg 100 (Fa 17 3),Gs 100 99 1] (Sr [Gm 101 0,Gm 102 1,Gg 103 (Lm 17 11),Gg 104 (Cc 71 101 102 103)] (.seq (Sr [Gm 105 6,
 Gg 106 (.mv (Ki 0))] (.block 2 (.loop (Sr [Gg 107 (Bo .lss 106 105)] (.seq (Cn 107 .skip (.exit 2)) (.seq (.block 3 (Sr [Gm 108 106,Gm 25 108] (Sr [Gm 109 2,
 Gm 110 3,Gm 111 20,Gm 112 25,Gm 113 22,Gg 114 (Bo .mul 112 113),Gg 115 (Bo .add 111 114),Gg 116 (Cc 70 109 110 115),
 Gg 26 (.new (Zi 11)),Gs 26 116 11] (.seq (Sr [Gm 117 2,Gg 118 (Bk .eql 117 3)] (Cn 118 (.reg [Gm 119 0,Gg 120 (Fa 26 1),Gg 121 (Ld 120),
 Gg 122 (.build [.i .i64 0, .i .i64 0, .i .i64 0, .b false, .i .i64 0, .i .i64 0, .i .i64 0, .i .i64 0, .b false, .b false, .i .i64 0, .i .i64 0, .i .i64 0, .i .i64 0, .i .u64 0, .i .u64 0, .i .u64 0, .i .u64 0, .i .u64 0, .i .u64 0, .i .u64 0, .i .u64 0, .i .u64 0, .i .u64 0, .i .u64 0, .i .u64 0, .i .u64 0, .i .u64 0, .i .u64 0, .i .u64 0] [(2,1,(Ki 5))]),
 Gg 123 (Cc 72 119 121 122)]) .skip)) (.drx (.tk true (Gm 124 0) (.tk true (Gm 125 1) (.tk true (Gm 127 5) (.tk true (Gm 128 25) (.tk true (Gg 129 (Bo .add 127 128)) (.tk true (Gg 126 (Lm 12 11)) (.both (.tk false (Gg 130 (Cb 30 126 129)) (.tk true (Gg 131 (Lm 26 11)) (.tk false (Gg 132 (Cd 73 124 125 130 131)) .done))) (.tk true (Gg 131 (Lm 26 11)) (.tk false (Gg 130 (Cb 30 126 129)) (.tk false (Gg 132 (Cd 73 124 125 130 131)) .done))))))))))))))) (.reg [Gg 133 (Bk .add 106 1),
 Gm 106 133]))))))) (Sr [Gg 16 (.mv (Ki 0))] .ret))))))))))),[.t 16]⟩

theorem dc21:compF Tryz.prog Tryz.f21=some df21:=by kernel_rfl
theorem ok21:FnOk Tryz.prog 21:=⟨Tryz.f21,Tryz.func21,by kernel_rfl,by kernel_rfl⟩

def df22:DF:= ⟨15,Sr [Gg 2 (.mv (Ki 0))] (.seq (Sr [Gm 3 0,Gg 4 (Bk .eql 3 0),Gm 5 4,Gv 6 0 5 false,Gh 7 (Bk .eql 6 1) 5 false,Gg 8 (Pq 5 7)] (Cn 8 (Sr [Gm 9 0,
 Gg 10 (.bin .add (Ki 15) (.t 9)),Gg 11 (.bin .mul (Ki 4) (.t 10)),Gg 12 (.bin .add (Ki 2048) (.t 11)),Gm 2 12] .ret) .skip)) (Sr [Gm 13 0,Gg 14 (Ca 39 13),
 Gm 2 14] .ret)),[.t 2]⟩

theorem dc22:compF Tryz.prog Tryz.f22=some df22:=by kernel_rfl
theorem ok22:FnOk Tryz.prog 22:=⟨Tryz.f22,Tryz.func22,by kernel_rfl,by kernel_rfl⟩

def df23:DF:= ⟨74,Sr [Gg 4 (.mv (Ki 0))] (Sr [Gm 12 0,Gm 13 1,Gg 14 (Cb 74 12 13),Gm 11 14,Gg 15 (Xt 11 0),Gg 16 (Xt 11 1),Gg 5 (.new (Zi 14)),Gs 5 15 14,
 Gm 6 16] (.seq (Sr [Gm 17 6,Gg 18 (Bk .neq 17 0)] (Cn 18 (Sr [Gm 19 6,Gm 4 19] .ret) .skip)) (Sr [Gm 21 0,Gm 22 1,Gg 23 (Cb 47 21 22),Gm 20 23,Gg 24 (Xt 20 0),
 Gg 25 (Xt 20 1),Gm 7 24,Gm 6 25] (.seq (Sr [Gm 26 6,Gg 27 (Bk .neq 26 0)] (Cn 27 (Sr [Gm 28 6,Gm 4 28] .ret) .skip)) (Sr [Gm 29 0,Gm 30 1,Gg 31 (Lm 5 14),
 Gg 32 (Cc 75 29 30 31),Gm 8 32] (.seq (Sr [Gm 33 7,Gg 34 (.len (.t 33)),Gg 35 (Bk .gtr 34 0)] (Cn 35 (Sr [Gm 36 0,Gm 37 7,Gg 38 (.ia none 1 (.t 37) (Ki 0)),
 Gg 39 (Ld 38),Gg 40 (.call 76 [(.t 36),(.t 39),(.k (.s (.fn 77 [])))])] (Sr [Gm 41 7,Gg 42 (.slc none 1 (.t 41) (some (Ki 1)) none),Gg 43 (.len (.t 42)),
 Gg 44 (.mv (Ki 0))] (.block 0 (.loop (Sr [Gg 45 (Bo .lss 44 43)] (.seq (Cn 45 .skip (.exit 0)) (.seq (.block 1 (Sr [Gg 46 (.ia none 1 (.t 42) (.t 44)),
 Gg 47 (Ld 46),Gm 10 47] (.reg [Gm 48 0,Gm 49 10,Gg 50 (.call 76 [(.t 48),(.t 49),(.k (.s (.fn 78 [])))])]))) (.reg [Gg 51 (Bk .add 44 1),
 Gm 44 51])))))))) .skip)) (Sr [Gm 52 0,Gm 53 1,Gg 54 (.build (Zi 14) []),Gg 55 (Cc 79 52 53 54)] (.seq (Sr [Gm 56 8] (Cn 56 (.seq (Sr [Gg 57 (Fa 5 11),
 Gg 58 (Ld 57),Gg 59 (Bk .eql 58 0)] (Cn 59 (.reg [Gm 60 0,Gg 61 (Fa 5 12),Gg 62 (Ld 61),Gg 63 (Cb 80 60 62)]) .skip)) (Sr [Gm 64 0,Gg 65 (Fa 5 11),
 Gg 66 (Ld 65),Gg 67 (.mkf 81 [(.t 5)]),Gg 68 (Cc 76 64 66 67)] (.reg [Gm 69 0,Gg 70 (Fa 5 12),Gg 71 (Ld 70),Gg 72 (.mkf 82 [(.t 5)]),
 Gg 73 (Cc 76 69 71 72)]))) .skip)) (Sr [Gg 4 (.mv (Ki 0))] .ret))))))))),[.t 4]⟩

theorem dc23:compF Tryz.prog Tryz.f23=some df23:=by kernel_rfl
theorem ok23:FnOk Tryz.prog 23:=⟨Tryz.f23,Tryz.func23,by kernel_rfl,by kernel_rfl⟩

def df24:DF:= ⟨147,Sr [Gg 3 (.box (.t 1)),Gg 4 (.mv Yf)] (Sr [Gg 18 (Fa 3 1),Gg 19 (Ld 18),Gg 20 (Ca 22 19),Gm 5 20] (Sr [Gg 21 (Fa 3 7),Gg 22 (Ld 21),
 Gg 6 (.new [.i .i64 0]),Gs 6 22 1] (Sr [Gg 23 (Fa 3 7),Gg 24 (Ld 23),Gg 25 (.mx true (Ki 0) (.t 24)),Gg 26 (.build [.i .i64 0] [(0,1,(.t 25))]),
 Gg 27 (.box (.t 26)),Gm 7 27] (.seq (Sr [Gg 28 (Fa 3 0),Gg 29 (Ld 28)] (.block 0 (Sr [Gg 31 (Bk .eql 29 1),Gm 30 31] (Cn 30 (Sr [Gm 32 0,Gg 33 (Fa 3 4),
 Gg 34 (Ld 33),Gg 35 (Cb 29 32 34),Gg 8 (.new (Zi 11)),Gs 8 35 11] (.seq (.drt 14 [Gm 36 0,Gg 37 (Nl 36),Gg 38 (Fa 37 0),Gg 39 (Ld 38),Gm 40 5,Gg 41 (Fa 3 2),
 Gg 42 (Ld 41),Gg 43 (Fa 3 3),Gg 44 (Ld 43),Gg 45 (Lm 8 11),Gg 46 (Fa 3 5),Gg 47 (Ld 46),Gg 48 (Fa 3 6),Gg 49 (Ld 48),
 Gg 50 (.call 21 [(.t 39),(.t 40),(.t 42),(.t 44),(.t 45),(.t 47),(.t 49),(.t 6)]),Gm 9 50]) (.seq (.drt 15 [Gm 51 0,Gg 52 (Nl 51),Gg 53 (Fa 52 1),
 Gg 54 (Ld 53),Gm 55 5,Gg 56 (Fa 3 2),Gg 57 (Ld 56),Gg 58 (Fa 3 3),Gg 59 (Ld 58),Gg 60 (Lm 8 11),Gg 61 (Fa 3 5),Gg 62 (Ld 61),Gg 63 (Fa 3 6),Gg 64 (Ld 63),
 Gm 65 7,Gg 66 (.call 83 [(.t 54),(.t 55),(.t 57),(.t 59),(.t 60),(.t 62),(.t 64),(.t 65)]),Gm 10 66]) (.seq (.drq [Gm 67 9,Gm 68 10,
 Gg 69 (Bo .eql 67 68),
 Gm 70 69,Gh 71 (Ld 6) 70 true,Gh 72 (.mx true (Ki 0) (.t 71)) 70 true,Gv 73 7 70 true,Gh 74 (Nl 73) 70 true,Gh 75 (Fa 74 0) 70 true,Gh 76 (Ld 75) 70 true,Gh 77 (Bo .eql 72 76) 70 true,
 Gg 78 (Pk 70 77),Gm 4 78]) .ret)))) (Sr [Gg 80 (Bk .eql 29 2),Gm 79 80] (Cn 79 (Sr [Gm 81 0,Gg 82 (Nl 81),Gg 83 (Fa 82 0),Gg 84 (Ld 83),Gm 85 5,
 Gg 86 (Cc 27 84 85 6),Gm 11 86] (Sr [Gm 87 0,Gg 88 (Nl 87),Gg 89 (Fa 88 1),Gg 90 (Ld 89),Gm 91 5,Gm 92 7,Gg 93 (Cc 84 90 91 92),Gm 12 93] (.seq (.drq [Gm 94 11,
 Gm 95 12,Gg 96 (Bo .eql 94 95),
 Gm 97 96,Gh 98 (Ld 6) 97 true,Gh 99 (.mx true (Ki 0) (.t 98)) 97 true,Gv 100 7 97 true,Gh 101 (Nl 100) 97 true,Gh 102 (Fa 101 0) 97 true,Gh 103 (Ld 102) 97 true,Gh 104 (Bo .eql 99 103) 97 true,
 Gg 105 (Pk 97 104),Gm 4 105]) .ret))) .skip)))))) (Sr [Gg 106 (Fa 3 1),Gg 107 (Ld 106),Gg 108 (Ca 39 107),Gm 13 108] (Sr [Gm 109 0,Gg 110 (Nl 109),
 Gg 111 (Fa 110 1),Gg 112 (Ld 111),Gm 113 13,Gg 114 (Cb 66 112 113),Gg 14 (.new (Zi 11)),Gs 14 114 11] (Sr [Gm 115 0,Gg 116 (Nl 115),Gg 117 (Fa 116 1),
 Gg 118 (Ld 117),Gm 119 13,Gg 120 (Cb 32 118 119),Gm 15 120] (.seq (Sr [Gm 121 15,Gg 122 (Bk .neq 121 0),
 Gm 123 122,Gh 124 (Fa 14 0) 123 false,Gh 125 (Ld 124) 123 false,Gh 126 (Bk .eql 125 2) 123 false,Gv 127 126 123 false,Gv 128 13 127 true,Gh 129 (Bk .lss 128 2060) 127 true,Gh 130 (Pk 127 129) 123 false,
 Gg 131 (Pq 123 130)] (Cn 131 (Sr [Gg 4 (.mv Yt)] .ret) .skip)) (Sr [Gm 132 0,Gg 133 (Nl 132),Gg 134 (Fa 133 0),Gg 135 (Ld 134),Gm 136 13,Gg 137 (Cb 23 135 136),
 Gm 16 137] (Sr [Gm 138 0,Gg 139 (Nl 138),Gg 140 (Fa 139 1),Gg 141 (Ld 140),Gm 142 13,Gg 143 (Cb 57 141 142),Gm 17 143] (Sr [Gm 144 16,Gm 145 17,
 Gg 146 (Bo .eql 144 145),Gm 4 146] .ret))))))))))),[.t 4]⟩

theorem dc24:compF Tryz.prog Tryz.f24=some df24:=by kernel_rfl
theorem ok24:FnOk Tryz.prog 24:=⟨Tryz.f24,Tryz.func24,by kernel_rfl,by kernel_rfl⟩

def df26:DF:= ⟨78,Sr [Gg 4 (.new (Zi 14)),Gg 5 (.mv (Ki 0))] (.seq (Sr [Gm 13 0,Gm 14 1,Gg 15 (Cb 85 13 14),
 Gg 16 (.un .not (.t 15))] (Cn 16 (Sr [Gg 17 (.build (Zi 14) []),Gs 4 17 14,
 Gg 5 (.mv (Ki 20))] .ret) .skip)) (Sr [Gg 6 (.new [.i .u64 0, .i .u64 0, .i .u64 0, .i .u64 0])] (.seq (Sr [Gg 18 (.mv (Ki 0))] (.block 0 (.loop (Sr [Gg 19 (Bk .lss 18 4)] (.seq (Cn 19 .skip (.exit 0)) (.seq (.block 1 (Sr [Gm 20 18,
 Gm 7 20] (.reg [Gm 22 7,Gm 23 0,Gm 24 1,Gm 25 7,Gg 26 (Bo .add 24 25),Gg 27 (Cb 86 23 26),Gm 21 27,Gg 28 (Xt 21 0),Gg 29 (Xt 21 1),
 Gg 30 (.ia (some 4) 1 (.t 6) (.t 22)),Gs 30 28 1]))) (.reg [Gg 31 (Bk .add 18 1),Gm 18 31]))))))) (Sr [Gg 33 (.ia (some 4) 1 (.t 6) (Ki 0)),Gg 34 (Ld 33),
 Gg 35 (.ia (some 4) 1 (.t 6) (Ki 1)),Gg 36 (Ld 35),Gg 37 (Cb 87 34 36),Gm 32 37,Gg 38 (Xt 32 0),Gg 39 (Xt 32 1),Gg 8 (.new (Zi 11)),Gs 8 38 11,
 Gm 9 39] (Sr [Gg 41 (.ia (some 4) 1 (.t 6) (Ki 2)),Gg 42 (Ld 41),
 Gg 43 (.bsl 3 [.i .i64 0, .i .i64 0, .i .i64 0] [(0,1,(Ki 16)),(1,1,(Ki 16)),(2,1,(Ki 16))]),Gg 44 (Cb 88 42 43),Gm 40 44,Gg 45 (Xt 40 0),
 Gg 46 (Xt 40 1),Gm 10 45,Gm 11 46] (.seq (Sr [Gm 47 9,Gg 48 (Bk .neq 47 0),Gm 49 48,Gv 50 11 49 false,Gh 51 (Bk .neq 50 0) 49 false,Gg 52 (Pq 49 51),
 Gm 53 52,Gh 54 (.ia (some 4) 1 (.t 6) (Ki 3)) 53 false,Gh 55 (Ld 54) 53 false,Gh 56 (.bin .neq (.t 55) (.k (.s (.i .u64 0)))) 53 false,
 Gg 57 (Pq 53 56)] (Cn 57 (Sr [Gg 58 (.build (Zi 14) []),Gs 4 58 14,
 Gg 5 (.mv (Ki 110))] .ret) .skip)) (.seq (.drm [(true,Gg 59 (Lm 8 11)),(true,Gm 60 10),(true,Gg 61 (.ia none 1 (.t 60) (Ki 0))),(true,Gg 62 (Ld 61)),(true,Gg 63 (.conv .i64 (.t 62))),(true,Gm 64 10),(true,Gg 65 (.ia none 1 (.t 64) (Ki 1))),(true,Gg 66 (Ld 65)),(true,Gg 67 (.conv .i64 (.t 66))),(true,Gm 68 10),(true,Gg 69 (.ia none 1 (.t 68) (Ki 2))),(true,Gg 70 (Ld 69)),(true,Gg 71 (.conv .i64 (.t 70))),(true,Gg 72 (.build (Zi 14) [(0,11,(.t 59)),(11,1,(.t 63)),(12,1,(.t 67)),(13,1,(.t 71))])),(false,Gg 12 (.new (Zi 14))),(false,Gs 12 72 14)]) (.seq (Sr [Gg 73 (Lm 12 14),
 Gg 74 (Ca 89 73),Gg 75 (.un .not (.t 74))] (Cn 75 (Sr [Gg 76 (.build (Zi 14) []),Gs 4 76 14,Gg 5 (.mv (Ki 110))] .ret) .skip)) (Sr [Gg 77 (Lm 12 14),Gs 4 77 14,
 Gg 5 (.mv (Ki 0))] .ret))))))))),[.c 4 (some 14), .t 5]⟩

theorem dc26:compF Tryz.prog Tryz.f26=some df26:=by kernel_rfl
theorem ok26:FnOk Tryz.prog 26:=⟨Tryz.f26,Tryz.func26,by kernel_rfl,by kernel_rfl⟩

def df27:DF:= ⟨44,Sr [Gg 3 (.box (.t 0)),Gg 4 (.box (.t 1)),Gg 5 (.box (.t 2)),Gg 6 (.new [.i .i64 0])] (Sr [Gg 9 (Ld 3),Gg 10 (Ld 4),Gg 11 (Cb 67 9 10),
 Gg 7 (.new (Zi 11)),Gs 7 11 11] (.seq (.block 0 (Sr [Gg 13 (Fa 7 0),Gg 14 (Ld 13),Gg 15 (Bk .neq 14 1),
 Gm 12 15] (Cn 12 (Sr [⟨none, .st (.t 6) (Ki 60) 1,none⟩] .ret) (Sr [Gg 17 (Ld 3),Gg 18 (Ld 4),Gg 19 (Cb 41 17 18),Gg 20 (Bk .neq 19 0),
 Gm 16 20] (Cn 16 (Sr [⟨none, .st (.t 6) (Ki 152) 1,none⟩] .ret) .skip))))) (.seq (Sr [Gg 21 (Fa 7 3),Gg 22 (Ld 21),
 Gg 23 (Ca 90 22)] (.block 1 (.rf (.t 23) [24] (.reg [Gm 8 24]) (.block 2 (.seq (Sr [Gg 25 (Ld 5),Gg 26 (Ca 91 25),
 Gg 27 (.un .not (.t 26))] (Cn 27 (Sr [⟨none, .st (.t 6) (Ki 3) 1,none⟩] .ret) .skip)) (Sr [Gg 28 (Ld 3),Gg 29 (Fa 7 1),Gg 30 (Ld 29),Gm 31 8,
 Gg 32 (Bo .add 30 31),Gg 33 (Fa 7 3),Gg 34 (Ld 33),Gm 35 8,Gg 36 (Bo .sub 34 35),Gg 37 (Cc 92 28 32 36)] (Sr [Gm 38 8,
 Gg 39 (Fa 7 3),Gs 39 38 1] (.reg [Gg 40 (Ld 3),Gg 41 (Ld 4),Gg 42 (Lm 7 11),
 Gg 43 (Cc 71 40 41 42)])))))))) (Sr [⟨none, .st (.t 6) (Ki 0) 1,none⟩] .ret)))),[.c 6 none]⟩

theorem dc27:compF Tryz.prog Tryz.f27=some df27:=by kernel_rfl
theorem ok27:FnOk Tryz.prog 27:=⟨Tryz.f27,Tryz.func27,by kernel_rfl,by kernel_rfl⟩

def df29:DF:= ⟨23,Sr [Gg 4 (.new (Zi 11))] (Sr [Gm 6 1,Gg 7 (.call 18 [(.t 6),(Ki 3)]),Gm 5 7] (.seq (Sr [Gm 8 5,Gg 9 (Bk .eql 8 0)] (Cn 9 (Sr [Gm 10 0,Gg 11 (Nl 10),
 Gg 12 (Fa 11 1),Gg 13 (Ld 12),Gg 14 (.call 20 [(.t 13),(Ki 1024)]),Gs 4 14 11] .ret) .skip)) (Sr [Gm 15 0,Gg 16 (Nl 15),Gg 17 (Fa 16 1),Gg 18 (Ld 17),Gm 19 5,
 Gg 20 (.bin .mul (Ki 4) (.t 19)),Gg 21 (.bin .add (Ki 2048) (.t 20)),Gg 22 (Cb 66 18 21),Gs 4 22 11] .ret))),[.c 4 (some 11)]⟩

theorem dc29:compF Tryz.prog Tryz.f29=some df29:=by kernel_rfl
theorem ok29:FnOk Tryz.prog 29:=⟨Tryz.f29,Tryz.func29,by kernel_rfl,by kernel_rfl⟩

def df30:DF:= ⟨45,Sr [Gg 2 (.box (.t 0)),Gg 4 (.mv (Ki 0))] (Sr [Gg 5 (.mv (Ki 0))] (.seq (.block 0 (Sr [Gg 7 (Lm 2 11),Gg 8 (Ca 95 7),Gg 9 (.un .not (.t 8)),
 Gm 6 9] (Cn 6 .skip (Sr [Gg 11 (Fa 2 0),Gg 12 (Ld 11),Gg 13 (Bk .eql 12 3),
 Gm 14 13,Gh 15 (Fa 2 0) 14 false,Gh 16 (Ld 15) 14 false,Gh 17 (Bk .eql 16 10) 14 false,Gv 18 17 14 false,Gh 19 (Fa 2 2) 18 true,Gh 20 (Ld 19) 18 true,Gh 21 (Bk .eql 20 31) 18 true,Gh 22 (Pk 18 21) 14 false,
 Gg 23 (Pq 14 22),Gm 10 23] (Cn 10 (.reg [Gg 5 (.mv (Ki 3))]) (Sr [Gg 25 (Fa 2 0),Gg 26 (Ld 25),Gg 27 (Bk .eql 26 2),
 Gm 28 27,Gh 29 (Fa 2 0) 28 false,Gh 30 (Ld 29) 28 false,Gh 31 (Bk .eql 30 10) 28 false,Gg 32 (Pq 28 31),Gm 24 32] (Cn 24 (.reg [Gg 33 (Fa 2 2),Gg 34 (Ld 33),
 Gg 35 (.bin .shl (Ki 1) (.t 34)),Gm 5 35]) .skip))))))) (.seq (Sr [Gm 36 1,Gm 37 5,Gg 38 (Cb 96 36 37),
 Gg 39 (.un .not (.t 38))] (Cn 39 (Sr [Gg 4 (.mv (Ki 0))] .ret) .skip)) (Sr [Gg 40 (Fa 2 1),Gg 41 (Ld 40),Gm 42 1,Gg 43 (.bin .mul (Ki 4) (.t 42)),
 Gg 44 (Bo .add 41 43),Gm 4 44] .ret)))),[.t 4]⟩

theorem dc30:compF Tryz.prog Tryz.f30=some df30:=by kernel_rfl
theorem ok30:FnOk Tryz.prog 30:=⟨Tryz.f30,Tryz.func30,by kernel_rfl,by kernel_rfl⟩

def df31:DF:= ⟨18,Sr [Gg 6 (.mv Yf)] (Sr [Gm 10 0,Gm 11 1,Gg 12 (Cb 47 10 11),Gm 9 12,Gg 13 (Xt 9 0),Gg 14 (Xt 9 1),Gm 7 13,Gm 8 14] (Sr [Gm 15 7,Gm 16 2,
 Gg 17 (Cb 97 15 16),Gm 6 17] .ret)),[.t 6]⟩

theorem dc31:compF Tryz.prog Tryz.f31=some df31:=by kernel_rfl
theorem ok31:FnOk Tryz.prog 31:=⟨Tryz.f31,Tryz.func31,by kernel_rfl,by kernel_rfl⟩

def df32:DF:= ⟨39,Sr [Gg 4 (.mv (Ki 0))] (Sr [Gm 9 0,Gm 10 1,Gg 11 (Cb 98 9 10),Gm 8 11,Gg 12 (Xt 8 0),Gg 13 (Xt 8 1),Gg 5 (.new (Zi 14)),Gs 5 12 14,
 Gm 6 13] (.seq (Sr [Gm 14 6,Gg 15 (Bk .neq 14 0),Gm 16 15,Gh 17 (Fa 5 12) 16 false,Gh 18 (Ld 17) 16 false,Gh 19 (Bk .eql 18 0) 16 false,
 Gg 20 (Pq 16 19)] (Cn 20 (Sr [Gg 4 (.mv (Ki 0))] .ret) .skip)) (Sr [Gm 22 0,Gg 23 (Fa 5 12),Gg 24 (Ld 23),Gg 25 (Cb 98 22 24),Gm 21 25,Gg 26 (Xt 21 0),
 Gg 27 (Xt 21 1),Gg 7 (.new (Zi 14)),Gs 7 26 14,Gm 6 27] (.seq (Sr [Gm 28 6,Gg 29 (Bk .neq 28 0),
 Gm 30 29,Gh 31 (Fa 7 13) 30 false,Gh 32 (Ld 31) 30 false,Gh 33 (Fa 5 13) 30 false,Gh 34 (Ld 33) 30 false,Gh 35 (Bo .leq 32 34) 30 false,
 Gg 36 (Pq 30 35)] (Cn 36 (Sr [Gg 4 (.mv (Ki 0))] .ret) .skip)) (Sr [Gg 37 (Fa 5 12),Gg 38 (Ld 37),Gm 4 38] .ret))))),[.t 4]⟩

theorem dc32:compF Tryz.prog Tryz.f32=some df32:=by kernel_rfl
theorem ok32:FnOk Tryz.prog 32:=⟨Tryz.f32,Tryz.func32,by kernel_rfl,by kernel_rfl⟩

def df33:DF:= ⟨19,Sr [Gg 2 (.new [.ns]),Gg 3 (.new [.i .i64 0])] (Sr [Gg 4 (.new [.ns])] (.seq (Sr [Gm 6 0,Gm 7 0,Gg 8 (Ca 100 7),
 Gg 9 (Cb 99 6 8)] (.block 0 (.rf (.t 9) [10,11] (.reg [Gm 5 10]) (.block 1 (.seq (Sr [Gm 12 5,
 Gg 13 (Bk .eql 12 0)] (Cn 13 (Sr [⟨none, .st (.t 2) (.k (.s (.ns))) 1,none⟩,⟨none, .st (.t 3) (Ki 110) 1,none⟩] .ret) .skip)) (.reg [Gg 14 (Ld 4),Gm 15 5,
 Gg 16 (.bsl 1 [.i .i64 0] [(0,1,(.t 15))]),Gg 17 (.app 1 8 (.t 14) (.t 16)),Gs 4 17 1])))))) (Sr [Gg 18 (Ld 4),Gs 2 18 1,
 ⟨none, .st (.t 3) (Ki 0) 1,none⟩] .ret))),[.c 2 none, .c 3 none]⟩

theorem dc33:compF Tryz.prog Tryz.f33=some df33:=by kernel_rfl
theorem ok33:FnOk Tryz.prog 33:=⟨Tryz.f33,Tryz.func33,by kernel_rfl,by kernel_rfl⟩

def df34:DF:= ⟨35,Sr [Gg 2 (.box (.t 0)),Gg 3 (.box (.t 1)),
 Gg 4 (.mv Yf)] (.seq (.drx (.tk true (Gg 7 (Lm 2 11)) (.both (.tk false (Gg 8 (Ca 101 7)) (.tk true (Gg 9 (Lm 3 11)) (.tk false (Gg 10 (Ca 101 9)) (.tk true (Gm 5 8) (.tk true (Gm 6 10) .done))))) (.tk true (Gg 9 (Lm 3 11)) (.tk false (Gg 8 (Ca 101 7)) (.tk false (Gg 10 (Ca 101 9)) (.tk true (Gm 5 8) (.tk true (Gm 6 10) .done)))))))) (Sr [Gm 11 5,
 Gg 12 (Bk .eql 11 0),Gm 13 12,Gv 14 6 13 false,Gh 15 (Bk .eql 14 0) 13 false,Gg 16 (Pq 13 15),
 Gm 17 16,Gh 18 (Fa 2 1) 17 false,Gh 19 (Ld 18) 17 false,Gv 20 5 17 false,Gh 21 (Bo .add 19 20) 17 false,Gh 22 (Fa 3 1) 17 false,Gh 23 (Ld 22) 17 false,Gh 24 (Bo .leq 21 23) 17 false,
 Gg 25 (Pq 17 24),
 Gm 26 25,Gh 27 (Fa 3 1) 26 false,Gh 28 (Ld 27) 26 false,Gv 29 6 26 false,Gh 30 (Bo .add 28 29) 26 false,Gh 31 (Fa 2 1) 26 false,Gh 32 (Ld 31) 26 false,Gh 33 (Bo .leq 30 32) 26 false,
 Gg 34 (Pq 26 33),Gm 4 34] .ret)),[.t 4]⟩

theorem dc34:compF Tryz.prog Tryz.f34=some df34:=by kernel_rfl
theorem ok34:FnOk Tryz.prog 34:=⟨Tryz.f34,Tryz.func34,by kernel_rfl,by kernel_rfl⟩

def df35:DF:= ⟨35,Sr [Gg 2 (.box (.t 0)),Gg 3 (.box (.t 1)),
 Gg 4 (.mv Yf)] (.seq (.drx (.tk true (Gg 7 (Lm 2 11)) (.both (.tk false (Gg 8 (Ca 101 7)) (.tk true (Gg 9 (Lm 3 11)) (.tk false (Gg 10 (Ca 101 9)) (.tk true (Gm 5 8) (.tk true (Gm 6 10) .done))))) (.tk true (Gg 9 (Lm 3 11)) (.tk false (Gg 8 (Ca 101 7)) (.tk false (Gg 10 (Ca 101 9)) (.tk true (Gm 5 8) (.tk true (Gm 6 10) .done)))))))) (Sr [Gm 11 5,
 Gg 12 (Bk .gtr 11 0),Gm 13 12,Gv 14 6 13 true,Gh 15 (Bk .gtr 14 0) 13 true,Gg 16 (Pk 13 15),
 Gm 17 16,Gh 18 (Fa 2 1) 17 true,Gh 19 (Ld 18) 17 true,Gh 20 (Fa 3 1) 17 true,Gh 21 (Ld 20) 17 true,Gh 22 (Bo .geq 19 21) 17 true,Gg 23 (Pk 17 22),
 Gm 24 23,Gh 25 (Fa 2 1) 24 true,Gh 26 (Ld 25) 24 true,Gv 27 5 24 true,Gh 28 (Bo .add 26 27) 24 true,Gh 29 (Fa 3 1) 24 true,Gh 30 (Ld 29) 24 true,Gv 31 6 24 true,Gh 32 (Bo .add 30 31) 24 true,Gh 33 (Bo .leq 28 32) 24 true,
 Gg 34 (Pk 24 33),Gm 4 34] .ret)),[.t 4]⟩

theorem dc35:compF Tryz.prog Tryz.f35=some df35:=by kernel_rfl
theorem ok35:FnOk Tryz.prog 35:=⟨Tryz.f35,Tryz.func35,by kernel_rfl,by kernel_rfl⟩

def df39:DF:= ⟨21,Sr [Gg 2 (.mv (Ki 0))] (Sr [Gm 4 0,Gg 5 (.call 18 [(.t 4),(Ki 44)]),Gm 3 5] (.seq (Sr [Gm 6 3,Gg 7 (Bk .lss 6 32)] (Cn 7 (Sr [Gm 8 3,
 Gg 9 (.bin .mul (Ki 4) (.t 8)),Gg 10 (.bin .add (Ki 2048) (.t 9)),Gm 2 10] .ret) .skip)) (.seq (Sr [Gm 11 3,Gg 12 (Bk .lss 11 40)] (Cn 12 (Sr [Gm 13 3,
 Gg 14 (Bk .sub 13 32),Gg 15 (.bin .mul (Ki 4) (.t 14)),Gg 16 (.bin .add (Ki 3072) (.t 15)),Gm 2 16] .ret) .skip)) (Sr [Gm 17 3,Gg 18 (Bk .sub 17 40),
 Gg 19 (.bin .mul (Ki 4) (.t 18)),Gg 20 (.bin .add (Ki 3104) (.t 19)),Gm 2 20] .ret)))),[.t 2]⟩

theorem dc39:compF Tryz.prog Tryz.f39=some df39:=by kernel_rfl
theorem ok39:FnOk Tryz.prog 39:=⟨Tryz.f39,Tryz.func39,by kernel_rfl,by kernel_rfl⟩

def df41:DF:= ⟨40,Sr [Gg 4 (.mv (Ki 0))] (Sr [Gm 10 0,Gm 11 1,Gg 12 (Cb 74 10 11),Gm 9 12,Gg 13 (Xt 9 0),Gg 14 (Xt 9 1),Gg 5 (.new (Zi 14)),Gs 5 13 14,
 Gm 6 14] (.seq (Sr [Gm 15 6,Gg 16 (Bk .neq 15 0),Gm 17 16,Gh 18 (Fa 5 12) 17 false,Gh 19 (Ld 18) 17 false,Gh 20 (Bk .eql 19 0) 17 false,
 Gg 21 (Pq 17 20)] (Cn 21 (Sr [Gg 4 (.mv (Ki 0))] .ret) .skip)) (.seq (Sr [Gm 23 0,Gg 24 (Fa 5 12),Gg 25 (Ld 24),Gg 26 (Cb 74 23 25),Gm 22 26,Gg 27 (Xt 22 0),
 Gg 28 (Xt 22 1),Gg 7 (.new (Zi 14)),Gs 7 27 14,Gm 8 28] (Sr [Gm 29 8,Gg 30 (Bk .neq 29 0),
 Gm 31 30,Gh 32 (Fa 7 13) 31 false,Gh 33 (Ld 32) 31 false,Gh 34 (Fa 5 13) 31 false,Gh 35 (Ld 34) 31 false,Gh 36 (Bo .leq 33 35) 31 false,
 Gg 37 (Pq 31 36)] (Cn 37 (Sr [Gg 4 (.mv (Ki 0))] .ret) .skip))) (Sr [Gg 38 (Fa 5 12),Gg 39 (Ld 38),Gm 4 39] .ret)))),[.t 4]⟩

theorem dc41:compF Tryz.prog Tryz.f41=some df41:=by kernel_rfl
theorem ok41:FnOk Tryz.prog 41:=⟨Tryz.f41,Tryz.func41,by kernel_rfl,by kernel_rfl⟩

def df42:DF:= ⟨151,Sr [Gg 1 (.box (.t 0)),
 Gg 2 (.mv Yf)] (.seq (.seq (.drm [(true,Gg 5 (Lm 1 11)),(true,Gg 6 (Lm 1 11)),(true,Gg 7 (Ca 112 6)),(true,Gg 8 (.eqa true [true,true,true,true,true,true,true,true,true,true,true] (.t 5) (.t 7)))]) (Cn 8 (Sr [Gg 2 (.mv Yf)] .ret) .skip)) (Sr [Gg 9 (Lm 1 11),
 Gg 10 (Ca 113 9),Gm 3 10] (.seq (Sr [Gm 11 3,Gg 12 (Bk .gtr 11 0)] (Cn 12 (Sr [Gg 13 (Fa 1 1),Gg 14 (Ld 13),Gm 15 3,Gg 16 (Cb 114 14 15),Gm 4 16] (Sr [Gm 17 4,
 Gg 18 (.un .not (.t 17))] (Cn 18 (Sr [Gg 2 (.mv Yf)] .ret) .skip))) .skip)) (.seq (Sr [Gg 19 (Fa 1 0),Gg 20 (Ld 19)] (.block 0 (.seq (Sr [Gg 22 (Bk .eql 20 0),
 Gm 21 22] (Cn 21 .skip (Sr [Gg 23 (Bk .eql 20 11),Gm 21 23] (Cn 21 .skip (.reg [Gg 24 (Bk .eql 20 13),
 Gm 21 24]))))) (Cn 21 (Sr [Gg 2 (.mv Yt)] .ret) (.seq (Sr [Gg 26 (Bk .eql 20 3),Gm 25 26] (Cn 25 .skip (.reg [Gg 27 (Bk .eql 20 9),
 Gm 25 27]))) (Cn 25 (Sr [Gg 2 (.mv Yt)] .ret) (Sr [Gg 29 (Bk .eql 20 1),Gm 28 29] (Cn 28 (Sr [Gm 30 3,Gg 31 (Bk .gtr 30 0),
 Gm 32 31,Gh 33 (Fa 1 3) 32 true,Gh 34 (Ld 33) 32 true,Gv 35 3 32 true,Gh 36 (.call 115 [(.t 34),(Ki 0),(.t 35)]) 32 true,Gg 37 (Pk 32 36),
 Gm 2 37] .ret) (Sr [Gg 39 (Bk .eql 20 2),
 Gm 38 39] (Cn 38 (.seq (.drm [(true,Gm 40 3),(true,Gg 41 (Bk .gtr 40 0)),(true,Gm 42 41),(true,Gh 43 (Fa 1 5) 42 true),(true,Gh 44 (Ld 43) 42 true),(false,Gh 45 (.call 115 [(.t 44),(Ki 0),(Ki 31)]) 42 true),(true,Gg 46 (Pk 42 45)),(true,Gm 47 46),(true,Gh 48 (Fa 1 4) 47 true),(true,Gh 49 (Ld 48) 47 true),(true,Gh 50 (Fa 1 5) 47 true),(true,Gh 51 (Ld 50) 47 true),(true,Gh 52 (.bin .shl (Ki 1) (.t 51)) 47 true),(true,Gh 53 (Bk .sub 52 1) 47 true),(false,Gh 54 (.call 115 [(.t 49),(Ki 0),(.t 53)]) 47 true),(true,Gg 55 (Pk 47 54)),(true,Gm 2 55)]) .ret) (.seq (Sr [Gg 57 (Bk .eql 20 4),
 Gm 56 57] (Cn 56 .skip (.reg [Gg 58 (Bk .eql 20 5),Gm 56 58]))) (Cn 56 (Sr [Gg 59 (Fa 1 7),Gg 60 (Ld 59),Gg 61 (.call 115 [(.t 60),(Ki 0),(Ki 7)]),
 Gm 62 61,Gh 63 (Fa 1 6) 62 true,Gh 64 (Ld 63) 62 true,Gh 65 (.call 115 [(.t 64),(Ki 0),(Ki 268435455)]) 62 true,Gg 66 (Pk 62 65),
 Gm 2 66] .ret) (Sr [Gg 68 (Bk .eql 20 6),Gm 67 68] (Cn 67 (Sr [Gg 69 (Fa 1 8),Gg 70 (Ld 69),Gg 71 (.call 115 [(.t 70),(Ki 0),(Ki 63)]),
 Gm 72 71,Gh 73 (Fa 1 9) 72 true,Gh 74 (Ld 73) 72 true,Gh 75 (.call 115 [(.t 74),(Ki 0),(Ki 65535)]) 72 true,Gg 76 (Pk 72 75),
 Gm 77 76,Gh 78 (Fa 1 8) 77 true,Gh 79 (Ld 78) 77 true,Gh 80 (Bk .gtr 79 0) 77 true,Gv 81 80 77 true,Gh 82 (Fa 1 9) 81 false,Gh 83 (Ld 82) 81 false,Gh 84 (Bk .eql 83 0) 81 false,Gh 85 (Pq 81 84) 77 true,
 Gg 86 (Pk 77 85),Gm 2 86] .ret) (Sr [Gg 88 (Bk .eql 20 7),Gm 87 88] (Cn 87 (Sr [Gg 89 (Fa 1 8),Gg 90 (Ld 89),Gg 91 (.call 115 [(.t 90),(Ki 0),(Ki 56)]),
 Gm 92 91,Gh 93 (Fa 1 8) 92 true,Gh 94 (Ld 93) 92 true,Gh 95 (Bk .rem 94 8) 92 true,Gh 96 (Bk .eql 95 0) 92 true,Gg 97 (Pk 92 96),
 Gm 2 97] .ret) (Sr [Gg 99 (Bk .eql 20 8),Gm 98 99] (Cn 98 (Sr [Gg 100 (Fa 1 7),Gg 101 (Ld 100),Gg 102 (.call 115 [(.t 101),(Ki 0),(Ki 7)]),
 Gm 103 102,Gh 104 (Fa 1 8) 103 true,Gh 105 (Ld 104) 103 true,Gh 106 (.call 115 [(.t 105),(Ki 0),(Ki 63)]) 103 true,Gg 107 (Pk 103 106),
 Gm 108 107,Gh 109 (Fa 1 9) 108 true,Gh 110 (Ld 109) 108 true,Gh 111 (.call 115 [(.t 110),(Ki 0),(Ki 65520)]) 108 true,Gg 112 (Pk 108 111),
 Gm 113 112,Gh 114 (Fa 1 9) 113 true,Gh 115 (Ld 114) 113 true,Gh 116 (Bk .rem 115 16) 113 true,Gh 117 (Bk .eql 116 0) 113 true,Gg 118 (Pk 113 117),
 Gm 119 118,Gh 120 (Fa 1 8) 119 true,Gh 121 (Ld 120) 119 true,Gh 122 (Bk .gtr 121 0) 119 true,Gv 123 122 119 true,Gh 124 (Fa 1 9) 123 false,Gh 125 (Ld 124) 123 false,Gh 126 (Bk .eql 125 0) 123 false,Gh 127 (Pq 123 126) 119 true,
 Gg 128 (Pk 119 127),Gm 2 128] .ret) (Sr [Gg 130 (Bk .eql 20 10),Gm 129 130] (Cn 129 (.seq (Sr [Gg 131 (Fa 1 2),Gg 132 (Ld 131),
 Gg 133 (Bk .eql 132 31)] (Cn 133 (Sr [Gg 134 (Fa 1 3),Gg 135 (Ld 134),Gg 136 (.call 115 [(.t 135),(Ki 0),(Ki 3)]),Gm 2 136] .ret) .skip)) (Sr [Gm 137 3,
 Gg 138 (Bk .gtr 137 0),
 Gm 139 138,Gh 140 (Fa 1 3) 139 true,Gh 141 (Ld 140) 139 true,Gv 142 3 139 true,Gh 143 (Bk .quo 142 4) 139 true,Gh 144 (.call 115 [(.t 141),(Ki 0),(.t 143)]) 139 true,
 Gg 145 (Pk 139 144),Gm 2 145] .ret)) (Sr [Gg 147 (Bk .eql 20 12),Gm 146 147] (Cn 146 (Sr [Gg 148 (Fa 1 10),Gg 149 (Ld 148),
 Gg 150 (.call 115 [(.t 149),(Ki 0),(Ki 15)]),Gm 2 150] .ret) .skip)))))))))))))))))))))) (Sr [Gg 2 (.mv Yf)] .ret))))),[.t 2]⟩

theorem dc42:compF Tryz.prog Tryz.f42=some df42:=by kernel_rfl
theorem ok42:FnOk Tryz.prog 42:=⟨Tryz.f42,Tryz.func42,by kernel_rfl,by kernel_rfl⟩

def df45:DF:= ⟨66,Sr [Gg 6 (.mv (Ki 0))] (Sr [Gm 12 0,Gm 13 2,Gg 14 (Cb 74 12 13),Gm 11 14,Gg 15 (Xt 11 0),Gg 16 (Xt 11 1),Gg 7 (.new (Zi 14)),Gs 7 15 14,
 Gm 8 16] (.seq (Sr [Gm 17 8,Gg 18 (Bk .neq 17 0)] (Cn 18 (Sr [Gm 19 8,Gm 6 19] .ret) .skip)) (.seq (Sr [Gm 20 0,Gm 21 2,Gg 22 (Lm 7 14),
 Gg 23 (Cc 75 20 21 22)] (Cn 23 (Sr [Gg 6 (.mv (Ki 120))] .ret) .skip)) (Sr [Gm 24 0,Gg 25 (Ca 100 24),Gg 26 (Fa 7 12),Gs 26 25 1] (.seq (Sr [Gm 27 1,
 Gg 28 (Bk .neq 27 0)] (Cn 28 (Sr [Gm 30 0,Gm 31 1,Gg 32 (Cb 74 30 31),Gm 29 32,Gg 33 (Xt 29 0),Gg 34 (Xt 29 1),Gg 9 (.new (Zi 14)),Gs 9 33 14,
 Gm 10 34] (.seq (Sr [Gm 35 10,Gg 36 (Bk .neq 35 0)] (Cn 36 (Sr [Gm 37 10,Gm 6 37] .ret) .skip)) (.seq (Sr [Gm 38 1,Gm 39 2,Gg 40 (Bo .eql 38 39),
 Gm 41 40,Gh 42 (Fa 9 13) 41 false,Gh 43 (Ld 42) 41 false,Gh 44 (Bk .eql 43 65535) 41 false,
 Gg 45 (Pq 41 44)] (Cn 45 (Sr [Gg 6 (.mv (Ki 120))] .ret) .skip)) (.drx (.tk true (Gm 46 1) (.tk true (Gg 47 (Fa 9 12)) (.tk true (Gg 49 (Fa 9 13)) (.tk true (Gg 52 (Fa 7 11)) (.both (.tk true (Gg 48 (Ld 47)) (.both (.tk true (Gg 50 (Ld 49)) (.tk true (Gg 51 (Bk .add 50 1)) (.tk false (Gs 52 46 1) (.tk true (Gg 53 (Fa 7 12)) (.tk false (Gs 53 48 1) (.tk true (Gg 54 (Fa 7 13)) (.tk false (Gs 54 51 1) .done))))))) (.tk false (Gs 52 46 1) (.tk true (Gg 53 (Fa 7 12)) (.both (.tk true (Gg 50 (Ld 49)) (.tk true (Gg 51 (Bk .add 50 1)) (.tk false (Gs 53 48 1) (.tk true (Gg 54 (Fa 7 13)) (.tk false (Gs 54 51 1) .done))))) (.tk false (Gs 53 48 1) (.tk true (Gg 50 (Ld 49)) (.tk true (Gg 51 (Bk .add 50 1)) (.tk true (Gg 54 (Fa 7 13)) (.tk false (Gs 54 51 1) .done)))))))))) (.both (.tk true (Gg 50 (Ld 49)) (.tk true (Gg 51 (Bk .add 50 1)) (.both (.tk true (Gg 48 (Ld 47)) (.tk false (Gs 52 46 1) (.tk true (Gg 53 (Fa 7 12)) (.tk false (Gs 53 48 1) (.tk true (Gg 54 (Fa 7 13)) (.tk false (Gs 54 51 1) .done)))))) (.tk false (Gs 52 46 1) (.tk true (Gg 48 (Ld 47)) (.tk true (Gg 53 (Fa 7 12)) (.tk false (Gs 53 48 1) (.tk true (Gg 54 (Fa 7 13)) (.tk false (Gs 54 51 1) .done))))))))) (.tk false (Gs 52 46 1) (.tk true (Gg 48 (Ld 47)) (.tk true (Gg 53 (Fa 7 12)) (.both (.tk true (Gg 50 (Ld 49)) (.tk true (Gg 51 (Bk .add 50 1)) (.tk false (Gs 53 48 1) (.tk true (Gg 54 (Fa 7 13)) (.tk false (Gs 54 51 1) .done))))) (.tk false (Gs 53 48 1) (.tk true (Gg 50 (Ld 49)) (.tk true (Gg 51 (Bk .add 50 1)) (.tk true (Gg 54 (Fa 7 13)) (.tk false (Gs 54 51 1) .done))))))))))))))))))) .skip)) (Sr [Gm 55 0,
 Gm 56 2,Gg 57 (Lm 7 14),Gg 58 (Cc 79 55 56 57)] (Sr [Gm 59 0,Gg 60 (Fa 7 11),Gg 61 (Ld 60),Gm 62 2,Gg 63 (Fa 7 12),Gg 64 (Ld 63),
 Gg 65 (Cd 119 59 61 62 64)] (Sr [Gg 6 (.mv (Ki 0))] .ret)))))))),[.t 6]⟩

theorem dc45:compF Tryz.prog Tryz.f45=some df45:=by kernel_rfl
theorem ok45:FnOk Tryz.prog 45:=⟨Tryz.f45,Tryz.func45,by kernel_rfl,by kernel_rfl⟩

def df47:DF:= ⟨38,Sr [Gg 4 (.new [.ns]),Gg 5 (.new [.i .i64 0])] (Sr [Gm 12 0,Gm 13 1,Gg 14 (Cb 74 12 13),Gm 11 14,Gg 15 (Xt 11 0),Gg 16 (Xt 11 1),
 Gg 6 (.new (Zi 14)),Gs 6 15 14,Gm 7 16] (.seq (Sr [Gm 17 7,Gg 18 (Bk .neq 17 0)] (Cn 18 (Sr [Gm 19 7,
 ⟨none, .st (.t 4) (.k (.s (.ns))) 1,none⟩,Gs 5 19 1] .ret) .skip)) (Sr [Gg 8 (.new [.ns])] (.seq (Sr [Gm 20 0,Gg 21 (Fa 6 12),Gg 22 (Ld 21),
 Gg 23 (Cb 99 20 22)] (.block 0 (.rf (.t 23) [24,25] (Sr [Gm 9 24] (.reg [Gg 10 (.new (Zi 14)),Gs 10 25 14])) (.block 1 (.seq (Sr [Gm 26 9,
 Gg 27 (Bk .eql 26 0)] (Cn 27 (Sr [⟨none, .st (.t 4) (.k (.s (.ns))) 1,none⟩,⟨none, .st (.t 5) (Ki 110) 1,none⟩] .ret) .skip)) (.seq (Sr [Gg 28 (Fa 10 13),
 Gg 29 (Ld 28),Gg 30 (Fa 6 13),Gg 31 (Ld 30),Gg 32 (Bo .leq 29 31)] (Cn 32 (.exit 0) .skip)) (.reg [Gg 33 (Ld 8),Gm 34 9,
 Gg 35 (.bsl 1 [.i .i64 0] [(0,1,(.t 34))]),Gg 36 (.app 1 8 (.t 33) (.t 35)),Gs 8 36 1]))))))) (Sr [Gg 37 (Ld 8),Gs 4 37 1,
 ⟨none, .st (.t 5) (Ki 0) 1,none⟩] .ret))))),[.c 4 none, .c 5 none]⟩

theorem dc47:compF Tryz.prog Tryz.f47=some df47:=by kernel_rfl
theorem ok47:FnOk Tryz.prog 47:=⟨Tryz.f47,Tryz.func47,by kernel_rfl,by kernel_rfl⟩

def df49:DF:= ⟨15,Sr [Gg 2 (.mv (.k (.s (.np)))),Gg 3 (.mv (Ki 0))] (.seq (Sr [Gm 4 0,Gg 5 (Bk .lss 4 11),Gm 6 5,Gv 7 0 6 false,Gh 8 (Bk .gtr 7 16) 6 false,
 Gg 9 (Pq 6 8)] (Cn 9 (Sr [Gg 2 (.mv (.k (.s (.np)))),Gg 3 (.mv (Ki 1))] .ret) .skip)) (Sr [Gm 10 0,Gg 11 (.bin .shl (Ki 1) (.t 10)),
 Gg 12 (.mks 1 8 [.i .u64 0] (.t 11) (.t 11)),Gg 13 (.build [.ns, .i .i64 0] [(0,1,(.t 12))]),Gg 14 (.box (.t 13)),Gm 2 14,
 Gg 3 (.mv (Ki 0))] .ret)),[.t 2, .t 3]⟩

theorem dc49:compF Tryz.prog Tryz.f49=some df49:=by kernel_rfl
theorem ok49:FnOk Tryz.prog 49:=⟨Tryz.f49,Tryz.func49,by kernel_rfl,by kernel_rfl⟩

def df50:DF:= ⟨15,Sr [Gg 2 (.mv (.k (.s (.np)))),Gg 3 (.mv (Ki 0))] (.seq (Sr [Gm 4 0,Gg 5 (Bk .lss 4 11),Gm 6 5,Gv 7 0 6 false,Gh 8 (Bk .gtr 7 16) 6 false,
 Gg 9 (Pq 6 8)] (Cn 9 (Sr [Gg 2 (.mv (.k (.s (.np)))),Gg 3 (.mv (Ki 1))] .ret) .skip)) (Sr [Gm 10 0,Gg 11 (.bin .shl (Ki 1) (.t 10)),
 Gg 12 (.mks 1 8 [.i .u64 0] (.t 11) (.t 11)),Gg 13 (.build [.ns, .i .i64 0] [(0,1,(.t 12))]),Gg 14 (.box (.t 13)),Gm 2 14,
 Gg 3 (.mv (Ki 0))] .ret)),[.t 2, .t 3]⟩

theorem dc50:compF Tryz.prog Tryz.f50=some df50:=by kernel_rfl
theorem ok50:FnOk Tryz.prog 50:=⟨Tryz.f50,Tryz.func50,by kernel_rfl,by kernel_rfl⟩

def df52:DF:= ⟨87,Sr [Gg 6 (.mv (Ki 0))] (Sr [Gm 13 0,Gm 14 2,Gg 15 (Cb 98 13 14),Gm 12 15,Gg 16 (Xt 12 0),Gg 17 (Xt 12 1),Gg 7 (.new (Zi 14)),Gs 7 16 14,
 Gm 8 17] (.seq (Sr [Gm 18 8,Gg 19 (Bk .neq 18 0)] (Cn 19 (Sr [Gm 20 8,Gm 6 20] .ret) .skip)) (Sr [Gm 21 0,Gg 22 (Ca 122 21),Gm 9 22] (.seq (Sr [Gg 23 (Fa 7 11),
 Gg 24 (Ld 23),Gg 25 (Bk .neq 24 0),Gm 26 25,Gh 27 (Fa 7 12) 26 false,Gh 28 (Ld 27) 26 false,Gh 29 (Bk .neq 28 0) 26 false,Gg 30 (Pq 26 29),
 Gm 31 30,Gh 32 (Fa 7 13) 31 false,Gh 33 (Ld 32) 31 false,Gh 34 (Bk .neq 33 0) 31 false,Gg 35 (Pq 31 34),
 Gm 36 35,Gv 37 9 36 false,Gv 38 2 36 false,Gh 39 (Bo .eql 37 38) 36 false,Gg 40 (Pq 36 39)] (Cn 40 (Sr [Gg 6 (.mv (Ki 120))] .ret) .skip)) (.seq (Sr [Gm 41 1,
 Gg 42 (Bk .eql 41 0)] (Cn 42 (.reg [Gm 43 9,Gg 44 (Fa 7 12),Gs 44 43 1]) (Sr [Gm 46 0,Gm 47 1,Gg 48 (Cb 98 46 47),Gm 45 48,Gg 49 (Xt 45 0),Gg 50 (Xt 45 1),
 Gg 10 (.new (Zi 14)),Gs 10 49 14,Gm 11 50] (.seq (Sr [Gm 51 11,Gg 52 (Bk .neq 51 0)] (Cn 52 (Sr [Gm 53 11,Gm 6 53] .ret) .skip)) (.seq (Sr [Gm 54 1,Gm 55 2,
 Gg 56 (Bo .eql 54 55),Gm 57 56,Gh 58 (Fa 10 13) 57 false,Gh 59 (Ld 58) 57 false,Gh 60 (Bk .eql 59 65535) 57 false,
 Gg 61 (Pq 57 60)] (Cn 61 (Sr [Gg 6 (.mv (Ki 120))] .ret) .skip)) (Sr [Gm 62 1,Gg 63 (Fa 7 11),Gs 63 62 1] (Sr [Gg 64 (Fa 10 12),Gg 65 (Ld 64),
 Gg 66 (Fa 7 12),Gs 66 65 1] (.reg [Gg 67 (Fa 10 13),Gg 68 (Ld 67),Gg 69 (Bk .add 68 1),Gg 70 (Fa 7 13),Gs 70 69 1])))))))) (Sr [Gm 71 0,Gg 72 (Fa 7 11),
 Gg 73 (Ld 72),Gm 74 2,Gg 75 (Fa 7 12),Gg 76 (Ld 75),Gg 77 (Cd 123 71 73 74 76)] (Sr [Gm 78 0,Gm 79 2,Gg 80 (Fa 7 12),Gg 81 (Ld 80),
 Gg 82 (Cc 124 78 79 81)] (Sr [Gm 83 0,Gm 84 2,Gg 85 (Lm 7 14),Gg 86 (Cc 118 83 84 85)] (Sr [Gg 6 (.mv (Ki 0))] .ret))))))))),[.t 6]⟩

theorem dc52:compF Tryz.prog Tryz.f52=some df52:=by kernel_rfl
theorem ok52:FnOk Tryz.prog 52:=⟨Tryz.f52,Tryz.func52,by kernel_rfl,by kernel_rfl⟩

def df57:DF:= ⟨86,Sr [Gg 4 (.mv (Ki 0))] (Sr [Gm 13 0,Gm 14 1,Gg 15 (Cb 98 13 14),Gm 12 15,Gg 16 (Xt 12 0),Gg 17 (Xt 12 1),Gg 5 (.new (Zi 14)),Gs 5 16 14,
 Gm 6 17] (.seq (Sr [Gm 18 6,Gg 19 (Bk .neq 18 0)] (Cn 19 (Sr [Gm 20 6,Gm 4 20] .ret) .skip)) (Sr [Gm 22 0,Gm 23 1,Gg 24 (Cb 129 22 23),Gm 21 24,Gg 25 (Xt 21 0),
 Gg 26 (Xt 21 1),Gm 7 25,Gm 6 26] (.seq (Sr [Gm 27 6,Gg 28 (Bk .neq 27 0)] (Cn 28 (Sr [Gm 29 6,
 Gm 4 29] .ret) .skip)) (.seq (Sr [Gg 8 (.mv (Ki 0))] (.block 0 (.loop (.seq (Sr [Gm 30 8,Gm 31 7,Gg 32 (.len (.t 31)),
 Gg 33 (Bo .lss 30 32)] (Cn 33 .skip (.exit 0))) (.seq (.block 1 (Sr [Gm 37 0,Gm 38 7,Gm 39 8,Gg 40 (.ia none 1 (.t 38) (.t 39)),Gg 41 (Ld 40),
 Gg 42 (Cb 126 37 41),Gm 36 42,Gg 43 (Xt 36 0),Gg 44 (Xt 36 1),Gg 9 (.new (Zi 14)),Gs 9 43 14,Gm 10 44] (Sr [Gm 45 10,
 Gg 46 (Bk .eql 45 0)] (Cn 46 (Sr [Gg 47 (Fa 9 13),Gg 48 (Ld 47),Gg 49 (Bk .sub 48 1),Gg 50 (Fa 9 13),Gs 50 49 1] (.drt 6 [Gm 51 0,Gm 52 7,Gm 53 8,
 Gg 54 (.ia none 1 (.t 52) (.t 53)),Gg 55 (Ld 54),Gg 56 (Lm 9 14),Gg 57 (Cc 118 51 55 56)])) .skip)))) (.reg [Gm 34 8,Gg 35 (Bk .add 34 1),
 Gm 8 35])))))) (Sr [Gg 58 (Fa 5 11),Gg 59 (Ld 58),Gg 60 (Bk .neq 59 0),
 Gm 61 60,Gv 62 0 61 false,Gh 63 (Ca 122 62) 61 false,Gv 64 1 61 false,Gh 65 (Bo .eql 63 64) 61 false,Gg 66 (Pq 61 65),Gm 11 66] (Sr [Gm 67 0,Gm 68 1,
 Gg 69 (.build (Zi 14) []),Gg 70 (Cc 118 67 68 69)] (.seq (Sr [Gm 71 11] (Cn 71 (.reg [Gm 72 0,Gg 73 (Fa 5 11),Gg 74 (Ld 73),Gg 75 (Fa 5 12),Gg 76 (Ld 75),
 Gg 77 (Fa 5 12),Gg 78 (Ld 77),Gg 79 (Cd 123 72 74 76 78)]) .skip)) (Sr [Gm 80 0,Gg 81 (Fa 5 11),Gg 82 (Ld 81),Gg 83 (Fa 5 12),Gg 84 (Ld 83),
 Gg 85 (Cc 124 80 82 84)] (Sr [Gg 4 (.mv (Ki 0))] .ret)))))))))),[.t 4]⟩

theorem dc57:compF Tryz.prog Tryz.f57=some df57:=by kernel_rfl
theorem ok57:FnOk Tryz.prog 57:=⟨Tryz.f57,Tryz.func57,by kernel_rfl,by kernel_rfl⟩

def df60:DF:= ⟨36,Sr [Gg 6 (.mv (Ki 0))] (.seq (Sr [Gm 9 0,Gg 10 (Bk .lss 9 1),Gm 11 10,Gv 12 0 11 false,Gh 13 (Bk .gtr 12 8) 11 false,Gg 14 (Pq 11 13),
 Gm 15 14,Gv 16 2 15 false,Gh 17 (Bk .lss 16 1) 15 false,Gg 18 (Pq 15 17),Gm 19 18,Gv 20 2 19 false,Gh 21 (Bk .gtr 20 16) 19 false,
 Gg 22 (Pq 19 21)] (Cn 22 (Sr [Gg 6 (.mv (Ki 1))] .ret) .skip)) (Sr [Gg 7 (.mv (Ki 0)),
 Gg 8 (.mv (Ki 0))] (.seq (Sr [Gm 23 0] (.block 0 (Sr [Gg 25 (Bk .eql 23 1),Gm 24 25] (Cn 24 (.reg [Gg 7 (.mv (Ki 4)),
 Gg 8 (.mv (Ki 15))]) (Sr [Gg 27 (Bk .eql 23 2),Gm 26 27] (Cn 26 (.reg [Gg 7 (.mv (Ki 1)),Gg 8 (.mv (Ki 8))]) .skip)))))) (.seq (Sr [Gm 28 1,Gm 29 7,
 Gg 30 (Bo .lss 28 29),Gm 31 30,Gv 32 1 31 false,Gv 33 8 31 false,Gh 34 (Bo .gtr 32 33) 31 false,
 Gg 35 (Pq 31 34)] (Cn 35 (Sr [Gg 6 (.mv (Ki 150))] .ret) .skip)) (Sr [Gg 6 (.mv (Ki 0))] .ret))))),[.t 6]⟩

theorem dc60:compF Tryz.prog Tryz.f60=some df60:=by kernel_rfl
theorem ok60:FnOk Tryz.prog 60:=⟨Tryz.f60,Tryz.func60,by kernel_rfl,by kernel_rfl⟩

def df61:DF:= ⟨42,Sr [Gg 6 (.mv (Ki 0))] (.seq (Sr [Gm 8 0,Gg 9 (Bk .lss 8 1),Gm 10 9,Gv 11 0 10 false,Gh 12 (Bk .gtr 11 8) 10 false,Gg 13 (Pq 10 12),
 Gm 14 13,Gv 15 2 14 false,Gh 16 (Bk .lss 15 1) 14 false,Gg 17 (Pq 14 16),Gm 18 17,Gv 19 2 18 false,Gh 20 (Bk .gtr 19 16) 18 false,
 Gg 21 (Pq 18 20)] (Cn 21 (Sr [Gg 6 (.mv (Ki 1))] .ret) .skip)) (Sr [Gm 22 1,Gg 23 (Bk .eql 22 0),Gm 7 23] (.seq (Sr [Gm 24 0,
 Gg 25 (Bk .eql 24 1)] (Cn 25 (.reg [Gm 26 1,Gg 27 (Bk .geq 26 4),Gm 28 27,Gv 29 1 28 true,Gh 30 (Bk .leq 29 15) 28 true,Gg 31 (Pk 28 30),
 Gm 7 31]) .skip)) (.seq (Sr [Gm 32 0,Gg 33 (Bk .eql 32 2)] (Cn 33 (.reg [Gm 34 1,Gg 35 (Bk .geq 34 1),Gm 36 35,Gv 37 1 36 true,Gh 38 (Bk .leq 37 8) 36 true,
 Gg 39 (Pk 36 38),Gm 7 39]) .skip)) (.seq (Sr [Gm 40 7,
 Gg 41 (.un .not (.t 40))] (Cn 41 (Sr [Gg 6 (.mv (Ki 150))] .ret) .skip)) (Sr [Gg 6 (.mv (Ki 0))] .ret)))))),[.t 6]⟩

theorem dc61:compF Tryz.prog Tryz.f61=some df61:=by kernel_rfl
theorem ok61:FnOk Tryz.prog 61:=⟨Tryz.f61,Tryz.func61,by kernel_rfl,by kernel_rfl⟩

def df62:DF:= ⟨39,Sr [Gg 4 (.mv (Ki 0)),Gg 5 (.mv (Ki 0))] (.seq (Sr [Gm 6 0] (.block 0 (Sr [Gg 8 (Bk .eql 6 1),Gm 7 8] (Cn 7 (Sr [Gm 9 1,Gg 10 (Bk .geq 9 4),
 Gm 11 10,Gv 12 1 11 true,Gh 13 (Bk .leq 12 15) 11 true,Gg 14 (Pk 11 13)] (Cn 14 (Sr [Gm 15 1,Gg 16 (.bin .shl (Ki 1) (.t 15)),Gm 4 16,
 Gg 5 (.mv (Ki 0))] .ret) .skip)) (Sr [Gg 18 (Bk .eql 6 2),Gm 17 18] (Cn 17 (Sr [Gm 19 1,Gg 20 (Bk .geq 19 1),
 Gm 21 20,Gv 22 1 21 true,Gh 23 (Bk .leq 22 8) 21 true,Gg 24 (Pk 21 23)] (Cn 24 (Sr [Gm 25 1,Gg 26 (.bin .shl (Ki 4) (.t 25)),Gm 4 26,
 Gg 5 (.mv (Ki 0))] .ret) .skip)) (.seq (Sr [Gg 28 (Bk .eql 6 3),Gm 27 28] (Cn 27 .skip (Sr [Gg 29 (Bk .eql 6 4),Gm 27 29] (Cn 27 .skip (Sr [Gg 30 (Bk .eql 6 5),
 Gm 27 30] (Cn 27 .skip (Sr [Gg 31 (Bk .eql 6 6),Gm 27 31] (Cn 27 .skip (Sr [Gg 32 (Bk .eql 6 7),Gm 27 32] (Cn 27 .skip (.reg [Gg 33 (Bk .eql 6 8),
 Gm 27 33]))))))))))) (Cn 27 (Sr [Gm 34 1,
 Gg 35 (Bk .eql 34 0)] (Cn 35 (Sr [Gg 36 (.build (Zi 9) [(0,1,(Ki 0)),(1,1,(Ki 0)),(2,1,(Ki 0)),(3,1,(Ki 64)),(4,1,(Ki 4)),(5,1,(Ki 8)),(6,1,(Ki 8)),(7,1,(Ki 8)),(8,1,(Ki 16))]),
 Gm 37 0,Gg 38 (.ix 9 1 none (.t 36) (.t 37)),Gm 4 38,Gg 5 (.mv (Ki 0))] .ret) .skip)) .skip)))))))) (Sr [Gg 4 (.mv (Ki 0)),
 Gg 5 (.mv (Ki 90))] .ret)),[.t 4, .t 5]⟩

theorem dc62:compF Tryz.prog Tryz.f62=some df62:=by kernel_rfl
theorem ok62:FnOk Tryz.prog 62:=⟨Tryz.f62,Tryz.func62,by kernel_rfl,by kernel_rfl⟩

def df63:DF:= ⟨114,Sr [Gg 0 (.mv (.k (.s (.np))))] (Sr [Gg 11 (.call 50 [(Ki 13)]),Gm 10 11,Gg 12 (Xt 10 0),Gg 13 (Xt 10 1),Gm 1 12,
 Gm 2 13] (.seq (Sr [Gg 3 (.mv (Ki 0))] (.block 0 (.loop (.seq (Sr [Gm 14 3,Gg 15 (Bk .lss 14 4)] (Cn 15 .skip (.exit 0))) (.seq (.block 1 (Sr [Gm 18 3,
 Gg 19 (.bin .mul (Ki 64) (.t 18)),Gg 20 (.bin .add (Ki 1024) (.t 19)),Gm 4 20] (Sr [Gm 21 1,Gm 22 4,Gm 23 3,Gg 24 (Bk .quo 23 2),
 Gg 25 (.bin .add (Ki 10) (.t 24)),
 Gg 26 (.build [.i .i64 0, .i .i64 0, .i .i64 0, .b false, .i .i64 0, .i .i64 0, .i .i64 0, .i .i64 0, .b false, .b false, .i .i64 0, .i .i64 0, .i .i64 0, .i .i64 0, .i .u64 0, .i .u64 0, .i .u64 0, .i .u64 0, .i .u64 0, .i .u64 0, .i .u64 0, .i .u64 0, .i .u64 0, .i .u64 0, .i .u64 0, .i .u64 0, .i .u64 0, .i .u64 0, .i .u64 0, .i .u64 0] [(1,1,(.t 25)),(2,1,(Ki 5))]),
 Gg 27 (Cc 132 21 22 26)] (.reg [Gm 28 1,Gm 29 3,Gg 30 (Ca 134 29),Gm 31 4,Gg 32 (.build (Zi 11) [(0,1,(Ki 3)),(1,1,(.t 31))]),
 Gg 33 (.call 133 [(.t 28),(Ki 0),(.t 30),(.t 32)])])))) (.reg [Gm 16 3,Gg 17 (Bk .add 16 1),
 Gm 3 17])))))) (Sr [Gg 34 (.build (Zi 11) [(0,1,(Ki 2)),(1,1,(Ki 2048)),(2,1,(Ki 8)),(5,1,(Ki 24))]),Gg 5 (.new (Zi 11)),Gs 5 34 11] (Sr [Gm 35 1,
 Gg 36 (Lm 5 11),Gg 37 (.call 133 [(.t 35),(Ki 0),(Ki 1024),(.t 36)])] (.seq (Sr [Gg 6 (.mv (Ki 1))] (.block 2 (.loop (.seq (Sr [Gm 38 6,
 Gg 39 (Bk .lss 38 4)] (Cn 39 .skip (.exit 2))) (.seq (.block 3 (.reg [Gm 42 1,Gm 43 6,Gg 44 (.bin .mul (Ki 64) (.t 43)),Gg 45 (.bin .add (Ki 1024) (.t 44)),
 Gg 46 (Lm 5 11),Gg 47 (.call 133 [(.t 42),(Ki 1024),(.t 45),(.t 46)])])) (.reg [Gm 40 6,Gg 41 (Bk .add 40 1),Gm 6 41])))))) (Sr [Gm 48 1,
 Gg 49 (.build (Zi 11) [(0,1,(Ki 2)),(1,1,(Ki 3072)),(2,1,(Ki 3))]),Gg 50 (.call 135 [(.t 48),(Ki 1),(.t 49)])] (Sr [Gm 51 1,
 Gg 52 (.build (Zi 11) [(0,1,(Ki 2)),(1,1,(Ki 3104)),(2,1,(Ki 2)),(4,1,(Ki 1)),(5,1,(Ki 1))]),
 Gg 53 (.call 135 [(.t 51),(Ki 2),(.t 52)])] (.seq (Sr [Gg 7 (.mv (Ki 0))] (.block 4 (.loop (.seq (Sr [Gm 54 7,
 Gg 55 (Bk .lss 54 3)] (Cn 55 .skip (.exit 4))) (.seq (.block 5 (.reg [Gm 58 1,Gm 59 7,Gg 60 (.bin .add (Ki 3) (.t 59)),Gm 61 7,Gg 62 (.bin .mul (Ki 4) (.t 61)),
 Gg 63 (.bin .add (Ki 3120) (.t 62)),Gg 64 (.build (Zi 11) [(0,1,(Ki 4)),(1,1,(.t 63)),(7,1,(Ki 7))]),Gg 65 (Cc 135 58 60 64)])) (.reg [Gm 56 7,
 Gg 57 (Bk .add 56 1),Gm 7 57])))))) (.seq (Sr [Gg 8 (.mv (Ki 0))] (.block 6 (.loop (.seq (Sr [Gm 66 8,
 Gg 67 (Bk .lss 66 2)] (Cn 67 .skip (.exit 6))) (.seq (.block 7 (Sr [Gm 70 1,Gm 71 8,Gg 72 (.bin .add (Ki 6) (.t 71)),Gm 73 8,Gg 74 (.bin .mul (Ki 8) (.t 73)),
 Gg 75 (.bin .add (Ki 3136) (.t 74)),Gg 76 (.build (Zi 11) [(0,1,(Ki 5)),(1,1,(.t 75)),(7,1,(Ki 7))]),Gg 77 (Cc 135 70 72 76)] (.reg [Gm 78 1,Gm 79 8,
 Gg 80 (.bin .add (Ki 8) (.t 79)),Gm 81 8,Gg 82 (.bin .mul (Ki 16) (.t 81)),Gg 83 (.bin .add (Ki 3152) (.t 82)),
 Gg 84 (.build (Zi 11) [(0,1,(Ki 8)),(1,1,(.t 83)),(7,1,(Ki 7))]),Gg 85 (Cc 135 78 80 84)]))) (.reg [Gm 68 8,Gg 69 (Bk .add 68 1),
 Gm 8 69])))))) (.seq (Sr [Gg 9 (.mv (Ki 0))] (.block 8 (.loop (.seq (Sr [Gm 86 9,Gg 87 (Bk .lss 86 4)] (Cn 87 .skip (.exit 8))) (.seq (.block 9 (.reg [Gm 90 1,
 Gm 91 9,Gg 92 (.bin .add (Ki 10) (.t 91)),Gm 93 9,Gg 94 (.bin .mul (Ki 8) (.t 93)),Gg 95 (.bin .add (Ki 3184) (.t 94)),
 Gg 96 (.build (Zi 11) [(0,1,(Ki 6)),(1,1,(.t 95))]),Gg 97 (Cc 135 90 92 96)])) (.reg [Gm 88 9,Gg 89 (Bk .add 88 1),Gm 9 89])))))) (Sr [Gm 98 1,
 Gg 99 (.build (Zi 11) [(0,1,(Ki 7)),(1,1,(Ki 3216))]),Gg 100 (.call 135 [(.t 98),(Ki 14),(.t 99)])] (Sr [Gm 101 1,
 Gg 102 (.build (Zi 11) [(0,1,(Ki 1)),(1,1,(Ki 3584)),(2,1,(Ki 9))]),Gg 103 (.call 135 [(.t 101),(Ki 15),(.t 102)])] (Sr [Gm 104 1,
 Gg 105 (.build (Zi 11) [(0,1,(Ki 1)),(1,1,(Ki 4096)),(2,1,(Ki 10))]),Gg 106 (.call 135 [(.t 104),(Ki 16),(.t 105)])] (Sr [Gm 107 1,
 Gg 108 (.build (Zi 11) [(0,1,(Ki 11))]),Gg 109 (.call 135 [(.t 107),(Ki 17),(.t 108)])] (Sr [Gm 110 1,Gg 111 (.build (Zi 11) [(0,1,(Ki 13))]),
 Gg 112 (.call 135 [(.t 110),(Ki 18),(.t 111)])] (Sr [Gm 113 1,Gm 0 113] .ret)))))))))))))))),[.t 0]⟩

theorem dc63:compF Tryz.prog Tryz.f63=some df63:=by kernel_rfl
theorem ok63:FnOk Tryz.prog 63:=⟨Tryz.f63,Tryz.func63,by kernel_rfl,by kernel_rfl⟩

def df64:DF:= ⟨22,Sr [Gg 6 (.mv (Ki 0))] (Sr [Gm 10 0,Gm 11 1,Gm 12 2,Gg 13 (.len (.t 12)),Gg 14 (Cc 93 10 11 13),Gm 9 14,Gg 15 (Xt 9 0),Gg 16 (Xt 9 1),Gm 7 15,
 Gm 8 16] (.seq (Sr [Gm 17 8,Gg 18 (.un .not (.t 17))] (Cn 18 (Sr [Gg 6 (.mv (Ki 20))] .ret) .skip)) (Sr [Gm 19 7,Gm 20 2,
 Gg 21 (.cpy 1 (.t 19) (.t 20))] (Sr [Gg 6 (.mv (Ki 0))] .ret)))),[.t 6]⟩

theorem dc64:compF Tryz.prog Tryz.f64=some df64:=by kernel_rfl
theorem ok64:FnOk Tryz.prog 64:=⟨Tryz.f64,Tryz.func64,by kernel_rfl,by kernel_rfl⟩

def df65:DF :=
  ⟨2,Sr [Gg 0 (.new (Zi 9))] (Sr [Gg 1 (.build (Zi 9) [(3,1,(Ki 64)),(4,1,(Ki 4)),(5,1,(Ki 8)),(6,1,(Ki 8)),(7,1,(Ki 8)),(8,1,(Ki 16))]),Gs 0 1 9] .ret),[.c 0 (some 9)]⟩

theorem dc65:compF Tryz.prog Tryz.f65=some df65:=by kernel_rfl
theorem ok65:FnOk Tryz.prog 65:=⟨Tryz.f65,Tryz.func65,by kernel_rfl,by kernel_rfl⟩

def df66:DF:= ⟨15,Sr [Gg 4 (.new (Zi 11))] (Sr [Gm 8 0,Gm 9 1,Gg 10 (Cb 126 8 9),Gm 7 10,Gg 11 (Xt 7 0),Gg 12 (Xt 7 1),Gg 5 (.new (Zi 14)),Gs 5 11 14,
 Gm 6 12] (Sr [Gg 13 (Fa 5 0),Gg 14 (Lm 13 11),Gs 4 14 11] .ret)),[.c 4 (some 11)]⟩

theorem dc66:compF Tryz.prog Tryz.f66=some df66:=by kernel_rfl
theorem ok66:FnOk Tryz.prog 66:=⟨Tryz.f66,Tryz.func66,by kernel_rfl,by kernel_rfl⟩

def df67:DF:= ⟨9,Sr [Gg 4 (.new (Zi 11))] (Sr [Gm 5 0,Gm 6 1,Gg 7 (Cb 136 5 6),Gg 8 (.fld (.t 7) 0 (some 11)),Gs 4 8 11] .ret),[.c 4 (some 11)]⟩

theorem dc67:compF Tryz.prog Tryz.f67=some df67:=by kernel_rfl
theorem ok67:FnOk Tryz.prog 67:=⟨Tryz.f67,Tryz.func67,by kernel_rfl,by kernel_rfl⟩

def df68:DF:= ⟨64,Sr [Gg 8 (.box (.t 1)),Gg 11 (.box (.t 4)),Gg 14 (.mv (Ki 0))] (.seq (Sr [Gg 17 (Fa 8 0),Gg 18 (Ld 17),
 Gg 19 (Bk .neq 18 1)] (Cn 19 (Sr [Gg 14 (.mv (Ki 60))] .ret) .skip)) (.seq (Sr [Gm 20 2,Gm 21 3,Gm 22 6,Gg 23 (Cc 60 20 21 22),Gm 15 23] (Sr [Gm 24 15,
 Gg 25 (Bk .neq 24 0)] (Cn 25 (Sr [Gm 26 15,Gm 14 26] .ret) .skip))) (.seq (Sr [Gg 27 (Fa 11 0),Gg 28 (Ld 27),Gg 29 (Bk .neq 28 2),
 Gm 30 29,Gv 31 5 30 false,Gh 32 (Bk .lss 31 0) 30 false,Gg 33 (Pq 30 32),
 Gm 34 33,Gv 35 5 34 false,Gh 36 (Fa 11 2) 34 false,Gh 37 (Ld 36) 34 false,Gh 38 (.bin .shl (Ki 1) (.t 37)) 34 false,Gh 39 (Bo .geq 35 38) 34 false,
 Gg 40 (Pq 34 39),
 Gm 41 40,Gv 42 6 41 false,Gh 43 (Fa 11 2) 41 false,Gh 44 (Ld 43) 41 false,Gh 45 (.bin .shl (Ki 1) (.t 44)) 41 false,Gv 46 5 41 false,Gh 47 (Bo .sub 45 46) 41 false,Gh 48 (Bo .gtr 42 47) 41 false,
 Gg 49 (Pq 41 48)] (Cn 49 (Sr [Gg 14 (.mv (Ki 150))] .ret) .skip)) (.seq (Sr [Gm 50 6,
 Gg 51 (.mv (Ki 0))] (.block 0 (.loop (Sr [Gg 52 (Bo .lss 51 50)] (.seq (Cn 52 .skip (.exit 0)) (.seq (.block 1 (Sr [Gm 53 51,Gm 16 53] (Sr [Gm 54 0,
 Gg 55 (Lm 11 11),Gm 56 5,Gm 57 16,Gg 58 (Bo .add 56 57),Gg 59 (Cb 30 55 58),Gg 60 (Cb 67 54 59),Gg 61 (.build (Zi 11) []),
 Gg 62 (.eqa true [true,true,true,true,true,true,true,true,true,true,true] (.t 60) (.t 61))] (Cn 62 (Sr [Gg 14 (.mv (Ki 120))] .ret) .skip)))) (.reg [Gg 63 (Bk .add 51 1),
 Gm 51 63]))))))) (Sr [Gg 14 (.mv (Ki 0))] .ret))))),[.t 14]⟩

theorem dc68:compF Tryz.prog Tryz.f68=some df68:=by kernel_rfl
theorem ok68:FnOk Tryz.prog 68:=⟨Tryz.f68,Tryz.func68,by kernel_rfl,by kernel_rfl⟩

def df69:DF:= ⟨15,Sr [Gg 2 (.box (.t 0)),Gg 4 (.mv Yf)] (.seq (Sr [Gg 5 (Fa 2 0),Gg 6 (Ld 5)] (.block 0 (.seq (Sr [Gg 8 (Bk .eql 6 2),
 Gm 7 8] (Cn 7 .skip (Sr [Gg 9 (Bk .eql 6 3),Gm 7 9] (Cn 7 .skip (.reg [Gg 10 (Bk .eql 6 10),Gm 7 10]))))) (Cn 7 (Sr [Gm 11 1,Gg 12 (Fa 2 1),Gg 13 (Ld 12),
 Gg 14 (Bo .lss 11 13),Gm 4 14] .ret) .skip)))) (Sr [Gg 4 (.mv Yt)] .ret)),[.t 4]⟩

theorem dc69:compF Tryz.prog Tryz.f69=some df69:=by kernel_rfl
theorem ok69:FnOk Tryz.prog 69:=⟨Tryz.f69,Tryz.func69,by kernel_rfl,by kernel_rfl⟩

def df70:DF:= ⟨23,Sr [Gg 6 (.new (Zi 11))] (Sr [Gm 8 0,Gm 9 2,Gg 10 (.build (Zi 11) [(0,1,(.t 8)),(1,1,(.t 9))]),
 Gg 7 (.new (Zi 11)),Gs 7 10 11] (.seq (Sr [Gm 11 0] (.block 0 (.seq (Sr [Gg 13 (Bk .eql 11 1),Gm 12 13] (Cn 12 .skip (.reg [Gg 14 (Bk .eql 11 2),
 Gm 12 14]))) (Cn 12 (.reg [Gm 15 1,Gg 16 (Fa 7 2),Gs 16 15 1]) (.seq (Sr [Gg 18 (Bk .eql 11 4),Gm 17 18] (Cn 17 .skip (Sr [Gg 19 (Bk .eql 11 5),
 Gm 17 19] (Cn 17 .skip (.reg [Gg 20 (Bk .eql 11 8),Gm 17 20]))))) (Cn 17 (.reg [Gg 21 (Fa 7 7),
 ⟨none, .st (.t 21) (Ki 7) 1,none⟩]) .skip)))))) (Sr [Gg 22 (Lm 7 11),Gs 6 22 11] .ret))),[.c 6 (some 11)]⟩

theorem dc70:compF Tryz.prog Tryz.f70=some df70:=by kernel_rfl
theorem ok70:FnOk Tryz.prog 70:=⟨Tryz.f70,Tryz.func70,by kernel_rfl,by kernel_rfl⟩

def df71:DF:= ⟨16,Sr [Gg 5 (.box (.t 2))] (Sr [Gm 7 0,Gm 8 1,Gg 9 (Cb 136 7 8),Gg 6 (.new (Zi 14)),Gs 6 9 14] (Sr [Gg 10 (Lm 5 11),
 Gg 11 (Fa 6 0),Gs 11 10 11] (.reg [Gm 12 0,Gm 13 1,Gg 14 (Lm 6 14),Gg 15 (Cc 79 12 13 14)]))),[]⟩

theorem dc71:compF Tryz.prog Tryz.f71=some df71:=by kernel_rfl
theorem ok71:FnOk Tryz.prog 71:=⟨Tryz.f71,Tryz.func71,by kernel_rfl,by kernel_rfl⟩

def df72:DF:= ⟨10,Sr [Gg 5 (.box (.t 2))] (.reg [Gm 6 0,Gm 7 1,Gg 8 (Lm 5 30),Gg 9 (Cc 137 6 7 8)]),[]⟩

theorem dc72:compF Tryz.prog Tryz.f72=some df72:=by kernel_rfl
theorem ok72:FnOk Tryz.prog 72:=⟨Tryz.f72,Tryz.func72,by kernel_rfl,by kernel_rfl⟩

def df73:DF:= ⟨17,Sr [Gg 7 (.box (.t 3))] (Sr [Gm 8 0,Gm 9 2,Gg 10 (Lm 7 11),Gg 11 (.build (Zi 14) [(0,11,(.t 10))]),Gg 12 (Cc 79 8 9 11)] (.reg [Gm 13 0,Gm 14 1,
 Gm 15 2,Gg 16 (Cc 45 13 14 15)])),[]⟩

theorem dc73:compF Tryz.prog Tryz.f73=some df73:=by kernel_rfl
theorem ok73:FnOk Tryz.prog 73:=⟨Tryz.f73,Tryz.func73,by kernel_rfl,by kernel_rfl⟩

def df74:DF:= ⟨24,Sr [Gg 4 (.new (Zi 14)),Gg 5 (.mv (Ki 0))] (Sr [Gm 9 0,Gm 10 1,Gg 11 (Cb 26 9 10),Gm 8 11,Gg 12 (Xt 8 0),Gg 13 (Xt 8 1),Gg 6 (.new (Zi 14)),Gs 6 12 14,
 Gm 7 13] (.seq (Sr [Gm 14 7,Gg 15 (Bk .eql 14 0),Gm 16 15,Gh 17 (Fa 6 0) 16 true,Gh 18 (Fa 17 0) 16 true,Gh 19 (Ld 18) 16 true,Gh 20 (Bk .eql 19 0) 16 true,
 Gg 21 (Pk 16 20)] (Cn 21 (.reg [Gg 7 (.mv (Ki 121))]) .skip)) (Sr [Gg 22 (Lm 6 14),Gm 23 7,Gs 4 22 14,Gm 5 23] .ret))),[.c 4 (some 14), .t 5]⟩

theorem dc74:compF Tryz.prog Tryz.f74=some df74:=by kernel_rfl
theorem ok74:FnOk Tryz.prog 74:=⟨Tryz.f74,Tryz.func74,by kernel_rfl,by kernel_rfl⟩

def df75:DF:= ⟨26,Sr [Gg 5 (.box (.t 2)),Gg 6 (.mv Yf)] (Sr [Gg 7 (Fa 5 11),Gg 8 (Ld 7),Gg 9 (Bk .neq 8 0),
 Gm 10 9,Gh 11 (Fa 5 12) 10 false,Gh 12 (Ld 11) 10 false,Gh 13 (Bk .neq 12 0) 10 false,Gg 14 (Pq 10 13),
 Gm 15 14,Gh 16 (Fa 5 13) 15 false,Gh 17 (Ld 16) 15 false,Gh 18 (Bk .neq 17 0) 15 false,Gg 19 (Pq 15 18),
 Gm 20 19,Gv 21 0 20 false,Gh 22 (Ca 100 21) 20 false,Gv 23 1 20 false,Gh 24 (Bo .eql 22 23) 20 false,Gg 25 (Pq 20 24),Gm 6 25] .ret),[.t 6]⟩

theorem dc75:compF Tryz.prog Tryz.f75=some df75:=by kernel_rfl
theorem ok75:FnOk Tryz.prog 75:=⟨Tryz.f75,Tryz.func75,by kernel_rfl,by kernel_rfl⟩

def df76:DF:= ⟨24, .seq (Sr [Gm 8 1,Gg 9 (Bk .eql 8 0)] (Cn 9 .ret .skip)) (Sr [Gm 11 0,Gm 12 1,Gg 13 (Cb 74 11 12),Gm 10 13,Gg 14 (Xt 10 0),Gg 15 (Xt 10 1),
 Gg 6 (.new (Zi 14)),Gs 6 14 14,Gm 7 15] (Sr [Gm 16 7,Gg 17 (Bk .eql 16 0)] (Cn 17 (Sr [Gm 18 2,Gg 19 (.callv (.t 18) [(.t 6)])] (.reg [Gm 20 0,Gm 21 1,
 Gg 22 (Lm 6 14),Gg 23 (Cc 79 20 21 22)])) .skip))),[]⟩

theorem dc76:compF Tryz.prog Tryz.f76=some df76:=by kernel_rfl
theorem ok76:FnOk Tryz.prog 76:=⟨Tryz.f76,Tryz.func76,by kernel_rfl,by kernel_rfl⟩

def df77:DF:= ⟨9, .reg [Gm 2 0,Gg 3 (Nl 2),Gg 4 (Fa 3 13),Gg 5 (Ld 4),Gg 6 (Bk .sub 5 1),Gg 7 (Nl 2),Gg 8 (Fa 7 13),Gs 8 6 1],[]⟩

theorem dc77:compF Tryz.prog Tryz.f77=some df77:=by kernel_rfl
theorem ok77:FnOk Tryz.prog 77:=⟨Tryz.f77,Tryz.func77,by kernel_rfl,by kernel_rfl⟩

def df78:DF:= ⟨9, .reg [Gm 2 0,Gg 3 (Nl 2),Gg 4 (Fa 3 13),Gg 5 (Ld 4),Gg 6 (Bk .sub 5 1),Gg 7 (Nl 2),Gg 8 (Fa 7 13),Gs 8 6 1],[]⟩

theorem dc78:compF Tryz.prog Tryz.f78=some df78:=by kernel_rfl
theorem ok78:FnOk Tryz.prog 78:=⟨Tryz.f78,Tryz.func78,by kernel_rfl,by kernel_rfl⟩

def df79:DF:= ⟨61,Sr [Gg 5 (.box (.t 2)),Gg 6 (.mv (Ki 0))] (.seq (Sr [Gm 15 0,Gm 16 1,Gg 17 (Cb 85 15 16),
 Gg 18 (.un .not (.t 17))] (Cn 18 (Sr [Gg 6 (.mv (Ki 20))] .ret) .skip)) (.seq (Sr [Gg 19 (Lm 5 14),Gg 20 (Ca 89 19),
 Gg 21 (.un .not (.t 20))] (Cn 21 (Sr [Gg 6 (.mv (Ki 110))] .ret) .skip)) (Sr [Gg 23 (Fa 5 0),Gg 24 (Lm 23 11),Gg 25 (Ca 138 24),Gm 22 25,Gg 26 (Xt 22 0),
 Gg 27 (Xt 22 1),Gg 28 (Xt 22 2),Gm 7 26,Gm 8 27,
 Gm 9 28] (Sr [Gg 10 (.mv (.k (.s (.fn 139 []))))] (.seq (.drm [(true,Gm 30 10),(true,Gg 31 (Fa 5 11)),(true,Gg 32 (Ld 31)),(true,Gm 34 10),(true,Gg 35 (Fa 5 12)),(true,Gg 36 (Ld 35)),(true,Gm 38 10),(true,Gg 39 (Fa 5 13)),(true,Gg 40 (Ld 39)),(true,Gg 33 (.callv (.t 30) [(.t 32)])),(true,Gg 37 (.callv (.t 34) [(.t 36)])),(false,Gg 41 (.callv (.t 38) [(.t 40)])),(false,Gg 42 (.bsl 3 [.i .i64 0, .i .u64 0, .i .i64 0, .i .u64 0, .i .i64 0, .i .u64 0] [(0,2,(.t 33)),(2,2,(.t 37)),(4,2,(.t 41))])),(false,Gg 43 (Ca 140 42)),(true,Gm 29 43),(true,Gg 44 (Xt 29 0)),(true,Gg 45 (Xt 29 1)),(true,Gm 11 44),(true,Gm 12 45)]) (.seq (Sr [Gm 46 7,
 Gm 47 8,Gm 48 11,Gg 49 (.build [.i .u64 0, .i .u64 0, .i .u64 0, .i .u64 0] [(0,1,(.t 46)),(1,1,(.t 47)),(2,1,(.t 48)),(3,1,(.k (.s (.i .u64 0))))]),
 Gg 50 (.mv (Ki 0))] (.block 0 (.loop (Sr [Gg 51 (Bk .lss 50 4)] (.seq (Cn 51 .skip (.exit 0)) (.seq (.block 1 (Sr [Gm 52 50,
 Gg 53 (.ix 4 1 none (.t 49) (.t 50)),Gm 13 52,Gm 14 53] (.reg [Gm 54 0,Gm 55 1,Gm 56 13,Gg 57 (Bo .add 55 56),Gm 58 14,
 Gg 59 (Cc 141 54 57 58)]))) (.reg [Gg 60 (Bk .add 50 1),Gm 50 60]))))))) (Sr [Gg 6 (.mv (Ki 0))] .ret))))))),[.t 6]⟩

theorem dc79:compF Tryz.prog Tryz.f79=some df79:=by kernel_rfl
theorem ok79:FnOk Tryz.prog 79:=⟨Tryz.f79,Tryz.func79,by kernel_rfl,by kernel_rfl⟩

def df80:DF:= ⟨9,Sr [Gg 4 (.mv (Ki 0))] (Sr [Gg 5 (.call 142 []),Gm 6 0,Gm 7 1,Gg 8 (Cc 143 5 6 7),Gm 4 8] .ret),[.t 4]⟩

theorem dc80:compF Tryz.prog Tryz.f80=some df80:=by kernel_rfl
theorem ok80:FnOk Tryz.prog 80:=⟨Tryz.f80,Tryz.func80,by kernel_rfl,by kernel_rfl⟩

def df81:DF:= ⟨8, .reg [Gm 3 0,Gg 4 (Fa 1 12),Gg 5 (Ld 4),Gg 6 (Nl 3),Gg 7 (Fa 6 12),Gs 7 5 1],[]⟩

theorem dc81:compF Tryz.prog Tryz.f81=some df81:=by kernel_rfl
theorem ok81:FnOk Tryz.prog 81:=⟨Tryz.f81,Tryz.func81,by kernel_rfl,by kernel_rfl⟩

def df82:DF:= ⟨8, .reg [Gm 3 0,Gg 4 (Fa 1 11),Gg 5 (Ld 4),Gg 6 (Nl 3),Gg 7 (Fa 6 11),Gs 7 5 1],[]⟩

theorem dc82:compF Tryz.prog Tryz.f82=some df82:=by kernel_rfl
theorem ok82:FnOk Tryz.prog 82:=⟨Tryz.f82,Tryz.func82,by kernel_rfl,by kernel_rfl⟩

def df83:DF:= ⟨143,Sr [Gg 12 (.box (.t 4)),Gg 16 (.mv (Ki 0))] (Sr [Gm 29 0,Gm 30 1,Gg 31 (Cb 66 29 30),Gg 17 (.new (Zi 11)),Gs 17 31 11] (Sr [Gm 32 0,Gg 33 (Lm 17 11),
 Gm 34 2,Gm 35 3,Gg 36 (Lm 12 11),Gm 37 5,Gm 38 6,Gg 39 (.call 144 [(.t 32),(.t 33),(.t 34),(.t 35),(.t 36),(.t 37),(.t 38)]),
 Gm 18 39] (.seq (Sr [Gm 40 18,Gg 41 (Bk .neq 40 0)] (Cn 41 (Sr [Gm 42 18,Gm 16 42] .ret) .skip)) (Sr [Gm 43 0,Gm 44 1,Gg 45 (Cb 32 43 44),
 Gm 19 45] (.seq (Sr [Gm 46 19,Gg 47 (Bk .eql 46 0)] (Cn 47 (Sr [Gm 48 0,Gm 49 1,Gm 50 7,Gg 51 (Cc 84 48 49 50),Gm 18 51] (.seq (Sr [Gm 52 18,
 Gg 53 (Bk .neq 52 0)] (Cn 53 (Sr [Gm 54 18,Gm 16 54] .ret) .skip)) (.reg [Gm 55 0,Gm 56 1,Gg 57 (Cb 66 55 56),Gs 17 57 11]))) .skip)) (Sr [Gg 59 (Lm 17 11),
 Gm 60 2,Gm 61 3,Gm 62 6,Gg 63 (Cd 16 59 60 61 62),Gm 58 63,Gg 64 (Xt 58 0),Gg 65 (Xt 58 1),Gm 20 64,Gm 21 65] (.seq (Sr [Gm 66 21,
 Gg 67 (Bk .neq 66 0)] (Cn 67 (Sr [Gm 68 21,Gm 16 68] .ret) .skip)) (Sr [Gm 70 2,Gm 71 3,Gg 72 (Cb 62 70 71),Gm 69 72,Gg 73 (Xt 69 0),Gg 74 (Xt 69 1),Gm 22 73,
 Gm 23 74] (.seq (Sr [Gg 24 (.mv (Ki 0))] (.block 0 (.loop (.seq (Sr [Gm 75 24,Gm 76 6,
 Gg 77 (Bo .lss 75 76)] (Cn 77 .skip (.exit 0))) (.seq (.block 1 (Sr [Gm 80 2,Gm 81 3,Gm 82 20,Gm 83 24,Gm 84 22,Gg 85 (Bo .mul 83 84),Gg 86 (Bo .add 82 85),
 Gg 87 (Cc 145 80 81 86),Gg 25 (.new (Zi 11)),Gs 25 87 11] (Sr [Gg 88 (Lm 25 11),Gg 89 (Fa 12 1),Gg 90 (Ld 89),Gm 91 5,Gm 92 24,Gg 93 (Bo .add 91 92),
 Gg 94 (.bin .mul (Ki 4) (.t 93)),Gg 95 (Bo .add 90 94),Gg 96 (Cb 146 88 95),Gm 26 96] (Sr [Gm 97 26,
 Gg 98 (.un .not (.t 97))] (Cn 98 (Sr [Gg 16 (.mv (Ki 122))] .ret) .skip))))) (.reg [Gm 78 24,Gg 79 (Bk .add 78 1),Gm 24 79])))))) (Sr [Gm 99 20,Gm 100 6,
 Gm 101 22,Gg 102 (Bo .mul 100 101),Gg 103 (Bo .add 99 102),Gg 104 (Fa 17 1),Gg 105 (Ld 104),Gg 106 (Bo .sub 103 105),
 Gg 107 (Fa 17 3),Gs 107 106 1] (Sr [Gm 108 0,Gm 109 1,Gg 110 (Lm 17 11),
 Gg 111 (Cc 147 108 109 110)] (.seq (Sr [Gg 27 (.mv (Ki 0))] (.block 2 (.loop (.seq (Sr [Gm 112 27,Gm 113 6,
 Gg 114 (Bo .lss 112 113)] (Cn 114 .skip (.exit 2))) (.seq (.block 3 (Sr [Gm 117 2,Gm 118 3,Gm 119 20,Gm 120 27,Gm 121 22,Gg 122 (Bo .mul 120 121),
 Gg 123 (Bo .add 119 122),Gg 124 (Cc 145 117 118 123),Gg 28 (.new (Zi 11)),Gs 28 124 11] (.seq (Sr [Gm 125 2,Gg 126 (Bk .eql 125 3)] (Cn 126 (.reg [Gm 127 0,
 Gg 128 (Fa 28 1),Gg 129 (Ld 128),
 Gg 130 (.build [.i .i64 0, .i .i64 0, .i .i64 0, .b false, .i .i64 0, .i .i64 0, .i .i64 0, .i .i64 0, .b false, .b false, .i .i64 0, .i .i64 0, .i .i64 0, .i .i64 0, .i .u64 0, .i .u64 0, .i .u64 0, .i .u64 0, .i .u64 0, .i .u64 0, .i .u64 0, .i .u64 0, .i .u64 0, .i .u64 0, .i .u64 0, .i .u64 0, .i .u64 0, .i .u64 0, .i .u64 0, .i .u64 0] [(2,1,(Ki 5))]),
 Gg 131 (Cc 132 127 129 130)]) .skip)) (.reg [Gm 132 0,Gm 133 1,Gg 134 (Fa 12 1),Gg 135 (Ld 134),Gm 136 5,Gm 137 27,Gg 138 (Bo .add 136 137),
 Gg 139 (.bin .mul (Ki 4) (.t 138)),Gg 140 (Bo .add 135 139),Gg 141 (Lm 28 11),Gg 142 (Cd 133 132 133 140 141)])))) (.reg [Gm 115 27,Gg 116 (Bk .add 115 1),
 Gm 27 116])))))) (Sr [Gg 16 (.mv (Ki 0))] .ret))))))))))))),[.t 16]⟩

theorem dc83:compF Tryz.prog Tryz.f83=some df83:=by kernel_rfl
theorem ok83:FnOk Tryz.prog 83:=⟨Tryz.f83,Tryz.func83,by kernel_rfl,by kernel_rfl⟩

def df84:DF:= ⟨50,Sr [Gg 6 (.mv (Ki 0))] (Sr [Gm 11 0,Gm 12 1,Gg 13 (Cb 66 11 12),Gg 7 (.new (Zi 11)),Gs 7 13 11] (.seq (Sr [Gg 14 (Fa 7 0),Gg 15 (Ld 14),
 Gg 16 (Bk .neq 15 1)] (Cn 16 (Sr [Gg 6 (.mv (Ki 60))] .ret) .skip)) (Sr [Gm 17 0,Gm 18 1,Gg 19 (Cb 32 17 18),Gm 8 19] (.seq (Sr [Gm 20 8,
 Gg 21 (Bk .neq 20 0)] (Cn 21 (Sr [Gg 6 (.mv (Ki 152))] .ret) .skip)) (.seq (.block 0 (.loop (.seq (Sr [Gg 22 (Fa 7 3),Gg 23 (Ld 22),
 Gg 24 (Bk .gtr 23 0)] (Cn 24 .skip (.exit 0))) (.block 1 (Sr [Gm 25 2,Gg 26 (Ca 148 25),Gm 9 26] (.seq (Sr [Gm 27 9,
 Gg 28 (.un .not (.t 27))] (Cn 28 (Sr [Gg 6 (.mv (Ki 3))] .ret) .skip)) (Sr [Gg 29 (Fa 7 3),Gg 30 (Ld 29),Gg 31 (Bk .sub 30 1),Gg 32 (Bk .quo 31 64),
 Gg 33 (Bk .mul 32 64),Gm 10 33] (Sr [Gm 34 0,Gg 35 (Fa 7 1),Gg 36 (Ld 35),Gm 37 10,Gg 38 (Bo .add 36 37),Gg 39 (Fa 7 3),Gg 40 (Ld 39),Gm 41 10,
 Gg 42 (Bo .sub 40 41),Gg 43 (.call 149 [(.t 34),(.t 38),(.t 42),(.k (.s (.i .u64 0)))])] (Sr [Gm 44 10,Gg 45 (Fa 7 3),Gs 45 44 1] (.reg [Gm 46 0,Gm 47 1,
 Gg 48 (Lm 7 11),Gg 49 (Cc 147 46 47 48)])))))))))) (Sr [Gg 6 (.mv (Ki 0))] .ret)))))),[.t 6]⟩

theorem dc84:compF Tryz.prog Tryz.f84=some df84:=by kernel_rfl
theorem ok84:FnOk Tryz.prog 84:=⟨Tryz.f84,Tryz.func84,by kernel_rfl,by kernel_rfl⟩

def df85:DF:= ⟨19,Sr [Gg 4 (.mv Yf)] (Sr [Gm 5 1,Gg 6 (Bk .geq 5 4),Gm 7 6,Gv 8 1 7 true,Gh 9 (Bk .rem 8 4) 7 true,Gh 10 (Bk .eql 9 0) 7 true,Gg 11 (Pk 7 10),
 Gm 12 11,Gv 13 1 12 true,Gv 14 0 12 true,Gh 15 (Ca 150 14) 12 true,Gh 16 (Bk .sub 15 4) 12 true,Gh 17 (Bo .leq 13 16) 12 true,Gg 18 (Pk 12 17),
 Gm 4 18] .ret),[.t 4]⟩

theorem dc85:compF Tryz.prog Tryz.f85=some df85:=by kernel_rfl
theorem ok85:FnOk Tryz.prog 85:=⟨Tryz.f85,Tryz.func85,by kernel_rfl,by kernel_rfl⟩

def df86:DF:= ⟨26,Sr [Gg 4 (.mv (.k (.s (.i .u64 0)))),Gg 5 (.mv (Ki 0))] (Sr [Gm 9 0,Gm 10 1,Gg 11 (.call 93 [(.t 9),(.t 10),(Ki 1)]),Gm 8 11,Gg 12 (Xt 8 0),
 Gg 13 (Xt 8 1),Gm 6 12,Gm 7 13] (.seq (Sr [Gm 14 7,Gg 15 (.un .not (.t 14))] (Cn 15 (Sr [Gg 4 (.mv (.k (.s (.i .u64 0)))),
 Gg 5 (.mv (Ki 20))] .ret) .skip)) (Sr [Gm 16 0,Gg 17 (Nl 16),Gg 18 (Fa 17 1),Gg 19 (Ld 18),Gg 20 (Bk .add 19 1),Gg 21 (Nl 16),
 Gg 22 (Fa 21 1),Gs 22 20 1] (Sr [Gm 23 6,Gg 24 (.ia none 1 (.t 23) (Ki 0)),Gg 25 (Ld 24),Gm 4 25,Gg 5 (.mv (Ki 0))] .ret)))),[.t 4, .t 5]⟩

theorem dc86:compF Tryz.prog Tryz.f86=some df86:=by kernel_rfl
theorem ok86:FnOk Tryz.prog 86:=⟨Tryz.f86,Tryz.func86,by kernel_rfl,by kernel_rfl⟩

def df87:DF:= ⟨77,Sr [Gg 4 (.new (Zi 11)),Gg 5 (.mv (Ki 0))] (Sr [Gm 11 0,
 Gg 12 (.bsl 7 (Zi 7) [(0,1,(Ki 4)),(1,1,(Ki 16)),(2,1,(Ki 5)),(3,1,(Ki 3)),(4,1,(Ki 4)),(5,1,(Ki 6)),(6,1,(Ki 5))]),Gg 13 (Cb 88 11 12),
 Gm 10 13,Gg 14 (Xt 10 0),Gg 15 (Xt 10 1),Gm 6 14,Gm 7 15] (.seq (Sr [Gm 16 7,Gg 17 (Bk .neq 16 0),
 Gm 18 17,Gv 19 1 18 false,Gh 20 (.bin .geq (.t 19) (.k (.s (.i .u64 4294967296)))) 18 false,Gg 21 (Pq 18 20)] (Cn 21 (Sr [Gg 22 (.build (Zi 11) []),Gs 4 22 11,
 Gg 5 (.mv (Ki 60))] .ret) .skip)) (.seq (.drm [(true,Gm 23 6),(true,Gg 24 (.ia none 1 (.t 23) (Ki 0))),(true,Gg 25 (Ld 24)),(true,Gg 26 (.conv .i64 (.t 25))),(true,Gm 27 6),(true,Gg 28 (.ia none 1 (.t 27) (Ki 1))),(true,Gg 29 (Ld 28)),(true,Gg 30 (.conv .i64 (.t 29))),(true,Gm 31 6),(true,Gg 32 (.ia none 1 (.t 31) (Ki 2))),(true,Gg 33 (Ld 32)),(true,Gg 34 (.conv .i64 (.t 33))),(true,Gm 35 6),(true,Gg 36 (.ia none 1 (.t 35) (Ki 3))),(true,Gg 37 (Ld 36)),(true,Gg 38 (.conv .i64 (.t 37))),(true,Gm 39 6),(true,Gg 40 (.ia none 1 (.t 39) (Ki 4))),(true,Gg 41 (Ld 40)),(true,Gg 42 (.conv .i64 (.t 41))),(true,Gm 43 6),(true,Gg 44 (.ia none 1 (.t 43) (Ki 5))),(true,Gg 45 (Ld 44)),(true,Gg 46 (.conv .i64 (.t 45))),(true,Gm 47 6),(true,Gg 48 (.ia none 1 (.t 47) (Ki 6))),(true,Gg 49 (Ld 48)),(true,Gg 50 (.conv .i64 (.t 49))),(true,Gg 51 (.build (Zi 11) [(0,1,(.t 26)),(1,1,(.t 30)),(2,1,(.t 34)),(7,1,(.t 38)),(10,1,(.t 42)),(8,1,(.t 46)),(5,1,(.t 50))])),(false,Gg 8 (.new (Zi 11))),(false,Gs 8 51 11)]) (Sr [Gm 52 1,
 Gg 53 (.conv .i64 (.t 52)),Gm 9 53] (.seq (Sr [Gg 54 (Fa 8 0),Gg 55 (Ld 54)] (.block 0 (Sr [Gg 59 (Bk .eql 55 2),Gm 58 59] (Cn 58 (.reg [Gm 60 9,
 Gg 61 (Fa 8 4),Gs 61 60 1]) (.seq (Sr [Gg 63 (Bk .eql 55 4),Gm 62 63] (Cn 62 .skip (.reg [Gg 64 (Bk .eql 55 5),Gm 62 64]))) (Cn 62 (.reg [Gm 65 9,
 Gg 66 (Fa 8 6),Gs 66 65 1]) (.seq (Sr [Gg 68 (Bk .eql 55 6),Gm 67 68] (Cn 67 .skip (.reg [Gg 69 (Bk .eql 55 8),Gm 67 69]))) (Cn 67 (.reg [Gm 70 9,
 Gg 71 (Fa 8 9),Gs 71 70 1]) (.reg [Gm 56 9,Gg 57 (Fa 8 3),Gs 57 56 1]))))))))) (.seq (Sr [Gg 72 (Lm 8 11),Gg 73 (Ca 95 72),
 Gg 74 (.un .not (.t 73))] (Cn 74 (Sr [Gg 75 (.build (Zi 11) []),Gs 4 75 11,Gg 5 (.mv (Ki 60))] .ret) .skip)) (Sr [Gg 76 (Lm 8 11),Gs 4 76 11,
 Gg 5 (.mv (Ki 0))] .ret))))))),[.c 4 (some 11), .t 5]⟩

theorem dc87:compF Tryz.prog Tryz.f87=some df87:=by kernel_rfl
theorem ok87:FnOk Tryz.prog 87:=⟨Tryz.f87,Tryz.func87,by kernel_rfl,by kernel_rfl⟩

def df88:DF:= ⟨41,Sr [Gg 4 (.mv (.k (.s (.ns)))),Gg 5 (.mv (Ki 0))] (Sr [Gg 6 (.mv (.k (.s (.ns))))] (Sr [Gg 7 (.mv (Ki 0))] (.seq (Sr [Gm 12 1,Gg 13 (.len (.t 12)),
 Gg 14 (.mv (Ki 0))] (.block 0 (.loop (Sr [Gg 15 (Bo .lss 14 13)] (.seq (Cn 15 .skip (.exit 0)) (.seq (.block 1 (Sr [Gg 16 (.ia none 1 (.t 12) (.t 14)),
 Gg 17 (Ld 16),Gm 9 17] (Sr [Gm 19 0,Gm 20 7,Gm 21 9,Gg 22 (Cc 151 19 20 21),Gm 18 22,Gg 23 (Xt 18 0),Gg 24 (Xt 18 1),Gm 10 23,Gm 11 24] (.seq (Sr [Gm 25 11,
 Gg 26 (Bk .neq 25 0)] (Cn 26 (Sr [Gm 27 11,Gg 4 (.mv (.k (.s (.ns)))),Gm 5 27] .ret) .skip)) (Sr [Gm 28 6,Gm 29 10,Gg 30 (.bsl 1 [.i .u64 0] [(0,1,(.t 29))]),
 Gg 31 (.app 1 8 (.t 28) (.t 30)),Gm 6 31] (.reg [Gm 32 7,Gm 33 9,Gg 34 (Bo .add 32 33),Gm 7 34])))))) (.reg [Gg 35 (Bk .add 14 1),
 Gm 14 35]))))))) (.seq (Sr [Gm 36 0,Gm 37 7,Gg 38 (Bo .shr 36 37),Gg 39 (.bin .neq (.t 38) (.k (.s (.i .u64 0))))] (Cn 39 (Sr [Gg 4 (.mv (.k (.s (.ns)))),
 Gg 5 (.mv (Ki 10))] .ret) .skip)) (Sr [Gm 40 6,Gm 4 40,Gg 5 (.mv (Ki 0))] .ret))))),[.t 4, .t 5]⟩

theorem dc88:compF Tryz.prog Tryz.f88=some df88:=by kernel_rfl
theorem ok88:FnOk Tryz.prog 88:=⟨Tryz.f88,Tryz.func88,by kernel_rfl,by kernel_rfl⟩

def df89:DF:= ⟨35,Sr [Gg 1 (.box (.t 0)),Gg 2 (.mv Yf)] (.seq (Sr [Gg 3 (Fa 1 0),Gg 4 (Fa 3 0),Gg 5 (Ld 4),Gg 6 (Bk .eql 5 0),
 Gm 7 6,Gh 8 (Lm 1 14) 7 true,Gh 9 (.build (Zi 14) []) 7 true,Gh 10 (.eqa true [true,true,true,true,true,true,true,true,true,true,true,true,true,true] (.t 8) (.t 9)) 7 true,
 Gg 11 (Pk 7 10)] (Cn 11 (Sr [Gg 2 (.mv Yf)] .ret) .skip)) (Sr [Gg 12 (Fa 1 0),Gg 13 (Lm 12 11),Gg 14 (Ca 95 13),
 Gm 15 14,Gh 16 (Fa 1 11) 15 true,Gh 17 (Ld 16) 15 true,Gh 18 (Ca 152 17) 15 true,Gg 19 (Pk 15 18),
 Gm 20 19,Gh 21 (Fa 1 12) 20 true,Gh 22 (Ld 21) 20 true,Gh 23 (Ca 152 22) 20 true,Gg 24 (Pk 20 23),
 Gm 25 24,Gh 26 (Fa 1 13) 25 true,Gh 27 (Ld 26) 25 true,Gh 28 (Bk .geq 27 0) 25 true,Gg 29 (Pk 25 28),
 Gm 30 29,Gh 31 (Fa 1 13) 30 true,Gh 32 (Ld 31) 30 true,Gh 33 (Bk .lss 32 65536) 30 true,Gg 34 (Pk 30 33),Gm 2 34] .ret)),[.t 2]⟩

theorem dc89:compF Tryz.prog Tryz.f89=some df89:=by kernel_rfl
theorem ok89:FnOk Tryz.prog 89:=⟨Tryz.f89,Tryz.func89,by kernel_rfl,by kernel_rfl⟩

def df90:DF:= ⟨4,Sr [Gg 1 (.box (.t 0)),Gg 2 (.mv (.k (.s (.nf))))] (Sr [Gg 3 (.mkf 153 [(.t 1)]),Gm 2 3] .ret),[.t 2]⟩

theorem dc90:compF Tryz.prog Tryz.f90=some df90:=by kernel_rfl
theorem ok90:FnOk Tryz.prog 90:=⟨Tryz.f90,Tryz.func90,by kernel_rfl,by kernel_rfl⟩

def df91:DF:= ⟨14,Sr [Gg 2 (.mv Yf)] (.seq (Sr [Gm 3 0,Gg 4 (.eqn false false (.t 3))] (Cn 4 (Sr [Gg 2 (.mv Yt)] .ret) .skip)) (.seq (Sr [Gm 5 0,Gg 6 (Nl 5),Gg 7 (Ld 6),
 Gg 8 (Bk .leq 7 0)] (Cn 8 (Sr [Gg 2 (.mv Yf)] .ret) .skip)) (Sr [Gm 9 0,Gg 10 (Nl 9),Gg 11 (Ld 10),Gg 12 (Bk .sub 11 1),
 Gg 13 (Nl 9),Gs 13 12 1] (Sr [Gg 2 (.mv Yt)] .ret)))),[.t 2]⟩

theorem dc91:compF Tryz.prog Tryz.f91=some df91:=by kernel_rfl
theorem ok91:FnOk Tryz.prog 91:=⟨Tryz.f91,Tryz.func91,by kernel_rfl,by kernel_rfl⟩

def df92:DF:= ⟨13,Sr [Gg 6 (.mv (Ki 0))] (.seq (Sr [Gm 7 1,Gg 8 (Bk .lss 7 1024)] (Cn 8 (Sr [Gg 6 (.mv (Ki 20))] .ret) .skip)) (Sr [Gm 9 0,Gm 10 1,Gm 11 2,
 Gg 12 (.call 154 [(.t 9),(.t 10),(.t 11),(.k (.s (.i .u64 0)))]),Gm 6 12] .ret)),[.t 6]⟩

theorem dc92:compF Tryz.prog Tryz.f92=some df92:=by kernel_rfl
theorem ok92:FnOk Tryz.prog 92:=⟨Tryz.f92,Tryz.func92,by kernel_rfl,by kernel_rfl⟩

def df93:DF:= ⟨43,Sr [Gg 6 (.mv (.k (.s (.ns)))),Gg 7 (.mv Yf)] (.seq (Sr [Gm 8 1,Gg 9 (Bk .lss 8 0),Gm 10 9,Gv 11 2 10 false,Gh 12 (Bk .lss 11 0) 10 false,
 Gg 13 (Pq 10 12),
 Gm 14 13,Gv 15 1 14 false,Gv 16 0 14 false,Gh 17 (Nl 16) 14 false,Gh 18 (Fa 17 0) 14 false,Gh 19 (Ld 18) 14 false,Gh 20 (.len (.t 19)) 14 false,Gh 21 (Bo .gtr 15 20) 14 false,
 Gg 22 (Pq 14 21),
 Gm 23 22,Gv 24 2 23 false,Gv 25 0 23 false,Gh 26 (Nl 25) 23 false,Gh 27 (Fa 26 0) 23 false,Gh 28 (Ld 27) 23 false,Gh 29 (.len (.t 28)) 23 false,Gv 30 1 23 false,Gh 31 (Bo .sub 29 30) 23 false,Gh 32 (Bo .gtr 24 31) 23 false,
 Gg 33 (Pq 23 32)] (Cn 33 (Sr [Gg 6 (.mv (.k (.s (.ns)))),Gg 7 (.mv Yf)] .ret) .skip)) (Sr [Gm 34 0,Gg 35 (Nl 34),Gg 36 (Fa 35 0),Gg 37 (Ld 36),Gm 38 1,Gm 39 1,
 Gm 40 2,Gg 41 (Bo .add 39 40),Gg 42 (.slc none 1 (.t 37) (some (.t 38)) (some (.t 41))),Gm 6 42,Gg 7 (.mv Yt)] .ret)),[.t 6, .t 7]⟩

theorem dc93:compF Tryz.prog Tryz.f93=some df93:=by kernel_rfl
theorem ok93:FnOk Tryz.prog 93:=⟨Tryz.f93,Tryz.func93,by kernel_rfl,by kernel_rfl⟩

def df95:DF:= ⟨130,Sr [Gg 1 (.box (.t 0)),Gg 2 (.mv Yf)] (Sr [Gg 6 (Lm 1 11),Gg 7 (Ca 155 6),Gm 5 7,Gg 8 (Xt 5 0),Gg 9 (Xt 5 1),Gm 3 8,
 Gm 4 9] (.seq (.seq (.drm [(true,Gm 10 4),(true,Gg 11 (.un .not (.t 10))),(true,Gm 12 11),(true,Gh 13 (Fa 1 0) 12 false),(true,Gh 14 (Ld 13) 12 false),(true,Gh 15 (Bk .lss 14 0) 12 false),(true,Gg 16 (Pq 12 15)),(true,Gm 17 16),(true,Gh 18 (Fa 1 0) 17 false),(true,Gh 19 (Ld 18) 17 false),(true,Gh 20 (Bk .gtr 19 13) 17 false),(true,Gg 21 (Pq 17 20)),(true,Gm 22 21),(true,Gh 23 (Lm 1 11) 22 false),(true,Gh 25 (Fa 1 0) 22 false),(true,Gh 26 (Ld 25) 22 false),(true,Gh 27 (.build (Zi 11) [(0,1,(.t 26))]) 22 false),(true,Gh 24 (Ca 156 23) 22 false),(true,Gh 28 (.eqa true [true,true,true,true,true,true,true,true,true,true,true] (.t 24) (.t 27)) 22 false),(true,Gg 29 (Pq 22 28))]) (Cn 29 (Sr [Gg 2 (.mv Yf)] .ret) .skip)) (.seq (Sr [Gm 30 3,
 Gg 31 (Bk .gtr 30 0),
 Gm 32 31,Gh 33 (Fa 1 1) 32 true,Gh 34 (Ld 33) 32 true,Gh 35 (Bk .lss 34 1024) 32 true,Gv 36 35 32 true,Gh 37 (Fa 1 1) 36 false,Gh 38 (Ld 37) 36 false,Gh 39 (Bk .gtr 38 65535) 36 false,Gh 40 (Pq 36 39) 32 true,Gv 41 40 32 true,Gh 42 (Fa 1 1) 41 false,Gh 43 (Ld 42) 41 false,Gv 44 3 41 false,Gh 45 (Bo .rem 43 44) 41 false,Gh 46 (Bk .neq 45 0) 41 false,Gh 47 (Pq 41 46) 32 true,
 Gg 48 (Pk 32 47)] (Cn 48 (Sr [Gg 2 (.mv Yf)] .ret) .skip)) (.seq (Sr [Gg 49 (Fa 1 0),Gg 50 (Ld 49)] (.block 0 (Sr [Gg 52 (Bk .eql 50 1),
 Gm 51 52] (Cn 51 (Sr [Gg 53 (Fa 1 3),Gg 54 (Ld 53),Gm 55 3,Gg 56 (Cb 157 54 55),Gm 2 56] .ret) (Sr [Gg 58 (Bk .eql 50 2),
 Gm 57 58] (Cn 57 (.seq (.drm [(true,Gg 59 (Fa 1 5)),(true,Gg 60 (Ld 59)),(false,Gg 61 (.call 157 [(.t 60),(Ki 31)])),(true,Gm 62 61),(true,Gh 63 (Fa 1 4) 62 true),(true,Gh 64 (Ld 63) 62 true),(true,Gh 65 (Fa 1 5) 62 true),(true,Gh 66 (Ld 65) 62 true),(true,Gh 67 (.bin .shl (Ki 1) (.t 66)) 62 true),(true,Gh 68 (Bk .sub 67 1) 62 true),(false,Gh 69 (Cb 157 64 68) 62 true),(true,Gg 70 (Pk 62 69)),(true,Gm 2 70)]) .ret) (.seq (Sr [Gg 72 (Bk .eql 50 4),
 Gm 71 72] (Cn 71 .skip (.reg [Gg 73 (Bk .eql 50 5),Gm 71 73]))) (Cn 71 (Sr [Gg 74 (Fa 1 7),Gg 75 (Ld 74),Gg 76 (.call 157 [(.t 75),(Ki 7)]),
 Gm 77 76,Gh 78 (Fa 1 6) 77 true,Gh 79 (Ld 78) 77 true,Gh 80 (.call 157 [(.t 79),(Ki 268435455)]) 77 true,Gg 81 (Pk 77 80),
 Gm 2 81] .ret) (Sr [Gg 83 (Bk .eql 50 6),Gm 82 83] (Cn 82 (Sr [Gg 84 (Fa 1 8),Gg 85 (Ld 84),Gg 86 (Fa 1 9),Gg 87 (Ld 86),
 Gg 88 (.call 158 [(.t 85),(.t 87),(Ki 1)]),Gm 2 88] .ret) (Sr [Gg 90 (Bk .eql 50 7),Gm 89 90] (Cn 89 (Sr [Gg 91 (Fa 1 8),Gg 92 (Ld 91),
 Gg 93 (.call 157 [(.t 92),(Ki 63)]),Gm 94 93,Gh 95 (Fa 1 8) 94 true,Gh 96 (Ld 95) 94 true,Gh 97 (Bk .rem 96 8) 94 true,Gh 98 (Bk .eql 97 0) 94 true,
 Gg 99 (Pk 94 98),Gm 2 99] .ret) (Sr [Gg 101 (Bk .eql 50 8),Gm 100 101] (Cn 100 (Sr [Gg 102 (Fa 1 7),Gg 103 (Ld 102),Gg 104 (.call 157 [(.t 103),(Ki 7)]),
 Gm 105 104,Gh 106 (Fa 1 8) 105 true,Gh 107 (Ld 106) 105 true,Gh 108 (Fa 1 9) 105 true,Gh 109 (Ld 108) 105 true,Gh 110 (.call 158 [(.t 107),(.t 109),(Ki 16)]) 105 true,
 Gg 111 (Pk 105 110),Gm 2 111] .ret) (Sr [Gg 113 (Bk .eql 50 10),Gm 112 113] (Cn 112 (.seq (Sr [Gg 114 (Fa 1 2),Gg 115 (Ld 114),
 Gg 116 (Bk .eql 115 31)] (Cn 116 (Sr [Gg 117 (Fa 1 3),Gg 118 (Ld 117),Gg 119 (.call 157 [(.t 118),(Ki 3)]),Gm 2 119] .ret) .skip)) (Sr [Gg 120 (Fa 1 3),
 Gg 121 (Ld 120),Gm 122 3,Gg 123 (Bk .quo 122 4),Gg 124 (Cb 157 121 123),Gm 2 124] .ret)) (Sr [Gg 126 (Bk .eql 50 12),Gm 125 126] (Cn 125 (Sr [Gg 127 (Fa 1 10),
 Gg 128 (Ld 127),Gg 129 (.call 157 [(.t 128),(Ki 15)]),Gm 2 129] .ret) .skip)))))))))))))))))) (Sr [Gg 2 (.mv Yt)] .ret))))),[.t 2]⟩

theorem dc95:compF Tryz.prog Tryz.f95=some df95:=by kernel_rfl
theorem ok95:FnOk Tryz.prog 95:=⟨Tryz.f95,Tryz.func95,by kernel_rfl,by kernel_rfl⟩

def df96:DF:= ⟨12,Sr [Gg 4 (.mv Yf)] (Sr [Gm 5 0,Gg 6 (Bk .geq 5 0),Gm 7 6,Gv 8 0 7 true,Gv 9 1 7 true,Gh 10 (Bo .lss 8 9) 7 true,Gg 11 (Pk 7 10),Gm 4 11] .ret),[.t 4]⟩

theorem dc96:compF Tryz.prog Tryz.f96=some df96:=by kernel_rfl
theorem ok96:FnOk Tryz.prog 96:=⟨Tryz.f96,Tryz.func96,by kernel_rfl,by kernel_rfl⟩

def df97:DF:= ⟨9,Sr [Gg 4 (.mv Yf)] (Sr [Gm 5 0,Gm 6 1,Gg 7 (Cb 159 5 6),Gg 8 (Bk .geq 7 0),Gm 4 8] .ret),[.t 4]⟩

theorem dc97:compF Tryz.prog Tryz.f97=some df97:=by kernel_rfl
theorem ok97:FnOk Tryz.prog 97:=⟨Tryz.f97,Tryz.func97,by kernel_rfl,by kernel_rfl⟩

def df98:DF:= ⟨25,Sr [Gg 4 (.new (Zi 14)),Gg 5 (.mv (Ki 0))] (Sr [Gm 9 0,Gm 10 1,Gg 11 (Cb 126 9 10),Gm 8 11,Gg 12 (Xt 8 0),Gg 13 (Xt 8 1),Gg 6 (.new (Zi 14)),Gs 6 12 14,
 Gm 7 13] (.seq (Sr [Gm 14 7,Gg 15 (Bk .eql 14 0),Gm 16 15,Gh 17 (Fa 6 0) 16 true,Gh 18 (Fa 17 0) 16 true,Gh 19 (Ld 18) 16 true,Gh 20 (Bk .eql 19 0) 16 true,
 Gg 21 (Pk 16 20)] (Cn 21 (Sr [Gg 22 (.build (Zi 14) []),Gs 4 22 14,Gg 5 (.mv (Ki 121))] .ret) .skip)) (Sr [Gg 23 (Lm 6 14),Gm 24 7,Gs 4 23 14,
 Gm 5 24] .ret))),[.c 4 (some 14), .t 5]⟩

theorem dc98:compF Tryz.prog Tryz.f98=some df98:=by kernel_rfl
theorem ok98:FnOk Tryz.prog 98:=⟨Tryz.f98,Tryz.func98,by kernel_rfl,by kernel_rfl⟩

def df99:DF:= ⟨6,Sr [Gg 2 (.box (.t 0)),Gg 3 (.box (.t 1)),Gg 4 (.mv (.k (.s (.nf))))] (Sr [Gg 5 (.mkf 160 [(.t 2),(.t 3)]),Gm 4 5] .ret),[.t 4]⟩

theorem dc99:compF Tryz.prog Tryz.f99=some df99:=by kernel_rfl
theorem ok99:FnOk Tryz.prog 99:=⟨Tryz.f99,Tryz.func99,by kernel_rfl,by kernel_rfl⟩

def df100:DF:= ⟨6,Sr [Gg 2 (.mv (Ki 0))] (Sr [Gg 3 (.call 142 []),Gm 4 0,Gg 5 (Cb 161 3 4),Gm 2 5] .ret),[.t 2]⟩

theorem dc100:compF Tryz.prog Tryz.f100=some df100:=by kernel_rfl
theorem ok100:FnOk Tryz.prog 100:=⟨Tryz.f100,Tryz.func100,by kernel_rfl,by kernel_rfl⟩

def df101:DF:= ⟨14,Sr [Gg 1 (.box (.t 0)),Gg 2 (.mv (Ki 0))] (.seq (Sr [Gg 5 (Lm 1 11),Gg 6 (Ca 95 5),
 Gg 7 (.un .not (.t 6))] (Cn 7 (Sr [Gg 2 (.mv (Ki 0))] .ret) .skip)) (Sr [Gg 9 (Lm 1 11),Gg 10 (Ca 155 9),Gm 8 10,Gg 11 (Xt 8 0),Gg 12 (Xt 8 1),Gm 3 11,
 Gm 4 12] (Sr [Gm 13 3,Gm 2 13] .ret))),[.t 2]⟩

theorem dc101:compF Tryz.prog Tryz.f101=some df101:=by kernel_rfl
theorem ok101:FnOk Tryz.prog 101:=⟨Tryz.f101,Tryz.func101,by kernel_rfl,by kernel_rfl⟩

def df112:DF:= ⟨102,Sr [Gg 1 (.box (.t 0)),Gg 2 (.new (Zi 11))] (Sr [Gg 4 (Fa 1 0),Gg 5 (Ld 4),Gg 6 (.build (Zi 11) [(0,1,(.t 5))]),
 Gg 3 (.new (Zi 11)),Gs 3 6 11] (.seq (Sr [Gg 7 (Fa 1 0),Gg 8 (Ld 7)] (.block 0 (Sr [Gg 10 (Bk .eql 8 1),Gm 9 10] (Cn 9 (Sr [Gg 11 (Fa 1 1),Gg 12 (Ld 11),
 Gg 13 (Fa 3 1),Gs 13 12 1] (Sr [Gg 14 (Fa 1 2),Gg 15 (Ld 14),Gg 16 (Fa 3 2),Gs 16 15 1] (.reg [Gg 17 (Fa 1 3),Gg 18 (Ld 17),
 Gg 19 (Fa 3 3),Gs 19 18 1]))) (Sr [Gg 21 (Bk .eql 8 2),Gm 20 21] (Cn 20 (Sr [Gg 22 (Fa 1 1),Gg 23 (Ld 22),Gg 24 (Fa 3 1),Gs 24 23 1] (Sr [Gg 25 (Fa 1 2),
 Gg 26 (Ld 25),Gg 27 (Fa 3 2),Gs 27 26 1] (Sr [Gg 28 (Fa 1 4),Gg 29 (Ld 28),Gg 30 (Fa 3 4),Gs 30 29 1] (.reg [Gg 31 (Fa 1 5),Gg 32 (Ld 31),
 Gg 33 (Fa 3 5),Gs 33 32 1])))) (.seq (Sr [Gg 35 (Bk .eql 8 4),Gm 34 35] (Cn 34 .skip (.reg [Gg 36 (Bk .eql 8 5),Gm 34 36]))) (Cn 34 (Sr [Gg 37 (Fa 1 1),
 Gg 38 (Ld 37),Gg 39 (Fa 3 1),Gs 39 38 1] (Sr [Gg 40 (Fa 1 7),Gg 41 (Ld 40),Gg 42 (Fa 3 7),Gs 42 41 1] (.reg [Gg 43 (Fa 1 6),Gg 44 (Ld 43),
 Gg 45 (Fa 3 6),Gs 45 44 1]))) (.seq (Sr [Gg 47 (Bk .eql 8 3),Gm 46 47] (Cn 46 .skip (.reg [Gg 48 (Bk .eql 8 9),Gm 46 48]))) (Cn 46 (.reg [Gg 49 (Fa 1 1),
 Gg 50 (Ld 49),Gg 51 (Fa 3 1),Gs 51 50 1]) (Sr [Gg 53 (Bk .eql 8 6),Gm 52 53] (Cn 52 (Sr [Gg 54 (Fa 1 1),Gg 55 (Ld 54),
 Gg 56 (Fa 3 1),Gs 56 55 1] (Sr [Gg 57 (Fa 1 8),Gg 58 (Ld 57),Gg 59 (Fa 3 8),Gs 59 58 1] (.reg [Gg 60 (Fa 1 9),Gg 61 (Ld 60),
 Gg 62 (Fa 3 9),Gs 62 61 1]))) (Sr [Gg 64 (Bk .eql 8 7),Gm 63 64] (Cn 63 (Sr [Gg 65 (Fa 1 1),Gg 66 (Ld 65),Gg 67 (Fa 3 1),Gs 67 66 1] (.reg [Gg 68 (Fa 1 8),
 Gg 69 (Ld 68),Gg 70 (Fa 3 8),Gs 70 69 1])) (Sr [Gg 72 (Bk .eql 8 8),Gm 71 72] (Cn 71 (Sr [Gg 73 (Fa 1 1),Gg 74 (Ld 73),
 Gg 75 (Fa 3 1),Gs 75 74 1] (Sr [Gg 76 (Fa 1 7),Gg 77 (Ld 76),Gg 78 (Fa 3 7),Gs 78 77 1] (Sr [Gg 79 (Fa 1 8),Gg 80 (Ld 79),
 Gg 81 (Fa 3 8),Gs 81 80 1] (.reg [Gg 82 (Fa 1 9),Gg 83 (Ld 82),Gg 84 (Fa 3 9),Gs 84 83 1])))) (Sr [Gg 86 (Bk .eql 8 10),Gm 85 86] (Cn 85 (Sr [Gg 87 (Fa 1 1),
 Gg 88 (Ld 87),Gg 89 (Fa 3 1),Gs 89 88 1] (Sr [Gg 90 (Fa 1 2),Gg 91 (Ld 90),Gg 92 (Fa 3 2),Gs 92 91 1] (.reg [Gg 93 (Fa 1 3),Gg 94 (Ld 93),
 Gg 95 (Fa 3 3),Gs 95 94 1]))) (Sr [Gg 97 (Bk .eql 8 12),Gm 96 97] (Cn 96 (.reg [Gg 98 (Fa 1 10),Gg 99 (Ld 98),
 Gg 100 (Fa 3 10),Gs 100 99 1]) .skip)))))))))))))))))))) (Sr [Gg 101 (Lm 3 11),Gs 2 101 11] .ret))),[.c 2 (some 11)]⟩

theorem dc112:compF Tryz.prog Tryz.f112=some df112:=by kernel_rfl
theorem ok112:FnOk Tryz.prog 112:=⟨Tryz.f112,Tryz.func112,by kernel_rfl,by kernel_rfl⟩

def df113:DF:= ⟨58,Sr [Gg 1 (.box (.t 0)),Gg 2 (.mv (Ki 0))] (.seq (Sr [Gg 3 (Fa 1 0),Gg 4 (Ld 3)] (.block 0 (Sr [Gg 6 (Bk .eql 4 1),Gm 5 6] (Cn 5 (Sr [Gg 7 (Fa 1 2),
 Gg 8 (Ld 7),Gg 9 (Bk .geq 8 4),Gm 10 9,Gh 11 (Fa 1 2) 10 true,Gh 12 (Ld 11) 10 true,Gh 13 (Bk .leq 12 15) 10 true,Gg 14 (Pk 10 13)] (Cn 14 (Sr [Gg 15 (Fa 1 2),
 Gg 16 (Ld 15),Gg 17 (.bin .shl (Ki 1) (.t 16)),Gm 2 17] .ret) .skip)) (Sr [Gg 19 (Bk .eql 4 2),Gm 18 19] (Cn 18 (Sr [Gg 20 (Fa 1 2),Gg 21 (Ld 20),
 Gg 22 (Bk .geq 21 1),Gm 23 22,Gh 24 (Fa 1 2) 23 true,Gh 25 (Ld 24) 23 true,Gh 26 (Bk .leq 25 8) 23 true,Gg 27 (Pk 23 26)] (Cn 27 (Sr [Gg 28 (Fa 1 2),
 Gg 29 (Ld 28),Gg 30 (.bin .shl (Ki 4) (.t 29)),Gm 2 30] .ret) .skip)) (Sr [Gg 32 (Bk .eql 4 10),Gm 31 32] (Cn 31 (.seq (Sr [Gg 33 (Fa 1 2),Gg 34 (Ld 33),
 Gg 35 (Bk .geq 34 1),Gm 36 35,Gh 37 (Fa 1 2) 36 true,Gh 38 (Ld 37) 36 true,Gh 39 (Bk .leq 38 8) 36 true,Gg 40 (Pk 36 39)] (Cn 40 (Sr [Gg 41 (Fa 1 2),
 Gg 42 (Ld 41),Gg 43 (.bin .shl (Ki 4) (.t 42)),Gm 2 43] .ret) .skip)) (Sr [Gg 44 (Fa 1 2),Gg 45 (Ld 44),
 Gg 46 (Bk .eql 45 31)] (Cn 46 (Sr [Gg 2 (.mv (Ki 64))] .ret) .skip))) (.seq (Sr [Gg 48 (Bk .eql 4 3),Gm 47 48] (Cn 47 .skip (.reg [Gg 49 (Bk .eql 4 9),
 Gm 47 49]))) (Cn 47 (Sr [Gg 2 (.mv (Ki 64))] .ret) (Sr [Gg 51 (Bk .eql 4 4),Gm 50 51] (Cn 50 (Sr [Gg 2 (.mv (Ki 4))] .ret) (.seq (Sr [Gg 53 (Bk .eql 4 5),
 Gm 52 53] (Cn 52 .skip (Sr [Gg 54 (Bk .eql 4 6),Gm 52 54] (Cn 52 .skip (.reg [Gg 55 (Bk .eql 4 7),
 Gm 52 55]))))) (Cn 52 (Sr [Gg 2 (.mv (Ki 8))] .ret) (Sr [Gg 57 (Bk .eql 4 8),
 Gm 56 57] (Cn 56 (Sr [Gg 2 (.mv (Ki 16))] .ret) .skip)))))))))))))))) (Sr [Gg 2 (.mv (Ki 0))] .ret)),[.t 2]⟩

theorem dc113:compF Tryz.prog Tryz.f113=some df113:=by kernel_rfl
theorem ok113:FnOk Tryz.prog 113:=⟨Tryz.f113,Tryz.func113,by kernel_rfl,by kernel_rfl⟩

def df114:DF:= ⟨17,Sr [Gg 4 (.mv Yf)] (Sr [Gm 5 0,Gg 6 (Bk .geq 5 1024),Gm 7 6,Gv 8 0 7 true,Gh 9 (Bk .leq 8 65535) 7 true,Gg 10 (Pk 7 9),
 Gm 11 10,Gv 12 0 11 true,Gv 13 1 11 true,Gh 14 (Bo .rem 12 13) 11 true,Gh 15 (Bk .eql 14 0) 11 true,Gg 16 (Pk 11 15),Gm 4 16] .ret),[.t 4]⟩

theorem dc114:compF Tryz.prog Tryz.f114=some df114:=by kernel_rfl
theorem ok114:FnOk Tryz.prog 114:=⟨Tryz.f114,Tryz.func114,by kernel_rfl,by kernel_rfl⟩

def df115:DF:= ⟨15,Sr [Gg 6 (.mv Yf)] (Sr [Gm 7 0,Gm 8 1,Gg 9 (Bo .geq 7 8),Gm 10 9,Gv 11 0 10 true,Gv 12 2 10 true,Gh 13 (Bo .leq 11 12) 10 true,Gg 14 (Pk 10 13),
 Gm 6 14] .ret),[.t 6]⟩

theorem dc115:compF Tryz.prog Tryz.f115=some df115:=by kernel_rfl
theorem ok115:FnOk Tryz.prog 115:=⟨Tryz.f115,Tryz.func115,by kernel_rfl,by kernel_rfl⟩

def df118:DF:= ⟨58,Sr [Gg 5 (.box (.t 2)),Gg 6 (.mv (Ki 0))] (Sr [Gm 12 0,Gm 13 1,Gg 14 (Cb 172 12 13),Gm 7 14] (.seq (Sr [Gm 15 7,
 Gg 16 (.un .not (.t 15))] (Cn 16 (Sr [Gg 6 (.mv (Ki 20))] .ret) .skip)) (Sr [Gg 17 (Lm 5 14),Gg 18 (Ca 173 17),Gm 8 18] (.seq (Sr [Gm 19 8,
 Gg 20 (.un .not (.t 19))] (Cn 20 (Sr [Gg 6 (.mv (Ki 110))] .ret) .skip)) (Sr [Gg 22 (Fa 5 0),Gg 23 (Lm 22 11),Gg 24 (Ca 174 23),Gm 21 24,Gg 25 (Xt 21 0),
 Gg 26 (Xt 21 1),Gg 27 (Xt 21 2),Gm 9 25,Gm 10 26,Gm 11 27] (Sr [Gm 28 0,Gm 29 1,Gm 30 9,Gg 31 (Cc 175 28 29 30)] (Sr [Gm 32 0,Gm 33 1,Gg 34 (Bk .add 33 1),
 Gm 35 10,Gg 36 (Cc 175 32 34 35)] (Sr [Gm 37 0,Gm 38 1,Gg 39 (Bk .add 38 2),Gg 40 (Fa 5 11),Gg 41 (Ld 40),Gg 42 (.conv .u64 (.t 41)),Gg 43 (Fa 5 12),
 Gg 44 (Ld 43),Gg 45 (.conv .u64 (.t 44)),Gg 46 (.bin .shl (.t 45) (.k (.s (.i .u64 16)))),Gg 47 (Bo .add 42 46),Gg 48 (Fa 5 13),Gg 49 (Ld 48),
 Gg 50 (.conv .u64 (.t 49)),Gg 51 (.bin .shl (.t 50) (.k (.s (.i .u64 32)))),Gg 52 (Bo .add 47 51),Gg 53 (Cc 175 37 39 52)] (Sr [Gm 54 0,Gm 55 1,
 Gg 56 (Bk .add 55 3),Gg 57 (.call 175 [(.t 54),(.t 56),(.k (.s (.i .u64 0)))])] (Sr [Gg 6 (.mv (Ki 0))] .ret)))))))))),[.t 6]⟩

theorem dc118:compF Tryz.prog Tryz.f118=some df118:=by kernel_rfl
theorem ok118:FnOk Tryz.prog 118:=⟨Tryz.f118,Tryz.func118,by kernel_rfl,by kernel_rfl⟩

def df119:DF:= ⟨21,Sr [Gg 6 (.box (.t 2))] (.seq (Sr [Gm 8 1,Gg 9 (Bk .eql 8 0)] (Cn 9 (.reg [Gm 10 0,Gg 11 (Ld 6),Gg 12 (Cb 80 10 11)]) .skip)) (Sr [Gm 13 0,Gm 14 1,
 Gg 15 (.mkf 176 [(.t 6)]),Gg 16 (Cc 76 13 14 15)] (.reg [Gm 17 0,Gm 18 3,Gg 19 (.mkf 177 [(.t 6)]),Gg 20 (Cc 76 17 18 19)]))),[]⟩

theorem dc119:compF Tryz.prog Tryz.f119=some df119:=by kernel_rfl
theorem ok119:FnOk Tryz.prog 119:=⟨Tryz.f119,Tryz.func119,by kernel_rfl,by kernel_rfl⟩

def df122:DF:= ⟨5,Sr [Gg 2 (.mv (Ki 0))] (Sr [Gm 3 0,Gg 4 (.call 178 [(.t 3),(Ki 2),(Ki 4),(Ki 4)]),Gm 2 4] .ret),[.t 2]⟩

theorem dc122:compF Tryz.prog Tryz.f122=some df122:=by kernel_rfl
theorem ok122:FnOk Tryz.prog 122:=⟨Tryz.f122,Tryz.func122,by kernel_rfl,by kernel_rfl⟩

def df123:DF:= ⟨29,Sr [Gm 10 1,Gg 11 (Bk .eql 10 0)] (Cn 11 (.reg [Gm 12 0,Gm 13 2,Gg 14 (Cb 128 12 13)]) (Sr [Gm 16 0,Gm 17 1,Gg 18 (Cb 126 16 17),Gm 15 18,
 Gg 19 (Xt 15 0),Gg 20 (Xt 15 1),Gg 8 (.new (Zi 14)),Gs 8 19 14,Gm 9 20] (Sr [Gm 21 9,Gg 22 (Bk .eql 21 0)] (Cn 22 (Sr [Gm 23 2,
 Gg 24 (Fa 8 12),Gs 24 23 1] (.reg [Gm 25 0,Gm 26 1,Gg 27 (Lm 8 14),Gg 28 (Cc 118 25 26 27)])) .skip)))),[]⟩

theorem dc123:compF Tryz.prog Tryz.f123=some df123:=by kernel_rfl
theorem ok123:FnOk Tryz.prog 123:=⟨Tryz.f123,Tryz.func123,by kernel_rfl,by kernel_rfl⟩

def df124:DF:= ⟨26,Sr [Gm 9 0,Gm 10 2,Gg 11 (Cb 126 9 10),Gm 8 11,Gg 12 (Xt 8 0),Gg 13 (Xt 8 1),Gg 6 (.new (Zi 14)),Gs 6 12 14,Gm 7 13] (Sr [Gm 14 2,Gg 15 (Bk .neq 14 0),
 Gm 16 15,Gv 17 7 16 true,Gh 18 (Bk .eql 17 0) 16 true,Gg 19 (Pk 16 18)] (Cn 19 (Sr [Gm 20 1,Gg 21 (Fa 6 11),Gs 21 20 1] (.reg [Gm 22 0,Gm 23 2,Gg 24 (Lm 6 14),
 Gg 25 (Cc 118 22 23 24)])) .skip)),[]⟩

theorem dc124:compF Tryz.prog Tryz.f124=some df124:=by kernel_rfl
theorem ok124:FnOk Tryz.prog 124:=⟨Tryz.f124,Tryz.func124,by kernel_rfl,by kernel_rfl⟩

def df125:DF:= ⟨22,Sr [Gg 4 (.mv Yf),Gg 5 (.mv (Ki 0))] (Sr [Gm 9 0,Gm 10 1,Gg 11 (Cb 26 9 10),Gm 8 11,Gg 12 (Xt 8 0),Gg 13 (Xt 8 1),Gg 6 (.new (Zi 14)),Gs 6 12 14,
 Gm 7 13] (Sr [Gm 14 7,Gg 15 (Bk .eql 14 0),
 Gm 16 15,Gh 17 (Lm 6 14) 16 true,Gh 18 (.build (Zi 14) []) 16 true,Gh 19 (.eqa false [true,true,true,true,true,true,true,true,true,true,true,true,true,true] (.t 17) (.t 18)) 16 true,
 Gg 20 (Pk 16 19),Gm 21 7,Gm 4 20,Gm 5 21] .ret)),[.t 4, .t 5]⟩

theorem dc125:compF Tryz.prog Tryz.f125=some df125:=by kernel_rfl
theorem ok125:FnOk Tryz.prog 125:=⟨Tryz.f125,Tryz.func125,by kernel_rfl,by kernel_rfl⟩

def df126:DF:= ⟨89,Sr [Gg 4 (.new (Zi 14)),Gg 5 (.mv (Ki 0))] (Sr [Gm 19 0,Gm 20 1,Gg 21 (Cb 172 19 20),Gm 6 21] (.seq (Sr [Gm 22 6,
 Gg 23 (.un .not (.t 22))] (Cn 23 (Sr [Gg 24 (.build (Zi 14) []),Gs 4 24 14,Gg 5 (.mv (Ki 20))] .ret) .skip)) (Sr [Gm 26 0,Gm 27 1,Gg 28 (Cb 179 26 27),Gm 25 28,
 Gg 29 (Xt 25 0),Gg 30 (Xt 25 1),Gm 7 29,Gm 8 30] (Sr [Gm 32 0,Gm 33 1,Gg 34 (Bk .add 33 1),Gg 35 (Cb 179 32 34),Gm 31 35,Gg 36 (Xt 31 0),Gg 37 (Xt 31 1),
 Gm 9 36,Gm 10 37] (Sr [Gm 39 0,Gm 40 1,Gg 41 (Bk .add 40 2),Gg 42 (Cb 179 39 41),Gm 38 42,Gg 43 (Xt 38 0),Gg 44 (Xt 38 1),Gm 11 43,Gm 12 44] (Sr [Gm 46 0,
 Gm 47 1,Gg 48 (Bk .add 47 3),Gg 49 (Cb 179 46 48),Gm 45 49,Gg 50 (Xt 45 0),Gg 51 (Xt 45 1),Gm 13 50,Gm 14 51] (Sr [Gm 53 7,Gm 54 9,Gg 55 (Cb 180 53 54),
 Gm 52 55,Gg 56 (Xt 52 0),Gg 57 (Xt 52 1),Gg 15 (.new (Zi 11)),Gs 15 56 11,Gm 16 57] (Sr [Gg 58 (Lm 15 11),Gm 59 11,
 Gg 60 (.bin .rem (.t 59) (.k (.s (.i .u64 65536)))),Gg 61 (.conv .i64 (.t 60)),Gm 62 11,Gg 63 (.bin .shr (.t 62) (.k (.s (.i .u64 16)))),
 Gg 64 (.bin .rem (.t 63) (.k (.s (.i .u64 65536)))),Gg 65 (.conv .i64 (.t 64)),Gm 66 11,Gg 67 (.bin .shr (.t 66) (.k (.s (.i .u64 32)))),
 Gg 68 (.bin .rem (.t 67) (.k (.s (.i .u64 65536)))),Gg 69 (.conv .i64 (.t 68)),
 Gg 70 (.build (Zi 14) [(0,11,(.t 58)),(11,1,(.t 61)),(12,1,(.t 65)),(13,1,(.t 69))]),Gg 17 (.new (Zi 14)),Gs 17 70 14] (Sr [Gg 71 (Lm 17 14),
 Gg 72 (Ca 173 71),Gm 18 72] (.seq (Sr [Gm 73 16,Gg 74 (Bk .neq 73 0),Gm 75 74,Gv 76 18 75 false,Gh 77 (.un .not (.t 76)) 75 false,Gg 78 (Pq 75 77),
 Gm 79 78,Gv 80 11 79 false,Gh 81 (.bin .geq (.t 80) (.k (.s (.i .u64 281474976710656)))) 79 false,Gg 82 (Pq 79 81),
 Gm 83 82,Gv 84 13 83 false,Gh 85 (.bin .neq (.t 84) (.k (.s (.i .u64 0)))) 83 false,Gg 86 (Pq 83 85)] (Cn 86 (Sr [Gg 87 (.build (Zi 14) []),Gs 4 87 14,
 Gg 5 (.mv (Ki 110))] .ret) .skip)) (Sr [Gg 88 (Lm 17 14),Gs 4 88 14,Gg 5 (.mv (Ki 0))] .ret))))))))))),[.c 4 (some 14), .t 5]⟩

theorem dc126:compF Tryz.prog Tryz.f126=some df126:=by kernel_rfl
theorem ok126:FnOk Tryz.prog 126:=⟨Tryz.f126,Tryz.func126,by kernel_rfl,by kernel_rfl⟩

def df128:DF:= ⟨8,Sr [Gg 4 (.mv (Ki 0))] (Sr [Gm 5 0,Gm 6 1,Gg 7 (.call 181 [(.t 5),(Ki 2),(.t 6),(Ki 4),(Ki 4)]),Gm 4 7] .ret),[.t 4]⟩

theorem dc128:compF Tryz.prog Tryz.f128=some df128:=by kernel_rfl
theorem ok128:FnOk Tryz.prog 128:=⟨Tryz.f128,Tryz.func128,by kernel_rfl,by kernel_rfl⟩

def df129:DF:= ⟨56,Sr [Gg 4 (.mv (.k (.s (.ns)))),Gg 5 (.mv (Ki 0))] (Sr [Gm 13 0,Gm 14 1,Gg 15 (Cb 98 13 14),Gm 12 15,Gg 16 (Xt 12 0),Gg 17 (Xt 12 1),
 Gg 6 (.new (Zi 14)),Gs 6 16 14,Gm 7 17] (.seq (Sr [Gm 18 7,Gg 19 (Bk .neq 18 0)] (Cn 19 (Sr [Gm 20 7,Gg 4 (.mv (.k (.s (.ns)))),
 Gm 5 20] .ret) .skip)) (Sr [Gg 8 (.mv (.k (.s (.ns))))] (Sr [Gg 21 (Fa 6 12),Gg 22 (Ld 21),Gm 9 22] (.seq (.block 0 (.loop (.seq (Sr [Gm 23 9,
 Gg 24 (Bk .neq 23 0)] (Cn 24 .skip (.exit 0))) (.block 1 (Sr [Gm 26 0,Gm 27 9,Gg 28 (Cb 98 26 27),Gm 25 28,Gg 29 (Xt 25 0),Gg 30 (Xt 25 1),
 Gg 10 (.new (Zi 14)),Gs 10 29 14,Gm 11 30] (.seq (Sr [Gm 31 11,Gg 32 (Bk .neq 31 0),
 Gm 33 32,Gv 34 8 33 false,Gh 35 (.len (.t 34)) 33 false,Gv 36 0 33 false,Gh 37 (Nl 36) 33 false,Gh 38 (Fa 37 0) 33 false,Gh 39 (Ld 38) 33 false,Gh 40 (.len (.t 39)) 33 false,Gh 41 (Bk .quo 40 4) 33 false,Gh 42 (Bo .gtr 35 41) 33 false,
 Gg 43 (Pq 33 42)] (Cn 43 (Sr [Gg 4 (.mv (.k (.s (.ns)))),Gg 5 (.mv (Ki 110))] .ret) .skip)) (.seq (Sr [Gg 44 (Fa 10 13),Gg 45 (Ld 44),Gg 46 (Fa 6 13),
 Gg 47 (Ld 46),Gg 48 (Bo .leq 45 47)] (Cn 48 (.exit 0) .skip)) (Sr [Gm 49 8,Gm 50 9,Gg 51 (.bsl 1 [.i .i64 0] [(0,1,(.t 50))]),
 Gg 52 (.app 1 8 (.t 49) (.t 51)),Gm 8 52] (.reg [Gg 53 (Fa 10 12),Gg 54 (Ld 53),Gm 9 54]))))))))) (Sr [Gm 55 8,Gm 4 55,
 Gg 5 (.mv (Ki 0))] .ret)))))),[.t 4, .t 5]⟩

theorem dc129:compF Tryz.prog Tryz.f129=some df129:=by kernel_rfl
theorem ok129:FnOk Tryz.prog 129:=⟨Tryz.f129,Tryz.func129,by kernel_rfl,by kernel_rfl⟩

def df132:DF:= ⟨10,Sr [Gg 5 (.box (.t 2))] (.reg [Gm 6 0,Gm 7 1,Gg 8 (Lm 5 30),Gg 9 (Cc 182 6 7 8)]),[]⟩

theorem dc132:compF Tryz.prog Tryz.f132=some df132:=by kernel_rfl
theorem ok132:FnOk Tryz.prog 132:=⟨Tryz.f132,Tryz.func132,by kernel_rfl,by kernel_rfl⟩

def df133:DF:= ⟨17,Sr [Gg 7 (.box (.t 3))] (Sr [Gm 8 0,Gm 9 2,Gg 10 (Lm 7 11),Gg 11 (.build (Zi 14) [(0,11,(.t 10))]),Gg 12 (Cc 118 8 9 11)] (.reg [Gm 13 0,Gm 14 1,
 Gm 15 2,Gg 16 (Cc 52 13 14 15)])),[]⟩

theorem dc133:compF Tryz.prog Tryz.f133=some df133:=by kernel_rfl
theorem ok133:FnOk Tryz.prog 133:=⟨Tryz.f133,Tryz.func133,by kernel_rfl,by kernel_rfl⟩

def df134:DF:= ⟨12,Sr [Gg 2 (.mv (Ki 0))] (.seq (Sr [Gm 3 0,Gg 4 (Bk .lss 3 0),Gm 5 4,Gv 6 0 5 false,Gh 7 (Bk .gtr 6 7) 5 false,
 Gg 8 (Pq 5 7)] (Cn 8 (Sr [Gg 2 (.mv (Ki 0))] .ret) .skip)) (Sr [Gm 9 0,Gg 10 (.bin .mul (Ki 4) (.t 9)),Gg 11 (.bin .add (Ki 32) (.t 10)),
 Gm 2 11] .ret)),[.t 2]⟩

theorem dc134:compF Tryz.prog Tryz.f134=some df134:=by kernel_rfl
theorem ok134:FnOk Tryz.prog 134:=⟨Tryz.f134,Tryz.func134,by kernel_rfl,by kernel_rfl⟩

def df135:DF:= ⟨12,Sr [Gg 5 (.box (.t 2))] (.reg [Gm 6 0,Gm 7 1,Gg 8 (.bin .mul (Ki 4) (.t 7)),Gg 9 (.bin .add (Ki 2048) (.t 8)),Gg 10 (Lm 5 11),
 Gg 11 (.call 133 [(.t 6),(Ki 0),(.t 9),(.t 10)])]),[]⟩

theorem dc135:compF Tryz.prog Tryz.f135=some df135:=by kernel_rfl
theorem ok135:FnOk Tryz.prog 135:=⟨Tryz.f135,Tryz.func135,by kernel_rfl,by kernel_rfl⟩

def df136:DF:= ⟨14,Sr [Gg 4 (.new (Zi 14))] (Sr [Gm 8 0,Gm 9 1,Gg 10 (Cb 26 8 9),Gm 7 10,Gg 11 (Xt 7 0),Gg 12 (Xt 7 1),Gg 5 (.new (Zi 14)),Gs 5 11 14,
 Gm 6 12] (Sr [Gg 13 (Lm 5 14),Gs 4 13 14] .ret)),[.c 4 (some 14)]⟩

theorem dc136:compF Tryz.prog Tryz.f136=some df136:=by kernel_rfl
theorem ok136:FnOk Tryz.prog 136:=⟨Tryz.f136,Tryz.func136,by kernel_rfl,by kernel_rfl⟩

def df137:DF:= ⟨51,Sr [Gg 5 (.box (.t 2)),Gg 6 (.mv (Ki 0))] (.seq (Sr [Gm 13 0,Gm 14 1,Gg 15 (.call 183 [(.t 13),(.t 14),(Ki 64)]),
 Gg 16 (.un .not (.t 15))] (Cn 16 (Sr [Gg 6 (.mv (Ki 20))] .ret) .skip)) (Sr [Gg 18 (Lm 5 30),Gg 19 (Ca 184 18),Gm 17 19,Gg 20 (Xt 17 0),Gg 21 (Xt 17 1),
 Gg 7 (.new [.i .u64 0, .i .u64 0, .i .u64 0, .i .u64 0]),Gs 7 20 4,Gm 8 21] (.seq (Sr [Gm 22 8,
 Gg 23 (.un .not (.t 22))] (Cn 23 (Sr [Gg 6 (.mv (Ki 90))] .ret) .skip)) (.seq (Sr [Gg 24 (Lm 7 4),
 Gg 25 (.mv (Ki 0))] (.block 0 (.loop (Sr [Gg 26 (Bk .lss 25 4)] (.seq (Cn 26 .skip (.exit 0)) (.seq (.block 1 (Sr [Gm 27 25,
 Gg 28 (.ix 4 1 none (.t 24) (.t 25)),Gm 9 27,Gm 10 28] (.reg [Gm 29 0,Gm 30 1,Gg 31 (Bk .add 30 16),Gm 32 9,Gg 33 (Bo .add 31 32),Gm 34 10,
 Gg 35 (Cc 141 29 33 34)]))) (.reg [Gg 36 (Bk .add 25 1),Gm 25 36]))))))) (.seq (Sr [Gg 37 (Fa 5 14),Gg 38 (Lm 37 16),
 Gg 39 (.mv (Ki 0))] (.block 2 (.loop (Sr [Gg 40 (Bk .lss 39 16)] (.seq (Cn 40 .skip (.exit 2)) (.seq (.block 3 (Sr [Gm 41 39,
 Gg 42 (.ix 16 1 none (.t 38) (.t 39)),Gm 11 41,Gm 12 42] (.reg [Gm 43 0,Gm 44 1,Gg 45 (Bk .add 44 32),Gm 46 11,Gg 47 (Bo .add 45 46),Gm 48 12,
 Gg 49 (Cc 141 43 47 48)]))) (.reg [Gg 50 (Bk .add 39 1),Gm 39 50]))))))) (Sr [Gg 6 (.mv (Ki 0))] .ret)))))),[.t 6]⟩

theorem dc137:compF Tryz.prog Tryz.f137=some df137:=by kernel_rfl
theorem ok137:FnOk Tryz.prog 137:=⟨Tryz.f137,Tryz.func137,by kernel_rfl,by kernel_rfl⟩

def df138:DF:= ⟨46,Sr [Gg 1 (.box (.t 0)),Gg 2 (.mv (.k (.s (.i .u64 0)))),Gg 3 (.mv (.k (.s (.i .u64 0)))),Gg 4 (.mv (Ki 0))] (.seq (Sr [Gg 6 (Lm 1 11),Gg 7 (Ca 95 6),
 Gg 8 (.un .not (.t 7))] (Cn 8 (Sr [Gg 2 (.mv (.k (.s (.i .u64 0)))),Gg 3 (.mv (.k (.s (.i .u64 0)))),
 Gg 4 (.mv (Ki 60))] .ret) .skip)) (Sr [Gg 5 (.mv (.k (.s (.fn 185 []))))] (.seq (.drm [(true,Gm 10 5),(true,Gg 11 (Fa 1 0)),(true,Gg 12 (Ld 11)),(true,Gm 14 5),(true,Gg 15 (Fa 1 1)),(true,Gg 16 (Ld 15)),(true,Gm 18 5),(true,Gg 19 (Fa 1 2)),(true,Gg 20 (Ld 19)),(true,Gm 22 5),(true,Gg 23 (Fa 1 7)),(true,Gg 24 (Ld 23)),(true,Gm 26 5),(true,Gg 27 (Fa 1 10)),(true,Gg 28 (Ld 27)),(true,Gm 30 5),(true,Gg 31 (Fa 1 8)),(true,Gg 32 (Ld 31)),(true,Gm 34 5),(true,Gg 35 (Fa 1 5)),(true,Gg 36 (Ld 35)),(true,Gg 13 (.callv (.t 10) [(Ki 4),(.t 12)])),(true,Gg 17 (.callv (.t 14) [(Ki 16),(.t 16)])),(true,Gg 21 (.callv (.t 18) [(Ki 5),(.t 20)])),(true,Gg 25 (.callv (.t 22) [(Ki 3),(.t 24)])),(true,Gg 29 (.callv (.t 26) [(Ki 4),(.t 28)])),(true,Gg 33 (.callv (.t 30) [(Ki 6),(.t 32)])),(false,Gg 37 (.callv (.t 34) [(Ki 5),(.t 36)])),(false,Gg 38 (.bsl 7 [.i .i64 0, .i .u64 0, .i .i64 0, .i .u64 0, .i .i64 0, .i .u64 0, .i .i64 0, .i .u64 0, .i .i64 0, .i .u64 0, .i .i64 0, .i .u64 0, .i .i64 0, .i .u64 0] [(0,2,(.t 13)),(2,2,(.t 17)),(4,2,(.t 21)),(6,2,(.t 25)),(8,2,(.t 29)),(10,2,(.t 33)),(12,2,(.t 37))])),(false,Gg 39 (Ca 140 38)),(true,Gm 9 39),(true,Gg 40 (Xt 9 0)),(true,Gg 41 (Xt 9 1)),(true,Gm 2 40)]) (Sr [Gm 42 2,
 Gg 43 (Lm 1 11),Gg 44 (Ca 186 43),Gg 45 (.conv .u64 (.t 44)),Gm 2 42,Gm 3 45,Gg 4 (.mv (Ki 0))] .ret)))),[.t 2, .t 3, .t 4]⟩

theorem dc138:compF Tryz.prog Tryz.f138=some df138:=by kernel_rfl
theorem ok138:FnOk Tryz.prog 138:=⟨Tryz.f138,Tryz.func138,by kernel_rfl,by kernel_rfl⟩

def df139:DF:= ⟨6,Sr [Gg 2 (.new [.i .i64 0, .i .u64 0])] (Sr [Gm 3 0,Gg 4 (.conv .u64 (.t 3)),
 Gg 5 (.build [.i .i64 0, .i .u64 0] [(0,1,(Ki 16)),(1,1,(.t 4))]),Gs 2 5 2] .ret),[.c 2 (some 2)]⟩

theorem dc139:compF Tryz.prog Tryz.f139=some df139:=by kernel_rfl
theorem ok139:FnOk Tryz.prog 139:=⟨Tryz.f139,Tryz.func139,by kernel_rfl,by kernel_rfl⟩

def df140:DF:= ⟨34,Sr [Gg 2 (.mv (.k (.s (.i .u64 0)))),Gg 3 (.mv (Ki 0))] (Sr [Gg 4 (.mv (.k (.s (.i .u64 0)))),Gg 5 (.mv (Ki 0))] (.seq (Sr [Gm 9 0,Gg 10 (.len (.t 9)),
 Gg 11 (.mv (Ki 0))] (.block 0 (.loop (Sr [Gg 12 (Bo .lss 11 10)] (.seq (Cn 12 .skip (.exit 0)) (.seq (.block 1 (Sr [Gg 13 (.ia none 2 (.t 9) (.t 11)),
 Gg 14 (Lm 13 2),Gg 7 (.new [.i .i64 0, .i .u64 0]),Gs 7 14 2] (Sr [Gg 8 (.mv (Ki 0))] (.seq (Sr [Gm 16 4,Gm 17 5,Gg 18 (Fa 7 0),Gg 19 (Ld 18),Gg 20 (Fa 7 1),
 Gg 21 (Ld 20),Gg 22 (Cd 187 16 17 19 21),Gm 15 22,Gg 23 (Xt 15 0),Gg 24 (Xt 15 1),Gm 4 23,Gm 8 24] (Sr [Gm 25 8,Gg 26 (Bk .neq 25 0)] (Cn 26 (Sr [Gm 27 8,
 Gg 2 (.mv (.k (.s (.i .u64 0)))),Gm 3 27] .ret) .skip))) (.reg [Gm 28 5,Gg 29 (Fa 7 0),Gg 30 (Ld 29),Gg 31 (Bo .add 28 30),
 Gm 5 31]))))) (.reg [Gg 32 (Bk .add 11 1),Gm 11 32]))))))) (Sr [Gm 33 4,Gm 2 33,Gg 3 (.mv (Ki 0))] .ret))),[.t 2, .t 3]⟩

theorem dc140:compF Tryz.prog Tryz.f140=some df140:=by kernel_rfl
theorem ok140:FnOk Tryz.prog 140:=⟨Tryz.f140,Tryz.func140,by kernel_rfl,by kernel_rfl⟩

def df141:DF:= ⟨11,Sr [Gg 6 (.mv (Ki 0))] (Sr [Gm 7 0,Gm 8 1,Gm 9 2,Gg 10 (.call 154 [(.t 7),(.t 8),(Ki 1),(.t 9)]),Gm 6 10] .ret),[.t 6]⟩

theorem dc141:compF Tryz.prog Tryz.f141=some df141:=by kernel_rfl
theorem ok141:FnOk Tryz.prog 141:=⟨Tryz.f141,Tryz.func141,by kernel_rfl,by kernel_rfl⟩

def df142:DF :=
  ⟨2,Sr [Gg 0 (.new [.i .i64 0, .i .i64 0, .i .i64 0])] (Sr [Gg 1 (.build [.i .i64 0, .i .i64 0, .i .i64 0] [(0,1,(Ki 2)),(1,1,(Ki 4)),(2,1,(Ki 4))]),Gs 0 1 3] .ret),[.c 0 (some 3)]⟩

theorem dc142:compF Tryz.prog Tryz.f142=some df142:=by kernel_rfl
theorem ok142:FnOk Tryz.prog 142:=⟨Tryz.f142,Tryz.func142,by kernel_rfl,by kernel_rfl⟩

def df143:DF:= ⟨22,Sr [Gg 3 (.box (.t 0)),Gg 6 (.mv (Ki 0))] (.seq (Sr [Gm 7 2,Gg 8 (Bk .neq 7 0),
 Gm 9 8,Gh 10 (Lm 3 3) 9 true,Gv 11 1 9 true,Gv 12 2 9 true,Gh 13 (Cc 188 10 11 12) 9 true,Gh 14 (.un .not (.t 13)) 9 true,
 Gg 15 (Pk 9 14)] (Cn 15 (Sr [Gg 6 (.mv (Ki 20))] .ret) .skip)) (Sr [Gm 16 1,Gg 17 (Fa 3 0),Gg 18 (Ld 17),Gm 19 2,Gg 20 (.conv .u64 (.t 19)),
 Gg 21 (Cc 141 16 18 20),Gm 6 21] .ret)),[.t 6]⟩

theorem dc143:compF Tryz.prog Tryz.f143=some df143:=by kernel_rfl
theorem ok143:FnOk Tryz.prog 143:=⟨Tryz.f143,Tryz.func143,by kernel_rfl,by kernel_rfl⟩

def df144:DF:= ⟨68,Sr [Gg 8 (.box (.t 1)),Gg 11 (.box (.t 4)),Gg 14 (.mv (Ki 0))] (.seq (Sr [Gg 18 (Fa 8 0),Gg 19 (Ld 18),
 Gg 20 (Bk .neq 19 1)] (Cn 20 (Sr [Gg 14 (.mv (Ki 60))] .ret) .skip)) (Sr [Gm 21 2,Gm 22 3,Gm 23 6,Gg 24 (Cc 61 21 22 23),Gm 15 24] (.seq (Sr [Gm 25 15,
 Gg 26 (Bk .neq 25 0)] (Cn 26 (Sr [Gm 27 15,Gm 14 27] .ret) .skip)) (.seq (Sr [Gg 28 (Fa 11 0),Gg 29 (Ld 28),Gg 30 (Bk .neq 29 2),
 Gm 31 30,Gv 32 5 31 false,Gh 33 (Bk .lss 32 0) 31 false,Gg 34 (Pq 31 33),
 Gm 35 34,Gv 36 5 35 false,Gh 37 (Fa 11 2) 35 false,Gh 38 (Ld 37) 35 false,Gh 39 (.bin .shl (Ki 1) (.t 38)) 35 false,Gh 40 (Bo .geq 36 39) 35 false,
 Gg 41 (Pq 35 40),
 Gm 42 41,Gv 43 6 42 false,Gh 44 (Fa 11 2) 42 false,Gh 45 (Ld 44) 42 false,Gh 46 (.bin .shl (Ki 1) (.t 45)) 42 false,Gv 47 5 42 false,Gh 48 (Bo .sub 46 47) 42 false,Gh 49 (Bo .gtr 43 48) 42 false,
 Gg 50 (Pq 42 49)] (Cn 50 (Sr [Gg 14 (.mv (Ki 150))] .ret) .skip)) (.seq (Sr [Gg 16 (.mv (Ki 0))] (.block 0 (.loop (.seq (Sr [Gm 51 16,Gm 52 6,
 Gg 53 (Bo .lss 51 52)] (Cn 53 .skip (.exit 0))) (.seq (.block 1 (Sr [Gm 56 0,Gg 57 (Fa 11 1),Gg 58 (Ld 57),Gm 59 5,Gm 60 16,Gg 61 (Bo .add 59 60),
 Gg 62 (.bin .mul (Ki 4) (.t 61)),Gg 63 (Bo .add 58 62),Gg 64 (Cb 66 56 63),Gg 17 (.new (Zi 11)),Gs 17 64 11] (Sr [Gg 65 (Fa 17 0),Gg 66 (Ld 65),
 Gg 67 (Bk .neq 66 0)] (Cn 67 (Sr [Gg 14 (.mv (Ki 120))] .ret) .skip)))) (.reg [Gm 54 16,Gg 55 (Bk .add 54 1),
 Gm 16 55])))))) (Sr [Gg 14 (.mv (Ki 0))] .ret)))))),[.t 14]⟩

theorem dc144:compF Tryz.prog Tryz.f144=some df144:=by kernel_rfl
theorem ok144:FnOk Tryz.prog 144:=⟨Tryz.f144,Tryz.func144,by kernel_rfl,by kernel_rfl⟩

def df145:DF:= ⟨31,Sr [Gg 6 (.new (Zi 11))] (Sr [Gm 8 0,Gm 9 2,Gg 10 (.build (Zi 11) [(0,1,(.t 8)),(1,1,(.t 9))]),Gg 7 (.new (Zi 11)),Gs 7 10 11] (.seq (Sr [Gm 11 0,
 Gg 12 (Bk .eql 11 1),Gm 13 12,Gv 14 0 13 false,Gh 15 (Bk .eql 14 2) 13 false,Gg 16 (Pq 13 15)] (Cn 16 (.reg [Gm 17 1,
 Gg 18 (Fa 7 2),Gs 18 17 1]) .skip)) (.seq (Sr [Gm 19 0,Gg 20 (Bk .eql 19 4),Gm 21 20,Gv 22 0 21 false,Gh 23 (Bk .eql 22 5) 21 false,Gg 24 (Pq 21 23),
 Gm 25 24,Gv 26 0 25 false,Gh 27 (Bk .eql 26 8) 25 false,Gg 28 (Pq 25 27)] (Cn 28 (.reg [Gg 29 (Fa 7 7),
 ⟨none, .st (.t 29) (Ki 7) 1,none⟩]) .skip)) (Sr [Gg 30 (Lm 7 11),Gs 6 30 11] .ret)))),[.c 6 (some 11)]⟩

theorem dc145:compF Tryz.prog Tryz.f145=some df145:=by kernel_rfl
theorem ok145:FnOk Tryz.prog 145:=⟨Tryz.f145,Tryz.func145,by kernel_rfl,by kernel_rfl⟩

def df146:DF:= ⟨22,Sr [Gg 2 (.box (.t 0)),Gg 4 (.mv Yf)] (.seq (Sr [Gg 5 (Fa 2 0),Gg 6 (Ld 5),Gg 7 (Bk .eql 6 2),
 Gm 8 7,Gh 9 (Fa 2 0) 8 false,Gh 10 (Ld 9) 8 false,Gh 11 (Bk .eql 10 3) 8 false,Gg 12 (Pq 8 11),
 Gm 13 12,Gh 14 (Fa 2 0) 13 false,Gh 15 (Ld 14) 13 false,Gh 16 (Bk .eql 15 10) 13 false,Gg 17 (Pq 13 16)] (Cn 17 (Sr [Gm 18 1,Gg 19 (Fa 2 1),Gg 20 (Ld 19),
 Gg 21 (Bo .lss 18 20),Gm 4 21] .ret) .skip)) (Sr [Gg 4 (.mv Yt)] .ret)),[.t 4]⟩

theorem dc146:compF Tryz.prog Tryz.f146=some df146:=by kernel_rfl
theorem ok146:FnOk Tryz.prog 146:=⟨Tryz.f146,Tryz.func146,by kernel_rfl,by kernel_rfl⟩

def df147:DF:= ⟨20,Sr [Gg 5 (.box (.t 2))] (Sr [Gm 9 0,Gm 10 1,Gg 11 (Cb 126 9 10),Gm 8 11,Gg 12 (Xt 8 0),Gg 13 (Xt 8 1),Gg 6 (.new (Zi 14)),Gs 6 12 14,
 Gm 7 13] (Sr [Gg 14 (Lm 5 11),Gg 15 (Fa 6 0),Gs 15 14 11] (.reg [Gm 16 0,Gm 17 1,Gg 18 (Lm 6 14),Gg 19 (Cc 118 16 17 18)]))),[]⟩

theorem dc147:compF Tryz.prog Tryz.f147=some df147:=by kernel_rfl
theorem ok147:FnOk Tryz.prog 147:=⟨Tryz.f147,Tryz.func147,by kernel_rfl,by kernel_rfl⟩

def df148:DF:= ⟨21,Sr [Gg 2 (.mv Yf)] (.seq (Sr [Gm 3 0,Gg 4 (Nl 3),Gg 5 (Fa 4 0),Gg 6 (Ld 5),Gg 7 (Bk .eql 6 0)] (Cn 7 (Sr [Gg 2 (.mv Yf)] .ret) .skip)) (.seq (Sr [Gm 8 0,
 Gg 9 (Nl 8),Gg 10 (Fa 9 0),Gg 11 (Ld 10),Gg 12 (Bk .gtr 11 0)] (Cn 12 (.reg [Gm 13 0,Gm 14 0,Gg 15 (Nl 14),Gg 16 (Fa 15 0),Gg 17 (Ld 16),Gg 18 (Bk .sub 17 1),
 Gg 19 (Nl 13),Gg 20 (Fa 19 0),Gs 20 18 1]) .skip)) (Sr [Gg 2 (.mv Yt)] .ret))),[.t 2]⟩

theorem dc148:compF Tryz.prog Tryz.f148=some df148:=by kernel_rfl
theorem ok148:FnOk Tryz.prog 148:=⟨Tryz.f148,Tryz.func148,by kernel_rfl,by kernel_rfl⟩

def df149:DF:= ⟨40,Sr [Gg 8 (.mv (Ki 0))] (Sr [Gm 11 0,Gm 12 1,Gm 13 2,Gg 14 (Cc 189 11 12 13),Gm 9 14] (.seq (Sr [Gm 15 9,
 Gg 16 (.un .not (.t 15))] (Cn 16 (Sr [Gg 8 (.mv (Ki 20))] .ret) .skip)) (.seq (Sr [Gg 10 (.mv (Ki 0))] (.block 0 (.loop (.seq (Sr [Gm 17 10,Gm 18 2,
 Gg 19 (Bo .lss 17 18)] (Cn 19 .skip (.exit 0))) (.seq (.block 1 (.reg [Gm 22 0,Gg 23 (Nl 22),Gg 24 (Fa 23 0),Gg 25 (Ld 24),Gm 26 1,Gm 27 10,
 Gg 28 (Bo .add 26 27),Gm 29 3,Gg 30 (.ia none 1 (.t 25) (.t 28)),Gs 30 29 1])) (.reg [Gm 20 10,Gg 21 (Bk .add 20 1),Gm 10 21])))))) (Sr [Gm 31 0,Gm 32 0,
 Gg 33 (Nl 32),Gg 34 (Fa 33 1),Gg 35 (Ld 34),Gm 36 2,Gg 37 (Bo .add 35 36),Gg 38 (Nl 31),Gg 39 (Fa 38 1),Gs 39 37 1] (Sr [Gg 8 (.mv (Ki 0))] .ret))))),[.t 8]⟩

theorem dc149:compF Tryz.prog Tryz.f149=some df149:=by kernel_rfl
theorem ok149:FnOk Tryz.prog 149:=⟨Tryz.f149,Tryz.func149,by kernel_rfl,by kernel_rfl⟩

def df150:DF:= ⟨8,Sr [Gg 2 (.mv (Ki 0))] (Sr [Gm 3 0,Gg 4 (Nl 3),Gg 5 (Fa 4 0),Gg 6 (Ld 5),Gg 7 (.len (.t 6)),Gm 2 7] .ret),[.t 2]⟩

theorem dc150:compF Tryz.prog Tryz.f150=some df150:=by kernel_rfl
theorem ok150:FnOk Tryz.prog 150:=⟨Tryz.f150,Tryz.func150,by kernel_rfl,by kernel_rfl⟩

def df151:DF:= ⟨23,Sr [Gg 6 (.mv (.k (.s (.i .u64 0)))),Gg 7 (.mv (Ki 0))] (Sr [Gm 11 1,Gm 12 2,Gg 13 (Cb 190 11 12),Gm 10 13,Gg 14 (Xt 10 0),Gg 15 (Xt 10 1),Gm 8 14,
 Gm 9 15] (.seq (Sr [Gm 16 9,Gg 17 (.un .not (.t 16))] (Cn 17 (Sr [Gg 6 (.mv (.k (.s (.i .u64 0)))),Gg 7 (.mv (Ki 10))] .ret) .skip)) (Sr [Gm 18 0,Gm 19 8,
 Gg 20 (Bo .and 18 19),Gm 21 1,Gg 22 (Bo .shr 20 21),Gm 6 22,Gg 7 (.mv (Ki 0))] .ret))),[.t 6, .t 7]⟩

theorem dc151:compF Tryz.prog Tryz.f151=some df151:=by kernel_rfl
theorem ok151:FnOk Tryz.prog 151:=⟨Tryz.f151,Tryz.func151,by kernel_rfl,by kernel_rfl⟩

def df152:DF:= ⟨14,Sr [Gg 2 (.mv Yf)] (Sr [Gm 3 0,Gg 4 (Bk .geq 3 0),Gm 5 4,Gv 6 0 5 true,Gh 7 (Bk .lss 6 65536) 5 true,Gg 8 (Pk 5 7),
 Gm 9 8,Gv 10 0 9 true,Gh 11 (Bk .rem 10 4) 9 true,Gh 12 (Bk .eql 11 0) 9 true,Gg 13 (Pk 9 12),Gm 2 13] .ret),[.t 2]⟩

theorem dc152:compF Tryz.prog Tryz.f152=some df152:=by kernel_rfl
theorem ok152:FnOk Tryz.prog 152:=⟨Tryz.f152,Tryz.func152,by kernel_rfl,by kernel_rfl⟩

def df153:DF:= ⟨13, .block 0 (.loop (.seq (Sr [Gg 3 (Ld 1),Gg 4 (Bk .gtr 3 0)] (Cn 4 .skip (.exit 0))) (.block 1 (Sr [Gg 5 (Ld 1),Gg 6 (Bk .sub 5 1),Gg 7 (Bk .quo 6 64),
 Gg 8 (Bk .mul 7 64),Gs 1 8 1] (Sr [Gm 9 0,Gg 10 (Ld 1),Gg 11 (.callv (.t 9) [(.t 10)]),Gg 12 (.un .not (.t 11))] (Cn 12 .ret .skip)))))),[]⟩

theorem dc153:compF Tryz.prog Tryz.f153=some df153:=by kernel_rfl
theorem ok153:FnOk Tryz.prog 153:=⟨Tryz.f153,Tryz.func153,by kernel_rfl,by kernel_rfl⟩

def df154:DF:= ⟨39,Sr [Gg 8 (.mv (Ki 0))] (Sr [Gm 13 0,Gm 14 1,Gm 15 2,Gg 16 (Cc 93 13 14 15),Gm 12 16,Gg 17 (Xt 12 0),Gg 18 (Xt 12 1),Gm 9 17,
 Gm 10 18] (.seq (Sr [Gm 19 10,Gg 20 (.un .not (.t 19))] (Cn 20 (Sr [Gg 8 (.mv (Ki 20))] .ret) .skip)) (.seq (Sr [Gm 21 9,Gg 22 (.len (.t 21)),
 Gg 23 (.mv (Ki 0))] (.block 0 (.loop (Sr [Gg 24 (Bo .lss 23 22)] (.seq (Cn 24 .skip (.exit 0)) (.seq (.block 1 (Sr [Gm 25 23,Gm 11 25] (.reg [Gm 26 9,Gm 27 11,
 Gm 28 3,Gg 29 (.ia none 1 (.t 26) (.t 27)),Gs 29 28 1]))) (.reg [Gg 30 (Bk .add 23 1),Gm 23 30]))))))) (Sr [Gm 31 0,Gg 32 (Nl 31),Gg 33 (Fa 32 1),Gg 34 (Ld 33),
 Gm 35 2,Gg 36 (Bo .add 34 35),Gg 37 (Nl 31),Gg 38 (Fa 37 1),Gs 38 36 1] (Sr [Gg 8 (.mv (Ki 0))] .ret))))),[.t 8]⟩

theorem dc154:compF Tryz.prog Tryz.f154=some df154:=by kernel_rfl
theorem ok154:FnOk Tryz.prog 154:=⟨Tryz.f154,Tryz.func154,by kernel_rfl,by kernel_rfl⟩

def df155:DF:= ⟨54,Sr [Gg 1 (.box (.t 0)),Gg 2 (.mv (Ki 0)),Gg 3 (.mv Yf)] (Sr [Gg 4 (.mv (.k (.s (.fn 191 []))))] (.seq (Sr [Gg 5 (Fa 1 0),
 Gg 6 (Ld 5)] (.block 0 (Sr [Gg 8 (Bk .eql 6 1),Gm 7 8] (Cn 7 (.seq (.drq [Gg 9 (Fa 1 2),Gg 10 (Ld 9),Gg 11 (Bk .and 10 31),Gg 12 (.mx true (.t 11) (Ki 0)),
 Gg 13 (.bin .shl (Ki 1) (.t 12)),Gg 14 (Fa 1 2),Gg 15 (Ld 14),Gg 16 (Bk .geq 15 4),
 Gm 17 16,Gh 18 (Fa 1 2) 17 true,Gh 19 (Ld 18) 17 true,Gh 20 (Bk .leq 19 15) 17 true,Gg 21 (Pk 17 20),Gm 2 13,Gm 3 21]) .ret) (Sr [Gg 23 (Bk .eql 6 2),
 Gm 22 23] (Cn 22 (Sr [Gm 24 4,Gg 25 (Fa 1 2),Gg 26 (Ld 25),Gg 27 (.mx false (.t 26) (Ki 9)),Gg 28 (.callv (.t 24) [(.t 27)]),Gg 29 (Xt 28 0),Gg 30 (Xt 28 1),
 Gm 2 29,Gm 3 30] .ret) (Sr [Gg 32 (Bk .eql 6 10),Gm 31 32] (Cn 31 (.seq (Sr [Gg 33 (Fa 1 2),Gg 34 (Ld 33),Gg 35 (Bk .eql 34 31)] (Cn 35 (Sr [Gg 2 (.mv (Ki 64)),
 Gg 3 (.mv Yt)] .ret) .skip)) (Sr [Gm 36 4,Gg 37 (Fa 1 2),Gg 38 (Ld 37),Gg 39 (.mx false (.t 38) (Ki 9)),Gg 40 (.callv (.t 36) [(.t 39)]),Gg 41 (Xt 40 0),
 Gg 42 (Xt 40 1),Gm 2 41,Gm 3 42] .ret)) (.seq (Sr [Gg 44 (Bk .eql 6 3),Gm 43 44] (Cn 43 .skip (.reg [Gg 45 (Bk .eql 6 9),
 Gm 43 45]))) (Cn 43 (Sr [Gg 2 (.mv (Ki 64)),Gg 3 (.mv Yt)] .ret) (Sr [Gg 47 (Bk .eql 6 4),Gm 46 47] (Cn 46 (Sr [Gg 2 (.mv (Ki 4)),
 Gg 3 (.mv Yt)] .ret) (.seq (Sr [Gg 49 (Bk .eql 6 5),Gm 48 49] (Cn 48 .skip (Sr [Gg 50 (Bk .eql 6 6),Gm 48 50] (Cn 48 .skip (.reg [Gg 51 (Bk .eql 6 7),
 Gm 48 51]))))) (Cn 48 (Sr [Gg 2 (.mv (Ki 8)),Gg 3 (.mv Yt)] .ret) (Sr [Gg 53 (Bk .eql 6 8),Gm 52 53] (Cn 52 (Sr [Gg 2 (.mv (Ki 16)),
 Gg 3 (.mv Yt)] .ret) .skip)))))))))))))))) (Sr [Gg 2 (.mv (Ki 0)),Gg 3 (.mv Yt)] .ret))),[.t 2, .t 3]⟩

theorem dc155:compF Tryz.prog Tryz.f155=some df155:=by kernel_rfl
theorem ok155:FnOk Tryz.prog 155:=⟨Tryz.f155,Tryz.func155,by kernel_rfl,by kernel_rfl⟩

def df156:DF:= ⟨46,Sr [Gg 1 (.box (.t 0)),Gg 2 (.new (Zi 11))] (.seq (Sr [Gg 3 (Fa 1 0),Gg 4 (Ld 3)] (.block 0 (.seq (Sr [Gg 6 (Bk .eql 4 1),
 Gm 5 6] (Cn 5 .skip (.reg [Gg 7 (Bk .eql 4 10),Gm 5 7]))) (Cn 5 (.reg [Gg 8 (Fa 1 1),⟨none, .st (.t 8) (Ki 0) 1,none⟩,Gg 9 (Fa 1 2),
 ⟨none, .st (.t 9) (Ki 0) 1,none⟩,Gg 10 (Fa 1 3),⟨none, .st (.t 10) (Ki 0) 1,none⟩]) (Sr [Gg 12 (Bk .eql 4 2),Gm 11 12] (Cn 11 (.reg [Gg 13 (Fa 1 1),
 ⟨none, .st (.t 13) (Ki 0) 1,none⟩,Gg 14 (Fa 1 2),⟨none, .st (.t 14) (Ki 0) 1,none⟩,Gg 15 (Fa 1 4),⟨none, .st (.t 15) (Ki 0) 1,none⟩,Gg 16 (Fa 1 5),
 ⟨none, .st (.t 16) (Ki 0) 1,none⟩]) (.seq (Sr [Gg 18 (Bk .eql 4 3),Gm 17 18] (Cn 17 .skip (.reg [Gg 19 (Bk .eql 4 9),Gm 17 19]))) (Cn 17 (.reg [Gg 20 (Fa 1 1),
 ⟨none, .st (.t 20) (Ki 0) 1,none⟩]) (.seq (Sr [Gg 22 (Bk .eql 4 4),Gm 21 22] (Cn 21 .skip (.reg [Gg 23 (Bk .eql 4 5),Gm 21 23]))) (Cn 21 (.reg [Gg 24 (Fa 1 1),
 ⟨none, .st (.t 24) (Ki 0) 1,none⟩,Gg 25 (Fa 1 7),⟨none, .st (.t 25) (Ki 0) 1,none⟩,Gg 26 (Fa 1 6),
 ⟨none, .st (.t 26) (Ki 0) 1,none⟩]) (Sr [Gg 28 (Bk .eql 4 6),Gm 27 28] (Cn 27 (.reg [Gg 29 (Fa 1 1),⟨none, .st (.t 29) (Ki 0) 1,none⟩,Gg 30 (Fa 1 8),
 ⟨none, .st (.t 30) (Ki 0) 1,none⟩,Gg 31 (Fa 1 9),⟨none, .st (.t 31) (Ki 0) 1,none⟩]) (Sr [Gg 33 (Bk .eql 4 7),Gm 32 33] (Cn 32 (.reg [Gg 34 (Fa 1 1),
 ⟨none, .st (.t 34) (Ki 0) 1,none⟩,Gg 35 (Fa 1 8),⟨none, .st (.t 35) (Ki 0) 1,none⟩]) (Sr [Gg 37 (Bk .eql 4 8),Gm 36 37] (Cn 36 (.reg [Gg 38 (Fa 1 1),
 ⟨none, .st (.t 38) (Ki 0) 1,none⟩,Gg 39 (Fa 1 7),⟨none, .st (.t 39) (Ki 0) 1,none⟩,Gg 40 (Fa 1 8),⟨none, .st (.t 40) (Ki 0) 1,none⟩,Gg 41 (Fa 1 9),
 ⟨none, .st (.t 41) (Ki 0) 1,none⟩]) (Sr [Gg 43 (Bk .eql 4 12),Gm 42 43] (Cn 42 (.reg [Gg 44 (Fa 1 10),
 ⟨none, .st (.t 44) (Ki 0) 1,none⟩]) .skip)))))))))))))))))) (Sr [Gg 45 (Lm 1 11),Gs 2 45 11] .ret)),[.c 2 (some 11)]⟩

theorem dc156:compF Tryz.prog Tryz.f156=some df156:=by kernel_rfl
theorem ok156:FnOk Tryz.prog 156:=⟨Tryz.f156,Tryz.func156,by kernel_rfl,by kernel_rfl⟩

def df157:DF:= ⟨12,Sr [Gg 4 (.mv Yf)] (Sr [Gm 5 0,Gg 6 (Bk .geq 5 0),Gm 7 6,Gv 8 0 7 true,Gv 9 1 7 true,Gh 10 (Bo .leq 8 9) 7 true,Gg 11 (Pk 7 10),Gm 4 11] .ret),[.t 4]⟩

theorem dc157:compF Tryz.prog Tryz.f157=some df157:=by kernel_rfl
theorem ok157:FnOk Tryz.prog 157:=⟨Tryz.f157,Tryz.func157,by kernel_rfl,by kernel_rfl⟩

def df158:DF:= ⟨27,Sr [Gg 6 (.mv Yf)] (Sr [Gm 7 0,Gg 8 (.call 157 [(.t 7),(Ki 63)]),Gm 9 8,Gv 10 1 9 true,Gh 11 (.call 157 [(.t 10),(Ki 65535)]) 9 true,Gg 12 (Pk 9 11),
 Gm 13 12,Gv 14 1 13 true,Gv 15 2 13 true,Gh 16 (Bo .rem 14 15) 13 true,Gh 17 (Bk .eql 16 0) 13 true,Gg 18 (Pk 13 17),
 Gm 19 18,Gv 20 0 19 true,Gh 21 (Bk .gtr 20 0) 19 true,Gv 22 21 19 true,Gv 23 1 22 false,Gh 24 (Bk .eql 23 0) 22 false,Gh 25 (Pq 22 24) 19 true,Gg 26 (Pk 19 25),
 Gm 6 26] .ret),[.t 6]⟩

theorem dc158:compF Tryz.prog Tryz.f158=some df158:=by kernel_rfl
theorem ok158:FnOk Tryz.prog 158:=⟨Tryz.f158,Tryz.func158,by kernel_rfl,by kernel_rfl⟩

def df159:DF:= ⟨19,Sr [Gg 4 (.mv (Ki 0))] (.seq (Sr [Gm 6 0,Gg 7 (.len (.t 6)),
 Gg 8 (.mv (Ki 0))] (.block 0 (.loop (Sr [Gg 9 (Bo .lss 8 7)] (.seq (Cn 9 .skip (.exit 0)) (.seq (.block 1 (Sr [Gm 10 8,Gm 5 10] (Sr [Gm 11 1,Gm 12 0,Gm 13 5,
 Gg 14 (.ia none 1 (.t 12) (.t 13)),Gg 15 (Ld 14),Gg 16 (Bo .eql 11 15)] (Cn 16 (Sr [Gm 17 5,Gm 4 17] .ret) .skip)))) (.reg [Gg 18 (Bk .add 8 1),
 Gm 8 18]))))))) (Sr [Gg 4 (.mv (.k (.s (.i .i64 (-1)))))] .ret)),[.t 4]⟩

theorem dc159:compF Tryz.prog Tryz.f159=some df159:=by kernel_rfl
theorem ok159:FnOk Tryz.prog 159:=⟨Tryz.f159,Tryz.func159,by kernel_rfl,by kernel_rfl⟩

def df160:DF:= ⟨37, .seq (Sr [Gg 6 (Ld 1),Gg 7 (Ca 150 6),Gg 8 (Bk .quo 7 4),
 Gg 9 (.mv (Ki 0))] (.block 0 (.loop (Sr [Gg 10 (Bo .lss 9 8)] (.seq (Cn 10 .skip (.exit 0)) (.seq (.block 1 (.seq (Sr [Gg 11 (Ld 2),
 Gg 12 (Bk .eql 11 0)] (Cn 12 .ret .skip)) (Sr [Gg 14 (Ld 1),Gg 15 (Ld 2),Gg 16 (Cb 74 14 15),Gm 13 16,Gg 17 (Xt 13 0),Gg 18 (Xt 13 1),
 Gg 4 (.new (Zi 14)),Gs 4 17 14,Gm 5 18] (.seq (Sr [Gm 19 5,Gg 20 (Bk .neq 19 0)] (Cn 20 (Sr [Gm 21 0,Gg 22 (.build (Zi 14) []),
 Gg 23 (.callv (.t 21) [(Ki 0),(.t 22)])] .ret) .skip)) (.seq (Sr [Gm 24 0,Gg 25 (Ld 2),Gg 26 (Lm 4 14),Gg 27 (.callv (.t 24) [(.t 25),(.t 26)]),
 Gg 28 (.un .not (.t 27))] (Cn 28 .ret .skip)) (.reg [Gg 29 (Fa 4 12),Gg 30 (Ld 29),Gs 2 30 1])))))) (.reg [Gg 31 (Bk .add 9 1),
 Gm 9 31]))))))) (Sr [Gg 32 (Ld 2),Gg 33 (Bk .neq 32 0)] (Cn 33 (.reg [Gm 34 0,Gg 35 (.build (Zi 14) []),Gg 36 (.callv (.t 34) [(Ki 0),(.t 35)])]) .skip)),[]⟩

theorem dc160:compF Tryz.prog Tryz.f160=some df160:=by kernel_rfl
theorem ok160:FnOk Tryz.prog 160:=⟨Tryz.f160,Tryz.func160,by kernel_rfl,by kernel_rfl⟩

def df161:DF:= ⟨26,Sr [Gg 2 (.box (.t 0)),Gg 4 (.mv (Ki 0))] (Sr [Gm 8 1,Gg 9 (Fa 2 0),Gg 10 (Ld 9),Gg 11 (Cb 86 8 10),Gm 7 11,Gg 12 (Xt 7 0),Gg 13 (Xt 7 1),Gm 5 12,
 Gm 6 13] (.seq (Sr [Gm 14 5,Gg 15 (.bin .gtr (.t 14) (.k (.s (.i .u64 65535)))),
 Gm 16 15,Gh 17 (Lm 2 3) 16 false,Gv 18 1 16 false,Gv 19 5 16 false,Gh 20 (.conv .i64 (.t 19)) 16 false,Gh 21 (Cc 188 17 18 20) 16 false,Gh 22 (.un .not (.t 21)) 16 false,
 Gg 23 (Pq 16 22)] (Cn 23 (Sr [Gg 4 (.mv (Ki 0))] .ret) .skip)) (Sr [Gm 24 5,Gg 25 (.conv .i64 (.t 24)),Gm 4 25] .ret))),[.t 4]⟩

theorem dc161:compF Tryz.prog Tryz.f161=some df161:=by kernel_rfl
theorem ok161:FnOk Tryz.prog 161:=⟨Tryz.f161,Tryz.func161,by kernel_rfl,by kernel_rfl⟩

def df172:DF:= ⟨19,Sr [Gg 4 (.mv Yf)] (Sr [Gm 6 0,Gm 7 1,Gg 8 (.call 189 [(.t 6),(.t 7),(Ki 4)]),Gm 5 8] (Sr [Gm 9 5,Gm 10 9,Gv 11 1 10 true,Gh 12 (Bk .geq 11 4) 10 true,
 Gg 13 (Pk 10 12),Gm 14 13,Gv 15 1 14 true,Gh 16 (Bk .rem 15 4) 14 true,Gh 17 (Bk .eql 16 0) 14 true,Gg 18 (Pk 14 17),Gm 4 18] .ret)),[.t 4]⟩

theorem dc172:compF Tryz.prog Tryz.f172=some df172:=by kernel_rfl
theorem ok172:FnOk Tryz.prog 172:=⟨Tryz.f172,Tryz.func172,by kernel_rfl,by kernel_rfl⟩

def df173:DF:= ⟨44,Sr [Gg 1 (.box (.t 0)),Gg 2 (.mv Yf)] (Sr [Gg 6 (Fa 1 0),Gg 7 (Lm 6 11),Gg 8 (Ca 42 7),Gm 3 8] (Sr [Gg 9 (Fa 1 11),Gg 10 (Ld 9),Gg 11 (Ca 194 10),
 Gm 4 11] (Sr [Gg 12 (Fa 1 12),Gg 13 (Ld 12),Gg 14 (Ca 194 13),Gm 5 14] (.seq (Sr [Gm 15 3,Gg 16 (.un .not (.t 15)),
 Gm 17 16,Gv 18 4 17 false,Gh 19 (.un .not (.t 18)) 17 false,Gg 20 (Pq 17 19),Gm 21 20,Gv 22 5 21 false,Gh 23 (.un .not (.t 22)) 21 false,Gg 24 (Pq 21 23),
 Gm 25 24,Gh 26 (Fa 1 13) 25 false,Gh 27 (Ld 26) 25 false,Gh 28 (Bk .lss 27 0) 25 false,Gg 29 (Pq 25 28),
 Gm 30 29,Gh 31 (Fa 1 13) 30 false,Gh 32 (Ld 31) 30 false,Gh 33 (Bk .gtr 32 65535) 30 false,
 Gg 34 (Pq 30 33)] (Cn 34 (Sr [Gg 2 (.mv Yf)] .ret) .skip)) (Sr [Gg 35 (Fa 1 0),Gg 36 (Fa 35 0),Gg 37 (Ld 36),Gg 38 (Bk .neq 37 0),
 Gm 39 38,Gh 40 (Lm 1 14) 39 false,Gh 41 (.build (Zi 14) []) 39 false,Gh 42 (.eqa false [true,true,true,true,true,true,true,true,true,true,true,true,true,true] (.t 40) (.t 41)) 39 false,
 Gg 43 (Pq 39 42),Gm 2 43] .ret))))),[.t 2]⟩

theorem dc173:compF Tryz.prog Tryz.f173=some df173:=by kernel_rfl
theorem ok173:FnOk Tryz.prog 173:=⟨Tryz.f173,Tryz.func173,by kernel_rfl,by kernel_rfl⟩

def df174:DF:= ⟨66,Sr [Gg 1 (.box (.t 0)),Gg 2 (.mv (.k (.s (.i .u64 0)))),Gg 3 (.mv (.k (.s (.i .u64 0)))),Gg 4 (.mv (Ki 0))] (Sr [Gg 8 (Lm 1 11),Gg 9 (Ca 42 8),
 Gm 5 9] (.seq (Sr [Gm 10 5,Gg 11 (.un .not (.t 10))] (Cn 11 (Sr [Gg 2 (.mv (.k (.s (.i .u64 0)))),Gg 3 (.mv (.k (.s (.i .u64 0)))),
 Gg 4 (.mv (Ki 60))] .ret) .skip)) (Sr [Gg 12 (Fa 1 0),Gg 13 (Ld 12),Gg 14 (.conv .u64 (.t 13)),Gg 15 (Fa 1 1),Gg 16 (Ld 15),Gg 17 (.conv .u64 (.t 16)),
 Gg 18 (.bin .shl (.t 17) (.k (.s (.i .u64 4)))),Gg 19 (Bo .add 14 18),Gg 20 (Fa 1 2),Gg 21 (Ld 20),Gg 22 (.conv .u64 (.t 21)),
 Gg 23 (.bin .shl (.t 22) (.k (.s (.i .u64 20)))),Gg 24 (Bo .add 19 23),Gg 25 (Fa 1 7),Gg 26 (Ld 25),Gg 27 (.conv .u64 (.t 26)),
 Gg 28 (.bin .shl (.t 27) (.k (.s (.i .u64 25)))),Gg 29 (Bo .add 24 28),Gg 30 (Fa 1 10),Gg 31 (Ld 30),Gg 32 (.conv .u64 (.t 31)),
 Gg 33 (.bin .shl (.t 32) (.k (.s (.i .u64 28)))),Gg 34 (Bo .add 29 33),Gg 35 (Fa 1 8),Gg 36 (Ld 35),Gg 37 (.conv .u64 (.t 36)),
 Gg 38 (.bin .shl (.t 37) (.k (.s (.i .u64 32)))),Gg 39 (Bo .add 34 38),Gg 40 (Fa 1 5),Gg 41 (Ld 40),Gg 42 (.conv .u64 (.t 41)),
 Gg 43 (.bin .shl (.t 42) (.k (.s (.i .u64 38)))),Gg 44 (Bo .add 39 43),Gm 6 44] (Sr [Gg 45 (Fa 1 3),Gg 46 (Ld 45),Gm 7 46] (.seq (Sr [Gg 47 (Fa 1 0),
 Gg 48 (Ld 47)] (.block 0 (Sr [Gg 50 (Bk .eql 48 2),Gm 49 50] (Cn 49 (.reg [Gg 51 (Fa 1 4),Gg 52 (Ld 51),Gm 7 52]) (.seq (Sr [Gg 54 (Bk .eql 48 4),
 Gm 53 54] (Cn 53 .skip (.reg [Gg 55 (Bk .eql 48 5),Gm 53 55]))) (Cn 53 (.reg [Gg 56 (Fa 1 6),Gg 57 (Ld 56),Gm 7 57]) (.seq (Sr [Gg 59 (Bk .eql 48 6),
 Gm 58 59] (Cn 58 .skip (.reg [Gg 60 (Bk .eql 48 8),Gm 58 60]))) (Cn 58 (.reg [Gg 61 (Fa 1 9),Gg 62 (Ld 61),Gm 7 62]) .skip)))))))) (Sr [Gm 63 6,Gm 64 7,
 Gg 65 (.conv .u64 (.t 64)),Gm 2 63,Gm 3 65,Gg 4 (.mv (Ki 0))] .ret)))))),[.t 2, .t 3, .t 4]⟩

theorem dc174:compF Tryz.prog Tryz.f174=some df174:=by kernel_rfl
theorem ok174:FnOk Tryz.prog 174:=⟨Tryz.f174,Tryz.func174,by kernel_rfl,by kernel_rfl⟩

def df175:DF:= ⟨28,Sr [Gg 6 (.mv (Ki 0))] (Sr [Gm 8 0,Gm 9 1,Gg 10 (.call 189 [(.t 8),(.t 9),(Ki 1)]),Gm 7 10] (.seq (Sr [Gm 11 7,
 Gg 12 (.un .not (.t 11))] (Cn 12 (Sr [Gg 6 (.mv (Ki 20))] .ret) .skip)) (Sr [Gm 13 0,Gm 14 0,Gg 15 (Nl 14),Gg 16 (Fa 15 1),Gg 17 (Ld 16),Gg 18 (Bk .add 17 1),
 Gg 19 (Nl 13),Gg 20 (Fa 19 1),Gs 20 18 1] (Sr [Gm 21 0,Gg 22 (Nl 21),Gg 23 (Fa 22 0),Gg 24 (Ld 23),Gm 25 1,Gm 26 2,
 Gg 27 (.ia none 1 (.t 24) (.t 25)),Gs 27 26 1] (Sr [Gg 6 (.mv (Ki 0))] .ret))))),[.t 6]⟩

theorem dc175:compF Tryz.prog Tryz.f175=some df175:=by kernel_rfl
theorem ok175:FnOk Tryz.prog 175:=⟨Tryz.f175,Tryz.func175,by kernel_rfl,by kernel_rfl⟩

def df176:DF:= ⟨7, .reg [Gm 3 0,Gg 4 (Ld 1),Gg 5 (Nl 3),Gg 6 (Fa 5 12),Gs 6 4 1],[]⟩

theorem dc176:compF Tryz.prog Tryz.f176=some df176:=by kernel_rfl
theorem ok176:FnOk Tryz.prog 176:=⟨Tryz.f176,Tryz.func176,by kernel_rfl,by kernel_rfl⟩

def df177:DF:= ⟨7, .reg [Gm 3 0,Gg 4 (Ld 1),Gg 5 (Nl 3),Gg 6 (Fa 5 11),Gs 6 4 1],[]⟩

theorem dc177:compF Tryz.prog Tryz.f177=some df177:=by kernel_rfl
theorem ok177:FnOk Tryz.prog 177:=⟨Tryz.f177,Tryz.func177,by kernel_rfl,by kernel_rfl⟩

def df178:DF:= ⟨41,Sr [Gg 8 (.mv (Ki 0))] (Sr [Gm 14 0,Gm 15 1,Gg 16 (Cb 179 14 15),Gm 13 16,Gg 17 (Xt 13 0),Gg 18 (Xt 13 1),Gm 9 17,Gm 10 18] (.seq (Sr [Gm 19 9,
 Gg 20 (.bin .gtr (.t 19) (.k (.s (.i .u64 65535))))] (Cn 20 (Sr [Gg 8 (.mv (Ki 0))] .ret) .skip)) (Sr [Gm 21 9,Gg 22 (.conv .i64 (.t 21)),
 Gm 11 22] (Sr [Gm 23 0,Gm 24 11,Gm 25 3,Gg 26 (Cc 189 23 24 25),Gm 12 26] (.seq (Sr [Gm 27 12,Gg 28 (.un .not (.t 27)),
 Gm 29 28,Gv 30 11 29 false,Gv 31 2 29 false,Gh 32 (Bo .lss 30 31) 29 false,Gg 33 (Pq 29 32),
 Gm 34 33,Gv 35 11 34 false,Gv 36 3 34 false,Gh 37 (Bo .rem 35 36) 34 false,Gh 38 (Bk .neq 37 0) 34 false,
 Gg 39 (Pq 34 38)] (Cn 39 (Sr [Gg 8 (.mv (Ki 0))] .ret) .skip)) (Sr [Gm 40 11,Gm 8 40] .ret)))))),[.t 8]⟩

theorem dc178:compF Tryz.prog Tryz.f178=some df178:=by kernel_rfl
theorem ok178:FnOk Tryz.prog 178:=⟨Tryz.f178,Tryz.func178,by kernel_rfl,by kernel_rfl⟩

def df179:DF:= ⟨27,Sr [Gg 4 (.mv (.k (.s (.i .u64 0)))),Gg 5 (.mv (Ki 0))] (Sr [Gm 7 0,Gm 8 1,Gg 9 (.call 189 [(.t 7),(.t 8),(Ki 1)]),Gm 6 9] (.seq (Sr [Gm 10 6,
 Gg 11 (.un .not (.t 10))] (Cn 11 (Sr [Gg 4 (.mv (.k (.s (.i .u64 0)))),Gg 5 (.mv (Ki 20))] .ret) .skip)) (Sr [Gm 12 0,Gm 13 0,Gg 14 (Nl 13),Gg 15 (Fa 14 1),
 Gg 16 (Ld 15),Gg 17 (Bk .add 16 1),Gg 18 (Nl 12),Gg 19 (Fa 18 1),Gs 19 17 1] (Sr [Gm 20 0,Gg 21 (Nl 20),Gg 22 (Fa 21 0),Gg 23 (Ld 22),Gm 24 1,
 Gg 25 (.ia none 1 (.t 23) (.t 24)),Gg 26 (Ld 25),Gm 4 26,Gg 5 (.mv (Ki 0))] .ret)))),[.t 4, .t 5]⟩

theorem dc179:compF Tryz.prog Tryz.f179=some df179:=by kernel_rfl
theorem ok179:FnOk Tryz.prog 179:=⟨Tryz.f179,Tryz.func179,by kernel_rfl,by kernel_rfl⟩

def df180:DF:= ⟨86,Sr [Gg 4 (.new (Zi 11)),Gg 5 (.mv (Ki 0))] (.seq (Sr [Gm 10 1,
 Gg 11 (.bin .geq (.t 10) (.k (.s (.i .u64 4294967296))))] (Cn 11 (Sr [Gg 12 (.build (Zi 11) []),Gs 4 12 11,Gg 5 (.mv (Ki 60))] .ret) .skip)) (Sr [Gm 13 0,
 Gg 14 (.bin .rem (.t 13) (.k (.s (.i .u64 16)))),Gg 15 (.conv .i64 (.t 14)),Gm 16 0,Gg 17 (.bin .shr (.t 16) (.k (.s (.i .u64 4)))),
 Gg 18 (.bin .rem (.t 17) (.k (.s (.i .u64 65536)))),Gg 19 (.conv .i64 (.t 18)),Gm 20 0,Gg 21 (.bin .shr (.t 20) (.k (.s (.i .u64 20)))),
 Gg 22 (.bin .rem (.t 21) (.k (.s (.i .u64 32)))),Gg 23 (.conv .i64 (.t 22)),Gm 24 0,Gg 25 (.bin .shr (.t 24) (.k (.s (.i .u64 25)))),
 Gg 26 (.bin .rem (.t 25) (.k (.s (.i .u64 8)))),Gg 27 (.conv .i64 (.t 26)),Gm 28 0,Gg 29 (.bin .shr (.t 28) (.k (.s (.i .u64 28)))),
 Gg 30 (.bin .rem (.t 29) (.k (.s (.i .u64 16)))),Gg 31 (.conv .i64 (.t 30)),Gm 32 0,Gg 33 (.bin .shr (.t 32) (.k (.s (.i .u64 32)))),
 Gg 34 (.bin .rem (.t 33) (.k (.s (.i .u64 64)))),Gg 35 (.conv .i64 (.t 34)),Gm 36 0,Gg 37 (.bin .shr (.t 36) (.k (.s (.i .u64 38)))),
 Gg 38 (.bin .rem (.t 37) (.k (.s (.i .u64 32)))),Gg 39 (.conv .i64 (.t 38)),
 Gg 40 (.build (Zi 11) [(0,1,(.t 15)),(1,1,(.t 19)),(2,1,(.t 23)),(7,1,(.t 27)),(10,1,(.t 31)),(8,1,(.t 35)),(5,1,(.t 39))]),
 Gg 6 (.new (Zi 11)),Gs 6 40 11] (.seq (Sr [Gg 41 (Fa 6 0),Gg 42 (Ld 41)] (.block 0 (.seq (Sr [Gg 44 (Bk .eql 42 1),
 Gm 43 44] (Cn 43 .skip (.reg [Gg 45 (Bk .eql 42 10),Gm 43 45]))) (Cn 43 (.reg [Gm 46 1,Gg 47 (.conv .i64 (.t 46)),
 Gg 48 (Fa 6 3),Gs 48 47 1]) (Sr [Gg 50 (Bk .eql 42 2),Gm 49 50] (Cn 49 (.reg [Gm 51 1,Gg 52 (.conv .i64 (.t 51)),
 Gg 53 (Fa 6 4),Gs 53 52 1]) (.seq (Sr [Gg 55 (Bk .eql 42 4),Gm 54 55] (Cn 54 .skip (.reg [Gg 56 (Bk .eql 42 5),Gm 54 56]))) (Cn 54 (.reg [Gm 57 1,
 Gg 58 (.conv .i64 (.t 57)),Gg 59 (Fa 6 6),Gs 59 58 1]) (.seq (Sr [Gg 61 (Bk .eql 42 6),Gm 60 61] (Cn 60 .skip (.reg [Gg 62 (Bk .eql 42 8),
 Gm 60 62]))) (Cn 60 (.reg [Gm 63 1,Gg 64 (.conv .i64 (.t 63)),Gg 65 (Fa 6 9),Gs 65 64 1]) .skip)))))))))) (Sr [Gg 67 (Lm 6 11),Gg 68 (Ca 174 67),Gm 66 68,
 Gg 69 (Xt 66 0),Gg 70 (Xt 66 1),Gg 71 (Xt 66 2),Gm 7 69,Gm 8 70,Gm 9 71] (.seq (Sr [Gm 72 9,Gg 73 (Bk .neq 72 0),
 Gm 74 73,Gv 75 7 74 false,Gv 76 0 74 false,Gh 77 (Bo .neq 75 76) 74 false,Gg 78 (Pq 74 77),
 Gm 79 78,Gv 80 8 79 false,Gv 81 1 79 false,Gh 82 (Bo .neq 80 81) 79 false,Gg 83 (Pq 79 82)] (Cn 83 (Sr [Gg 84 (.build (Zi 11) []),Gs 4 84 11,
 Gg 5 (.mv (Ki 60))] .ret) .skip)) (Sr [Gg 85 (Lm 6 11),Gs 4 85 11,Gg 5 (.mv (Ki 0))] .ret)))))),[.c 4 (some 11), .t 5]⟩

theorem dc180:compF Tryz.prog Tryz.f180=some df180:=by kernel_rfl
theorem ok180:FnOk Tryz.prog 180:=⟨Tryz.f180,Tryz.func180,by kernel_rfl,by kernel_rfl⟩

def df181:DF:= ⟨38,Sr [Gg 10 (.mv (Ki 0))] (Sr [Gm 12 0,Gm 13 2,Gm 14 4,Gg 15 (Cc 189 12 13 14),Gm 11 15] (.seq (Sr [Gm 16 2,Gg 17 (Bk .neq 16 0),
 Gm 18 17,Gv 19 11 18 true,Gh 20 (.un .not (.t 19)) 18 true,Gv 21 20 18 true,Gv 22 2 21 false,Gv 23 3 21 false,Gh 24 (Bo .lss 22 23) 21 false,Gh 25 (Pq 21 24) 18 true,Gv 26 25 18 true,Gv 27 2 26 false,Gv 28 4 26 false,Gh 29 (Bo .rem 27 28) 26 false,Gh 30 (Bk .neq 29 0) 26 false,Gh 31 (Pq 26 30) 18 true,
 Gg 32 (Pk 18 31)] (Cn 32 (Sr [Gg 10 (.mv (Ki 20))] .ret) .skip)) (Sr [Gm 33 0,Gm 34 1,Gm 35 2,Gg 36 (.conv .u64 (.t 35)),Gg 37 (Cc 175 33 34 36),
 Gm 10 37] .ret))),[.t 10]⟩

theorem dc181:compF Tryz.prog Tryz.f181=some df181:=by kernel_rfl
theorem ok181:FnOk Tryz.prog 181:=⟨Tryz.f181,Tryz.func181,by kernel_rfl,by kernel_rfl⟩

def df182:DF:= ⟨50,Sr [Gg 5 (.box (.t 2)),Gg 6 (.mv (Ki 0))] (Sr [Gm 12 0,Gm 13 1,Gg 14 (.call 195 [(.t 12),(.t 13),(Ki 64)]),Gm 7 14] (.seq (Sr [Gm 15 7,
 Gg 16 (.un .not (.t 15))] (Cn 16 (Sr [Gg 6 (.mv (Ki 20))] .ret) .skip)) (Sr [Gg 17 (Lm 5 30),Gg 18 (Ca 196 17),Gm 8 18] (.seq (Sr [Gm 19 8,
 Gg 20 (.un .not (.t 19))] (Cn 20 (Sr [Gg 6 (.mv (Ki 90))] .ret) .skip)) (Sr [Gg 21 (Lm 5 30),Gg 22 (Ca 197 21),
 Gg 9 (.new [.i .u64 0, .i .u64 0, .i .u64 0, .i .u64 0]),Gs 9 22 4] (.seq (Sr [Gg 10 (.mv (Ki 0))] (.block 0 (.loop (.seq (Sr [Gm 23 10,
 Gg 24 (Bk .lss 23 4)] (Cn 24 .skip (.exit 0))) (.seq (.block 1 (.reg [Gm 27 0,Gm 28 1,Gg 29 (Bk .add 28 16),Gm 30 10,Gg 31 (Bo .add 29 30),Gm 32 10,
 Gg 33 (.ia (some 4) 1 (.t 9) (.t 32)),Gg 34 (Ld 33),Gg 35 (Cc 175 27 31 34)])) (.reg [Gm 25 10,Gg 26 (Bk .add 25 1),
 Gm 10 26])))))) (.seq (Sr [Gg 11 (.mv (Ki 0))] (.block 2 (.loop (.seq (Sr [Gm 36 11,
 Gg 37 (Bk .lss 36 16)] (Cn 37 .skip (.exit 2))) (.seq (.block 3 (.reg [Gm 40 0,Gm 41 1,Gg 42 (Bk .add 41 32),Gm 43 11,Gg 44 (Bo .add 42 43),Gm 45 11,
 Gg 46 (Fa 5 14),Gg 47 (.ia (some 16) 1 (.t 46) (.t 45)),Gg 48 (Ld 47),Gg 49 (Cc 175 40 44 48)])) (.reg [Gm 38 11,Gg 39 (Bk .add 38 1),
 Gm 11 39])))))) (Sr [Gg 6 (.mv (Ki 0))] .ret)))))))),[.t 6]⟩

theorem dc182:compF Tryz.prog Tryz.f182=some df182:=by kernel_rfl
theorem ok182:FnOk Tryz.prog 182:=⟨Tryz.f182,Tryz.func182,by kernel_rfl,by kernel_rfl⟩

def df183:DF:= ⟨23,Sr [Gg 6 (.mv Yf)] (Sr [Gm 7 1,Gg 8 (Bk .geq 7 1024),Gm 9 8,Gv 10 1 9 true,Gv 11 2 9 true,Gh 12 (Bo .rem 10 11) 9 true,Gh 13 (Bk .eql 12 0) 9 true,
 Gg 14 (Pk 9 13),Gm 15 14,Gv 16 1 15 true,Gv 17 0 15 true,Gh 18 (Ca 150 17) 15 true,Gv 19 2 15 true,Gh 20 (Bo .sub 18 19) 15 true,Gh 21 (Bo .leq 16 20) 15 true,
 Gg 22 (Pk 15 21),Gm 6 22] .ret),[.t 6]⟩

theorem dc183:compF Tryz.prog Tryz.f183=some df183:=by kernel_rfl
theorem ok183:FnOk Tryz.prog 183:=⟨Tryz.f183,Tryz.func183,by kernel_rfl,by kernel_rfl⟩

def df184:DF:= ⟨90,Sr [Gg 1 (.box (.t 0)),Gg 2 (.new [.i .u64 0, .i .u64 0, .i .u64 0, .i .u64 0]),
 Gg 3 (.mv Yf)] (Sr [Gg 4 (.new [.i .u64 0, .i .u64 0, .i .u64 0, .i .u64 0])] (Sr [Gg 5 (.new [.b false, .b false, .b false, .b false])] (.seq (.drx (.tk true (Gg 7 (Fa 1 0)) (.tk true (Gg 10 (Fa 1 1)) (.tk true (Gg 13 (Fa 1 2)) (.tk true (Gg 16 (Fa 1 3)) (.tk true (Gg 19 (Fa 1 8)) (.tk true (Gg 22 (Fa 1 9)) (.tk true (Gg 25 (Fa 1 12)) (.tk true (Gg 8 (Ld 7)) (.tk true (Gg 9 (.build [.i .i64 0, .i .i64 0] [(0,1,(Ki 3)),(1,1,(.t 8))])) (.tk true (Gg 11 (Ld 10)) (.tk true (Gg 12 (.build [.i .i64 0, .i .i64 0] [(0,1,(Ki 8)),(1,1,(.t 11))])) (.tk true (Gg 14 (Ld 13)) (.tk true (Gg 15 (.build [.i .i64 0, .i .i64 0] [(0,1,(Ki 3)),(1,1,(.t 14))])) (.tk true (Gg 17 (Ld 16)) (.tk true (Gg 18 (Ca 199 17)) (.tk true (Gg 20 (Ld 19)) (.tk true (Gg 21 (Ca 199 20)) (.tk true (Gg 23 (Ld 22)) (.tk true (Gg 24 (Ca 199 23)) (.tk true (Gg 26 (Ld 25)) (.tk true (Gg 27 (.build [.i .i64 0, .i .i64 0] [(0,1,(Ki 2)),(1,1,(.t 26))])) (.tk false (Gg 28 (.bsl 7 (Zi 14) [(0,2,(.t 9)),(2,2,(.t 12)),(4,2,(.t 15)),(6,2,(.t 18)),(8,2,(.t 21)),(10,2,(.t 24)),(12,2,(.t 27))])) (.tk false (Gg 29 (Ca 198 28)) (.tk true (Gm 6 29) (.tk true (Gg 30 (Xt 6 0)) (.tk true (Gg 31 (Xt 6 1)) (.tk true (Gg 32 (.ia (some 4) 1 (.t 4) (Ki 0))) (.tk false (Gs 32 30 1) (.tk true (Gg 33 (.ia (some 4) 1 (.t 5) (Ki 0))) (.tk false (Gs 33 31 1) .done))))))))))))))))))))))))))))))) (Sr [Gg 35 (Fa 1 4),
 Gg 36 (Ld 35),Gg 37 (.build [.i .i64 0, .i .i64 0] [(0,1,(Ki 16)),(1,1,(.t 36))]),Gg 38 (Fa 1 5),Gg 39 (Ld 38),
 Gg 40 (.build [.i .i64 0, .i .i64 0] [(0,1,(Ki 16)),(1,1,(.t 39))]),Gg 41 (Fa 1 6),Gg 42 (Ld 41),
 Gg 43 (.build [.i .i64 0, .i .i64 0] [(0,1,(Ki 16)),(1,1,(.t 42))]),Gg 44 (Fa 1 10),Gg 45 (Ld 44),
 Gg 46 (.build [.i .i64 0, .i .i64 0] [(0,1,(Ki 16)),(1,1,(.t 45))]),
 Gg 47 (.bsl 4 (Zi 8) [(0,2,(.t 37)),(2,2,(.t 40)),(4,2,(.t 43)),(6,2,(.t 46))]),Gg 48 (Ca 198 47),Gm 34 48,Gg 49 (Xt 34 0),Gg 50 (Xt 34 1),
 Gg 51 (.ia (some 4) 1 (.t 4) (Ki 1)),Gs 51 49 1,Gg 52 (.ia (some 4) 1 (.t 5) (Ki 1)),Gs 52 50 1] (Sr [Gg 54 (Fa 1 7),Gg 55 (Ld 54),
 Gg 56 (.build [.i .i64 0, .i .i64 0] [(0,1,(Ki 28)),(1,1,(.t 55))]),Gg 57 (.bsl 1 [.i .i64 0, .i .i64 0] [(0,2,(.t 56))]),Gg 58 (Ca 198 57),Gm 53 58,
 Gg 59 (Xt 53 0),Gg 60 (Xt 53 1),Gg 61 (.ia (some 4) 1 (.t 4) (Ki 2)),Gs 61 59 1,Gg 62 (.ia (some 4) 1 (.t 5) (Ki 2)),Gs 62 60 1] (Sr [Gg 64 (Fa 1 11),
 Gg 65 (Ld 64),Gg 66 (.build [.i .i64 0, .i .i64 0] [(0,1,(Ki 32)),(1,1,(.t 65))]),Gg 67 (Fa 1 13),Gg 68 (Ld 67),
 Gg 69 (.build [.i .i64 0, .i .i64 0] [(0,1,(Ki 32)),(1,1,(.t 68))]),Gg 70 (.bsl 2 (Zi 4) [(0,2,(.t 66)),(2,2,(.t 69))]),Gg 71 (Ca 198 70),Gm 63 71,
 Gg 72 (Xt 63 0),Gg 73 (Xt 63 1),Gg 74 (.ia (some 4) 1 (.t 4) (Ki 3)),Gs 74 72 1,
 Gg 75 (.ia (some 4) 1 (.t 5) (Ki 3)),Gs 75 73 1] (.seq (.drx (.tk true (Gg 78 (.build [.b false, .b false, .b false, .b false] [(0,1,Yt),(1,1,Yt),(2,1,Yt),(3,1,Yt)])) (.tk true (Gg 76 (Lm 4 4)) (.tk true (Gg 77 (Lm 5 4)) (.tk true (Gg 79 (.eqa false [false,false,false,false] (.t 77) (.t 78))) (.tk true (Gm 80 79) (.tk true (Gh 81 (Fa 1 0) 80 true) (.tk true (Gh 82 (Ld 81) 80 true) (.tk true (Gh 83 (Bk .leq 82 5) 80 true) (.tk true (Gg 84 (Pk 80 83)) (.tk true (Gm 85 84) (.tk true (Gh 86 (Fa 1 2) 85 true) (.both (.tk true (Gh 87 (Ld 86) 85 true) (.tk true (Gh 88 (Bk .leq 87 5) 85 true) (.tk true (Gg 89 (Pk 85 88)) (.tk false (Gs 2 76 4) (.tk true (Gm 3 89) .done))))) (.tk false (Gs 2 76 4) (.tk true (Gh 87 (Ld 86) 85 true) (.tk true (Gh 88 (Bk .leq 87 5) 85 true) (.tk true (Gg 89 (Pk 85 88)) (.tk true (Gm 3 89) .done)))))))))))))))))) .ret))))))),[.c 2 (some 4), .t 3]⟩

theorem dc184:compF Tryz.prog Tryz.f184=some df184:=by kernel_rfl
theorem ok184:FnOk Tryz.prog 184:=⟨Tryz.f184,Tryz.func184,by kernel_rfl,by kernel_rfl⟩

def df185:DF:= ⟨9,Sr [Gg 4 (.new [.i .i64 0, .i .u64 0])] (Sr [Gm 5 0,Gm 6 1,Gg 7 (.conv .u64 (.t 6)),
 Gg 8 (.build [.i .i64 0, .i .u64 0] [(0,1,(.t 5)),(1,1,(.t 7))]),Gs 4 8 2] .ret),[.c 4 (some 2)]⟩

theorem dc185:compF Tryz.prog Tryz.f185=some df185:=by kernel_rfl
theorem ok185:FnOk Tryz.prog 185:=⟨Tryz.f185,Tryz.func185,by kernel_rfl,by kernel_rfl⟩

def df186:DF:= ⟨14,Sr [Gg 1 (.box (.t 0)),Gg 2 (.mv (Ki 0))] (Sr [Gg 3 (Fa 1 3),Gg 4 (Ld 3),Gg 5 (Fa 1 4),Gg 6 (Ld 5),Gg 7 (Bo .add 4 6),Gg 8 (Fa 1 6),Gg 9 (Ld 8),
 Gg 10 (Bo .add 7 9),Gg 11 (Fa 1 9),Gg 12 (Ld 11),Gg 13 (Bo .add 10 12),Gm 2 13] .ret),[.t 2]⟩

theorem dc186:compF Tryz.prog Tryz.f186=some df186:=by kernel_rfl
theorem ok186:FnOk Tryz.prog 186:=⟨Tryz.f186,Tryz.func186,by kernel_rfl,by kernel_rfl⟩

def df187:DF:= ⟨44,Sr [Gg 8 (.mv (.k (.s (.i .u64 0)))),Gg 9 (.mv (Ki 0))] (Sr [Gm 13 1,Gm 14 2,Gg 15 (Cb 190 13 14),Gm 12 15,Gg 16 (Xt 12 0),Gg 17 (Xt 12 1),Gm 10 16,
 Gm 11 17] (.seq (Sr [Gm 18 11,Gg 19 (.un .not (.t 18)),
 Gm 20 19,Gv 21 3 20 false,Gv 22 1 20 false,Gh 23 (Bo .shl 21 22) 20 false,Gv 24 1 20 false,Gh 25 (Bo .shr 23 24) 20 false,Gv 26 3 20 false,Gh 27 (Bo .neq 25 26) 20 false,
 Gg 28 (Pq 20 27),
 Gm 29 28,Gv 30 3 29 false,Gv 31 1 29 false,Gh 32 (Bo .shl 30 31) 29 false,Gv 33 10 29 false,Gh 34 (Bo .andNot 32 33) 29 false,Gh 35 (.bin .neq (.t 34) (.k (.s (.i .u64 0)))) 29 false,
 Gg 36 (Pq 29 35)] (Cn 36 (Sr [Gg 8 (.mv (.k (.s (.i .u64 0)))),Gg 9 (.mv (Ki 10))] .ret) .skip)) (Sr [Gm 37 0,Gm 38 10,Gg 39 (Bo .andNot 37 38),Gm 40 3,Gm 41 1,
 Gg 42 (Bo .shl 40 41),Gg 43 (Bo .or 39 42),Gm 8 43,Gg 9 (.mv (Ki 0))] .ret))),[.t 8, .t 9]⟩

theorem dc187:compF Tryz.prog Tryz.f187=some df187:=by kernel_rfl
theorem ok187:FnOk Tryz.prog 187:=⟨Tryz.f187,Tryz.func187,by kernel_rfl,by kernel_rfl⟩

def df188:DF:= ⟨27,Sr [Gg 3 (.box (.t 0)),
 Gg 6 (.mv Yf)] (.seq (.drm [(true,Gm 7 2),(true,Gg 8 (Fa 3 2)),(true,Gg 9 (Ld 8)),(true,Gg 10 (Bo .geq 7 9)),(true,Gm 11 10),(true,Gv 12 2 11 true),(true,Gh 13 (Fa 3 1) 11 true),(true,Gh 14 (Ld 13) 11 true),(true,Gh 15 (Bo .rem 12 14) 11 true),(true,Gh 16 (Bk .eql 15 0) 11 true),(true,Gg 17 (Pk 11 16)),(true,Gm 18 17),(true,Gv 19 2 18 true),(true,Gv 20 1 18 true),(true,Gh 22 (Fa 3 1) 18 true),(true,Gh 23 (Ld 22) 18 true),(true,Gh 21 (Ca 150 20) 18 true),(true,Gh 24 (Bo .sub 21 23) 18 true),(true,Gh 25 (Bo .leq 19 24) 18 true),(true,Gg 26 (Pk 18 25)),(true,Gm 6 26)]) .ret),[.t 6]⟩

theorem dc188:compF Tryz.prog Tryz.f188=some df188:=by kernel_rfl
theorem ok188:FnOk Tryz.prog 188:=⟨Tryz.f188,Tryz.func188,by kernel_rfl,by kernel_rfl⟩

def df189:DF:= ⟨33,Sr [Gg 6 (.mv Yf)] (Sr [Gm 7 1,Gg 8 (Bk .geq 7 0),Gm 9 8,Gv 10 2 9 true,Gh 11 (Bk .geq 10 0) 9 true,Gg 12 (Pk 9 11),
 Gm 13 12,Gv 14 1 13 true,Gv 15 0 13 true,Gh 16 (Nl 15) 13 true,Gh 17 (Fa 16 0) 13 true,Gh 18 (Ld 17) 13 true,Gh 19 (.len (.t 18)) 13 true,Gh 20 (Bo .leq 14 19) 13 true,
 Gg 21 (Pk 13 20),
 Gm 22 21,Gv 23 2 22 true,Gv 24 0 22 true,Gh 25 (Nl 24) 22 true,Gh 26 (Fa 25 0) 22 true,Gh 27 (Ld 26) 22 true,Gh 28 (.len (.t 27)) 22 true,Gv 29 1 22 true,Gh 30 (Bo .sub 28 29) 22 true,Gh 31 (Bo .leq 23 30) 22 true,
 Gg 32 (Pk 22 31),Gm 6 32] .ret),[.t 6]⟩

theorem dc189:compF Tryz.prog Tryz.f189=some df189:=by kernel_rfl
theorem ok189:FnOk Tryz.prog 189:=⟨Tryz.f189,Tryz.func189,by kernel_rfl,by kernel_rfl⟩

def df190:DF:= ⟨27,Sr [Gg 4 (.mv (.k (.s (.i .u64 0)))),Gg 5 (.mv Yf)] (.seq (Sr [Gm 6 0,Gg 7 (Bk .lss 6 0),Gm 8 7,Gv 9 0 8 false,Gh 10 (Bk .gtr 9 63) 8 false,
 Gg 11 (Pq 8 10),Gm 12 11,Gv 13 1 12 false,Gh 14 (Bk .lss 13 1) 12 false,Gg 15 (Pq 12 14),
 Gm 16 15,Gv 17 1 16 false,Gv 18 0 16 false,Gh 19 (.bin .sub (Ki 64) (.t 18)) 16 false,Gh 20 (Bo .gtr 17 19) 16 false,
 Gg 21 (Pq 16 20)] (Cn 21 (Sr [Gg 4 (.mv (.k (.s (.i .u64 0)))),Gg 5 (.mv Yf)] .ret) .skip)) (Sr [Gm 22 1,Gg 23 (.bin .sub (Ki 64) (.t 22)),
 Gg 24 (.bin .shr (.k (.s (.i .u64 18446744073709551615))) (.t 23)),Gm 25 0,Gg 26 (Bo .shl 24 25),Gm 4 26,Gg 5 (.mv Yt)] .ret)),[.t 4, .t 5]⟩

theorem dc190:compF Tryz.prog Tryz.f190=some df190:=by kernel_rfl
theorem ok190:FnOk Tryz.prog 190:=⟨Tryz.f190,Tryz.func190,by kernel_rfl,by kernel_rfl⟩

def df191:DF:= ⟨13,Sr [Gg 2 (.mv (Ki 0)),Gg 3 (.mv Yf)] (Sr [Gm 4 0,Gg 5 (.mx true (.t 4) (Ki 0)),Gg 6 (.bin .shl (Ki 4) (.t 5)),Gm 7 0,Gg 8 (Bk .geq 7 1),
 Gm 9 8,Gv 10 0 9 true,Gh 11 (Bk .leq 10 8) 9 true,Gg 12 (Pk 9 11),Gm 2 6,Gm 3 12] .ret),[.t 2, .t 3]⟩

theorem dc191:compF Tryz.prog Tryz.f191=some df191:=by kernel_rfl
theorem ok191:FnOk Tryz.prog 191:=⟨Tryz.f191,Tryz.func191,by kernel_rfl,by kernel_rfl⟩

def df194:DF:= ⟨14,Sr [Gg 2 (.mv Yf)] (Sr [Gm 3 0,Gg 4 (Bk .geq 3 0),Gm 5 4,Gv 6 0 5 true,Gh 7 (Bk .leq 6 65532) 5 true,Gg 8 (Pk 5 7),
 Gm 9 8,Gv 10 0 9 true,Gh 11 (Bk .rem 10 4) 9 true,Gh 12 (Bk .eql 11 0) 9 true,Gg 13 (Pk 9 12),Gm 2 13] .ret),[.t 2]⟩

theorem dc194:compF Tryz.prog Tryz.f194=some df194:=by kernel_rfl
theorem ok194:FnOk Tryz.prog 194:=⟨Tryz.f194,Tryz.func194,by kernel_rfl,by kernel_rfl⟩

def df195:DF:= ⟨23,Sr [Gg 6 (.mv Yf)] (Sr [Gm 8 0,Gm 9 1,Gm 10 2,Gg 11 (Cc 189 8 9 10),Gm 7 11] (Sr [Gm 12 7,Gm 13 12,Gv 14 1 13 true,Gh 15 (Bk .geq 14 1024) 13 true,
 Gg 16 (Pk 13 15),Gm 17 16,Gv 18 1 17 true,Gv 19 2 17 true,Gh 20 (Bo .rem 18 19) 17 true,Gh 21 (Bk .eql 20 0) 17 true,Gg 22 (Pk 17 21),Gm 6 22] .ret)),[.t 6]⟩

theorem dc195:compF Tryz.prog Tryz.f195=some df195:=by kernel_rfl
theorem ok195:FnOk Tryz.prog 195:=⟨Tryz.f195,Tryz.func195,by kernel_rfl,by kernel_rfl⟩

def df196:DF:= ⟨60,Sr [Gg 1 (.box (.t 0)),Gg 2 (.mv Yf)] (Sr [Gg 5 (Fa 1 4),Gg 6 (Ld 5),Gg 7 (.call 200 [(.t 6),(Ki 0),(Ki 65535)]),
 Gm 8 7,Gh 9 (Fa 1 5) 8 true,Gh 10 (Ld 9) 8 true,Gh 11 (.call 200 [(.t 10),(Ki 0),(Ki 65535)]) 8 true,Gg 12 (Pk 8 11),
 Gm 13 12,Gh 14 (Fa 1 6) 13 true,Gh 15 (Ld 14) 13 true,Gh 16 (.call 200 [(.t 15),(Ki 0),(Ki 65535)]) 13 true,Gg 17 (Pk 13 16),
 Gm 18 17,Gh 19 (Fa 1 10) 18 true,Gh 20 (Ld 19) 18 true,Gh 21 (.call 200 [(.t 20),(Ki 0),(Ki 65535)]) 18 true,Gg 22 (Pk 18 21),Gm 3 22] (Sr [Gg 23 (Fa 1 0),
 Gg 24 (Ld 23),Gg 25 (.call 200 [(.t 24),(Ki 0),(Ki 5)]),
 Gm 26 25,Gh 27 (Fa 1 1) 26 true,Gh 28 (Ld 27) 26 true,Gh 29 (.call 200 [(.t 28),(Ki 0),(Ki 255)]) 26 true,Gg 30 (Pk 26 29),
 Gm 31 30,Gh 32 (Fa 1 2) 31 true,Gh 33 (Ld 32) 31 true,Gh 34 (.call 200 [(.t 33),(Ki 0),(Ki 5)]) 31 true,Gg 35 (Pk 31 34),
 Gm 36 35,Gh 37 (Fa 1 12) 36 true,Gh 38 (Ld 37) 36 true,Gh 39 (.call 200 [(.t 38),(Ki 0),(Ki 3)]) 36 true,Gg 40 (Pk 36 39),Gm 4 40] (Sr [Gm 41 3,
 Gm 42 41,Gv 43 4 42 true,Gg 44 (Pk 42 43),Gm 45 44,Gh 46 (Fa 1 7) 45 true,Gh 47 (Ld 46) 45 true,Gh 48 (.call 200 [(.t 47),(Ki 0),(Ki 268435455)]) 45 true,
 Gg 49 (Pk 45 48),Gm 50 49,Gh 51 (Fa 1 11) 50 true,Gh 52 (Ld 51) 50 true,Gh 53 (.call 200 [(.t 52),(Ki 0),(Ki 4294967295)]) 50 true,Gg 54 (Pk 50 53),
 Gm 55 54,Gh 56 (Fa 1 13) 55 true,Gh 57 (Ld 56) 55 true,Gh 58 (.call 200 [(.t 57),(Ki 0),(Ki 4294967295)]) 55 true,Gg 59 (Pk 55 58),Gm 2 59] .ret))),[.t 2]⟩

theorem dc196:compF Tryz.prog Tryz.f196=some df196:=by kernel_rfl
theorem ok196:FnOk Tryz.prog 196:=⟨Tryz.f196,Tryz.func196,by kernel_rfl,by kernel_rfl⟩

def df197:DF:= ⟨70,Sr [Gg 1 (.box (.t 0)),
 Gg 2 (.new [.i .u64 0, .i .u64 0, .i .u64 0, .i .u64 0])] (.seq (.drm [(true,Gg 5 (Fa 1 0)),(true,Gg 6 (Ld 5)),(true,Gg 7 (.conv .u64 (.t 6))),(true,Gg 8 (Fa 1 1)),(true,Gg 9 (Ld 8)),(true,Gg 10 (.conv .u64 (.t 9))),(true,Gg 11 (.bin .shl (.t 10) (.k (.s (.i .u64 3))))),(true,Gg 12 (Bo .add 7 11)),(true,Gg 13 (Fa 1 2)),(true,Gg 14 (Ld 13)),(true,Gg 15 (.conv .u64 (.t 14))),(true,Gg 16 (.bin .shl (.t 15) (.k (.s (.i .u64 11))))),(true,Gg 17 (Bo .add 12 16)),(true,Gg 18 (Fa 1 3)),(true,Gg 19 (Ld 18)),(true,Gg 23 (Fa 1 8)),(true,Gg 24 (Ld 23)),(true,Gg 28 (Fa 1 9)),(true,Gg 29 (Ld 28)),(true,Gg 33 (Fa 1 12)),(true,Gg 34 (Ld 33)),(true,Gg 35 (.conv .u64 (.t 34))),(true,Gg 36 (.bin .shl (.t 35) (.k (.s (.i .u64 17))))),(true,Gg 20 (Ca 201 19)),(true,Gg 21 (.bin .shl (.t 20) (.k (.s (.i .u64 14))))),(true,Gg 22 (Bo .add 17 21)),(true,Gg 25 (Ca 201 24)),(true,Gg 26 (.bin .shl (.t 25) (.k (.s (.i .u64 15))))),(true,Gg 27 (Bo .add 22 26)),(true,Gg 30 (Ca 201 29)),(true,Gg 31 (.bin .shl (.t 30) (.k (.s (.i .u64 16))))),(true,Gg 32 (Bo .add 27 31)),(true,Gg 37 (Bo .add 32 36)),(true,Gm 3 37)]) (Sr [Gg 38 (Fa 1 4),
 Gg 39 (Ld 38),Gg 40 (.conv .u64 (.t 39)),Gg 41 (Fa 1 5),Gg 42 (Ld 41),Gg 43 (.conv .u64 (.t 42)),Gg 44 (.bin .shl (.t 43) (.k (.s (.i .u64 16)))),
 Gg 45 (Bo .add 40 44),Gg 46 (Fa 1 6),Gg 47 (Ld 46),Gg 48 (.conv .u64 (.t 47)),Gg 49 (.bin .shl (.t 48) (.k (.s (.i .u64 32)))),Gg 50 (Bo .add 45 49),
 Gg 51 (Fa 1 10),Gg 52 (Ld 51),Gg 53 (.conv .u64 (.t 52)),Gg 54 (.bin .shl (.t 53) (.k (.s (.i .u64 48)))),Gg 55 (Bo .add 50 54),Gm 4 55] (Sr [Gm 56 3,Gm 57 4,
 Gg 58 (Fa 1 7),Gg 59 (Ld 58),Gg 60 (.conv .u64 (.t 59)),Gg 61 (Fa 1 11),Gg 62 (Ld 61),Gg 63 (.conv .u64 (.t 62)),Gg 64 (Fa 1 13),Gg 65 (Ld 64),
 Gg 66 (.conv .u64 (.t 65)),Gg 67 (.bin .shl (.t 66) (.k (.s (.i .u64 32)))),Gg 68 (Bo .add 63 67),
 Gg 69 (.build [.i .u64 0, .i .u64 0, .i .u64 0, .i .u64 0] [(0,1,(.t 56)),(1,1,(.t 57)),(2,1,(.t 60)),(3,1,(.t 68))]),Gs 2 69 4] .ret))),[.c 2 (some 4)]⟩

theorem dc197:compF Tryz.prog Tryz.f197=some df197:=by kernel_rfl
theorem ok197:FnOk Tryz.prog 197:=⟨Tryz.f197,Tryz.func197,by kernel_rfl,by kernel_rfl⟩

def df198:DF:= ⟨36,Sr [Gg 2 (.mv (.k (.s (.i .u64 0)))),Gg 3 (.mv Yf)] (Sr [Gg 4 (.mv (.k (.s (.ns))))] (.seq (Sr [Gm 9 0,Gg 10 (.len (.t 9)),
 Gg 11 (.mv (Ki 0))] (.block 0 (.loop (Sr [Gg 12 (Bo .lss 11 10)] (.seq (Cn 12 .skip (.exit 0)) (.seq (.block 1 (Sr [Gg 13 (.ia none 2 (.t 9) (.t 11)),
 Gg 14 (Lm 13 2),Gg 6 (.new [.i .i64 0, .i .i64 0]),Gs 6 14 2] (.seq (Sr [Gg 15 (Fa 6 1),Gg 16 (Ld 15),
 Gg 17 (Bk .lss 16 0)] (Cn 17 (Sr [Gg 2 (.mv (.k (.s (.i .u64 0)))),Gg 3 (.mv Yf)] .ret) .skip)) (.reg [Gm 18 4,Gg 19 (Fa 6 0),Gg 20 (Ld 19),Gg 21 (Fa 6 1),
 Gg 22 (Ld 21),Gg 23 (.conv .u64 (.t 22)),Gg 24 (.build [.i .i64 0, .i .u64 0] [(0,1,(.t 20)),(1,1,(.t 23))]),
 Gg 25 (.bsl 1 [.i .i64 0, .i .u64 0] [(0,2,(.t 24))]),Gg 26 (.app 2 16 (.t 18) (.t 25)),Gm 4 26])))) (.reg [Gg 27 (Bk .add 11 1),
 Gm 11 27]))))))) (Sr [Gm 29 4,Gg 30 (Ca 140 29),Gm 28 30,Gg 31 (Xt 28 0),Gg 32 (Xt 28 1),Gm 7 31,Gm 8 32] (Sr [Gm 33 7,Gm 34 8,Gg 35 (Bk .eql 34 0),Gm 2 33,
 Gm 3 35] .ret)))),[.t 2, .t 3]⟩

theorem dc198:compF Tryz.prog Tryz.f198=some df198:=by kernel_rfl
theorem ok198:FnOk Tryz.prog 198:=⟨Tryz.f198,Tryz.func198,by kernel_rfl,by kernel_rfl⟩

def df199:DF :=
  ⟨6,Sr [Gg 2 (.new [.i .i64 0, .i .i64 0])] (.seq (Sr [Gm 3 0] (Cn 3 (Sr [Gg 4 (.build [.i .i64 0, .i .i64 0] [(0,1,(Ki 1)),(1,1,(Ki 1))]),Gs 2 4 2] .ret) .skip)) (Sr [Gg 5 (.build [.i .i64 0, .i .i64 0] [(0,1,(Ki 1)),(1,1,(Ki 0))]),Gs 2 5 2] .ret)),[.c 2 (some 2)]⟩

theorem dc199:compF Tryz.prog Tryz.f199=some df199:=by kernel_rfl
theorem ok199:FnOk Tryz.prog 199:=⟨Tryz.f199,Tryz.func199,by kernel_rfl,by kernel_rfl⟩

def df200:DF:= ⟨15,Sr [Gg 6 (.mv Yf)] (Sr [Gm 7 0,Gm 8 1,Gg 9 (Bo .geq 7 8),Gm 10 9,Gv 11 0 10 true,Gv 12 2 10 true,Gh 13 (Bo .leq 11 12) 10 true,Gg 14 (Pk 10 13),
 Gm 6 14] .ret),[.t 6]⟩

theorem dc200:compF Tryz.prog Tryz.f200=some df200:=by kernel_rfl
theorem ok200:FnOk Tryz.prog 200:=⟨Tryz.f200,Tryz.func200,by kernel_rfl,by kernel_rfl⟩

def df201:DF :=
  ⟨4,Sr [Gg 2 (.mv (.k (.s (.i .u64 0))))] (.seq (Sr [Gm 3 0] (Cn 3 (Sr [Gg 2 (.mv (.k (.s (.i .u64 1))))] .ret) .skip)) (Sr [Gg 2 (.mv (.k (.s (.i .u64 0))))] .ret)),[.t 2]⟩

theorem dc201:compF Tryz.prog Tryz.f201=some df201:=by kernel_rfl
theorem ok201:FnOk Tryz.prog 201:=⟨Tryz.f201,Tryz.func201,by kernel_rfl,by kernel_rfl⟩

theorem mixed:OkP Tryz.prog:=⟨by kernel_rfl,rfl⟩
end Go.Proofs.YtcdfofeolgbnbaaGreat

