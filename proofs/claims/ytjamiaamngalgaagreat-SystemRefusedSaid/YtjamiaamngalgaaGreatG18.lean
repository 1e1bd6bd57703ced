/-
  Parts: The last statement of De. No conditions beyond those of the statement.
-/
import Derived.Test.YtjamiaamngalgaaGreatG00
import Derived.Test.YtjamiaamngalgaaGreatG17
set_option linter.unusedVariables false
set_option linter.unusedSimpArgs false
set_option maxRecDepth 1000000
set_option maxHeartbeats 4000000
namespace Go.Proofs.YtjamiaamngalgaaGreat
open Go.RowKit Cfp
def findReg (q:Nat):Code→Option Code
 | .region id ops b=> if id=q then some (.region id ops b) else none
 | .loop c=> findReg q c
 | .seq a b=> match findReg q a with
   | some c=> some c
   | none=> findReg q b
 | .block _ c=> findReg q c
 | .scope c=> findReg q c
 | .cond _ a b=> match findReg q a with
   | some c=> some c
   | none=> findReg q b
 | _=> none
noncomputable def rg16:Code:=((Tryz.f7.body.bind (findReg 16)).getD .skip)
def NormPost (W:Act→World→Prop):Exit→Act→World→Prop
 | .normal,a,w=> W a w
 | _,_,_=> False
theorem Zu6 (c:Cfg) (C T:Option Addr) (n k j R X:Nat) (wr:World) (s0 s1 s4 s5 s6 s7 s8 s9 s10 s11 s12 s13 s14 s15 s16 s17 s18 s19 s20 s21 s22 s23 s24 s25 s26 s27 s28 s29 s30 s31 s32 s33 s34 s35 s36 s37 s38 s39 s40 s41 s42 s43 s44 s45 s46 s47 s48 s49 s50 s51 s52 s53 s54 s55 s56 s57 s58 s59 s60 s61 s62 s63 s64 s65 s66 s67 s68 s69 s70 s71 s72 s73 s74 s75 s76 s77 s78 s79 s80 s81 s82 s83 s84 s85 s86 s87 s88 s89 s90 s91 s92 s93 s94 s95 s96:Value) (hx:Blk wr X 27 (cfC c C n k T 16 j)) (hr:Blk wr R 27 #[.int .i64 0,.int .i64 0,.int .i64 0,.int .i64 0,.int .i64 0,.int .i64 0,.int .i64 0,.int .i64 0,.int .i64 0,.int .u64 0,.int .i64 0,.int .i64 0,.int .i64 0,.int .i64 0,.slice none 0 0,.slice none 0 0,.int .u64 0]):
  Code.wp Tryz.prog rg16 (NormPost fun a' w''=> a'=⟨#[s0,s1,.pointer (some ⟨R,0,none⟩),.pointer (some ⟨X,0,none⟩),s4,s5,s6,s7,s8,s9,s10,s11,s12,s13,s14,s15,s16,s17,s18,s19,s20,s21,s22,s23,s24,s25,s26,s27,s28,s29,s30,s31,s32,s33,s34,s35,s36,s37,s38,s39,s40,s41,s42,s43,s44,s45,s46,s47,s48,s49,s50,s51,s52,s53,s54,s55,s56,s57,s58,s59,s60,s61,s62,s63,s64,s65,s66,s67,s68,s69,s70,s71,s72,s73,s74,s75,s76,s77,s78,s79,s80,s81,s82,s83,s84,s85,s86,s87,s88,s89,s90,s91,s92,s93,s94,s95,Value.agg (cfC c C n k T 16 j)],[]⟩∧Blk w'' R 27 (cfC c C n k T 16 j)∧Keeps (· =R) wr w'') ⟨#[s0,s1,.pointer (some ⟨R,0,none⟩),.pointer (some ⟨X,0,none⟩),s4,s5,s6,s7,s8,s9,s10,s11,s12,s13,s14,s15,s16,s17,s18,s19,s20,s21,s22,s23,s24,s25,s26,s27,s28,s29,s30,s31,s32,s33,s34,s35,s36,s37,s38,s39,s40,s41,s42,s43,s44,s45,s46,s47,s48,s49,s50,s51,s52,s53,s54,s55,s56,s57,s58,s59,s60,s61,s62,s63,s64,s65,s66,s67,s68,s69,s70,s71,s72,s73,s74,s75,s76,s77,s78,s79,s80,s81,s82,s83,s84,s85,s86,s87,s88,s89,s90,s91,s92,s93,s94,s95,s96],[]⟩ wr:=by
 conv=> arg 2;whnf
 dsimp only
 have z0:wr.cell? ⟨R,0,none⟩=some (.int .i64 0):=hr.cell 0
 have fz0:=hr.frozen 0
 have z1:wr.cell? ⟨R,1,none⟩=some (.int .i64 0):=hr.cell 1
 have fz1:=hr.frozen 1
 have z2:wr.cell? ⟨R,2,none⟩=some (.int .i64 0):=hr.cell 2
 have fz2:=hr.frozen 2
 have z3:wr.cell? ⟨R,3,none⟩=some (.int .i64 0):=hr.cell 3
 have fz3:=hr.frozen 3
 have z4:wr.cell? ⟨R,4,none⟩=some (.int .i64 0):=hr.cell 4
 have fz4:=hr.frozen 4
 have z5:wr.cell? ⟨R,5,none⟩=some (.int .i64 0):=hr.cell 5
 have fz5:=hr.frozen 5
 have z6:wr.cell? ⟨R,6,none⟩=some (.int .i64 0):=hr.cell 6
 have fz6:=hr.frozen 6
 have z7:wr.cell? ⟨R,7,none⟩=some (.int .i64 0):=hr.cell 7
 have fz7:=hr.frozen 7
 have z8:wr.cell? ⟨R,8,none⟩=some (.int .i64 0):=hr.cell 8
 have fz8:=hr.frozen 8
 have z9:wr.cell? ⟨R,9,none⟩=some (.int .u64 0):=hr.cell 9
 have fz9:=hr.frozen 9
 have z10:wr.cell? ⟨R,10,none⟩=some (.int .i64 0):=hr.cell 10
 have fz10:=hr.frozen 10
 have z11:wr.cell? ⟨R,11,none⟩=some (.int .i64 0):=hr.cell 11
 have fz11:=hr.frozen 11
 have z12:wr.cell? ⟨R,12,none⟩=some (.int .i64 0):=hr.cell 12
 have fz12:=hr.frozen 12
 have z13:wr.cell? ⟨R,13,none⟩=some (.int .i64 0):=hr.cell 13
 have fz13:=hr.frozen 13
 have z14:wr.cell? ⟨R,14,none⟩=some (.slice none 0 0):=hr.cell 14
 have fz14:=hr.frozen 14
 have z15:wr.cell? ⟨R,15,none⟩=some (.slice none 0 0):=hr.cell 15
 have fz15:=hr.frozen 15
 have z16:wr.cell? ⟨R,16,none⟩=some (.int .u64 0):=hr.cell 16
 have fz16:=hr.frozen 16
 have HX:=zz hx
 have HR:=zz hr
 clear hx hr
 go_wp2_with (refine Zah _ rfl HX.out rfl (by rfl) ?_;simp only [Zpt])
 have b0:=HR.out.set 0 (.int .i64 c.length)
 simp only [List.setIfInBounds_toArray,List.set_cons_zero,List.set_cons_succ] at b0
 have b1:=b0.set 1 (.int .i64 c.lateness)
 simp only [List.setIfInBounds_toArray,List.set_cons_zero,List.set_cons_succ] at b1
 clear b0
 have b2:=b1.set 2 (.int .i64 c.windows)
 simp only [List.setIfInBounds_toArray,List.set_cons_zero,List.set_cons_succ] at b2
 clear b1
 have b3:=b2.set 3 (.int .i64 c.shards)
 simp only [List.setIfInBounds_toArray,List.set_cons_zero,List.set_cons_succ] at b3
 clear b2
 have b4:=b3.set 4 (.int .i64 c.spread)
 simp only [List.setIfInBounds_toArray,List.set_cons_zero,List.set_cons_succ] at b4
 clear b3
 have b5:=b4.set 5 (.int .i64 c.queue)
 simp only [List.setIfInBounds_toArray,List.set_cons_zero,List.set_cons_succ] at b5
 clear b4
 have b6:=b5.set 6 (.int .i64 c.mode)
 simp only [List.setIfInBounds_toArray,List.set_cons_zero,List.set_cons_succ] at b6
 clear b5
 have b7:=b6.set 7 (.int .i64 c.slots)
 simp only [List.setIfInBounds_toArray,List.set_cons_zero,List.set_cons_succ] at b7
 clear b6
 have b8:=b7.set 8 (.int .i64 c.exact_)
 simp only [List.setIfInBounds_toArray,List.set_cons_zero,List.set_cons_succ] at b8
 clear b7
 have b9:=b8.set 9 (.int .u64 c.promote)
 simp only [List.setIfInBounds_toArray,List.set_cons_zero,List.set_cons_succ] at b9
 clear b8
 have b10:=b9.set 10 (.int .i64 c.depth)
 simp only [List.setIfInBounds_toArray,List.set_cons_zero,List.set_cons_succ] at b10
 clear b9
 have b11:=b10.set 11 (.int .i64 c.width)
 simp only [List.setIfInBounds_toArray,List.set_cons_zero,List.set_cons_succ] at b11
 clear b10
 have b12:=b11.set 12 (.int .i64 c.top)
 simp only [List.setIfInBounds_toArray,List.set_cons_zero,List.set_cons_succ] at b12
 clear b11
 have b13:=b12.set 13 (.int .i64 c.key)
 simp only [List.setIfInBounds_toArray,List.set_cons_zero,List.set_cons_succ] at b13
 clear b12
 have b14:=b13.set 14 (.slice C n k)
 simp only [List.setIfInBounds_toArray,List.set_cons_zero,List.set_cons_succ] at b14
 clear b13
 have b15:=b14.set 15 (.slice T 16 j)
 simp only [List.setIfInBounds_toArray,List.set_cons_zero,List.set_cons_succ] at b15
 clear b14
 have b16:=b15.set 16 (.int .u64 c.seed)
 simp only [List.setIfInBounds_toArray,List.set_cons_zero,List.set_cons_succ] at b16
 clear b15
 refine⟨rfl,b16,?_⟩
 exact(Keeps.setCell (S:=(· =R)) (p:=⟨R,16,none⟩) (Keeps.setCell (S:=(· =R)) (p:=⟨R,15,none⟩) (Keeps.setCell (S:=(· =R)) (p:=⟨R,14,none⟩) (Keeps.setCell (S:=(· =R)) (p:=⟨R,13,none⟩) (Keeps.setCell (S:=(· =R)) (p:=⟨R,12,none⟩) (Keeps.setCell (S:=(· =R)) (p:=⟨R,11,none⟩) (Keeps.setCell (S:=(· =R)) (p:=⟨R,10,none⟩) (Keeps.setCell (S:=(· =R)) (p:=⟨R,9,none⟩) (Keeps.setCell (S:=(· =R)) (p:=⟨R,8,none⟩) (Keeps.setCell (S:=(· =R)) (p:=⟨R,7,none⟩) (Keeps.setCell (S:=(· =R)) (p:=⟨R,6,none⟩) (Keeps.setCell (S:=(· =R)) (p:=⟨R,5,none⟩) (Keeps.setCell (S:=(· =R)) (p:=⟨R,4,none⟩) (Keeps.setCell (S:=(· =R)) (p:=⟨R,3,none⟩) (Keeps.setCell (S:=(· =R)) (p:=⟨R,2,none⟩) (Keeps.setCell (S:=(· =R)) (p:=⟨R,1,none⟩) (Keeps.setCell (S:=(· =R)) (p:=⟨R,0,none⟩) (Kz0 _ _) (.inl rfl) (.int .i64 c.length)) (.inl rfl) (.int .i64 c.lateness)) (.inl rfl) (.int .i64 c.windows)) (.inl rfl) (.int .i64 c.shards)) (.inl rfl) (.int .i64 c.spread)) (.inl rfl) (.int .i64 c.queue)) (.inl rfl) (.int .i64 c.mode)) (.inl rfl) (.int .i64 c.slots)) (.inl rfl) (.int .i64 c.exact_)) (.inl rfl) (.int .u64 c.promote)) (.inl rfl) (.int .i64 c.depth)) (.inl rfl) (.int .i64 c.width)) (.inl rfl) (.int .i64 c.top)) (.inl rfl) (.int .i64 c.key)) (.inl rfl) (.slice C n k)) (.inl rfl) (.slice T 16 j)) (.inl rfl) (.int .u64 c.seed))
end Go.Proofs.YtjamiaamngalgaaGreat
