/- What runs of the program's functions compute, on a heap of the run's own, and that the machine does what such a run says: the conditions stand in each theorem. -/
import Derived.Test.YtnjjnnfpnjjccaaGreatDoorProg
import Derived.Shelf.Strings.Builder1
import Derived.Shelf.Strings.Builder2
import Derived.Shelf.Small.Utf8
import Derived.Shelf.Small.Strs
import Derived.Shelf.Strings.Search1
import Derived.Shelf.Strings.Search2
import Derived.Shelf.Strings.Search3
import Derived.Shelf.Strings.Count
import Derived.Shelf.LaysM
import Derived.Shelf.Strings.Shaped
import Derived.Shelf.Strings.Split
import Derived.Shelf.Strings.Replace
import Derived.Shelf.Strings.SplitShaped
import Derived.Shelf.Strings.Runes
import Derived.Shelf.Strings.AsciiSet
import Derived.Shelf.Unicode.DecodeSlow
import Derived.Test.YtnjjnnfpnjjccaaGreatDoorTkM3
set_option linter.unusedSimpArgs false
set_option linter.unusedVariables false
namespace Go.Proofs
open Go.Shelf
def Tryz.lays106_ren : Go.Shelf.Ren := ⟨fun | 106 => 86 | 213 => 112 | 265 => 146 | n => n, fun | 9 => 9 | 3 => 3 | n => n, fun | n => n⟩
theorem Tryz.lays106 : Go.Proofs.Lays.n106 Tryz.prog Tryz.lays106_ren := {
 mixed := by kernel_rfl
 f106 := Tryz.func86.trans (congrArg some (by kernel_rfl))
 f213 := Tryz.func112.trans (congrArg some (by kernel_rfl))
 f265 := Tryz.func146.trans (congrArg some (by kernel_rfl))
 t3 := Tryz.underlying3
 a3 := Tryz.isAgg3
 z3 := Tryz.sizeOf3
 v3 := Tryz.zeroValue3
 t9 := Tryz.underlying9
 a9 := Tryz.isAgg9
 z9 := Tryz.sizeOf9
 v9 := Tryz.zeroValue9 }
open Go.RowKit in
theorem Tryz.strings_Compare (a b : ByteArray) (w : World) :
  Calls Tryz.prog 86 #[.string a, .string b] w fun e w' => e = .returned (.int .i64 (Lib.compareBytes a.data.toList b.data.toList)) /\ w' = w := Any.strings_Compare Tryz.lays106 a b w
def Tryz.lays146_ren : Go.Shelf.Ren := ⟨fun | 146 => 55 | 221 => 90 | 268 => 124 | 138 => 125 | 143 => 126 | 195 => 152 | 197 => 132 | 218 => 153 | 219 => 154 | 260 => 160 | 217 => 167 | 225 => 168 | 224 => 169 | 267 => 170 | 266 => 177 | 314 => 178 | n => n, fun | 9 => 9 | 31 => 29 | 3 => 3 | 4 => 4 | 0 => 0 | 105 => 166 | 21 => 21 | 5 => 5 | 46 => 114 | 119 => 195 | 139 => 198 | 138 => 197 | 146 => 201 | 51 => 151 | n => n, fun | 1 => 0 | 3 => 1 | 4 => 2 | n => n⟩
theorem Tryz.lays146 : Go.Proofs.Lays.n146 Tryz.prog Tryz.lays146_ren := {
 mixed := by kernel_rfl
 f138 := Tryz.func125.trans (congrArg some (by kernel_rfl))
 f143 := Tryz.func126.trans (congrArg some (by kernel_rfl))
 f146 := Tryz.func55.trans (congrArg some (by kernel_rfl))
 f195 := Tryz.func152.trans (congrArg some (by kernel_rfl))
 f197 := Tryz.func132.trans (congrArg some (by kernel_rfl))
 f217 := Tryz.func167.trans (congrArg some (by kernel_rfl))
 f218 := Tryz.func153.trans (congrArg some (by kernel_rfl))
 f219 := Tryz.func154.trans (congrArg some (by kernel_rfl))
 f221 := Tryz.func90.trans (congrArg some (by kernel_rfl))
 f224 := Tryz.func169.trans (congrArg some (by kernel_rfl))
 f225 := Tryz.func168.trans (congrArg some (by kernel_rfl))
 f260 := Tryz.func160.trans (congrArg some (by kernel_rfl))
 f266 := Tryz.func177.trans (congrArg some (by kernel_rfl))
 f267 := Tryz.func170.trans (congrArg some (by kernel_rfl))
 f268 := Tryz.func124.trans (congrArg some (by kernel_rfl))
 f314 := Tryz.func178.trans (congrArg some (by kernel_rfl))
 t0 := Tryz.underlying0
 a0 := Tryz.isAgg0
 z0 := Tryz.sizeOf0
 v0 := Tryz.zeroValue0
 t3 := Tryz.underlying3
 a3 := Tryz.isAgg3
 z3 := Tryz.sizeOf3
 v3 := Tryz.zeroValue3
 t4 := Tryz.underlying4
 a4 := Tryz.isAgg4
 z4 := Tryz.sizeOf4
 v4 := Tryz.zeroValue4
 t5 := Tryz.underlying5
 a5 := Tryz.isAgg5
 z5 := Tryz.sizeOf5
 v5 := Tryz.zeroValue5
 t9 := Tryz.underlying9
 a9 := Tryz.isAgg9
 z9 := Tryz.sizeOf9
 v9 := Tryz.zeroValue9
 t21 := Tryz.underlying21
 a21 := Tryz.isAgg21
 z21 := Tryz.sizeOf21
 v21 := Tryz.zeroValue21
 t31 := Tryz.underlying29
 a31 := Tryz.isAgg29
 z31 := Tryz.sizeOf29
 v31 := Tryz.zeroValue29
 t46 := Tryz.underlying114
 a46 := Tryz.isAgg114
 z46 := Tryz.sizeOf114
 v46 := Tryz.zeroValue114
 t51 := Tryz.underlying151
 a51 := Tryz.isAgg151
 z51 := Tryz.sizeOf151
 v51 := Tryz.zeroValue151
 t105 := Tryz.underlying166
 a105 := Tryz.isAgg166
 z105 := Tryz.sizeOf166
 v105 := Tryz.zeroValue166
 t119 := Tryz.underlying195
 a119 := Tryz.isAgg195
 z119 := Tryz.sizeOf195
 t138 := Tryz.underlying197
 a138 := Tryz.isAgg197
 z138 := Tryz.sizeOf197
 v138 := Tryz.zeroValue197
 t139 := Tryz.underlying198
 a139 := Tryz.isAgg198
 z139 := Tryz.sizeOf198
 v139 := Tryz.zeroValue198
 t146 := Tryz.underlying201
 a146 := Tryz.isAgg201
 z146 := Tryz.sizeOf201
 v146 := Tryz.zeroValue201
 g1 := by kernel_rfl
 g3 := by kernel_rfl
 g4 := by kernel_rfl }
open Go.RowKit Go.Lib in
theorem Tryz.strings_Split (s sep : ByteArray) (m : Int) (w : World) (hs : s.size < 4294967281) (hm : w.cell? ⟨0, 0, none⟩ = some (.int .i64 m)) (h1 : 1 <= sep.size) :
  Calls Tryz.prog 55 #[.string s, .string sep] w fun e w' =>
   e = .returned (.slice (some ⟨w.heap.size, 0, none⟩) (Lib.countB s sep + 1) (Lib.countB s sep + 1)) /\ w' = w.alloc (.cells ((Lib.splitB sep 0 (Lib.countB s sep) s).map Value.string).toArray 9) := Any.strings_Split Tryz.lays146 (by kernel_rfl) s sep m w hs hm h1
def Tryz.lays155_ren : Go.Shelf.Ren := ⟨fun | 155 => 68 | 154 => 102 | 138 => 125 | 165 => 130 | 143 => 126 | 166 => 131 | 197 => 132 | 169 => 133 | 195 => 152 | 218 => 153 | 240 => 158 | 241 => 159 | 219 => 154 | 260 => 160 | 276 => 172 | 277 => 173 | 217 => 167 | 225 => 168 | 224 => 169 | 267 => 170 | 266 => 177 | 314 => 178 | n => n, fun | 9 => 9 | 3 => 3 | 4 => 4 | 72 => 160 | 0 => 0 | 76 => 164 | 105 => 166 | 21 => 21 | 5 => 5 | 70 => 158 | 20 => 20 | 37 => 34 | 75 => 163 | 127 => 185 | 164 => 192 | 46 => 114 | 119 => 195 | 139 => 198 | 138 => 197 | 146 => 201 | 51 => 151 | 80 => 168 | n => n, fun | 1 => 0 | 3 => 1 | 4 => 2 | n => n⟩
theorem Tryz.lays155 : Go.Proofs.Lays.n155 Tryz.prog Tryz.lays155_ren := {
 mixed := by kernel_rfl
 f138 := Tryz.func125.trans (congrArg some (by kernel_rfl))
 f143 := Tryz.func126.trans (congrArg some (by kernel_rfl))
 f154 := Tryz.func102.trans (congrArg some (by kernel_rfl))
 f155 := Tryz.func68.trans (congrArg some (by kernel_rfl))
 f165 := Tryz.func130.trans (congrArg some (by kernel_rfl))
 f166 := Tryz.func131.trans (congrArg some (by kernel_rfl))
 f169 := Tryz.func133.trans (congrArg some (by kernel_rfl))
 f195 := Tryz.func152.trans (congrArg some (by kernel_rfl))
 f197 := Tryz.func132.trans (congrArg some (by kernel_rfl))
 f217 := Tryz.func167.trans (congrArg some (by kernel_rfl))
 f218 := Tryz.func153.trans (congrArg some (by kernel_rfl))
 f219 := Tryz.func154.trans (congrArg some (by kernel_rfl))
 f224 := Tryz.func169.trans (congrArg some (by kernel_rfl))
 f225 := Tryz.func168.trans (congrArg some (by kernel_rfl))
 f240 := Tryz.func158.trans (congrArg some (by kernel_rfl))
 f241 := Tryz.func159.trans (congrArg some (by kernel_rfl))
 f260 := Tryz.func160.trans (congrArg some (by kernel_rfl))
 f266 := Tryz.func177.trans (congrArg some (by kernel_rfl))
 f267 := Tryz.func170.trans (congrArg some (by kernel_rfl))
 f276 := Tryz.func172.trans (congrArg some (by kernel_rfl))
 f277 := Tryz.func173.trans (congrArg some (by kernel_rfl))
 f314 := Tryz.func178.trans (congrArg some (by kernel_rfl))
 t0 := Tryz.underlying0
 a0 := Tryz.isAgg0
 z0 := Tryz.sizeOf0
 v0 := Tryz.zeroValue0
 t3 := Tryz.underlying3
 a3 := Tryz.isAgg3
 z3 := Tryz.sizeOf3
 v3 := Tryz.zeroValue3
 t4 := Tryz.underlying4
 a4 := Tryz.isAgg4
 z4 := Tryz.sizeOf4
 v4 := Tryz.zeroValue4
 t5 := Tryz.underlying5
 a5 := Tryz.isAgg5
 z5 := Tryz.sizeOf5
 v5 := Tryz.zeroValue5
 t9 := Tryz.underlying9
 a9 := Tryz.isAgg9
 z9 := Tryz.sizeOf9
 v9 := Tryz.zeroValue9
 t20 := Tryz.underlying20
 a20 := Tryz.isAgg20
 z20 := Tryz.sizeOf20
 v20 := Tryz.zeroValue20
 t21 := Tryz.underlying21
 a21 := Tryz.isAgg21
 z21 := Tryz.sizeOf21
 v21 := Tryz.zeroValue21
 t37 := Tryz.underlying34
 a37 := Tryz.isAgg34
 z37 := Tryz.sizeOf34
 v37 := Tryz.zeroValue34
 t46 := Tryz.underlying114
 a46 := Tryz.isAgg114
 z46 := Tryz.sizeOf114
 v46 := Tryz.zeroValue114
 t51 := Tryz.underlying151
 a51 := Tryz.isAgg151
 z51 := Tryz.sizeOf151
 v51 := Tryz.zeroValue151
 t70 := Tryz.underlying158
 a70 := Tryz.isAgg158
 z70 := Tryz.sizeOf158
 v70 := Tryz.zeroValue158
 t72 := Tryz.underlying160
 a72 := Tryz.isAgg160
 z72 := Tryz.sizeOf160
 v72 := Tryz.zeroValue160
 t75 := Tryz.underlying163
 a75 := Tryz.isAgg163
 z75 := Tryz.sizeOf163
 v75 := Tryz.zeroValue163
 t76 := Tryz.underlying164
 a76 := Tryz.isAgg164
 z76 := Tryz.sizeOf164
 v76 := Tryz.zeroValue164
 t105 := Tryz.underlying166
 a105 := Tryz.isAgg166
 z105 := Tryz.sizeOf166
 v105 := Tryz.zeroValue166
 t119 := Tryz.underlying195
 a119 := Tryz.isAgg195
 z119 := Tryz.sizeOf195
 t127 := Tryz.underlying185
 a127 := Tryz.isAgg185
 z127 := Tryz.sizeOf185
 v127 := Tryz.zeroValue185
 t138 := Tryz.underlying197
 a138 := Tryz.isAgg197
 z138 := Tryz.sizeOf197
 v138 := Tryz.zeroValue197
 t139 := Tryz.underlying198
 a139 := Tryz.isAgg198
 z139 := Tryz.sizeOf198
 v139 := Tryz.zeroValue198
 t146 := Tryz.underlying201
 a146 := Tryz.isAgg201
 z146 := Tryz.sizeOf201
 v146 := Tryz.zeroValue201
 t164 := Tryz.underlying192
 a164 := Tryz.isAgg192
 z164 := Tryz.sizeOf192
 v164 := Tryz.zeroValue192
 g1 := by kernel_rfl
 g3 := by kernel_rfl
 g4 := by kernel_rfl }
theorem Tryz.Builder_Extra_155 : Builder.Extra Tryz.prog Tryz.lays155_ren := {
 sizeBuilder := by kernel_rfl
 liesBuilder := by kernel_rfl
 t5 := Tryz.underlying5
 a5 := Tryz.isAgg5
 z5 := Tryz.sizeOf5
 v5 := Tryz.zeroValue5
 infoByte := by kernel_rfl
 cellsByte := by kernel_rfl
 sizeByte := by kernel_rfl
 neB5 := by decide }
open Go.RowKit Go.Lib in
theorem Tryz.strings_ReplaceAll (s old new : ByteArray) (m : Int) (w : World) (hs : s.size < 4294967281) (hm : w.cell? ⟨0, 0, none⟩ = some (.int .i64 m)) (h1 : 1 <= old.size) (hlen : s.size + Lib.countB s old * new.size <= 140737488355328) :
  Calls Tryz.prog 68 #[.string s, .string old, .string new] w fun e w' =>
   e = .returned (.string ⟨(Lib.replaceAll s.data.toList old.data.toList new.data.toList).toArray⟩) /\ Below w.heap.size w w' := Any.strings_ReplaceAll Tryz.lays155 Tryz.Builder_Extra_155 s old new m w hs hm h1 hlen
end Go.Proofs
namespace Go.Proofs.YtnjjnnfpnjjccaaGreatDoor.D
open Go Go.Det
def gReplAll (args : List Value) (H : AH) : Option (Value × AH) :=
 match args with
 | [.string s, .string o, .string n] => match H.get 0 with
  | some blk => match blk.cells with
   | [.int .i64 _] => bif Nat.blt s.size 1000000 && Nat.ble 1 o.size && Nat.ble (s.size + Lib.countB s o * n.size) 140737488355328 then some (.string ⟨(Lib.replaceAll s.data.toList o.data.toList n.data.toList).toArray⟩, H) else none
   | _ => none
  | none => none
 | _ => none
theorem gReplAll_ok : ∀ args H v H', gReplAll args H = some (v, H') -> CallOk Tryz.prog 68 args H v H' := by
 intro args H v H' h
 unfold gReplAll at h
 split at h
 ·rename_i s o n
  split at h
  ·rename_i blk hb
   split at h
   ·rename_i m hc
    cases hk : (Nat.blt s.size 1000000 && Nat.ble 1 o.size && Nat.ble (s.size + Lib.countB s o * n.size) 140737488355328)
    ·rw [hk] at h; cases h
    ·rw [hk] at h
     simp only [cond_true, Option.some.injEq, Prod.mk.injEq] at h
     obtain ⟨rfl, rfl⟩ := h
     simp only [Bool.and_eq_true, Nat.ble_eq, Nat.blt_eq] at hk
     obtain ⟨⟨k1, k2⟩, k3⟩ := hk
     refine CallOk.of_below (fun a ha => by simp only [List.mem_cons, List.not_mem_nil, or_false] at ha; rcases ha with rfl | rfl | rfl <;> rfl) rfl fun base W0 mp w hr => ?_
     exact Tryz.strings_ReplaceAll s o n m w (by omega) (hr.gcell 0 (of_decide_eq_true (by kernel_rfl)) hb 0 .i64 m (by rw [hc]; rfl)) k2 k3
   ·cases h
  ·cases h
 ·cases h
def splits (s sep : ByteArray) : List Value := (Lib.splitB sep 0 (Lib.countB s sep) s).map Value.string
def gSplit (args : List Value) (H : AH) : Option (Value × AH) :=
 match args with
 | [.string s, .string sep] => match H.get 0 with
  | some blk => match blk.cells with
   | [.int .i64 _] => bif Nat.blt s.size 1000000 && Nat.ble 1 sep.size then some (.slice (some ⟨H.n, 0, none⟩) (splits s sep).length (splits s sep).length, H.push ⟨splits s sep, 1, false, false⟩) else none
   | _ => none
  | none => none
 | _ => none
theorem gSplit_ok : ∀ args H v H', gSplit args H = some (v, H') -> CallOk Tryz.prog 55 args H v H' := by
 intro args H v H' h
 unfold gSplit at h
 split at h
 ·rename_i s sep
  split at h
  ·rename_i blk hb
   split at h
   ·rename_i m hc
    cases hk : (Nat.blt s.size 1000000 && Nat.ble 1 sep.size)
    ·rw [hk] at h; cases h
    ·rw [hk] at h
     simp only [cond_true, Option.some.injEq, Prod.mk.injEq] at h
     obtain ⟨rfl, rfl⟩ := h
     simp only [Bool.and_eq_true, Nat.ble_eq, Nat.blt_eq] at hk
     obtain ⟨k1, k2⟩ := hk
     have hlen : (splits s sep).length = Lib.countB s sep + 1 := by
      unfold splits
      rw [List.length_map]
      exact Lib.splitB_all sep k2 0 _ s rfl
     refine CallOk.of_row (fun a ha => by simp only [List.mem_cons, List.not_mem_nil, or_false] at ha; rcases ha with rfl | rfl <;> rfl) (fun z hz => by obtain ⟨y, _, rfl⟩ := List.mem_map.1 hz; rfl) fun base W0 mp w hr => ?_
     refine (Tryz.strings_Split s sep m w (by omega) (hr.gcell 0 (of_decide_eq_true (by kernel_rfl)) hb 0 .i64 m (by rw [hc]; rfl)) k2).mono ?_
     rintro e w' ⟨rfl, rfl⟩
     exact ⟨w.heap.size, _, _, by rw [hlen], Nat.le_refl _, Array.getElem?_push_size, rfl, (Go.RowKit.Below.refl _ w).alloc (Nat.le_refl _) _⟩
   ·cases h
  ·cases h
 ·cases h
def gCompare (args : List Value) (H : AH) : Option (Value × AH) :=
 match args with
 | [.string a, .string b] => some (.int .i64 (Lib.compareBytes a.data.toList b.data.toList), H)
 | _ => none
theorem gCompare_ok : ∀ args H v H', gCompare args H = some (v, H') -> CallOk Tryz.prog 86 args H v H' := by
 intro args H v H' h
 unfold gCompare at h
 split at h
 ·rename_i a b
  simp only [Option.some.injEq, Prod.mk.injEq] at h
  obtain ⟨rfl, rfl⟩ := h
  refine CallOk.of_below (fun a ha => by simp only [List.mem_cons, List.not_mem_nil, or_false] at ha; rcases ha with rfl | rfl <;> rfl) rfl fun base W0 mp w hr => ?_
  refine (Tryz.strings_Compare a b w).mono ?_
  rintro e w' ⟨rfl, rfl⟩
  exact ⟨rfl, Go.RowKit.Below.refl _ _⟩
 ·cases h
end Go.Proofs.YtnjjnnfpnjjccaaGreatDoor.D
