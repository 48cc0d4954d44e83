/- A part of a run of a program on a heap of its own, and that the machine does what that run says: no condition but those that each theorem names. -/
import Derived.Test.YtbkmkelohlmblaaDet4
set_option linter.unusedSimpArgs false
set_option linter.unusedVariables false
namespace Go.Det

variable {P : Program} {G base : Nat} {W0 : World} {m : Mp} {H : AH} {w : World} {fr : Fr} {a : Act} {o : Oper}

theorem ok_mov {x : Operand} (hop : o.op = .move x ∨ o.op = .assign x) (hr : HRel G base W0 m H w) (hf : FrRel m fr a.tmps) (ho : okOpnd G x = true) {v : Value} (hx : ev fr x = some v) :
    OpOk P G base W0 o a w m H v H :=
  .same hr (v' := a.eval x) (by rcases hop with h | h <;> simp [execOp, h]) (ev_sound hr hf ho hx)

theorem ok_pick {c x y : Operand} (hop : o.op = .pick c x y) (hr : HRel G base W0 m H w) (hf : FrRel m fr a.tmps) (hoc : okOpnd G c = true) (hox : okOpnd G x = true) (hoy : okOpnd G y = true)
    {v : Value} {b : Bool} (hc : ev fr c = some (.bool b)) (hx : ev fr (if b then x else y) = some v) : OpOk P G base W0 o a w m H v H := by
  have h2 : a.eval c = .bool b := (flatD_eq 4 _ _ rfl (ev_sound hr hf hoc hc)).symm
  cases b
  · exact .same hr (v' := a.eval y) (by simp [execOp, hop, h2, asBool]) (ev_sound hr hf hoy hx)
  · exact .same hr (v' := a.eval x) (by simp [execOp, hop, h2, asBool]) (ev_sound hr hf hox hx)

theorem push_ptr (m : Mp) (w : World) (n s k z : Nat) (opn ro : Bool) :
    VRel (m.set n ⟨w.heap.size, 0, s, k, z, opn, ro⟩) (.pointer (some ⟨n, 0, none⟩)) (.pointer (some ⟨w.heap.size, 0, none⟩)) := by
  have := VRel.ptr (m := m.set n ⟨w.heap.size, 0, s, k, z, opn, ro⟩) n 0 ⟨w.heap.size, 0, s, k, z, opn, ro⟩ (by simp [Mp.set])
  simpa using this

theorem push_sl (m : Mp) (w : World) (n s k z l c c' : Nat) (opn ro : Bool) (hl : l ≤ c) (hc : c ≤ c') (hex : opn = false ∨ c * z < k → c' = c) (hnx : opn = true → c' * z = s) (hs : c' * z ≤ s) :
    VRel (m.set n ⟨w.heap.size, 0, s, k, z, opn, ro⟩) (.slice (some ⟨n, 0, none⟩) l c) (.slice (some ⟨w.heap.size, 0, none⟩) l c') := by
  have hno : ∀ c, ¬ Ent.exact ⟨w.heap.size, 0, s, k, z, opn, ro⟩ 0 c → opn = true := by
    intro c h
    cases opn
    · exact absurd (Or.inl rfl) h
    · rfl
  rcases Nat.eq_zero_or_pos c with h0 | h0
  · subst h0
    obtain rfl : l = 0 := by omega
    exact .sl0 n 0 c' _ ⟨w.heap.size, 0, s, k, z, opn, ro⟩ (by simp [Mp.set]) (fun h => hex (by simpa [Ent.exact] using h)) (fun h => by simpa using hnx (hno 0 h)) (fun _ => rfl)
  · have := VRel.sl (m := m.set n ⟨w.heap.size, 0, s, k, z, opn, ro⟩) n 0 l c c' ⟨w.heap.size, 0, s, k, z, opn, ro⟩ (by simp [Mp.set]) h0 hl hc
      (fun h => hex (by simpa [Ent.exact] using h)) (fun h => by simpa using hnx (hno c h)) (by simpa using hs)
    simpa using this

theorem nofz (n : Nat) : Thaw (0, 0) n := ⟨Nat.le_refl _, fun o _ => by simp⟩

theorem flat_lrel (m : Mp) (zs : List Value) (h : ∀ z ∈ zs, flatD 4 z = true) : LRel m zs zs :=
  ⟨rfl, fun i x hi => ⟨x, hi, flatD_refl m 4 x (h x (List.mem_of_getElem? hi))⟩⟩

theorem HRel.pushL (h : HRel G base W0 m H w) (cs : List Value) (c : Array Value) (t : TypeId) (sz : Nat) (opn ro : Bool) (hsz : 0 < sz) (rest : List Value)
    (hc : ∃ cs', LRel m cs cs' ∧ c.toList = cs' ++ rest) :
    HRel G base W0 (m.set H.n ⟨w.heap.size, 0, c.size, cs.length, sz, opn, ro⟩) (H.push ⟨cs, sz, opn, ro⟩) { w with heap := w.heap.push (.cells c t (0, 0)) } ∧
    Fut m H w (m.set H.n ⟨w.heap.size, 0, c.size, cs.length, sz, opn, ro⟩) (H.push ⟨cs, sz, opn, ro⟩) { w with heap := w.heap.push (.cells c t (0, 0)) } := by
  obtain ⟨cs', h1, h2⟩ := hc
  have hlen : c.size = cs'.length + rest.length := by rw [← Array.length_toList, h2, List.length_append]
  refine h.push cs c t (0, 0) sz opn ro hsz (by rw [h1.1]; omega) (fun i v hi => ?_) (nofz _)
  obtain ⟨v', a, b⟩ := h1.2 i v hi
  refine ⟨v', ?_, b⟩
  rw [← Array.getElem?_toList, h2, List.getElem?_append_left (List.getElem?_eq_some_iff.1 a).1]
  exact a

theorem ok_new {t : TypeId} {zs : List Value} (sz : Nat) (hsz : 0 < sz) (hop : o.op = .alloc t) (hz : zeroAt P t = some zs) (hr : HRel G base W0 m H w) :
    OpOk P G base W0 o a w m H (.pointer (some ⟨H.n, 0, none⟩)) (H.push ⟨zs, sz, false, false⟩) := by
  obtain ⟨⟨z, h1, h2⟩, h3⟩ := run_zero' hz w
  obtain ⟨hR, hF⟩ := hr.pushL zs z.cells t sz false false hsz [] ⟨zs, flat_lrel m zs h3, by simp [h2]⟩
  refine ⟨_, .pointer (some ⟨w.heap.size, 0, none⟩), _, .inl ?_, hR, hF, push_ptr m w _ _ _ _ _ _⟩
  simp [execOp, hop, Instr.alloc, h1, newVar, newRow]

theorem ok_box {t : TypeId} {x : Operand} (sz : Nat) (hsz : 0 < sz) (hop : o.op = .box t x) (hr : HRel G base W0 m H w) (hf : FrRel m fr a.tmps) (ho : okOpnd G x = true) {v : Value} (hx : ev fr x = some v) :
    OpOk P G base W0 o a w m H (.pointer (some ⟨H.n, 0, none⟩)) (H.push ⟨vcells v, sz, false, false⟩) := by
  have hv := ev_sound hr hf ho hx
  obtain ⟨hR, hF⟩ := hr.pushL (vcells v) (a.eval x).cells t sz false false hsz [] ⟨_, (vcells_rel hv).1, by simp⟩
  refine ⟨_, .pointer (some ⟨w.heap.size, 0, none⟩), _, .inl ?_, hR, hF, push_ptr m w _ _ _ _ _ _⟩
  simp [execOp, hop, Instr.box, newVar, newRow]

theorem ok_ld {t : TypeId} {n : Option Nat} {x : Operand} (hop : o.op = .load t x) (hn : aggSize P t = some n) (hr : HRel G base W0 m H w) (hf : FrRel m fr a.tmps) (ho : okOpnd G x = true)
    {B off : Nat} {blk : Blk} {v : Value} (hx : ev fr x = some (.pointer (some ⟨B, off, none⟩))) (hb : H.get B = some blk) (hp : partV blk.cells off n = some v) :
    OpOk P G base W0 o a w m H v H := by
  obtain ⟨e, he, hk, hev⟩ := VRel.live_ptr hr hb (ev_sound hr hf ho hx)
  obtain ⟨ha, hs⟩ := run_isAgg hn w
  cases n with
  | none =>
    obtain ⟨v', h1, h2⟩ := hr.cell hb hp he
    refine .same hr (v' := v') ?_ h2
    simp [execOp, hop, Instr.loadAt, Instr.sureAddr, hev, loadVar, ha, h1]
  | some k =>
    simp only [partV] at hp
    cases hle : Nat.ble (off + k) blk.cells.length
    · simp [hle] at hp
    · simp only [hle, cond_true, Option.some.injEq] at hp
      obtain ⟨cs, h1, h2⟩ := run_loadCells_rel (P := P) hr hb he off k (by simpa using hle)
      subst hp
      refine .same hr (v' := .agg cs.toArray) ?_ h2.to_agg
      simp [execOp, hop, Instr.loadAt, Instr.sureAddr, hev, loadVar, ha, hs k rfl, h1]

theorem ok_st {t : TypeId} {n : Nat} {x y : Operand} (hop : o.op = .store t x y) (hn : sizeAt P t = some n) (hr : HRel G base W0 m H w) (hf : FrRel m fr a.tmps)
    (ho : okOpnd G x = true) (hoy : okOpnd G y = true) {B off : Nat} {blk : Blk} {v : Value} (hx : ev fr x = some (.pointer (some ⟨B, off, none⟩))) (hy : ev fr y = some v)
    (hb : H.get B = some blk) (hl : (vcells v).length = n) (hone : (vcells v).all one = true) (hro : blk.ro = false) (hlen : off + n ≤ blk.cells.length) :
    OpOk P G base W0 o a w m H undef (H.set B { blk with cells := splice blk.cells off (vcells v) }) := by
  obtain ⟨e, he, hk, hev⟩ := VRel.live_ptr hr hb (ev_sound hr hf ho hx)
  obtain ⟨hv1, hv2⟩ := vcells_rel (ev_sound hr hf hoy hy)
  obtain ⟨w', h1, h2, h3, h4⟩ := run_storeCells_rel (P := P) (a.eval y).cells.toList (vcells v) 0 off B blk e H w hr hb he hro hv1 (hv2 hone) (by simpa [hl] using hlen)
  refine ⟨m, undef, w', .inr ⟨?_, rfl⟩, by simpa using h2, Fut.of_store hb he (by rw [hk.ro]; exact hro) h3 h4, vrel_undef m⟩
  have hsize : (a.eval y).cells.size = n := by rw [← Array.length_toList, ← hv1.1, hl]
  simp [execOp, hop, Instr.storeAt, Instr.sureAddr, hev, storeVar, run_sizeOf' hn, hsize, h1]

theorem ok_nilck {x : Operand} (hop : o.op = .nilCheck x) (hr : HRel G base W0 m H w) (hf : FrRel m fr a.tmps) (ho : okOpnd G x = true) {v : Value} (hx : ev fr x = some v)
    (hv : (∃ p, v = .pointer (some p)) ∨ ∃ f xs ys, v = .func (.func f) xs ys) : OpOk P G base W0 o a w m H v H := by
  have h := ev_sound hr hf ho hx
  refine .same hr (v' := a.eval x) ?_ h
  rcases hv with ⟨p, rfl⟩ | ⟨f, xs, ys, rfl⟩
  · generalize hq : a.eval x = y at h
    cases h <;> simp [execOp, hop, hq]
  · generalize hq : a.eval x = y at h
    cases h; simp [execOp, hop, hq]

theorem ibin_run {op : BinOp} {k : IntKind} {x y : Int} {v : Value} (t : TypeId) (h : ibin op k x y = some v) (w : World) : (binOp op t (.int k x) (.int k y)).run P w = .ok v w ∧ flatD 4 v = true := by
  cases op <;> simp only [ibin] at h
  case quo => split at h
              · simp at h
              · rename_i hy; cases h; exact ⟨by simp [binOp, Op.intDiv, hy], rfl⟩
  case rem => split at h
              · simp at h
              · rename_i hy; cases h; exact ⟨by simp [binOp, Op.intDiv, hy], rfl⟩
  all_goals first
    | (cases h; exact ⟨by simp [binOp, Op.intArith, Op.intBits, Op.intCmp], rfl⟩)
    | simp at h

theorem sbin_run {op : BinOp} {x y : ByteArray} {v : Value} (t : TypeId) (h : sbin op x y = some v) (w : World) : (binOp op t (.string x) (.string y)).run P w = .ok v w ∧ flatD 4 v = true := by
  cases op <;> simp only [sbin] at h
  case add => split at h
              · simp at h
              · rename_i hy; cases h; exact ⟨by simp only [binOp, Op.stringOp, hy, if_false]; rfl, rfl⟩
  all_goals first
    | (cases h; exact ⟨by simp [binOp, Op.stringOp], rfl⟩)
    | simp at h

theorem xbin_inv {op : BinOp} {a b v : Value} (h : xbin op a b = some v) :
    (∃ k x y, a = .int k x ∧ b = .int k y ∧ ibin op k x y = some v) ∨ (∃ x y, a = .string x ∧ b = .string y ∧ sbin op x y = some v) ∨
    (∃ k x k' y, a = .int k x ∧ b = .int k' y ∧ ¬ y < 0 ∧ ((op = .shl ∧ v = .int k (k.wrap (x * 2 ^ (min y.toNat k.bits)))) ∨ (op = .shr ∧ v = .int k (x.fdiv (2 ^ (min y.toNat k.bits)))))) := by
  cases a <;> cases b <;> simp only [xbin] at h <;> try (simp at h; done)
  case int.int k x k' y =>
    cases op <;> simp only [] at h
    case shl => split at h
                · simp at h
                · rename_i hy; cases h; exact .inr (.inr ⟨k, x, k', y, rfl, rfl, hy, .inl ⟨rfl, rfl⟩⟩)
    case shr => split at h
                · simp at h
                · rename_i hy; cases h; exact .inr (.inr ⟨k, x, k', y, rfl, rfl, hy, .inr ⟨rfl, rfl⟩⟩)
    all_goals
      split at h
      · rename_i hk; subst hk; exact .inl ⟨_, _, _, rfl, rfl, h⟩
      · simp at h
  case string.string x y => exact .inr (.inl ⟨x, y, rfl, rfl, h⟩)

theorem xbin_run {op : BinOp} {a b v : Value} (t : TypeId) (h : xbin op a b = some v) (w : World) : (binOp op t a b).run P w = .ok v w := by
  rcases xbin_inv h with ⟨k, x, y, rfl, rfl, h'⟩ | ⟨x, y, rfl, rfl, h'⟩ | ⟨k, x, k', y, rfl, rfl, hy, ⟨rfl, rfl⟩ | ⟨rfl, rfl⟩⟩
  · exact (ibin_run t h' w).1
  · exact (sbin_run t h' w).1
  · simp [binOp, Op.shift, hy]
  · simp [binOp, Op.shift, hy]

theorem xbin_flat {op : BinOp} {a b v : Value} (h : xbin op a b = some v) : flatD 4 a = true ∧ flatD 4 b = true ∧ flatD 4 v = true := by
  rcases xbin_inv h with ⟨k, x, y, rfl, rfl, h'⟩ | ⟨x, y, rfl, rfl, h'⟩ | ⟨k, x, k', y, rfl, rfl, hy, ⟨rfl, rfl⟩ | ⟨rfl, rfl⟩⟩
  · exact ⟨rfl, rfl, (ibin_run (P := default) 0 h' default).2⟩
  · exact ⟨rfl, rfl, (sbin_run (P := default) 0 h' default).2⟩
  · exact ⟨rfl, rfl, rfl⟩
  · exact ⟨rfl, rfl, rfl⟩

theorem ok_bin {op : BinOp} {t u : TypeId} {x y : Operand} (hop : o.op = .binOp op t x y u) (hr : HRel G base W0 m H w) (hf : FrRel m fr a.tmps) (hox : okOpnd G x = true) (hoy : okOpnd G y = true)
    {p q v : Value} (hx : ev fr x = some p) (hy : ev fr y = some q) (hb : xbin op p q = some v) : OpOk P G base W0 o a w m H v H := by
  obtain ⟨f1, f2, f3⟩ := xbin_flat hb
  have e1 := flatD_eq 4 _ _ f1 (ev_sound hr hf hox hx)
  have e2 := flatD_eq 4 _ _ f2 (ev_sound hr hf hoy hy)
  refine .same hr (v' := v) ?_ (flatD_refl m 4 v f3)
  have hg : (eqGuard op t x y p q).run P w = .ok () w := by
    unfold eqGuard
    rcases xbin_inv hb with ⟨k, x, y, rfl, rfl, h⟩ | ⟨x, y, rfl, rfl, h⟩ | ⟨k, x, k', y, rfl, rfl, hy, ⟨rfl, rfl⟩ | ⟨rfl, rfl⟩⟩ <;> first | rfl | (cases op <;> rfl)
  simp [execOp, hop, ← e1, ← e2, hg, xbin_run t hb]

theorem ok_conv {s d : TypeId} {x : Operand} {j k : IntKind} (hop : o.op = .convert s d x) (hs : P.underlying s = some (.int j)) (hd : P.underlying d = some (.int k))
    (hr : HRel G base W0 m H w) (hf : FrRel m fr a.tmps) (ho : okOpnd G x = true) {i : IntKind} {n : Int} (hx : ev fr x = some (.int i n)) :
    OpOk P G base W0 o a w m H (.int k (k.wrap n)) H := by
  have e1 := flatD_eq 4 _ _ rfl (ev_sound hr hf ho hx)
  refine .same hr (v' := .int k (k.wrap n)) ?_ (.int _ _)
  simp [execOp, hop, ← e1, convert, underlying, hs, hd, Conv.intToInt]

theorem ok_fldA {t : TypeId} {x : Operand} {i n : Nat} {fs : Array Field} {f : Field} (hop : o.op = .fieldAddr t x i) (hu : P.underlying t = some (.struct fs)) (hfi : fs[i]? = some f)
    (hn : sizeAt P f.type = some (n + 1)) (hr : HRel G base W0 m H w) (hf : FrRel m fr a.tmps) (ho : okOpnd G x = true) {B off : Nat} (hx : ev fr x = some (.pointer (some ⟨B, off, none⟩))) :
    OpOk P G base W0 o a w m H (.pointer (some ⟨B, off + f.offset, none⟩)) H := by
  have h := ev_sound hr hf ho hx
  generalize hq : a.eval x = y at h
  cases h with
  | ptr _ _ e he =>
    refine .same hr (v' := .pointer (some ⟨e.b, e.base + off + f.offset, none⟩)) ?_ (by rw [Nat.add_assoc]; exact .ptr _ _ e he)
    simp [execOp, hop, Instr.fieldAt, underlying, hu, hfi, hq, Instr.sureAddr, fieldPlace, run_sizeOf' hn, addr_add]

theorem natlt {k l : Nat} (h : Nat.blt k l = true) : k < l := by
  have : k + 1 ≤ l := by simpa [Nat.blt] using h
  omega

theorem ok_idxA {t e : TypeId} {sz : Nat} {x y : Operand} (hop : o.op = .indexAddr t x y) (hu : P.underlying t = some (.slice e)) (hs : sizeAt P e = some sz)
    (hr : HRel G base W0 m H w) (hf : FrRel m fr a.tmps) (hox : okOpnd G x = true) (hoy : okOpnd G y = true) {B off l c k : Nat} {ik : IntKind}
    (hx : ev fr x = some (.slice (some ⟨B, off, none⟩) l c)) (hy : ev fr y = some (.int ik (.ofNat k))) (hk : k < l) (hlc : l ≤ c) :
    OpOk P G base W0 o a w m H (.pointer (some ⟨B, off + k * sz, none⟩)) H := by
  have h := ev_sound hr hf hox hx
  have e2 := flatD_eq 4 _ _ rfl (ev_sound hr hf hoy hy)
  have h0 : (0 : Int) ≤ Int.ofNat k ∧ Int.ofNat k < (l : Int) := ⟨Int.natCast_nonneg k, by exact Int.ofNat_lt.2 hk⟩
  have h1 : (Int.ofNat k).toNat = k := rfl
  generalize hq : a.eval x = z at h
  cases h with
  | sl _ _ _ _ c' en he hc0 hl hc hex hnx hsz =>
    refine .same hr (v' := .pointer (some ⟨en.b, en.base + off + k * sz, none⟩)) ?_ (by rw [Nat.add_assoc]; exact .ptr _ _ en he)
    simp [execOp, hop, Instr.indexAt, underlying, hu, hq, ← e2, asIntOf, run_sizeOf' hs, addr_add, hk]
  | sl0 => omega

theorem ok_idxAA {t e : TypeId} {n sz : Nat} {x y : Operand} (hop : o.op = .indexAddr t x y) (hu : P.underlying t = some (.array n e)) (hs : sizeAt P e = some sz)
    (hr : HRel G base W0 m H w) (hf : FrRel m fr a.tmps) (hox : okOpnd G x = true) (hoy : okOpnd G y = true) {B off k : Nat} {ik : IntKind}
    (hx : ev fr x = some (.pointer (some ⟨B, off, none⟩))) (hy : ev fr y = some (.int ik (.ofNat k))) (hk : k < n) :
    OpOk P G base W0 o a w m H (.pointer (some ⟨B, off + k * sz, none⟩)) H := by
  have h := ev_sound hr hf hox hx
  have e2 := flatD_eq 4 _ _ rfl (ev_sound hr hf hoy hy)
  generalize hq : a.eval x = z at h
  cases h with
  | ptr _ _ en he =>
    refine .same hr (v' := .pointer (some ⟨en.b, en.base + off + k * sz, none⟩)) ?_ (by rw [Nat.add_assoc]; exact .ptr _ _ en he)
    simp [execOp, hop, Instr.indexAt, underlying, hu, hq, ← e2, asIntOf, run_sizeOf' hs, addr_add, hk, Instr.sureAddr]

end Go.Det
