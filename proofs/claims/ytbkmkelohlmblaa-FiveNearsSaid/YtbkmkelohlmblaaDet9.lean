/- A part of a run of a program on a heap of its own, and that the machine does what that run says: no condition but those that each theorem names. -/
import Derived.Test.YtbkmkelohlmblaaDet8
set_option linter.unusedSimpArgs false
set_option linter.unusedVariables false
namespace Go.Det

variable {P : Program} {G base : Nat} {W0 : World} {m : Mp} {H : AH} {w : World} {fr : Fr} {a : Act} {o : Oper}


/-- a fresh array: what an append that grows gives -/
theorem grow_core {e : TypeId} {i : TypeInfo} {cs cs' olds olds' : List Value} {p : Option Addr} {l c' n : Nat} {z : Array Value} (S : Value → Sem Value) (hzz : z.size = i.size)
    (hgrow : ∃ nc, l + n ≤ nc ∧ (S (.slice p l c')).run P w = .ok (.slice (some ⟨w.heap.size, 0, none⟩) (l + n) nc) { w with drawn := w.drawn + 1, heap := w.heap.push (.cells (olds'.toArray ++ cs'.toArray ++ Builtin.zeroCells z (nc - (l + n))) e (0, 0)) })
    (hc2 : LRel m cs cs') (hc3 : cs.length = n * i.size) (holdr : LRel m olds olds') (holdl : olds.length = l * i.size) (hs1 : 1 ≤ i.size) (H2 : AH) (hr2 : HRel G base W0 m H2 w.drew) (hF2 : Fut m H w m H2 w.drew) :
    ∃ m' v' w', (S (.slice p l c')).run P w = .ok v' w' ∧ HRel G base W0 m' (H2.push ⟨olds ++ cs, i.size, true, false⟩) w' ∧ Fut m H w m' (H2.push ⟨olds ++ cs, i.size, true, false⟩) w' ∧ VRel m' (.slice (some ⟨H2.n, 0, none⟩) (l + n) (l + n)) v' := by
  obtain ⟨nc, hnc, hrun⟩ := hgrow
  obtain ⟨hR, hF⟩ := hr2.pushL (olds ++ cs) (olds'.toArray ++ cs'.toArray ++ Builtin.zeroCells z (nc - (l + n))) e i.size true false (by omega) (Builtin.zeroCells z (nc - (l + n))).toList
    ⟨olds' ++ cs', (holdr.append hc2), by simp⟩
  refine ⟨_, _, _, hrun, hR, hF2.trans hF, ?_⟩
  have hlen : (olds ++ cs).length = (l + n) * i.size := by rw [List.length_append, holdl, hc3, Nat.add_mul]
  have hsize : nc * i.size = (olds'.toArray ++ cs'.toArray ++ Builtin.zeroCells z (nc - (l + n))).size := by
    simp only [Array.size_append, List.size_toArray, zeroCells_len, hzz]
    rw [← holdr.1, ← hc2.1, holdl, hc3, ← Nat.add_mul, ← Nat.add_mul]
    congr 1; omega
  refine push_sl m w.drew _ _ _ _ (l + n) (l + n) nc _ _ (Nat.le_refl _) hnc (fun h => ?_) (fun _ => hsize) (Nat.le_of_eq hsize)
  rcases h with h | h
  · simp at h
  · rw [hlen] at h; omega

/-- what an append gives -/
theorem app_core {e : TypeId} {x x' : Value} {i : TypeInfo} {cs cs' ds' : List Value} {n : Nat} {z : Array Value} (S : Value → Sem Value) (hzz : z.size = i.size)
    (hroomS : ∀ (p : Option Addr) (l c' : Nat) (w' : World), l + n ≤ c' → (∀ ad, p = some ad → (storeCells (ad.add (l * i.size)) cs').run P w = .ok () w') → (p = none → w' = w) → (S (.slice p l c')).run P w = .ok (.slice p (l + n) c') w')
    (hgrowS : ∀ (p : Option Addr) (l c' : Nat) (olds' : List Value), ¬ l + n ≤ c' → 1 ≤ i.bytes → (l + n) * i.bytes ≤ 140737488355328 → (Builtin.firstCells i.size l (.slice p l c')).run P w.drew = .ok olds'.toArray w.drew →
      ∃ nc, l + n ≤ nc ∧ (S (.slice p l c')).run P w = .ok (.slice (some ⟨w.heap.size, 0, none⟩) (l + n) nc) { w with drawn := w.drawn + 1, heap := w.heap.push (.cells (olds'.toArray ++ ds'.toArray ++ Builtin.zeroCells z (nc - (l + n))) e (0, 0)) })
    (hs1 : 1 ≤ i.size) (hr : HRel G base W0 m H w) (hx : VRel m x x') (hc2 : LRel m cs cs') (hd2 : LRel m cs ds') (hc3 : cs.length = n * i.size) (hone : cs.all one = true)
    {v : Value} {H' : AH} (hxa : xappC H i.size i.bytes n cs x = some (v, H')) :
    ∃ m' v' w', (S x').run P w = .ok v' w' ∧ HRel G base W0 m' H' w' ∧ Fut m H w m' H' w' ∧ VRel m' v v' := by
  have hone' := lrel_one hc2 hr hone
  unfold xappC at hxa
  split at hxa
  · -- nil
    obtain rfl := flatD_eq 4 _ _ rfl hx
    cases hn0 : Nat.beq n 0
    · simp only [hn0, cond_false] at hxa
      cases hcond : (Nat.ble (n * i.bytes) 140737488355328 && Nat.ble 1 i.bytes)
      · simp [hcond] at hxa
      · simp only [hcond, cond_true, Option.some.injEq, Prod.mk.injEq] at hxa
        obtain ⟨rfl, rfl⟩ := hxa
        simp only [Bool.and_eq_true, Nat.ble_eq] at hcond
        have hnn : ¬ n = 0 := fun h => by rw [h] at hn0; simp at hn0
        have := grow_core (P := P) (p := none) (l := 0) (c' := 0) (olds := []) (olds' := []) S hzz (hgrowS none 0 0 [] (by omega) hcond.2 (by simpa using hcond.1) (by simp [Builtin.firstCells])) hd2 hc3 .nil (by simp) hs1 H hr.drew (Fut.drew m H w)
        simpa using this
    · simp only [hn0, cond_true, Option.some.injEq, Prod.mk.injEq] at hxa
      obtain ⟨rfl, rfl⟩ := hxa
      obtain rfl : n = 0 := Nat.eq_of_beq_eq_true hn0
      refine ⟨m, .slice none 0 0, w, ?_, hr, .refl m H w, .nils⟩
      have := hroomS none 0 0 w (Nat.le_refl _) (fun ad h => by simp at h) (fun _ => rfl)
      simpa using this
  · rename_i B off l c
    cases hb : H.get B with
    | none => simp [hb] at hxa
    | some blk =>
    simp only [hb] at hxa
    cases hcond : (!(Nat.beq blk.sz i.size) || !(Nat.ble l c) || !(Nat.ble (off + c * i.size) blk.cells.length) || !(Nat.ble 1 i.size))
    case true => simp [hcond] at hxa
    simp only [hcond, cond_false] at hxa
    simp only [Bool.or_eq_false_iff, Bool.not_eq_false', Nat.ble_eq] at hcond
    obtain ⟨⟨⟨g1, g2⟩, g3⟩, g4⟩ := hcond
    have g1 : blk.sz = i.size := Nat.eq_of_beq_eq_true g1
    obtain ⟨en, hen, hk⟩ := hr.live B blk hb
    have hesz : en.sz = i.size := by rw [hk.sz, g1]
    obtain ⟨ad, c', rfl, hcc, hexact, hnex, haddr, hc0l⟩ : ∃ ad c', x' = .slice (some ad) l c' ∧ c ≤ c' ∧ (en.exact off c → c' = c) ∧ (¬ en.exact off c → en.base + off + c' * en.sz = en.size) ∧
        (c' ≠ 0 → ad = ⟨en.b, en.base + off, none⟩ ∧ (0 < c → en.base + off + c' * en.sz ≤ en.size)) ∧ (c = 0 → l = 0) := by
      cases hx with
      | sl _ _ _ _ c' e' he h0 h1 h2 h3 h4 h5 =>
        obtain rfl : e' = en := by rw [hen] at he; exact (Option.some.inj he).symm
        exact ⟨_, c', rfl, h2, h3, h4, fun _ => ⟨rfl, fun _ => h5⟩, fun hz => by omega⟩
      | sl0 _ _ c' ad e' he h1 h2 h3 =>
        obtain rfl : e' = en := by rw [hen] at he; exact (Option.some.inj he).symm
        exact ⟨_, c', rfl, Nat.zero_le _, h1, h2, fun hne => ⟨h3 hne, fun h0 => by omega⟩, fun _ => rfl⟩
    cases hn0 : Nat.beq n 0
    case true =>
      simp only [hn0, cond_true, Option.some.injEq, Prod.mk.injEq] at hxa
      obtain ⟨rfl, rfl⟩ := hxa
      obtain rfl : n = 0 := Nat.eq_of_beq_eq_true hn0
      have hcs0 : cs' = [] := by
        have := hc2.1; rw [hc3] at this; simpa using this.symm
      subst hcs0
      refine ⟨m, .slice (some ad) l c', w, ?_, hr, .refl m H w, hx⟩
      have := hroomS (some ad) l c' w (by omega) (fun ad h => by simp [storeCells]) (fun _ => rfl)
      simpa using this
    simp only [hn0, cond_false] at hxa
    have hnn : 0 < n := by
      rcases Nat.eq_zero_or_pos n with h | h
      · rw [h] at hn0; simp at hn0
      · exact h
    cases hin : Nat.ble (l + n) c
    case true =>
      simp only [hin, cond_true] at hxa
      have hin' : l + n ≤ c := by simpa using hin
      cases hro : blk.ro
      case true => simp [hro] at hxa
      simp only [hro, cond_false, Option.some.injEq, Prod.mk.injEq] at hxa
      obtain ⟨rfl, rfl⟩ := hxa
      obtain ⟨rfl, z2⟩ := haddr (by omega)
      have z2 := z2 (by omega)
      have hfit : off + l * i.size + 0 + cs.length ≤ blk.cells.length := by
        rw [hc3]
        have : l * i.size + n * i.size ≤ c * i.size := by rw [← Nat.add_mul]; exact Nat.mul_le_mul_right _ hin'
        omega
      obtain ⟨w', s1, s2, s3, s4⟩ := run_storeCells_rel (P := P) cs' cs 0 (off + l * i.size) B blk en H w hr hb hen hro hc2 hone' hfit
      refine ⟨m, .slice (some ⟨en.b, en.base + off, none⟩) (l + n) c', w', ?_, by simpa [hro] using s2, by simpa [hro] using Fut.of_store (cs := splice blk.cells (off + l * i.size) cs) hb hen (by rw [hk.ro]; exact hro) s3 s4, ?_⟩
      · have := hroomS (some ⟨en.b, en.base + off, none⟩) l c' w' (by omega) (fun ad h => by simp at h; subst h; rw [addr_add, Nat.add_assoc]; exact s1) (fun h => by simp at h)
        exact this
      · exact .sl B off (l + n) c c' en hen (by omega) hin' hcc hexact hnex z2
    simp only [hin, cond_false] at hxa
    have hin' : ¬ l + n ≤ c := by intro h; rw [← Nat.ble_eq, hin] at h; simp at h
    cases hsm : (Nat.ble ((l + n) * i.bytes) 140737488355328 && Nat.ble 1 i.bytes)
    case false => simp only [hsm, Bool.not_false, cond_true] at hxa; cases hxa
    simp only [hsm, Bool.not_true, cond_false] at hxa
    obtain ⟨hsm1, hsm2⟩ := Bool.and_eq_true_iff.1 hsm
    have hsm : (l + n) * i.bytes ≤ 140737488355328 ∧ 1 ≤ i.bytes := ⟨Nat.le_of_ble_eq_true hsm1, Nat.le_of_ble_eq_true hsm2⟩
    -- the old cells, when they are read
    have holdc : off + l * i.size ≤ blk.cells.length := by
      have : l * i.size ≤ c * i.size := Nat.mul_le_mul_right _ g2
      omega
    have holdl : ((blk.cells.drop off).take (l * i.size)).length = l * i.size := by rw [List.length_take, List.length_drop]; omega
    have hold : ∃ olds', (Builtin.firstCells i.size l (.slice (some ad) l c')).run P w.drew = .ok (List.toArray olds') w.drew ∧ LRel m ((blk.cells.drop off).take (l * i.size)) olds' := by
      rcases Nat.eq_zero_or_pos c with h0 | h0
      · obtain rfl := hc0l h0
        exact ⟨[], by simp [Builtin.firstCells, loadCells, loadCellsFrom], by simpa using LRel.nil⟩
      · obtain ⟨rfl, _⟩ := haddr (by omega)
        obtain ⟨o', q1, q2⟩ := run_loadCells_rel (P := P) hr.drew hb hen off (l * i.size) holdc
        exact ⟨o', by simp only [Builtin.firstCells]; exact q1, q2⟩
    obtain ⟨olds', q1, q2⟩ := hold
    cases hex : (!blk.opn || Nat.blt (off + c * i.size) blk.cells.length)
    case true =>
      simp only [hex, cond_true, Option.some.injEq, Prod.mk.injEq] at hxa
      obtain ⟨rfl, rfl⟩ := hxa
      have hce : c' = c := hexact (by
        simp only [Bool.or_eq_true, Bool.not_eq_true'] at hex
        rcases hex with h | h
        · left; rw [hk.opn, h]
        · right; rw [hesz, hk.kn]; exact natlt h)
      subst hce
      exact grow_core (P := P) S hzz (hgrowS _ _ _ _ hin' hsm.2 hsm.1 q1) hd2 hc3 q2 holdl hs1 H hr.drew (Fut.drew m H w)
    simp only [hex, cond_false] at hxa
    cases hro : blk.ro
    case true => simp [hro] at hxa
    simp only [hro, cond_false, Option.some.injEq, Prod.mk.injEq] at hxa
    obtain ⟨rfl, rfl⟩ := hxa
    have hero : en.ro = false := by rw [hk.ro]; exact hro
    by_cases hroom : l + n ≤ c'
    · -- there is room
      have hc0 : c' ≠ 0 := by omega
      obtain ⟨had, _⟩ := haddr hc0
      have hnx : ¬ en.exact off c := by
        intro hex2
        have := hexact hex2
        omega
      have hao := hnex hnx
      subst had
      obtain ⟨cc, tt, fz, k1, k2, k3, k4, k5⟩ := hk.at_
      obtain ⟨hbase, hfz⟩ := k5 hero
      have hfit : en.base + off + l * i.size + 0 + cs'.length ≤ cc.size := by
        rw [← hc2.1, hc3, k2]
        have : l * i.size + n * i.size ≤ c' * i.size := by rw [← Nat.add_mul]; exact Nat.mul_le_mul_right _ hroom
        rw [hesz] at hao
        omega
      obtain ⟨w', c2, r1, r2, r3, r4, r5, r6, r7⟩ := run_storeCells_blk (P := P) (base := base) (W0 := W0) cs' 0 (en.base + off + l * i.size) en.b cc tt fz w k1 hfit hfz hone' hbase hr.below
      have hT := hr.take (w' := w') (c2 := c2) hb hen hero r2 (by rw [r3, k2]) (by rw [r3]; exact hfz) r5 r6 r7 hbase ((blk.cells.drop off).take (l * i.size) ++ cs) (en.base + off) i.size (by omega) (by
          rw [List.length_append, holdl, hc3, ← Nat.add_mul]
          have : (l + n) * i.size ≤ c' * i.size := Nat.mul_le_mul_right _ hroom
          rw [hesz] at hao; omega) (by
        intro j u hj
        rw [List.getElem?_append] at hj
        rw [r4]
        split at hj
        · rename_i hjl
          rw [holdl] at hjl
          rw [if_neg (by omega)]
          rw [Nat.add_assoc]
          rw [List.getElem?_take] at hj
          rw [if_pos hjl, List.getElem?_drop] at hj
          obtain ⟨u', p1, p2⟩ := k4 _ _ hj
          exact ⟨u', p1, p2⟩
        · rename_i hjl
          rw [holdl] at hj hjl
          obtain ⟨u', p1, p2⟩ := hc2.2 _ _ hj
          have hjl2 : j - l * i.size < cs'.length := (List.getElem?_eq_some_iff.1 p1).1
          rw [if_pos (by omega), show en.base + off + j - (en.base + off + l * i.size + 0) = j - l * i.size by omega]
          exact ⟨u', p1, p2⟩)
      refine ⟨_, .slice (some ⟨en.b, en.base + off, none⟩) (l + n) c', w', ?_, hT.1, hT.2, ?_⟩
      · have := hroomS (some ⟨en.b, en.base + off, none⟩) l c' w' hroom (fun ad2 h => by simp at h; subst h; rw [addr_add]; exact r1) (fun h => by simp at h)
        exact this
      · have hlen2 : ((blk.cells.drop off).take (l * i.size) ++ cs).length = (l + n) * i.size := by rw [List.length_append, holdl, hc3, Nat.add_mul]
        have hnx2 : ¬ Ent.exact ⟨en.b, en.base + off, en.size, ((blk.cells.drop off).take (l * i.size) ++ cs).length, i.size, true, false⟩ 0 (l + n) := by
          rintro (h | h)
          · simp at h
          · have h' : 0 + (l + n) * i.size < ((blk.cells.drop off).take (l * i.size) ++ cs).length := h
            rw [hlen2] at h'; omega
        have hgo := VRel.sl (m := m.set H.n ⟨en.b, en.base + off, en.size, ((blk.cells.drop off).take (l * i.size) ++ cs).length, i.size, true, false⟩) H.n 0 (l + n) (l + n) c' ⟨en.b, en.base + off, en.size, ((blk.cells.drop off).take (l * i.size) ++ cs).length, i.size, true, false⟩
          (by simp [Mp.set]) (by omega) (Nat.le_refl _) hroom (fun h => absurd h hnx2) (fun _ => by simpa [hesz] using hao) (by rw [hesz] at hao; exact Nat.le_of_eq hao)
        exact hgo
    · exact grow_core (P := P) S hzz (hgrowS _ _ _ _ hroom hsm.2 hsm.1 q1) hd2 hc3 q2 holdl hs1 (H.kill B) (hr.drew.kill B) ((Fut.drew m H w).trans (Fut.kill m H w.drew B))
  · simp at hxa


/-- what an append gives -/
theorem app_sound {t e u ty : TypeId} {d : TypeDesc} {x y x' y' : Value} {argTypes : Array TypeId} {i : TypeInfo} {zs : List Value}
    (ht : argTypes[0]? = some t) (hu' : argTypes[1]? = some u) (hu : P.underlying t = some (.slice e)) (hd : P.underlying u = some d) (hd2 : ∀ k, d ≠ .int k)
    (hz : zeroAt P e = some zs) (hi : P.info? e = some i) (hzl : zs.length = i.size) (hs1 : 1 ≤ i.size) (hr : HRel G base W0 m H w) (hx : VRel m x x') (hy : VRel m y y')
    {v : Value} {H' : AH} (hxa : xapp H i.size i.bytes x y = some (v, H')) :
    ∃ m' v' w', (Builtin.append_ argTypes ty #[x', y']).run P w = .ok v' w' ∧ HRel G base W0 m' H' w' ∧ Fut m H w m' H' w' ∧ VRel m' v v' := by
  have hsO : sizeAt P e = some i.size := by simp [sizeAt, hi]
  unfold xapp at hxa
  cases hn : srcLen y with
  | none => simp [hn] at hxa
  | some n =>
  simp only [hn] at hxa
  cases hc : src H i.size n y with
  | none => simp [hc] at hxa
  | some cs =>
  simp only [hc] at hxa
  have hlen := srcLen_run (P := P) hn hy w
  obtain ⟨cs', hc1, hc2, hc3⟩ := run_firstCells (P := P) hr hy hc
  obtain ⟨ds', hd1, hd2', hd3⟩ := run_firstCells (P := P) hr.drew hy hc
  obtain ⟨⟨z, hz1, hz2⟩, hz3⟩ := run_zero' hz w.drew
  have hzsz : z.cells.size = i.size := by rw [← Array.length_toList, hz2, hzl]
  refine app_core (P := P) (e := e) (z := z.cells) (fun s => Builtin.append_ argTypes ty #[s, y']) hzsz ?_ ?_ hs1 hr hx hc2 hd2' hc3 (src_one hc) hxa
  · intro p l c' w' h1 h2 h3
    exact run_app_room (P := P) (w := w) (w' := w') (args := #[.slice p l c', y']) (ty := ty) ht hu' rfl rfl hu hd hd2 hsO hlen hc1 h1 h2 h3
  · intro p l c' olds' h1 h2 h3 h4
    exact run_app_grow (P := P) (w := w) (args := #[.slice p l c', y']) (ty := ty) ht hu' rfl rfl hu hd hd2 hi rfl h2 (srcLen_run hn hy w) hd1 h1 h4 hz1 h3

/-- an append of zeros, up to where it asks for room -/
theorem i64_wrap (n : Nat) (hn : n ≤ 140737488355328) : IntKind.i64.wrap (n : Int) = (n : Int) := by
  show (if (true && decide ((n : Int) % (2 ^ 64 : Int) ≥ (2 ^ 63 : Int))) = true then (n : Int) % (2 ^ 64 : Int) - (2 ^ 64 : Int) else (n : Int) % (2 ^ 64 : Int)) = n
  rw [show (2 : Int) ^ 64 = 18446744073709551616 from rfl, show (2 : Int) ^ 63 = 9223372036854775808 from rfl]
  simp only [Bool.true_and, decide_eq_true_eq]
  split <;> omega

theorem run_appN_room {t e u : TypeId} {sz n l c' : Nat} {kd kv : IntKind} {p : Option Addr} {w' : World} {args : Array Value} {argTypes : Array TypeId} {ty : TypeId} {i : TypeInfo} {z : Value}
    (ht : argTypes[0]? = some t) (hu' : argTypes[1]? = some u) (ha0 : args[0]? = some (.slice p l c')) (ha1 : args[1]? = some (.int kv (n : Int)))
    (hu : P.underlying t = some (.slice e)) (hd : P.underlying u = some (.int kd)) (hi : P.info? e = some i) (hsz : i.size = sz) (hn : n ≤ 140737488355328) (hnb : n * i.bytes ≤ 140737488355328)
    (hz : (zeroValue e).run P w = .ok z w) (hzs : z.cells.size = sz) (hroom : l + n ≤ c') (hst : ∀ ad, p = some ad → (storeCells (ad.add (l * sz)) (Builtin.zeroCells z.cells n).toList).run P w = .ok () w') (hnone : p = none → w' = w) :
    (Builtin.append_ argTypes ty args).run P w = .ok (.slice p (l + n) c') w' := by
  have hw := i64_wrap n hn
  have h0 : ¬ (n : Int) < 0 := by omega
  have h1 : ¬ ((n : Int) * (i.bytes : Int) > 2 ^ 48) := by
    have : ((n * i.bytes : Nat) : Int) ≤ 140737488355328 := by omega
    rw [Int.natCast_mul] at this
    rw [show (2 : Int) ^ 48 = 281474976710656 from rfl]; omega
  have hsO : (sizeOf e).run P w = .ok sz w := by simp [sizeOf, typeInfo, hi, hsz]
  have hai : (asInt (.int kv (n : Int))).run P w = .ok (n : Int) w := by simp [asInt, asIntOf]
  have hti : (typeInfo e).run P w = .ok i w := by simp [typeInfo, hi]
  have happ : (if n * sz = 0 then pure #[] else do pure (Builtin.zeroCells (← zeroValue e).cells n) : Sem (Array Value)).run P w = .ok (Builtin.zeroCells z.cells n) w := by
    split
    · rename_i hz0
      have : Builtin.zeroCells z.cells n = #[] := by
        apply Array.eq_empty_of_size_eq_zero
        rw [zeroCells_len, hzs, hz0]
      simp [this]
    · simp [hz]
  unfold Builtin.append_
  simp only [ht, ha0, ha1, hu', Sem.run_bind, run_underlying hu, Result.andThen_ok, hsO, run_underlying hd, Sem.run_pure, if_true, hai, hw, h0, if_false, hti, h1, Int.toNat_natCast, hroom, Bool.not_true, Bool.false_eq_true, happ]
  cases p with
  | none => simp [hnone rfl]
  | some ad => simp [hst ad rfl]

theorem run_appN_grow {t e u : TypeId} {sz n l c' : Nat} {kd kv : IntKind} {p : Option Addr} {olds : List Value} {args : Array Value} {argTypes : Array TypeId} {ty : TypeId} {i : TypeInfo} {z : Value}
    (ht : argTypes[0]? = some t) (hu' : argTypes[1]? = some u) (ha0 : args[0]? = some (.slice p l c')) (ha1 : args[1]? = some (.int kv (n : Int)))
    (hu : P.underlying t = some (.slice e)) (hd : P.underlying u = some (.int kd)) (hi : P.info? e = some i) (hsz : i.size = sz) (hb1 : 1 ≤ i.bytes) (hn : n ≤ 140737488355328) (hnb : n * i.bytes ≤ 140737488355328)
    (hroom : ¬ l + n ≤ c') (hold : (Builtin.firstCells sz l (.slice p l c')).run P w.drew = .ok olds.toArray w.drew)
    (hz : (zeroValue e).run P w.drew = .ok z w.drew) (hzs : z.cells.size = sz) (hbytes : (l + n) * i.bytes ≤ 140737488355328) :
    ∃ nc, l + n ≤ nc ∧ (Builtin.append_ argTypes ty args).run P w =
      .ok (.slice (some ⟨w.heap.size, 0, none⟩) (l + n) nc) { w with drawn := w.drawn + 1, heap := w.heap.push (.cells (olds.toArray ++ (Builtin.zeroCells z.cells n) ++ Builtin.zeroCells z.cells (nc - (l + n))) e (0, 0)) } := by
  have hw := i64_wrap n hn
  have h0 : ¬ (n : Int) < 0 := by omega
  have h1 : ¬ ((n : Int) * (i.bytes : Int) > 2 ^ 48) := by
    have : ((n * i.bytes : Nat) : Int) ≤ 140737488355328 := by omega
    rw [Int.natCast_mul] at this
    rw [show (2 : Int) ^ 48 = 281474976710656 from rfl]; omega
  have hbig : ¬ (Builtin.nextslicecap (l + n) c' * i.bytes > 2 ^ 48) := by
    have h1 := nextcap_le (l + n) c' (by omega)
    have h2 : Builtin.nextslicecap (l + n) c' * i.bytes ≤ 2 * (l + n) * i.bytes := Nat.mul_le_mul_right _ h1
    rw [Nat.mul_assoc] at h2
    omega
  have hln : l + n ≤ (l + n) * i.bytes := Nat.le_mul_of_pos_right _ hb1
  have hmax : ¬ (((l + n : Nat) : Int) > IntKind.i64.max ∧ (True ∨ i.bytes = 0)) := by
    intro h
    have h3 : IntKind.i64.max = 9223372036854775807 := rfl
    rw [h3] at h; omega
  have hsO : (sizeOf e).run P w = .ok sz w := by simp [sizeOf, typeInfo, hi, hsz]
  have hai : (asInt (.int kv (n : Int))).run P w = .ok (n : Int) w := by simp [asInt, asIntOf]
  have hti : ∀ w, (typeInfo e).run P w = .ok i w := fun w => by simp [typeInfo, hi]
  have happ : (if n * sz = 0 then pure #[] else do pure (Builtin.zeroCells (← zeroValue e).cells n) : Sem (Array Value)).run P w.drew = .ok (Builtin.zeroCells z.cells n) w.drew := by
    split
    · rename_i hz0
      have : Builtin.zeroCells z.cells n = #[] := by
        apply Array.eq_empty_of_size_eq_zero
        rw [zeroCells_len, hzs, hz0]
      simp [this]
    · simp [hz]
  refine ⟨(Question.appendCap (l + n) c' e).cut (w.tape w.drawn (Question.appendCap (l + n) c' e)), by simp [Question.cut], ?_⟩
  unfold Builtin.append_
  simp only [World.drew] at hold hz happ
  simp only [ht, ha0, ha1, hu', Sem.run_bind, run_underlying hu, Result.andThen_ok, hsO, run_underlying hd, Sem.run_pure, if_true, hai, hw, h0, if_false, hti, h1, Int.toNat_natCast, hroom, Bool.not_true, Bool.false_eq_true, hmax, hbig, run_choose, Question.forced, run_askRoom, happ, hold, hz, newRow, run_newObj]

theorem appN_sound {t e u ty : TypeId} {kd kv : IntKind} {n : Nat} {x x' : Value} {argTypes : Array TypeId} {i : TypeInfo} {zs : List Value}
    (ht : argTypes[0]? = some t) (hu' : argTypes[1]? = some u) (hu : P.underlying t = some (.slice e)) (hd : P.underlying u = some (.int kd))
    (hz : zeroAt P e = some zs) (hi : P.info? e = some i) (hzl : zs.length = i.size) (hs1 : 1 ≤ i.size) (hr : HRel G base W0 m H w) (hx : VRel m x x')
    {v : Value} {H' : AH} (hxa : xappN H i.size i.bytes zs x (.int kv (n : Int)) = some (v, H')) :
    ∃ m' v' w', (Builtin.append_ argTypes ty #[x', .int kv (n : Int)]).run P w = .ok v' w' ∧ HRel G base W0 m' H' w' ∧ Fut m H w m' H' w' ∧ VRel m' v v' := by
  have hxa' : (bif Nat.ble (n * i.bytes) 140737488355328 && Nat.ble n 140737488355328 && (rep n zs).all one then xappC H i.size i.bytes n (rep n zs) x else none) = some (v, H') := hxa
  cases hcond : (Nat.ble (n * i.bytes) 140737488355328 && Nat.ble n 140737488355328 && (rep n zs).all one)
  · rw [hcond] at hxa'; simp at hxa'
  rw [hcond, cond_true] at hxa'
  obtain ⟨hc1, hone⟩ := Bool.and_eq_true_iff.1 hcond
  obtain ⟨hc1, hc2⟩ := Bool.and_eq_true_iff.1 hc1
  have hnb := Nat.le_of_ble_eq_true hc1
  have hn := Nat.le_of_ble_eq_true hc2
  obtain ⟨⟨z, hz1, hz2⟩, hz3⟩ := run_zero' hz w
  obtain ⟨⟨y, hy1, hy2⟩, _⟩ := run_zero' hz w.drew
  have hzsz : z.cells.size = i.size := by rw [← Array.length_toList, hz2, hzl]
  have hysz : y.cells.size = i.size := by rw [← Array.length_toList, hy2, hzl]
  have hcz : (Builtin.zeroCells z.cells n).toList = rep n zs := by
    have := range_rep z.cells n i.size (by rw [Array.length_toList]; exact hzsz)
    unfold Builtin.zeroCells
    rw [hzsz] at *
    rw [this, hz2]
  have hcy : (Builtin.zeroCells y.cells n).toList = rep n zs := by
    have := range_rep y.cells n i.size (by rw [Array.length_toList]; exact hysz)
    unfold Builtin.zeroCells
    rw [hysz] at *
    rw [this, hy2]
  have hrel : LRel m (rep n zs) (rep n zs) := flat_lrel m _ (rep_flat n zs hz3)
  refine app_core (P := P) (e := e) (z := y.cells) (cs' := rep n zs) (ds' := rep n zs) (fun s => Builtin.append_ argTypes ty #[s, .int kv (n : Int)]) hysz ?_ ?_ hs1 hr hx hrel hrel (by rw [rep_length, hzl]) hone hxa'
  · intro p l c' w' h1 h2 h3
    exact run_appN_room (P := P) (w := w) (w' := w') (args := #[.slice p l c', .int kv (n : Int)]) (ty := ty) ht hu' rfl rfl hu hd hi rfl hn hnb hz1 hzsz h1 (by rw [hcz]; exact h2) h3
  · intro p l c' olds' h1 h2 h3 h4
    have hcy' : Builtin.zeroCells y.cells n = (rep n zs).toArray := by rw [← hcy]
    rw [← hcy']
    exact run_appN_grow (P := P) (w := w) (args := #[.slice p l c', .int kv (n : Int)]) (ty := ty) ht hu' rfl rfl hu hd hi rfl h2 hn hnb h1 h4 hy1 hysz h3

end Go.Det
