/- Texts of this proof laid together: Ua, Ub, Uc, Ud, Uf, Ug, Uh, Ui, Uj, Uk, Ul, Um, Un, Uo, Uq, Ur, Hz. No condition beyond what each lemma names. -/
import Derived.Test.YtiapgmfooclpcaaDoorZc
import Derived.Lib.AppendStr
import Derived.Test.YtiapgmfooclpcaaDoorZa
import Derived.SizedLaws
import Derived.Test.YtiapgmfooclpcaaDoorRows
import Derived.LaidMore
import Derived.Lib.LaidTab
import Derived.MakeChecks
import Derived.Stop.Joined
import Derived.OpenShut
import Derived.ProofKit
/- Bundles: append of a string; items; what an archive is made of. No condition beyond what each contract names. -/
namespace Go.Proofs.YtiapgmfooclpcaaDoor
open Go.RowKit E
set_option linter.unusedVariables false
set_option linter.unusedSimpArgs false
set_option maxRecDepth 100000
attribute [local irreducible] ow qw kw kq cw opW Ret
namespace E
theorem o_apps {P : Program} {n : Nat} {e : Env} {w : World} {l0 l : List Oper} {K : Env → World → Prop} {d : Nat} {T : TypeId} {pos : String} {af : Array Edge} {x y : Operand} {TX TS : TypeId} {E : TypeId} (hu : P.underlying TX = some (.slice E)) (hs : P.underlying TS = some .string) (hi : infB P E 1 1 (.int .u8 0))
    {a : Option Addr} {m c : Nat} {xs : List Value} {s : ByteArray} (hx : ev n e x = .slice a m c) (hy : ev n e y = .string s)
    (ho : Sl w E 1 a m c xs) (hb : m + s.size ≤ 140737488355328)
    (h : ∀ a2 c2 w', Sl w' E 1 a2 (m + s.size) c2 (xs ++ Lib.strCells s) → Keep (blkOf a) w w' → ((a2 = a ∧ w'.heap.size = w.heap.size) ∨ (∃ g, a2 = some ⟨g, 0, none⟩ ∧ w.heap.size = g ∧ w'.heap.size = g + 1)) → ow P n l0 K l (upd e d (.slice a2 (m + s.size) c2)) w') :
    ow P n l0 K (⟨some d, .call ⟨.builtin .append, #[x, y], #[TX, TS]⟩, T, pos, af, none⟩ :: l) e w := by
  obtain ⟨i, hi1, hsize, hby, hz⟩ := hi
  have h63 : m + s.size ≤ maxLen := by simp only [maxLen]; omega
  have hsmall : m + s.size ≤ 9223372036854775807 := by omega
  have hxl : xs.length = m := by simpa using ho.1
  have hlen : (xs ++ Lib.strCells s).length = (m + s.size) * 1 := by rw [List.length_append, hxl, Lib.strCells_length, Nat.mul_one]
  have kgrown : ∀ o, Keep (blkOf a) w (w.drew.alloc o) := fun o => ⟨rfl, rfl, rfl, by simp, fun k hk _ => Below.heap_alloc w.drew o k hk⟩
  have hget : ∀ a2 c2 w', (Builtin.append_ #[TX, TS] T #[.slice a m c, .string s]).run P w = .ok (.slice a2 (m + s.size) c2) w' → Sl w' E 1 a2 (m + s.size) c2 (xs ++ Lib.strCells s) → Keep (blkOf a) w w' → ((a2 = a ∧ w'.heap.size = w.heap.size) ∨ (∃ g, a2 = some ⟨g, 0, none⟩ ∧ w.heap.size = g ∧ w'.heap.size = g + 1)) → ow P n l0 K (⟨some d, .call ⟨.builtin .append, #[x, y], #[TX, TS]⟩, T, pos, af, none⟩ :: l) e w := fun a2 c2 w' hr h1 h2 h3 => by
    refine o_run (v := .slice a2 (m + s.size) c2) (w' := w') ?_ (h a2 c2 w' h1 h2 h3)
    simp [execOp, resolve, invoke, builtin, hx, hy, hr]
  have grown : ∀ old, Sl (w.drew.alloc (.cells (xs.toArray ++ (Lib.strCells s).toArray ++ Builtin.zeroCells (Value.int .u8 0).cells (grownCap w (m + s.size) old E - (m + s.size))) E)) E 1 (some ⟨w.heap.size, 0, none⟩) (m + s.size) (grownCap w (m + s.size) old E) (xs ++ Lib.strCells s) := by
    intro old
    have hge := grownCap_ge w (m + s.size) old E
    refine ⟨hlen, .inr ⟨w.heap.size, _, rfl, heap_alloc_new w.drew _, hge, grownCap_le_maxLen w (m + s.size) old E h63, ?_, ?_⟩⟩
    · have hz1 : (Value.int IntKind.u8 0).cells.size = 1 := rfl
      simp only [Array.size_append, List.size_toArray, size_zeroCells, hz1, hxl, Lib.strCells_length]
      omega
    · simp only [Array.toList_append, List.append_assoc]
      rw [← List.append_assoc, ← hlen]
      exact List.take_left
  rcases ho.2 with ⟨rfl, rfl, rfl⟩ | ⟨g, cur, rfl, hb', hle, hcap, hcs, htake⟩
  · have hx0 : xs = [] := List.eq_nil_of_length_eq_zero hxl
    subst hx0
    by_cases hm : s.size = 0
    · have hn : Lib.strCells s = [] := List.eq_nil_of_length_eq_zero (by rw [Lib.strCells_length]; exact hm)
      have hf := Lib.run_firstCells_string (P := P) w 1 s
      rw [hm] at hf
      refine hget none 0 w ?_ (by rw [hm, hn]; exact Sl.nil _ _ _) (Keep.refl _ _) (.inl ⟨rfl, rfl⟩)
      simp [Builtin.append_, run_underlying hu, run_underlying hs, sizeOf, typeInfo, hi1, hsize, Builtin.lenOf, hm, hf]
    · have hr := run_append_nil_string (P := P) w TX TS T E i (.int .u8 0) hu hs hi1 hz s (by omega) (by omega) (by rw [hby]; omega)
      have hgr := grown 0
      simp only [Nat.zero_add, List.nil_append, Array.empty_append] at hgr
      have e1 : (s.data.map fun b => Value.int .u8 b.toNat) = (Lib.strCells s).toArray := by
        apply Array.ext'
        simp [Lib.strCells]
      rw [e1] at hr
      refine hget _ _ _ (by simpa using hr) (by simpa using hgr) (kgrown _) (.inr ⟨_, rfl, rfl, by simp⟩)
  · by_cases hroom : m + s.size ≤ c
    · have hcs' : cur.size = c := by simpa using hcs
      have hr := Lib.run_append_room_string (P := P) w TX TS T E i hu hs hi1 hsize g m c cur hb' s hroom (by omega)
      refine hget _ _ _ hr ⟨hlen, .inr ⟨g, _, rfl, setRow_heap w g cur _ E _ hb', hroom, hcap, ?_, ?_⟩⟩ ⟨rfl, rfl, rfl, by simp, fun k _ hk => setRow_other w g k _ (by simpa [blkOf] using hk)⟩ (.inl ⟨rfl, by simp⟩)
      · simp only [List.size_toArray, List.length_append, List.length_take, List.length_drop, Array.length_toList, Lib.strCells_length]
        omega
      · have ht' : cur.toList.take m = xs := by simpa using htake
        rw [ht', ← hlen]
        exact List.take_left
    · have holds : ∀ j u, xs[j]? = some u → w.cell? ((⟨g, 0, none⟩ : Addr).add j) = some u := by
        intro j u hj
        obtain ⟨b2, o2, he, hc⟩ := ho.rd j u hj
        simp at he
        obtain ⟨rfl, rfl⟩ := he
        rw [Addr.add_lit]
        exact hc
      have hr := Lib.run_append_grow_string (P := P) w TX TS T E i (.int .u8 0) hu hs hi1 hz ⟨g, 0, none⟩ m c xs (by rw [hsize]; simpa using hxl) holds s (by omega) (by omega) (by rw [hby]; exact growslice_fits (by omega) (by omega))
      exact hget _ _ _ hr (grown c) (kgrown _) (.inr ⟨_, rfl, rfl, by simp⟩)
end E
theorem strCells_bs (xs : Bs) : Lib.strCells (bsStr xs) = xs.map u8v := by
  show ((xs.map fun b => UInt8.ofBitVec b).toArray.toList.map fun b : UInt8 => Value.int .u8 b.toNat) = _
  rw [List.toList_toArray, List.map_map]
  rfl
/-! ### items -/
structure It where
  name : Bs
  a : Option Addr
  c : Nat
  data : Bs
  sq : Bool
def itC (x : It) : List Value := [.string (bsStr x.name), .slice x.a x.data.length x.c, .bool x.sq]
def Items (w : World) (a : Option Addr) (l : List It) : Prop := Rd w a (l.flatMap itC) ∧ ∀ x ∈ l, Rd w x.a (x.data.map u8v) ∧ x.data.length ≤ x.c
def crcN (l : Bs) : Nat := (Crc.add 0 l).toNat
def methN (x : It) : Nat := if x.sq then 8 else 0
def packB (x : It) : Bs := if x.sq then pack (sqBits x.data) else x.data
def headB (x : It) : Bs := putsN 2 [20, 0, methN x, 0, 33] ++ putsN 4 [crcN x.data, (packB x).length, x.data.length] ++ putsN 2 [x.name.length, 0]
def oneLoc (x : It) : Bs := putsN 4 [67324752] ++ headB x ++ x.name ++ packB x
def oneDir (x : It) (at_ : Nat) : Bs := putsN 4 [33639248] ++ putsN 2 [20] ++ headB x ++ putsN 2 [0, 0, 0] ++ putsN 4 [0, at_] ++ x.name
def locsB (l : List It) : Bs := l.flatMap oneLoc
def dirsF : List It → Nat → Bs
  | [], _ => []
  | x :: l, p => oneDir x p ++ dirsF l (p + (oneLoc x).length)
def dirsB (l : List It) : Bs := dirsF l 0
def endB (n d f : Nat) : Bs := putsN 4 [101010256, 0] ++ putsN 2 [n, n] ++ putsN 4 [d, f] ++ putsN 2 [0]
def archB (l : List It) : Bs := locsB l ++ dirsB l ++ endB l.length (dirsB l).length (locsB l).length
theorem locsB_take (l : List It) (i : Nat) (h : i < l.length) : locsB (l.take (i + 1)) = locsB (l.take i) ++ oneLoc l[i] := by
  unfold locsB
  rw [List.take_succ_eq_append_getElem h, List.flatMap_append, List.flatMap_cons, List.flatMap_nil, List.append_nil]
theorem dirsF_app : ∀ (l l' : List It) (p : Nat), dirsF (l ++ l') p = dirsF l p ++ dirsF l' (p + (locsB l).length)
  | [], l', p => rfl
  | x :: l, l', p => by
    show oneDir x p ++ dirsF (l ++ l') (p + (oneLoc x).length) = oneDir x p ++ dirsF l (p + (oneLoc x).length) ++ dirsF l' (p + (locsB (x :: l)).length)
    rw [dirsF_app l l', List.append_assoc, show locsB (x :: l) = oneLoc x ++ locsB l from rfl, List.length_append, Nat.add_assoc]
theorem dirsB_take (l : List It) (i : Nat) (h : i < l.length) : dirsB (l.take (i + 1)) = dirsB (l.take i) ++ oneDir l[i] (locsB (l.take i)).length := by
  unfold dirsB
  rw [List.take_succ_eq_append_getElem h, dirsF_app, Nat.zero_add]
  show _ ++ (oneDir _ _ ++ []) = _
  rw [List.append_nil]
/-- items that may be bundled -/
def MkOk (l : List It) : Prop := l.length ≤ 64 ∧ (∀ x ∈ l, nameP (bsStr x.name)) ∧ (l.map (·.name)).Nodup ∧ (∀ x ∈ l, x.data.length ≤ 32768) ∧ (∀ i, i < l.length → (locsB (l.take i)).length ≤ 65536) ∧ (archB l).length ≤ 65536
def MkR (w w' : World) (l : List It) (v : Value) : Prop :=
  Keep [] w w' ∧ ((∃ er : Nat, er ≠ 0 ∧ ¬ MkOk l ∧ v = .tuple #[.slice none 0 0, nv er]) ∨ (MkOk l ∧ ∃ u, v = .tuple #[u, nv 0] ∧ New w w' 5 u ((archB l).map u8v)))
end Go.Proofs.YtiapgmfooclpcaaDoor

/- Bundles: rows side by side; one put. No condition beyond what each contract names. -/
namespace Go.Proofs.YtiapgmfooclpcaaDoor
open Go.RowKit E
set_option linter.unusedVariables false
set_option linter.unusedSimpArgs false
set_option maxRecDepth 100000
attribute [local irreducible] ow qw kw kq cw opW Ret
/-- rows from k on -/
def RowX (k : Nat) (w : World) (r : Nat) (a : Option Addr) (c : Nat) (bs : Bs) : Prop := RowA w r a c bs ∧ k ≤ r ∧ ∀ q, a = some q → k ≤ q.block
def Sep (r : Nat) (a : Option Addr) (r' : Nat) (a' : Option Addr) : Prop := r ≠ r' ∧ ∀ p q, a = some p → a' = some q → p.block ≠ q.block
theorem Sep.symm {r r' : Nat} {a a' : Option Addr} (h : Sep r a r' a') : Sep r' a' r a := ⟨h.1.symm, fun p q hp hq => (h.2 q p hq hp).symm⟩
theorem RowX.new {k : Nat} {w w' : World} {r : Nat} {a : Option Addr} {c : Nat} {bs : Bs} (h : RowX k w r a c bs) (hk : Keep [] w w') : RowX k w' r a c bs := ⟨h.1.new hk, h.2⟩
theorem Sep.offB {r r' : Nat} {a a' : Option Addr} (h : Sep r a r' a') : Off (blkOf a) a' := fun q hq hm => by
  cases a with
  | none => simp [blkOf] at hm
  | some p => simp [blkOf] at hm; exact h.2 p q rfl hq hm.symm
theorem RowX.other {k : Nat} {w w' : World} {r r' : Nat} {a a' : Option Addr} {c c' : Nat} {bs bs' : Bs} (h : RowX k w r' a' c' bs') (hA : RowA w r a c bs) (hs : Sep r a r' a') (hk : Keep (r :: blkOf a) w w') : RowX k w' r' a' c' bs' := by
  refine ⟨h.1.keep hk ?_ ?_, h.2⟩
  · rw [List.mem_cons, not_or]
    exact ⟨hs.1.symm, hA.2.notin h.1.1 (by decide)⟩
  · intro q hq hm
    rcases List.mem_cons.1 hm with h1 | h1
    · exact h.1.2.off hA.1 (by decide) q hq (by rw [h1]; simp)
    · exact hs.offB q hq h1
theorem Sep.fresh {w : World} {r r' : Nat} {a a2 a' : Option Addr} {c' : Nat} {bs' : Bs} (hs : Sep r a r' a') (hf : Fresh w.heap.size a a2) (h' : RowA w r' a' c' bs') : Sep r a2 r' a' := by
  refine ⟨hs.1, fun p q hp hq => ?_⟩
  rcases hf p hp with h1 | h1
  · cases a with
    | none => simp [blkOf] at h1
    | some z => simp [blkOf] at h1; rw [h1]; exact hs.2 z q rfl hq
  · have := h'.2.lt q hq
    omega
theorem RowX.kt {k : Nat} {w w' : World} {r : Nat} {a : Option Addr} {c : Nat} {bs : Bs} (h : RowX k w r a c bs) (hk : Keep (r :: blkOf a) w w') : KeepT [45, 5] k w w' := by
  refine ⟨_, hk, fun b hb => ?_⟩
  rcases List.mem_cons.1 hb with rfl | h1
  · exact ⟨h.2.1, _, 45, by simp, h.1.1⟩
  · cases a with
    | none => simp [blkOf] at h1
    | some p =>
      simp [blkOf] at h1
      subst h1
      refine ⟨h.2.2 p rfl, ?_⟩
      rcases h.1.2.2 with ⟨h0, _⟩ | ⟨g, cur, hg, hb5, _⟩
      · simp at h0
      · cases hg; exact ⟨cur, 5, by simp, hb5⟩
theorem RowX.lt {k : Nat} {w : World} {r : Nat} {a : Option Addr} {c : Nat} {bs : Bs} (h : RowX k w r a c bs) : k < w.heap.size := by
  have := h.1.1.lt
  have := h.2.1
  omega
/-- one put on a row, the numbers in a new block -/
theorem put_x (k : Nat) (w : World) (r n g : Nat) (a : Option Addr) (c : Nat) (bs : Bs) (vs : List Nat) (h : RowX k w r a c bs) (hB : Blk w g (vs.map nv).toArray 3) (h1 : 1 ≤ n) (h8 : n ≤ 8) (hvs : vs.length ≤ 1000) (hbs : bs.length ≤ 1000000000) :
    Ret Tryd.prog 15 [.pointer (some ⟨r, 0, none⟩), .int .i64 (n : Int), .slice (some ⟨g, 0, none⟩) vs.length vs.length] w (fun v w' => v = .pointer (some ⟨r, 0, none⟩) ∧ ∃ a' c', RowX k w' r a' c' (bs ++ putsN n vs) ∧ Keep (r :: blkOf a) w w' ∧ Fresh w.heap.size a a') := by
  have hS : Sl w 3 1 (some ⟨g, 0, none⟩) vs.length vs.length (vs.map nv) := by
    have := hB.sl (len := vs.length) (sz := 1) (by simp) (by simp [maxLen]; omega)
    simpa using this
  have hO : Off (r :: blkOf a) (some ⟨g, 0, none⟩) := by
    intro q hq hm
    cases hq
    rcases List.mem_cons.1 hm with h2 | h2
    · have h2' : g = r := h2
      subst h2'
      have := hB.ty h.1.1
      simp at this
    · exact h.1.2.notin hB (by decide) h2
  refine (put_many w r n _ vs.length vs a c bs h.1 hS.rd hO h1 h8 hvs hbs).mono (fun v w' hv => ?_)
  obtain ⟨rfl, a', c', hA, hK, hf⟩ := hv
  refine ⟨rfl, a', c', ⟨hA, h.2.1, fun q hq => ?_⟩, hK, hf⟩
  rcases hf q hq with h2 | h2
  · cases a with
    | none => simp [blkOf] at h2
    | some z => simp [blkOf] at h2; rw [h2]; exact h.2.2 z rfl
  · have := h.lt; omega
/-! ### a row alone -/
def RowG (k : Nat) (w : World) (v : Value) (bs : Bs) : Prop := ∃ r a c, v = .pointer (some ⟨r, 0, none⟩) ∧ RowX k w r a c bs
theorem RowG.new {k : Nat} {w w' : World} {v : Value} {bs : Bs} (h : RowG k w v bs) (hk : Keep [] w w') : RowG k w' v bs := by
  obtain ⟨r, a, c, h1, h2⟩ := h
  exact ⟨r, a, c, h1, h2.new hk⟩
theorem put_g (k : Nat) (w : World) (v : Value) (n g : Nat) (bs : Bs) (vs : List Nat) (h : RowG k w v bs) (hB : Blk w g (vs.map nv).toArray 3) (h1 : 1 ≤ n) (h8 : n ≤ 8) (hvs : vs.length ≤ 1000) (hbs : bs.length ≤ 1000000000) :
    Ret Tryd.prog 15 [v, .int .i64 (n : Int), .slice (some ⟨g, 0, none⟩) vs.length vs.length] w (fun u w' => RowG k w' u (bs ++ putsN n vs) ∧ KeepT [45, 5] k w w') := by
  obtain ⟨r, a, c, rfl, h⟩ := h
  refine (put_x k w r n g a c bs vs h hB h1 h8 hvs hbs).mono (fun u w' hu => ?_)
  obtain ⟨rfl, a', c', hX, hK, hf⟩ := hu
  exact ⟨⟨r, a', c', rfl, hX⟩, h.kt hK⟩
/-! ### two rows and three -/
def R2 (k : Nat) (w : World) (rb rd : Nat) (B D : Bs) : Prop := ∃ ab cb ad cd, RowX k w rb ab cb B ∧ RowX k w rd ad cd D ∧ Sep rb ab rd ad
def R3 (k : Nat) (w : World) (rb rd rh : Nat) (B D H : Bs) : Prop := ∃ ab cb ad cd ah ch, RowX k w rb ab cb B ∧ RowX k w rd ad cd D ∧ RowX k w rh ah ch H ∧ Sep rb ab rd ad ∧ Sep rb ab rh ah ∧ Sep rd ad rh ah
theorem R2.new {k : Nat} {w w' : World} {rb rd : Nat} {B D : Bs} (h : R2 k w rb rd B D) (hk : Keep [] w w') : R2 k w' rb rd B D := by
  obtain ⟨ab, cb, ad, cd, h1, h2, h3⟩ := h
  exact ⟨ab, cb, ad, cd, h1.new hk, h2.new hk, h3⟩
theorem R3.new {k : Nat} {w w' : World} {rb rd rh : Nat} {B D H : Bs} (h : R3 k w rb rd rh B D H) (hk : Keep [] w w') : R3 k w' rb rd rh B D H := by
  obtain ⟨ab, cb, ad, cd, ah, ch, h1, h2, h3, h4⟩ := h
  exact ⟨ab, cb, ad, cd, ah, ch, h1.new hk, h2.new hk, h3.new hk, h4⟩
theorem R3.two {k : Nat} {w : World} {rb rd rh : Nat} {B D H : Bs} (h : R3 k w rb rd rh B D H) : R2 k w rb rd B D := by
  obtain ⟨ab, cb, ad, cd, ah, ch, h1, h2, h3, h4, _⟩ := h
  exact ⟨ab, cb, ad, cd, h1, h2, h4⟩
/-- the head made behind the rows -/
theorem R2.three {k k' : Nat} {w w' : World} {rb rd : Nat} {B D H : Bs} {v : Value} (h : R2 k w rb rd B D) (hk : Keep [] w w') (hv : RowG k' w' v H) (hk' : w.heap.size ≤ k') : ∃ rh, v = .pointer (some ⟨rh, 0, none⟩) ∧ R3 k w' rb rd rh B D H := by
  obtain ⟨ab, cb, ad, cd, h1, h2, h3⟩ := h
  obtain ⟨rh, ah, ch, rfl, h4⟩ := hv
  have hl := h1.lt
  have s : ∀ {r a c bs}, RowX k w r a c bs → Sep r a rh ah := fun {r a c bs} hx => by
    refine ⟨?_, fun p q hp hq => ?_⟩
    · have := hx.1.1.lt
      have := h4.2.1
      omega
    · have := hx.1.2.lt p hp
      have := h4.2.2 q hq
      omega
  refine ⟨rh, rfl, ab, cb, ad, cd, ah, ch, h1.new hk, h2.new hk, ⟨h4.1, ?_, fun q hq => ?_⟩, h3, s h1, s h2⟩
  · have := h4.2.1; omega
  · have := h4.2.2 q hq; omega
theorem put_b3 (k : Nat) (w : World) (rb rd rh n g : Nat) (B D H : Bs) (vs : List Nat) (h : R3 k w rb rd rh B D H) (hB : Blk w g (vs.map nv).toArray 3) (h1 : 1 ≤ n) (h8 : n ≤ 8) (hvs : vs.length ≤ 1000) (hbs : B.length ≤ 1000000000) :
    Ret Tryd.prog 15 [.pointer (some ⟨rb, 0, none⟩), .int .i64 (n : Int), .slice (some ⟨g, 0, none⟩) vs.length vs.length] w (fun v w' => v = .pointer (some ⟨rb, 0, none⟩) ∧ R3 k w' rb rd rh (B ++ putsN n vs) D H ∧ KeepT [45, 5] k w w') := by
  obtain ⟨ab, cb, ad, cd, ah, ch, g1, g2, g3, s1, s2, s3⟩ := h
  refine (put_x k w rb n g ab cb B vs g1 hB h1 h8 hvs hbs).mono (fun v w' hv => ?_)
  obtain ⟨rfl, a', c', hX, hK, hf⟩ := hv
  exact ⟨rfl, ⟨a', c', ad, cd, ah, ch, hX, g2.other g1.1 s1 hK, g3.other g1.1 s2 hK, s1.fresh hf g2.1, s2.fresh hf g3.1, s3⟩, g1.kt hK⟩
theorem put_d3 (k : Nat) (w : World) (rb rd rh n g : Nat) (B D H : Bs) (vs : List Nat) (h : R3 k w rb rd rh B D H) (hB : Blk w g (vs.map nv).toArray 3) (h1 : 1 ≤ n) (h8 : n ≤ 8) (hvs : vs.length ≤ 1000) (hbs : D.length ≤ 1000000000) :
    Ret Tryd.prog 15 [.pointer (some ⟨rd, 0, none⟩), .int .i64 (n : Int), .slice (some ⟨g, 0, none⟩) vs.length vs.length] w (fun v w' => v = .pointer (some ⟨rd, 0, none⟩) ∧ R3 k w' rb rd rh B (D ++ putsN n vs) H ∧ KeepT [45, 5] k w w') := by
  obtain ⟨ab, cb, ad, cd, ah, ch, g1, g2, g3, s1, s2, s3⟩ := h
  refine (put_x k w rd n g ad cd D vs g2 hB h1 h8 hvs hbs).mono (fun v w' hv => ?_)
  obtain ⟨rfl, a', c', hX, hK, hf⟩ := hv
  exact ⟨rfl, ⟨ab, cb, a', c', ah, ch, g1.other g2.1 s1.symm hK, hX, g3.other g2.1 s3 hK, (s1.symm.fresh hf g1.1).symm, s2, s3.fresh hf g3.1⟩, g2.kt hK⟩
theorem put_b2 (k : Nat) (w : World) (rb rd n g : Nat) (B D : Bs) (vs : List Nat) (h : R2 k w rb rd B D) (hB : Blk w g (vs.map nv).toArray 3) (h1 : 1 ≤ n) (h8 : n ≤ 8) (hvs : vs.length ≤ 1000) (hbs : B.length ≤ 1000000000) :
    Ret Tryd.prog 15 [.pointer (some ⟨rb, 0, none⟩), .int .i64 (n : Int), .slice (some ⟨g, 0, none⟩) vs.length vs.length] w (fun v w' => v = .pointer (some ⟨rb, 0, none⟩) ∧ R2 k w' rb rd (B ++ putsN n vs) D ∧ KeepT [45, 5] k w w') := by
  obtain ⟨ab, cb, ad, cd, g1, g2, s1⟩ := h
  refine (put_x k w rb n g ab cb B vs g1 hB h1 h8 hvs hbs).mono (fun v w' hv => ?_)
  obtain ⟨rfl, a', c', hX, hK, hf⟩ := hv
  exact ⟨rfl, ⟨a', c', ad, cd, hX, g2.other g1.1 s1 hK, s1.fresh hf g2.1⟩, g1.kt hK⟩
/-! ### bytes appended to a row's slice, and the slice stored -/
/-- what a chain of appends has made of a slice -/
def AP (w0 : World) (a : Option Addr) (w : World) (v : Value) (xs : Bs) : Prop := ∃ a2 c2, v = .slice a2 xs.length c2 ∧ Sl w 5 1 a2 xs.length c2 (xs.map u8v) ∧ Fresh w0.heap.size a a2
theorem AP.new {w0 w w' : World} {a : Option Addr} {v : Value} {xs : Bs} (h : AP w0 a w v xs) (hk : Keep [] w w') : AP w0 a w' v xs := by
  obtain ⟨a2, c2, h1, h2, h3⟩ := h
  exact ⟨a2, c2, h1, h2.new hk, h3⟩
/-- an append of bytes that lie elsewhere -/
theorem ap_step {w0 w w' : World} {a a2 a3 : Option Addr} {c3 m : Nat} {xs ys : Bs} (h1 : Fresh w0.heap.size a a2) (hk0 : Keep (blkOf a) w0 w) (hS : Sl w' 5 1 a3 (xs.length + m) c3 (xs.map u8v ++ ys.map u8v)) (hm : m = ys.length) (hk : Keep (blkOf a2) w w') (hv : (a3 = a2 ∧ w'.heap.size = w.heap.size) ∨ (∃ g, a3 = some ⟨g, 0, none⟩ ∧ w.heap.size = g ∧ w'.heap.size = g + 1)) :
    AP w0 a w' (.slice a3 (xs.length + m) c3) (xs ++ ys) ∧ Keep (blkOf a) w0 w' := by
  subst hm
  refine ⟨⟨a3, c3, by rw [List.length_append], by rw [List.length_append, List.map_append]; exact hS, h1.tr (fresh_of hv (Nat.le_refl _)) hk0.size⟩, hk0.trans hk (fun b hb hl => h1.in hb hl)⟩
/-- the slice of the first of three rows is turned -/
theorem R3.app_b {k : Nat} {w0 w1 w2 : World} {rb rd rh : Nat} {B D H B' : Bs} {ab ad ah : Option Addr} {cb cd ch : Nat} {a2 : Option Addr} {c2 : Nat} (g1 : RowX k w0 rb ab cb B) (g2 : RowX k w0 rd ad cd D) (g3 : RowX k w0 rh ah ch H) (s1 : Sep rb ab rd ad) (s2 : Sep rb ab rh ah) (s3 : Sep rd ad rh ah)
    (hS : Sl w1 5 1 a2 B'.length c2 (B'.map u8v)) (hk : Keep (blkOf ab) w0 w1) (hf : Fresh w0.heap.size ab a2) (hB : Blk w2 rb #[.slice a2 B'.length c2] 45) (hk2 : Keep [rb] w1 w2) :
    R3 k w2 rb rd rh B' D H ∧ KeepT [45, 5] k w0 w2 := by
  have hK : Keep (rb :: blkOf ab) w0 w2 := (hk.mono (fun b hb => List.mem_cons_of_mem _ hb)).trans hk2 (fun b hb _ => by simp at hb; subst hb; exact List.mem_cons_self)
  have hX : RowX k w2 rb a2 c2 B' := by
    refine ⟨⟨hB, ?_⟩, g1.2.1, fun q hq => ?_⟩
    · have hb1 : Blk w1 rb _ 45 := g1.1.1.keep hk (g1.1.2.notin g1.1.1 (by decide))
      exact hS.keep hk2 (hS.off hb1 (by decide))
    · rcases hf q hq with h2 | h2
      · cases ab with
        | none => simp [blkOf] at h2
        | some z => simp [blkOf] at h2; rw [h2]; exact g1.2.2 z rfl
      · have := g1.lt; omega
  exact ⟨⟨a2, c2, ad, cd, ah, ch, hX, g2.other g1.1 s1 hK, g3.other g1.1 s2 hK, s1.fresh hf g2.1, s2.fresh hf g3.1, s3⟩, g1.kt hK⟩
theorem R3.swap {k : Nat} {w : World} {rb rd rh : Nat} {B D H : Bs} (h : R3 k w rb rd rh B D H) : R3 k w rd rb rh D B H := by
  obtain ⟨ab, cb, ad, cd, ah, ch, h1, h2, h3, h4, h5, h6⟩ := h
  exact ⟨ad, cd, ab, cb, ah, ch, h2, h1, h3, h4.symm, h6, h5⟩
theorem R2.app_b {k : Nat} {w0 w1 w2 : World} {rb rd : Nat} {B D B' : Bs} {ab ad : Option Addr} {cb cd : Nat} {a2 : Option Addr} {c2 : Nat} (g1 : RowX k w0 rb ab cb B) (g2 : RowX k w0 rd ad cd D) (s1 : Sep rb ab rd ad)
    (hS : Sl w1 5 1 a2 B'.length c2 (B'.map u8v)) (hk : Keep (blkOf ab) w0 w1) (hf : Fresh w0.heap.size ab a2) (hB : Blk w2 rb #[.slice a2 B'.length c2] 45) (hk2 : Keep [rb] w1 w2) :
    R2 k w2 rb rd B' D ∧ KeepT [45, 5] k w0 w2 := by
  have hK : Keep (rb :: blkOf ab) w0 w2 := (hk.mono (fun b hb => List.mem_cons_of_mem _ hb)).trans hk2 (fun b hb _ => by simp at hb; subst hb; exact List.mem_cons_self)
  have hX : RowX k w2 rb a2 c2 B' := by
    refine ⟨⟨hB, ?_⟩, g1.2.1, fun q hq => ?_⟩
    · have hb1 : Blk w1 rb _ 45 := g1.1.1.keep hk (g1.1.2.notin g1.1.1 (by decide))
      exact hS.keep hk2 (hS.off hb1 (by decide))
    · rcases hf q hq with h2 | h2
      · cases ab with
        | none => simp [blkOf] at h2
        | some z => simp [blkOf] at h2; rw [h2]; exact g1.2.2 z rfl
      · have := g1.lt; omega
  exact ⟨⟨a2, c2, ad, cd, hX, g2.other g1.1 s1 hK, s1.fresh hf g2.1⟩, g1.kt hK⟩
/-! ### how long what is made can be -/
theorem sqF_len (bs : Bs) : ∀ f ls i, (sqF bs f ls i).length ≤ 62 * (bs.length - i)
  | 0, _, _ => by simp [sqF]
  | f + 1, ls, i => by
    unfold sqF
    split
    · rename_i h
      rw [List.length_append]
      have h1 := stepB_len bs ls i h
      have h2 := stepN_rng bs ls i h
      have h3 := sqF_len bs f (putsF bs (stepN bs ls i) ls i) (i + stepN bs ls i)
      omega
    · simp
theorem sq_len (bs : Bs) (h : bs.length ≤ 32768) : (pack (sqBits bs)).length ≤ 254000 := by
  have h1 := sqF_len bs bs.length (fun _ => none) 0
  have h2 := wd_le fixL 256 (by decide +kernel)
  rw [pack_len]
  unfold sqBits
  rw [List.length_append, List.length_append, oB_len, vbits_len]
  omega
theorem headB_len (x : It) : (headB x).length = 26 := by
  unfold headB
  rw [List.length_append, List.length_append, putsN_len, putsN_len, putsN_len]
  rfl
theorem packB_len (x : It) (h : x.data.length ≤ 32768) : (packB x).length ≤ 254000 := by
  unfold packB
  split
  · exact sq_len _ h
  · omega
theorem oneLoc_len (x : It) : (oneLoc x).length = 30 + x.name.length + (packB x).length := by
  unfold oneLoc
  rw [List.length_append, List.length_append, List.length_append, headB_len, putsN_len]
  show 4 * 1 + 26 + _ + _ = _
  omega
theorem oneDir_len (x : It) (p : Nat) : (oneDir x p).length = 46 + x.name.length := by
  unfold oneDir
  simp only [List.length_append, headB_len, putsN_len, List.length_cons, List.length_nil]
end Go.Proofs.YtiapgmfooclpcaaDoor

/- The walk of bundle.Make. No condition beyond what its contract names. -/
namespace Go.Proofs.YtiapgmfooclpcaaDoor
open Go.RowKit E
set_option linter.unusedVariables false
set_option linter.unusedSimpArgs false
set_option maxRecDepth 100000
attribute [local irreducible] ow qw kw kq cw opW Ret
theorem inf37 : infB Tryd.prog 37 3 48 (.agg #[.string emp, .slice none 0 0, .bool false]) := ⟨_, rfl, rfl, rfl, rfl⟩
theorem flat3 : ∀ (l : List It) (i j : Nat) (h : i < l.length), j < 3 → (l.flatMap itC)[i * 3 + j]? = (itC l[i])[j]?
  | x :: l, 0, j, h, hj => by
    show (itC x ++ l.flatMap itC)[0 * 3 + j]? = (itC x)[j]?
    rw [Nat.zero_mul, Nat.zero_add, List.getElem?_append_left (by simp [itC]; exact hj)]
  | x :: l, i + 1, j, h, hj => by
    show (itC x ++ l.flatMap itC)[(i + 1) * 3 + j]? = (itC (l[i]'(by simpa using h)))[j]?
    rw [List.getElem?_append_right (by simp [itC]; omega), show (i + 1) * 3 + j - (itC x).length = i * 3 + j by simp [itC]; omega]
    exact flat3 l i j (by simpa using h) hj
theorem flat3_len (l : List It) : (l.flatMap itC).length = l.length * 3 := by
  induction l with
  | nil => rfl
  | cons x l ih => rw [List.flatMap_cons, List.length_append, ih, List.length_cons]; simp [itC]; omega
theorem item_cells {w w1 : World} {b0 o0 : Nat} {l : List It} (hR : Rd w (some ⟨b0, o0, none⟩) (l.flatMap itC)) (hC : Keep [] w w1) (i : Nat) (hi : i < l.length) : ∀ j v, (itC l[i])[j]? = some v → w1.cell? ⟨b0, o0 + i * 3 + j, none⟩ = some v := by
  intro j v hj
  have h3 : j < 3 := by
    have := (List.getElem?_eq_some_iff.1 hj).1
    simpa [itC] using this
  rw [Nat.add_assoc]
  exact hR.cellK hC ((flat3 l i j hi h3).trans hj)
theorem itC_one (x : It) : ∀ u ∈ itC x, u.oneCell' = true := by
  intro u hu
  simp [itC] at hu
  rcases hu with rfl | rfl | rfl <;> rfl
/-- the names seen -/
def seenB (l : List It) (q : ByteArray) : Bool := l.any fun x => decide (bsStr x.name = q)
theorem seenB_iff (l : List It) (q : ByteArray) : seenB l q = true ↔ q ∈ l.map (fun x : It => bsStr x.name) := by
  unfold seenB
  rw [List.any_eq_true]
  constructor
  · rintro ⟨x, hx, h⟩
    exact List.mem_map.2 ⟨x, hx, of_decide_eq_true h⟩
  · intro h
    obtain ⟨x, hx, h⟩ := List.mem_map.1 h
    exact ⟨x, hx, decide_eq_true h⟩
def SeenM (m : List (ByteArray × Value)) (l : List It) : Prop := ∀ q, getM m q = if seenB l q = true then some (Value.bool true) else none
theorem seen_put {m : List (ByteArray × Value)} {l : List It} {i : Nat} (h : SeenM m (l.take i)) (hi : i < l.length) : SeenM (putM m (bsStr l[i].name) (.bool true)) (l.take (i + 1)) := by
  intro q
  have e : seenB (l.take (i + 1)) q = (seenB (l.take i) q || decide (bsStr l[i].name = q)) := by
    unfold seenB
    rw [List.take_succ_eq_append_getElem hi, List.any_append, List.any_cons, List.any_nil, Bool.or_false]
  rw [getM_put, h q, e]
  by_cases hq : q = bsStr l[i].name
  · subst hq
    simp
  · rw [if_neg hq, decide_eq_false (fun hh => hq hh.symm), Bool.or_false]
theorem nodup_take {l : List It} {i : Nat} (hi : i < l.length) (h : (l.map (·.name)).Nodup) : bsStr l[i].name ∉ (l.take i).map (fun x : It => bsStr x.name) := by
  intro hm
  obtain ⟨y, hy, hn⟩ := List.mem_map.1 hm
  have hn' := bsStr_inj hn
  rw [← List.take_append_drop i l, List.map_append, List.nodup_append] at h
  refine h.2.2 y.name (List.mem_map_of_mem hy) l[i].name ?_ hn'
  rw [List.drop_eq_getElem_cons hi]
  exact List.mem_cons_self
theorem nodup_step {l : List It} {i : Nat} (hi : i < l.length) (h : ((l.take i).map (·.name)).Nodup) (hn : bsStr l[i].name ∉ (l.take i).map (fun x : It => bsStr x.name)) : ((l.take (i + 1)).map (·.name)).Nodup := by
  rw [List.take_succ_eq_append_getElem hi, List.map_append, List.nodup_append]
  refine ⟨h, by simp, fun a ha b hb => ?_⟩
  simp at hb
  subst hb
  rintro rfl
  obtain ⟨y, hy, hy2⟩ := List.mem_map.1 ha
  exact hn (List.mem_map.2 ⟨y, hy, by rw [hy2]⟩)
/-- the head, as it is made -/
def GH (k : Nat) (X Y : Bs) (s1 s2 s3 : Bool) (v1 v2 v3 : Value) (w : World) : Prop := (s1 = true → s2 = false → RowG k w v1 []) ∧ (s2 = true → s3 = false → RowG k w v2 X) ∧ (s3 = true → s2 = true ∧ RowG k w v3 Y)
theorem GH.new {k : Nat} {X Y : Bs} {s1 s2 s3 : Bool} {v1 v2 v3 : Value} {w w' : World} (h : GH k X Y s1 s2 s3 v1 v2 v3 w) (hk : Keep [] w w') : GH k X Y s1 s2 s3 v1 v2 v3 w' :=
  ⟨fun a b => (h.1 a b).new hk, fun a b => (h.2.1 a b).new hk, fun a => ⟨(h.2.2 a).1, (h.2.2 a).2.new hk⟩⟩
/-- three appends -/
def GA (w0 : World) (a : Option Addr) (c : Nat) (B B1 B2 B3 : Bs) (s1 s2 s3 : Bool) (v1 v2 v3 : Value) (w : World) : Prop :=
  Keep (blkOf a) w0 w ∧ (s1 = false → Sl w 5 1 a B.length c (B.map u8v)) ∧ (s1 = true → s2 = false → AP w0 a w v1 B1) ∧ (s2 = true → s1 = true ∧ (s3 = false → AP w0 a w v2 B2)) ∧ (s3 = true → s2 = true ∧ AP w0 a w v3 B3)
/-- one append -/
def GA1 (w0 : World) (a : Option Addr) (c : Nat) (B B1 : Bs) (s : Bool) (v : Value) (w : World) : Prop :=
  Keep (blkOf a) w0 w ∧ (s = false → Sl w 5 1 a B.length c (B.map u8v)) ∧ (s = true → AP w0 a w v B1)
/-- three puts -/
def GR (k rb rd : Nat) (B B1 B2 B3 D : Bs) (s1 s2 s3 : Bool) (w : World) : Prop :=
  (s1 = false → R2 k w rb rd B D) ∧ (s1 = true → s2 = false → R2 k w rb rd B1 D) ∧ (s2 = true → s1 = true ∧ (s3 = false → R2 k w rb rd B2 D)) ∧ (s3 = true → s2 = true ∧ R2 k w rb rd B3 D)
theorem GR.new {k rb rd : Nat} {B B1 B2 B3 D : Bs} {s1 s2 s3 : Bool} {w w' : World} (h : GR k rb rd B B1 B2 B3 D s1 s2 s3 w) (hk : Keep [] w w') : GR k rb rd B B1 B2 B3 D s1 s2 s3 w' :=
  ⟨fun a => (h.1 a).new hk, fun a b => (h.2.1 a b).new hk, fun a => ⟨(h.2.2.1 a).1, fun b => ((h.2.2.1 a).2 b).new hk⟩, fun a => ⟨(h.2.2.2 a).1, (h.2.2.2 a).2.new hk⟩⟩
theorem GR.dir {k rb rd : Nat} {B B1 B2 B3 D : Bs} {s1 s2 s3 : Bool} {w : World} (h : GR k rb rd B B1 B2 B3 D s1 s2 s3 w) : ∃ a c, RowX k w rd a c D := by
  have : ∃ B', R2 k w rb rd B' D := by
    cases s1 with
    | false => exact ⟨_, h.1 rfl⟩
    | true =>
      cases s2 with
      | false => exact ⟨_, h.2.1 rfl rfl⟩
      | true =>
        cases s3 with
        | false => exact ⟨_, (h.2.2.1 rfl).2 rfl⟩
        | true => exact ⟨_, (h.2.2.2 rfl).2⟩
  obtain ⟨B', ab, cb, ad, cd, _, h2, _⟩ := this
  exact ⟨ad, cd, h2⟩
def leS (w w' : World) : Prop := w.heap.size ≤ w'.heap.size
theorem leS_refl (w : World) : leS w w := Nat.le_refl _
theorem leS.tr {a b c : World} (h : leS a b) (h' : leS b c) : leS a c := Nat.le_trans h h'
theorem sum_one (a : Option Addr) (c : Nat) (l : Bs) : sumOf [⟨a, c, l⟩] = (crcN l : Int) := by
  show Crc.add 0 l = _
  unfold crcN
  have := (Crc.add_range 0 l).1
  omega
set_option maxHeartbeats 8000000 in
theorem make_ok (w : World) (a : Option Addr) (c : Nat) (l : List It) (hI : Items w a l) (hn : ∀ x ∈ l, x.name.length ≤ 1000000000 ∧ x.data.length ≤ 1000000000) (hl : l.length ≤ 1000000000) :
    Ret Tryd.prog 7 [.slice a l.length c] w (fun v w' => MkR w w' l v) := by
  obtain ⟨hRd, hIt⟩ := hI
  obtain ⟨W0, hW0⟩ : ∃ n, w.heap.size = n := ⟨_, rfl⟩
  refine fn_enter (n := 193) Tryd.func7 rfl rfl (Nat.le_of_ble_eq_true rfl) (fun e => ?_)
  refine k_seq ?_
  refine k_region ?_
  refine m_sl rfl rfl ?_
  refine m_int rfl rfl ?_
  refine o_nil ?_
  refine k_seq ?_
  refine k_seq ?_
  refine k_region ?_
  refine m_sl rfl rfl ?_
  refine o_lens Tryd.underlying22 rfl ?_
  refine b_gtr rfl rfl ?_
  refine o_nil ?_
  refine k_cond rfl (fun h => ?_) (fun h => ?_)
  ·
    refine k_seq ?_
    refine k_region ?_
    refine m_sl rfl rfl ?_
    refine m_int rfl rfl ?_
    refine o_nil ?_
    refine k_ret (ret_tmps (ts := [2, 3]) (v := .tuple #[.slice _ _ _, .int _ _]) rfl rfl ?_)
    exact ⟨Keep.refl _ _, .inl ⟨17, by decide, fun hh => by have := hh.1; omega, rfl⟩⟩
  have h64 : l.length ≤ 64 := by omega
  refine k_skip ?_
  refine k_seq ?_
  refine k_region ?_
  refine o_mkmap Value.string (fun sm w2 hM2 hK2 hb2 hZ2 => ?_)
  refine m_map rfl rfl ?_
  refine o_nil ?_
  refine k_seq ?_
  refine k_seq ?_
  refine k_region ?_
  refine m_sl rfl rfl ?_
  refine o_lens Tryd.underlying22 rfl ?_
  refine m_int rfl rfl ?_
  refine o_nil ?_
  refine k_block ?_
  refine k_loop (σ := Nat) (fun i => [(0, .slice a l.length c), (4, .map (some sm)), (20, .slice a l.length c), (21, .int .i64 (l.length : Int)), (22, .int .i64 (i : Int))]) (fun i w' => i ≤ l.length ∧ (∀ x ∈ l.take i, nameP (bsStr x.name) ∧ x.data.length ≤ 32768) ∧ ((l.take i).map (·.name)).Nodup ∧ (∃ m, Mp w' sm Value.string m ∧ SeenM m (l.take i)) ∧ Keep [] w w') (fun i => l.length - i) 0 ⟨rfl, rfl, rfl, rfl, rfl, trivial⟩ ⟨by omega, by simp, by simp, ⟨[], hM2, fun q => rfl⟩, hK2⟩ (fun i e w3 hJ => ?_)
  obtain ⟨hi, hgood, hnd, ⟨m, hM3, hm3⟩, hk3⟩ := hJ
  clear hM2
  refine k_seq ?_
  refine k_region ?_
  refine b_lss rfl rfl ?_
  refine o_nil ?_
  refine k_seq ?_
  refine k_cond rfl (fun h => ?_) (fun h => ?_)
  rotate_left
  ·
    obtain rfl : i = l.length := by omega
    rw [List.take_length] at hgood hnd
    clear hM3 hm3
    refine k_exit rfl ?_
    refine k_seq ?_
    refine k_region ?_
    refine o_build (v := .agg #[.slice none 0 0]) rfl (fun _ => by kernel_rfl) ?_
    refine o_box rfl rfl (fun rb w4 hB4 hK4 hb4 hZ4 => ?_)
    refine o_build (v := .agg #[.slice none 0 0]) rfl (fun _ => by kernel_rfl) ?_
    refine o_box rfl rfl (fun rd w5 hB5 hK5 hb5 hZ5 => ?_)
    have hs3 := hk3.size
    have hR5 : R2 W0 w5 rb rd [] [] := ⟨none, 0, none, 0, ⟨⟨hB4.keep hK5 (by simp), Sl.nil _ _ _⟩, by omega, by simp⟩, ⟨⟨hB5, Sl.nil _ _ _⟩, by omega, by simp⟩, ⟨by omega, by simp⟩⟩
    have hk5 : Keep [] w w5 := (hk3.tr hK4).tr hK5
    clear hB4 hB5
    refine m_ptr rfl rfl ?_
    refine m_ptr rfl rfl ?_
    refine o_nil ?_
    refine k_seq ?_
    refine k_seq ?_
    refine k_region ?_
    refine m_sl rfl rfl ?_
    refine o_lens Tryd.underlying22 rfl ?_
    refine m_int rfl rfl ?_
    refine o_nil ?_
    refine k_block ?_
    refine k_loop (σ := Nat) (fun i => [(0, .slice a l.length c), (7, .pointer (some ⟨rb, 0, none⟩)), (8, .pointer (some ⟨rd, 0, none⟩)), (49, .slice a l.length c), (50, .int .i64 (l.length : Int)), (51, .int .i64 (i : Int))]) (fun i w' => i ≤ l.length ∧ R2 W0 w' rb rd (locsB (l.take i)) (dirsB (l.take i)) ∧ (∀ j, j < i → (locsB (l.take j)).length ≤ 65536) ∧ (locsB (l.take i)).length ≤ 400000 ∧ (dirsB (l.take i)).length ≤ 110 * i ∧ Keep [] w w') (fun i => l.length - i) 0 ⟨rfl, rfl, rfl, rfl, rfl, rfl, trivial⟩ ⟨by omega, hR5, fun j hj => by omega, by simp [locsB], by simp [dirsB, dirsF], hk5⟩ (fun i e w6 hJ => ?_)
    clear hR5
    obtain ⟨hi, hR6, hlo, hlb, hld, hk6⟩ := hJ
    refine k_seq ?_
    refine k_region ?_
    refine b_lss rfl rfl ?_
    refine o_nil ?_
    refine k_seq ?_
    refine k_cond rfl (fun h => ?_) (fun h => ?_)
    rotate_left
    ·
      obtain rfl : i = l.length := by omega
      rw [List.take_length] at hR6 hlb hld
      obtain ⟨ab, cb, ad, cd, g1, g2, s1⟩ := hR6
      refine k_exit rfl ?_
      refine k_seq ?_
      refine k_region ?_
      refine m_ptr rfl rfl ?_
      refine o_nilc rfl ?_
      refine o_fld0 rfl rfl ?_
      refine o_ld rfl rfl (g1.1.1.at rfl) ?_
      obtain ⟨B0, hB0⟩ : ∃ B0, locsB l = B0 := ⟨_, rfl⟩
      obtain ⟨D0, hD0⟩ : ∃ D0, dirsB l = D0 := ⟨_, rfl⟩
      rw [hB0] at g1 hlb
      rw [hD0] at g2 hld
      rw [hB0]
      have hB6r : Blk w6 rb #[.slice ab B0.length cb] 45 := g1.1.1
      refine o_lens Tryd.underlying25 rfl ?_
      refine m_int rfl rfl ?_
      refine o_nil ?_
      refine k_seq ?_
      refine k_anyE 10 (leS) (fun iA => match iA with
          | 0 => fun v w => v = .pointer (some ⟨rb, 0, none⟩)
          | 1 => fun v w => v = .pointer (some ⟨rb, 0, none⟩)
          | 2 => fun v w => v = .pointer (some ⟨rb, 0, none⟩)
          | 3 => fun v w => v = .pointer (some ⟨rb, 0, none⟩)
          | 4 => fun v w => v = .slice ab B0.length cb
          | 5 => fun v w => v = .pointer (some ⟨rd, 0, none⟩)
          | 6 => fun v w => v = .pointer (some ⟨rd, 0, none⟩)
          | 7 => fun v w => v = .pointer (some ⟨rd, 0, none⟩)
          | 8 => fun v w => v = .slice ad D0.length cd
          | 9 => fun v w => True
          | _ => fun v w => True) (fun D e w' => GA1 w6 ab cb B0 (B0 ++ D0) (D 9) (e 161) w') rfl rfl rfl rfl (leS_refl) (fun _ _ _ h1 h2 => leS.tr h1 h2) ?_ (⟨(Keep.refl _ _).drew, fun _ => g1.1.2, fun h => (by cases h)⟩) ?_ ?_
      · intro iA v w w' h hL
        match iA, h with
        | 0, h =>
          exact h
        | 1, h =>
          exact h
        | 2, h =>
          exact h
        | 3, h =>
          exact h
        | 4, h =>
          exact h
        | 5, h =>
          exact h
        | 6, h =>
          exact h
        | 7, h =>
          exact h
        | 8, h =>
          exact h
        | 9, h =>
          exact h
        | _ + 10, h => trivial
      · intro iA o him hl D eA wA hDi hdp hSh hG hL hA hD
        match iA, him, hl with
        | 0, _, hl =>
          obtain rfl := Option.some.inj hl
          refine o_gen [(7, _)] ⟨hA 7 (free_of rfl), trivial⟩ (fun e2 => ?_)
          refine m_ptr rfl rfl ?_
          refine o_nil ⟨(leS_refl) _, rfl, hG⟩
        | 1, _, hl =>
          obtain rfl := Option.some.inj hl
          refine o_gen [(7, _)] ⟨hA 7 (free_of rfl), trivial⟩ (fun e2 => ?_)
          refine m_ptr rfl rfl ?_
          refine o_nil ⟨(leS_refl) _, rfl, hG⟩
        | 2, _, hl =>
          obtain rfl := Option.some.inj hl
          refine o_gen [(153, _)] ⟨hD 1 (by decide) 153 rfl, trivial⟩ (fun e2 => ?_)
          refine o_nilc rfl ?_
          refine o_nil ⟨(leS_refl) _, rfl, hG⟩
        | 3, _, hl =>
          obtain rfl := Option.some.inj hl
          refine o_gen [(154, _)] ⟨hD 2 (by decide) 154 rfl, trivial⟩ (fun e2 => ?_)
          refine o_fld0 rfl rfl ?_
          refine o_nil ⟨(leS_refl) _, rfl, hG⟩
        | 4, _, hl =>
          obtain rfl := Option.some.inj hl
          refine o_gen [(155, _)] ⟨hD 3 (by decide) 155 rfl, trivial⟩ (fun e2 => ?_)
          refine o_ld rfl rfl ((hB6r.keep hG.1 (g1.1.2.notin hB6r (by decide))).at rfl) ?_
          refine o_nil ⟨(leS_refl) _, rfl, hG⟩
        | 5, _, hl =>
          obtain rfl := Option.some.inj hl
          refine o_gen [(8, _)] ⟨hA 8 (free_of rfl), trivial⟩ (fun e2 => ?_)
          refine m_ptr rfl rfl ?_
          refine o_nil ⟨(leS_refl) _, rfl, hG⟩
        | 6, _, hl =>
          obtain rfl := Option.some.inj hl
          refine o_gen [(157, _)] ⟨hD 5 (by decide) 157 rfl, trivial⟩ (fun e2 => ?_)
          refine o_nilc rfl ?_
          refine o_nil ⟨(leS_refl) _, rfl, hG⟩
        | 7, _, hl =>
          obtain rfl := Option.some.inj hl
          refine o_gen [(158, _)] ⟨hD 6 (by decide) 158 rfl, trivial⟩ (fun e2 => ?_)
          refine o_fld0 rfl rfl ?_
          refine o_nil ⟨(leS_refl) _, rfl, hG⟩
        | 8, _, hl =>
          obtain rfl := Option.some.inj hl
          refine o_gen [(159, _)] ⟨hD 7 (by decide) 159 rfl, trivial⟩ (fun e2 => ?_)
          refine o_ld rfl rfl ((g2.1.1.keep hG.1 (g1.1.2.notin g2.1.1 (by decide))).at rfl) ?_
          refine o_nil ⟨(leS_refl) _, rfl, hG⟩
        | 9, _, hl =>
          obtain rfl := Option.some.inj hl
          refine o_gen [(156, _), (160, _)] ⟨hD 4 (by decide) 156 rfl, hD 8 (by decide) 160 rfl, trivial⟩ (fun e2 => ?_)
          refine o_app Tryd.underlying25 inf5 rfl (by decide) rfl rfl (hG.2.1 hDi) (g2.1.2.rd.keep hG.1 s1.offB) (by simp) (u8_one _) (by simp [maxLen]; omega) (by omega) (fun a2 c2 w2 hS2 hK2 hv2 => ?_)
          obtain ⟨hap, hkk⟩ := ap_step (Fresh.refl _ _) hG.1 hS2 rfl hK2 hv2
          exact o_nil ⟨hK2.size, trivial, ⟨hkk, fun h => (by cases h), fun _ => hap⟩⟩
        | _ + 10, him, _ => exact absurd him (by omega)
      intro D eA wA hAll hG hL hA hV
      obtain ⟨hkA, _, hfin⟩ := hG
      obtain ⟨a6, c6, he6, hS6, hf6⟩ := hfin (hAll 9 (by decide) (by decide))
      refine o_gen [(0, .slice a l.length c), (7, .pointer (some ⟨rb, 0, none⟩)), (8, .pointer (some ⟨rd, 0, none⟩)), (15, nv B0.length), (152, .pointer (some ⟨rb, 0, none⟩)), (161, .slice a6 (B0 ++ D0).length c6)] ⟨hA 0 (free_of rfl), hA 7 (free_of rfl), hA 8 (free_of rfl), hA 15 (free_of rfl), hV 0 (by decide) 152 rfl, he6, trivial⟩ (fun e3 => ?_)
      clear hV hA hAll hfin
      have hBA := hB6r.keep hkA (g1.1.2.notin hB6r (by decide))
      refine o_nilc rfl ?_
      refine o_fld0 rfl rfl ?_
      refine o_st (v := .slice a6 _ c6) rfl rfl rfl rfl hBA (by simp) (fun w7 hB7 hK7 hZ7 => ?_)
      obtain ⟨hR7, hT7⟩ := R2.app_b g1 g2 s1 hS6 hkA hf6 hB7 hK7
      have hkw7 := hT7.below hk6 (Nat.le_of_eq hW0)
      clear g1 g2 s1 hS6 hf6 hBA hB7 hK7 hB6r
      have hBDl : (B0 ++ D0).length ≤ 500000 := by rw [List.length_append]; omega
      refine o_nil ?_
      refine k_seq ?_
      refine k_anyE 18 (KeepT [45, 5] W0) (fun iA => match iA with
          | 0 => fun v w => v = .pointer (some ⟨rb, 0, none⟩)
          | 1 => fun v w => ∃ g, v = .slice (some ⟨g, 0, none⟩) 2 2 ∧ Blk w g ([101010256, 0].map nv).toArray 3
          | 2 => fun v w => v = .pointer (some ⟨rb, 0, none⟩)
          | 3 => fun v w => v = .slice a l.length c
          | 4 => fun v w => v = nv l.length
          | 5 => fun v w => v = .slice a l.length c
          | 6 => fun v w => v = nv l.length
          | 7 => fun v w => ∃ g, v = .slice (some ⟨g, 0, none⟩) 2 2 ∧ Blk w g ([l.length, l.length].map nv).toArray 3
          | 8 => fun v w => v = .pointer (some ⟨rb, 0, none⟩)
          | 9 => fun v w => v = .pointer (some ⟨rd, 0, none⟩)
          | 10 => fun v w => v = .pointer (some ⟨rd, 0, none⟩)
          | 11 => fun v w => v = .pointer (some ⟨rd, 0, none⟩)
          | 12 => fun v w => ∃ a c, v = .slice a D0.length c
          | 13 => fun v w => v = nv D0.length
          | 14 => fun v w => v = nv B0.length
          | 15 => fun v w => ∃ g, v = .slice (some ⟨g, 0, none⟩) 2 2 ∧ Blk w g ([D0.length, B0.length].map nv).toArray 3
          | 16 => fun v w => v = .pointer (some ⟨rb, 0, none⟩)
          | 17 => fun v w => ∃ g, v = .slice (some ⟨g, 0, none⟩) 1 1 ∧ Blk w g ([0].map nv).toArray 3
          | _ => fun v w => True) (fun D e w' => GR W0 rb rd (B0 ++ D0) (B0 ++ D0 ++ putsN 4 [101010256, 0]) (B0 ++ D0 ++ putsN 4 [101010256, 0] ++ putsN 2 [l.length, l.length]) (B0 ++ D0 ++ putsN 4 [101010256, 0] ++ putsN 2 [l.length, l.length] ++ putsN 4 [D0.length, B0.length]) D0 (D 2) (D 8) (D 16) w') rfl rfl rfl rfl (fun w => (Keep.refl [] w).t) (fun _ _ _ h1 h2 => h1.tr h2) ?_ (⟨fun _ => hR7.new (Keep.refl [] w7).drew, fun h => (by cases h), fun h => (by cases h), fun h => (by cases h)⟩) ?_ ?_
      · intro iA v w w' h hL
        match iA, h with
        | 0, h =>
          exact h
        | 1, h =>
          obtain ⟨g, h1, h2⟩ := h
          exact ⟨g, h1, h2.kt hL (by decide)⟩
        | 2, h =>
          exact h
        | 3, h =>
          exact h
        | 4, h =>
          exact h
        | 5, h =>
          exact h
        | 6, h =>
          exact h
        | 7, h =>
          obtain ⟨g, h1, h2⟩ := h
          exact ⟨g, h1, h2.kt hL (by decide)⟩
        | 8, h =>
          exact h
        | 9, h =>
          exact h
        | 10, h =>
          exact h
        | 11, h =>
          exact h
        | 12, h =>
          exact h
        | 13, h =>
          exact h
        | 14, h =>
          exact h
        | 15, h =>
          obtain ⟨g, h1, h2⟩ := h
          exact ⟨g, h1, h2.kt hL (by decide)⟩
        | 16, h =>
          exact h
        | 17, h =>
          obtain ⟨g, h1, h2⟩ := h
          exact ⟨g, h1, h2.kt hL (by decide)⟩
        | _ + 18, h => trivial
      · intro iA o him hl D eA wA hDi hdp hSh hG hL hA hD
        match iA, him, hl with
        | 0, _, hl =>
          obtain rfl := Option.some.inj hl
          refine o_gen [(7, _)] ⟨hA 7 (free_of rfl), trivial⟩ (fun e2 => ?_)
          refine m_ptr rfl rfl ?_
          refine o_nil ⟨(fun w => (Keep.refl [] w).t) _, rfl, hG⟩
        | 1, _, hl =>
          obtain rfl := Option.some.inj hl
          refine o_gen [] trivial (fun e2 => ?_)
          refine o_bsl (E := 3) (cs := ([101010256, 0].map nv).toArray) rfl (fun _ => by kernel_rfl) (fun g w2 hB2 hK2 hb2 hZ2 => ?_)
          exact o_nil ⟨hK2.t, ⟨g, rfl, hB2⟩, hG.new hK2⟩
        | 2, _, hl =>
          obtain rfl := Option.some.inj hl
          obtain ⟨g, hg, hgB⟩ := hD 1 (by decide) 165 rfl
          refine o_gen [(164, .pointer (some ⟨rb, 0, none⟩)), (165, _)] ⟨hD 0 (by decide) 164 rfl, hg, trivial⟩ (fun e2 => ?_)
          refine o_call rfl rfl (put_b2 W0 wA rb rd 4 g _ D0 [101010256, 0] (hG.1 hDi) hgB (by decide) (by decide) (by simp) (by omega)) (fun u w2 hu => ?_)
          exact o_nil ⟨hu.2.2, hu.1, ⟨fun h => (by cases h), fun _ _ => hu.2.1, fun h => absurd ((hG.2.2.1 h).1.symm.trans hDi) (by decide), fun h => absurd ((hG.2.2.1 (hG.2.2.2 h).1).1.symm.trans hDi) (by decide)⟩⟩
        | 3, _, hl =>
          obtain rfl := Option.some.inj hl
          refine o_gen [(0, _)] ⟨hA 0 (free_of rfl), trivial⟩ (fun e2 => ?_)
          refine m_sl rfl rfl ?_
          refine o_nil ⟨(fun w => (Keep.refl [] w).t) _, rfl, hG⟩
        | 4, _, hl =>
          obtain rfl := Option.some.inj hl
          refine o_gen [(167, _)] ⟨hD 3 (by decide) 167 rfl, trivial⟩ (fun e2 => ?_)
          refine o_lens Tryd.underlying22 rfl ?_
          refine o_nil ⟨(fun w => (Keep.refl [] w).t) _, rfl, hG⟩
        | 5, _, hl =>
          obtain rfl := Option.some.inj hl
          refine o_gen [(0, _)] ⟨hA 0 (free_of rfl), trivial⟩ (fun e2 => ?_)
          refine m_sl rfl rfl ?_
          refine o_nil ⟨(fun w => (Keep.refl [] w).t) _, rfl, hG⟩
        | 6, _, hl =>
          obtain rfl := Option.some.inj hl
          refine o_gen [(169, _)] ⟨hD 5 (by decide) 169 rfl, trivial⟩ (fun e2 => ?_)
          refine o_lens Tryd.underlying22 rfl ?_
          refine o_nil ⟨(fun w => (Keep.refl [] w).t) _, rfl, hG⟩
        | 7, _, hl =>
          obtain rfl := Option.some.inj hl
          refine o_gen [(168, nv l.length), (170, nv l.length)] ⟨hD 4 (by decide) 168 rfl, hD 6 (by decide) 170 rfl, trivial⟩ (fun e2 => ?_)
          refine o_bsl (E := 3) (cs := ([l.length, l.length].map nv).toArray) rfl (fun _ => by kernel_rfl) (fun g w2 hB2 hK2 hb2 hZ2 => ?_)
          exact o_nil ⟨hK2.t, ⟨g, rfl, hB2⟩, hG.new hK2⟩
        | 8, _, hl =>
          obtain rfl := Option.some.inj hl
          obtain ⟨g, hg, hgB⟩ := hD 7 (by decide) 171 rfl
          refine o_gen [(166, .pointer (some ⟨rb, 0, none⟩)), (171, _)] ⟨hD 2 (by decide) 166 rfl, hg, trivial⟩ (fun e2 => ?_)
          refine o_call rfl rfl (put_b2 W0 wA rb rd 2 g _ D0 [l.length, l.length] (hG.2.1 (hdp 2 (by decide)) hDi) hgB (by decide) (by decide) (by simp) (by rw [List.length_append, putsN_len]; simp; omega)) (fun u w2 hu => ?_)
          exact o_nil ⟨hu.2.2, hu.1, ⟨fun h => absurd ((hdp 2 (by decide)).symm.trans h) (by decide), fun _ h => (by cases h), fun _ => ⟨hdp 2 (by decide), fun _ => hu.2.1⟩, fun h => absurd ((hG.2.2.2 h).1.symm.trans hDi) (by decide)⟩⟩
        | 9, _, hl =>
          obtain rfl := Option.some.inj hl
          refine o_gen [(8, _)] ⟨hA 8 (free_of rfl), trivial⟩ (fun e2 => ?_)
          refine m_ptr rfl rfl ?_
          refine o_nil ⟨(fun w => (Keep.refl [] w).t) _, rfl, hG⟩
        | 10, _, hl =>
          obtain rfl := Option.some.inj hl
          refine o_gen [(173, _)] ⟨hD 9 (by decide) 173 rfl, trivial⟩ (fun e2 => ?_)
          refine o_nilc rfl ?_
          refine o_nil ⟨(fun w => (Keep.refl [] w).t) _, rfl, hG⟩
        | 11, _, hl =>
          obtain rfl := Option.some.inj hl
          refine o_gen [(174, _)] ⟨hD 10 (by decide) 174 rfl, trivial⟩ (fun e2 => ?_)
          refine o_fld0 rfl rfl ?_
          refine o_nil ⟨(fun w => (Keep.refl [] w).t) _, rfl, hG⟩
        | 12, _, hl =>
          obtain rfl := Option.some.inj hl
          refine o_gen [(175, _)] ⟨hD 11 (by decide) 175 rfl, trivial⟩ (fun e2 => ?_)
          obtain ⟨ad, cd, hRX⟩ := hG.dir
          refine o_ld rfl rfl (hRX.1.1.at rfl) ?_
          exact o_nil ⟨(Keep.refl [] _).t, ⟨ad, cd, rfl⟩, hG⟩
        | 13, _, hl =>
          obtain rfl := Option.some.inj hl
          obtain ⟨ad, cd, h12⟩ := hD 12 (by decide) 176 rfl
          refine o_gen [(176, .slice ad D0.length cd)] ⟨h12, trivial⟩ (fun e2 => ?_)
          refine o_lens Tryd.underlying25 rfl ?_
          refine o_nil ⟨(fun w => (Keep.refl [] w).t) _, rfl, hG⟩
        | 14, _, hl =>
          obtain rfl := Option.some.inj hl
          refine o_gen [(15, _)] ⟨hA 15 (free_of rfl), trivial⟩ (fun e2 => ?_)
          refine m_int rfl rfl ?_
          refine o_nil ⟨(fun w => (Keep.refl [] w).t) _, rfl, hG⟩
        | 15, _, hl =>
          obtain rfl := Option.some.inj hl
          refine o_gen [(177, nv D0.length), (178, nv B0.length)] ⟨hD 13 (by decide) 177 rfl, hD 14 (by decide) 178 rfl, trivial⟩ (fun e2 => ?_)
          refine o_bsl (E := 3) (cs := ([D0.length, B0.length].map nv).toArray) rfl (fun _ => by kernel_rfl) (fun g w2 hB2 hK2 hb2 hZ2 => ?_)
          exact o_nil ⟨hK2.t, ⟨g, rfl, hB2⟩, hG.new hK2⟩
        | 16, _, hl =>
          obtain rfl := Option.some.inj hl
          obtain ⟨g, hg, hgB⟩ := hD 15 (by decide) 179 rfl
          refine o_gen [(172, .pointer (some ⟨rb, 0, none⟩)), (179, _)] ⟨hD 8 (by decide) 172 rfl, hg, trivial⟩ (fun e2 => ?_)
          refine o_call rfl rfl (put_b2 W0 wA rb rd 4 g _ D0 [D0.length, B0.length] ((hG.2.2.1 (hdp 8 (by decide))).2 hDi) hgB (by decide) (by decide) (by simp) (by rw [List.length_append, List.length_append, putsN_len, putsN_len]; simp; omega)) (fun u w2 hu => ?_)
          exact o_nil ⟨hu.2.2, hu.1, ⟨fun h => absurd ((hG.2.2.1 (hdp 8 (by decide))).1.symm.trans h) (by decide), fun _ h => absurd ((hdp 8 (by decide)).symm.trans h) (by decide), fun _ => ⟨(hG.2.2.1 (hdp 8 (by decide))).1, fun h => (by cases h)⟩, fun _ => ⟨hdp 8 (by decide), hu.2.1⟩⟩⟩
        | 17, _, hl =>
          obtain rfl := Option.some.inj hl
          refine o_gen [] trivial (fun e2 => ?_)
          refine o_bsl (E := 3) (cs := ([0].map nv).toArray) rfl (fun _ => by kernel_rfl) (fun g w2 hB2 hK2 hb2 hZ2 => ?_)
          exact o_nil ⟨hK2.t, ⟨g, rfl, hB2⟩, hG.new hK2⟩
        | _ + 18, him, _ => exact absurd him (by omega)
      intro D eA wA hAll hG hL hA hV
      obtain ⟨g, hg, hgB⟩ := hV 17 (by decide) 181 rfl
      have hRA := (hG.2.2.2 (hAll 16 (by decide) (by decide))).2
      have hkwA : Keep [] w wA := hL.below hkw7.drew (Nat.le_of_eq hW0)
      refine o_gen [(7, .pointer (some ⟨rb, 0, none⟩)), (180, .pointer (some ⟨rb, 0, none⟩)), (181, .slice (some ⟨g, 0, none⟩) 1 1)] ⟨hA 7 (free_of rfl), hV 16 (by decide) 180 rfl, hg, trivial⟩ (fun e3 => ?_)
      clear hV hA hAll hG
      refine o_call rfl rfl (put_b2 W0 wA rb rd 2 g _ D0 [0] hRA hgB (by decide) (by decide) (by simp) (by rw [List.length_append, List.length_append, List.length_append, putsN_len, putsN_len, putsN_len]; simp; omega)) (fun u w8 hu => ?_)
      obtain ⟨rfl, hR8, hT8⟩ := hu
      have hkw8 := hT8.below hkwA (Nat.le_of_eq hW0)
      have harch : archB l = B0 ++ D0 ++ putsN 4 [101010256, 0] ++ putsN 2 [l.length, l.length] ++ putsN 4 [D0.length, B0.length] ++ putsN 2 [0] := by
       unfold archB endB
       rw [hB0, hD0]
       simp only [List.append_assoc]
      rw [← harch] at hR8
      obtain ⟨a9, c9, ad9, cd9, g1, g2, s1⟩ := hR8
      refine o_nil ?_
      refine k_seq ?_
      refine k_seq ?_
      refine k_region ?_
      refine m_ptr rfl rfl ?_
      refine o_nilc rfl ?_
      refine o_fld0 rfl rfl ?_
      refine o_ld rfl rfl (g1.1.1.at rfl) ?_
      refine o_lens Tryd.underlying25 rfl ?_
      refine b_gtr rfl rfl ?_
      refine o_nil ?_
      refine k_cond rfl (fun h => ?_) (fun h => ?_)
      ·
        refine k_seq ?_
        refine k_region ?_
        refine m_sl rfl rfl ?_
        refine m_int rfl rfl ?_
        refine o_nil ?_
        refine k_ret (ret_tmps (ts := [2, 3]) (v := .tuple #[.slice _ _ _, .int _ _]) rfl rfl ?_)
        exact ⟨hkw8, .inl ⟨8, by decide, fun hh => by have := hh.2.2.2.2.2; omega, rfl⟩⟩
      refine k_skip ?_
      refine k_seq ?_
      refine k_region ?_
      refine m_ptr rfl rfl ?_
      refine o_nilc rfl ?_
      refine o_fld0 rfl rfl ?_
      refine o_ld rfl rfl (g1.1.1.at rfl) ?_
      refine m_sl rfl rfl ?_
      refine m_int rfl rfl ?_
      refine o_nil ?_
      refine k_ret (ret_tmps (ts := [2, 3]) (v := .tuple #[.slice _ _ _, .int _ _]) rfl rfl ?_)
      exact ⟨hkw8, .inr ⟨⟨h64, fun y hy => (hgood y hy).1, hnd, fun y hy => (hgood y hy).2, hlo, by omega⟩, _, rfl, a9, c9, by rw [List.length_map], by rw [List.length_map]; exact g1.1.2, fun q hq => by have := g1.2.2 q hq; omega⟩⟩
    have hil : i < l.length := by omega
    obtain ⟨b0, o0, rfl, _⟩ := hRd.at (i * 3) (by rw [flat3_len]; omega)
    obtain ⟨x, hx⟩ : ∃ x, l[i] = x := ⟨_, rfl⟩
    have hxm : x ∈ l := hx ▸ List.getElem_mem hil
    have hnx := hn x hxm
    have hIx := hIt x hxm
    have hgx := hgood x hxm
    have hnl : x.name.length ≤ 64 := by have := hgx.1.2.1; rw [bsStr_size] at this; exact this
    refine k_skip ?_
    refine k_seq ?_
    refine k_block ?_
    refine k_seq ?_
    refine k_region ?_
    refine o_ixs (sz := 3) (m := i) Tryd.underlying22 rfl rfl rfl hil ?_
    refine o_lda (xs := itC x) rfl rfl rfl (by rw [← hx]; exact item_cells hRd hk6 i hil) ?_
    refine o_alloc (cs := #[.string emp, .slice none 0 0, .bool false]) inf37 rfl (fun b10 w7 hB7 hK7 hb7 hZ7 => ?_)
    refine o_sta (xs := itC x) rfl rfl rfl (itC_one x) hB7 (Nat.le_refl 3) (fun w8 hB8 hK8 hZ8 => ?_)
    have hB8 := sta_all hB8 rfl
    have hk68 : Keep [] w6 w8 := hK7.tr1 hK8 (by omega)
    have hs6 := hk6.size
    refine o_nil ?_
    refine k_seq ?_
    refine k_region ?_
    refine o_fld (off := 1) rfl rfl ?_
    refine o_ld rfl rfl (blk_l hB8 (i := 1) rfl) ?_
    refine m_sl rfl rfl ?_
    refine m_int rfl rfl ?_
    refine o_nil ?_
    refine k_seq ?_
    refine k_seq ?_
    refine k_region ?_
    refine o_fld (off := 2) rfl rfl ?_
    refine o_ld rfl rfl (blk_l hB8 (i := 2) rfl) ?_
    refine o_nil ?_
    refine k_cut (σ := Option Addr × Nat) (fun s => [(0, .slice (some ⟨b0, o0, none⟩) l.length c), (7, .pointer (some ⟨rb, 0, none⟩)), (8, .pointer (some ⟨rd, 0, none⟩)), (10, .pointer (some ⟨b10, 0, none⟩)), (11, .slice s.1 (packB x).length s.2), (12, nv (methN x)), (49, .slice (some ⟨b0, o0, none⟩) l.length c), (50, .int .i64 (l.length : Int)), (51, .int .i64 (i : Int))]) (fun s w' => Rd w' s.1 ((packB x).map u8v) ∧ (packB x ≠ [] → ∀ q, s.1 = some q → (q.block < W0 ∨ w6.heap.size ≤ q.block) ∧ q.block < w'.heap.size) ∧ Keep [] w6 w' ∧ Blk w' b10 (itC x).toArray 37) ?_ (fun s e w10 hJ => ?_)
    ·
      refine k_condb rfl (fun h58 => ?_) (fun h58 => ?_)
      ·
        have hpk : packB x = pack (sqBits x.data) := by unfold packB; rw [if_pos h58]
        have hme : methN x = 8 := by unfold methN; rw [if_pos h58]
        refine k_seq ?_
        refine k_region ?_
        refine o_fld (off := 1) rfl rfl ?_
        refine o_ld rfl rfl (blk_l hB8 (i := 1) rfl) ?_
        refine o_call rfl rfl (squ_ok w8 x.a x.c x.data (hIx.1.new (hk6.tr hk68)) hIx.2 hgx.2) (fun v w9 hv => ?_)
        obtain ⟨u, rfl, ⟨a2, c2, rfl, hS9, hf9⟩, hK9⟩ := hv
        rw [List.length_map] at *
        refine m_any rfl rfl ?_
        refine o_extr (vs := [.slice a2 (pack (sqBits x.data)).length c2, .int .i64 0]) rfl rfl ?_
        refine o_extr (vs := [.slice a2 (pack (sqBits x.data)).length c2, .int .i64 0]) rfl rfl ?_
        refine m_sl rfl rfl ?_
        refine o_nil ?_
        refine k_region ?_
        refine m_int rfl rfl ?_
        refine o_nil ?_
        have hs68 := hk68.size
        rw [hpk, hme]
        exact k_goal ⟨(a2, c2), ⟨rfl, rfl, rfl, rfl, rfl, rfl, rfl, rfl, rfl, trivial⟩, hS9.rd, fun _ q hq => ⟨.inr (by have := hf9 q hq; omega), hS9.lt q hq⟩, hk68.tr hK9, hB8.keep hK9 (by simp)⟩
      refine k_skip ?_
      have hpk : packB x = x.data := by unfold packB; rw [h58]; rfl
      have hme : methN x = 0 := by unfold methN; rw [h58]; rfl
      have hs68 := hk68.size
      rw [hpk, hme]
      exact k_goal ⟨(x.a, x.c), ⟨rfl, rfl, rfl, rfl, rfl, rfl, rfl, rfl, rfl, trivial⟩, hIx.1.new (hk6.tr hk68), fun hne q hq => by
        have hlt := hIx.1.ltn (by simpa using hne) q hq
        exact ⟨.inl (by omega), by omega⟩, hk68, hB8⟩
    obtain ⟨pa, pc⟩ := s
    obtain ⟨hP10, hpo, hk10, hB10⟩ := hJ
    simp only at hP10 hpo ⊢
    clear hB8
    obtain ⟨ab, cb, ad, cd, g16, g26, s1⟩ := hR6
    have hab : ∀ q, ab = some q → q.block < w6.heap.size := g16.1.2.lt
    have hrb : rb < w6.heap.size := g16.1.1.lt
    have g1 := g16.new hk10
    have g2 := g26.new hk10
    have hkw10 : Keep [] w w10 := hk6.tr hk10
    obtain ⟨K, hK10⟩ : ∃ K, w10.heap.size = K := ⟨_, rfl⟩
    have hBl : (locsB (l.take i)).length ≤ 400000 := hlb
    refine k_seq ?_
    refine k_region ?_
    refine m_ptr rfl rfl ?_
    refine o_nilc rfl ?_
    refine o_fld0 rfl rfl ?_
    refine o_ld rfl rfl (g1.1.1.at rfl) ?_
    refine o_lens Tryd.underlying25 rfl ?_
    refine m_int rfl rfl ?_
    refine o_nil ?_
    refine k_seq ?_
    refine k_seq ?_
    refine k_region ?_
    refine m_int rfl rfl ?_
    refine b_gtr rfl rfl ?_
    refine o_nil ?_
    refine k_cond rfl (fun h => ?_) (fun h => ?_)
    ·
      refine k_seq ?_
      refine k_region ?_
      refine m_sl rfl rfl ?_
      refine m_int rfl rfl ?_
      refine o_nil ?_
      refine k_ret (ret_tmps (ts := [2, 3]) (v := .tuple #[.slice _ _ _, .int _ _]) rfl rfl ?_)
      exact ⟨hkw10, .inl ⟨8, by decide, fun hh => by have := hh.2.2.2.2.1 i hil; omega, rfl⟩⟩
    have hB6 : (locsB (l.take i)).length ≤ 65536 := by omega
    refine k_skip ?_
    refine k_seq ?_
    refine k_anyE 20 (KeepT [45, 5] K) (fun iA => match iA with
        | 0 => fun v w => v = .agg #[.slice none 0 0]
        | 1 => fun v w => True
        | 2 => fun v w => v = nv (methN x)
        | 3 => fun v w => ∃ g, v = .slice (some ⟨g, 0, none⟩) 5 5 ∧ Blk w g ([20, 0, methN x, 0, 33].map nv).toArray 3
        | 4 => fun v w => True
        | 5 => fun v w => v = .pointer (some ⟨b10, 1, none⟩)
        | 6 => fun v w => v = .slice x.a x.data.length x.c
        | 7 => fun v w => ∃ g, v = .slice (some ⟨g, 0, none⟩) 1 1 ∧ Blk w g #[.slice x.a x.data.length x.c] 25
        | 8 => fun v w => v = nv (crcN x.data)
        | 9 => fun v w => v = .slice pa (packB x).length pc
        | 10 => fun v w => v = nv (packB x).length
        | 11 => fun v w => v = .pointer (some ⟨b10, 1, none⟩)
        | 12 => fun v w => v = .slice x.a x.data.length x.c
        | 13 => fun v w => v = nv x.data.length
        | 14 => fun v w => ∃ g, v = .slice (some ⟨g, 0, none⟩) 3 3 ∧ Blk w g ([crcN x.data, (packB x).length, x.data.length].map nv).toArray 3
        | 15 => fun v w => True
        | 16 => fun v w => v = .pointer (some ⟨b10, 0, none⟩)
        | 17 => fun v w => v = .string (bsStr x.name)
        | 18 => fun v w => v = nv x.name.length
        | 19 => fun v w => ∃ g, v = .slice (some ⟨g, 0, none⟩) 2 2 ∧ Blk w g ([x.name.length, 0].map nv).toArray 3
        | _ => fun v w => True) (fun D e w' => GH K (putsN 2 [20, 0, methN x, 0, 33]) (putsN 2 [20, 0, methN x, 0, 33] ++ putsN 4 [crcN x.data, (packB x).length, x.data.length]) (D 1) (D 4) (D 15) (e 73) (e 76) (e 87) w') rfl rfl rfl rfl (fun w => (Keep.refl [] w).t) (fun _ _ _ h1 h2 => h1.tr h2) ?_ (⟨fun h => (by cases h), fun h => (by cases h), fun h => (by cases h)⟩) ?_ ?_
    · intro iA v w w' h hL
      match iA, h with
      | 0, h =>
        exact h
      | 1, h =>
        exact h
      | 2, h =>
        exact h
      | 3, h =>
        obtain ⟨g, h1, h2⟩ := h
        exact ⟨g, h1, h2.kt hL (by decide)⟩
      | 4, h =>
        exact h
      | 5, h =>
        exact h
      | 6, h =>
        exact h
      | 7, h =>
        obtain ⟨g, h1, h2⟩ := h
        exact ⟨g, h1, h2.kt hL (by decide)⟩
      | 8, h =>
        exact h
      | 9, h =>
        exact h
      | 10, h =>
        exact h
      | 11, h =>
        exact h
      | 12, h =>
        exact h
      | 13, h =>
        exact h
      | 14, h =>
        obtain ⟨g, h1, h2⟩ := h
        exact ⟨g, h1, h2.kt hL (by decide)⟩
      | 15, h =>
        exact h
      | 16, h =>
        exact h
      | 17, h =>
        exact h
      | 18, h =>
        exact h
      | 19, h =>
        obtain ⟨g, h1, h2⟩ := h
        exact ⟨g, h1, h2.kt hL (by decide)⟩
      | _ + 20, h => trivial
    · intro iA o him hl D eA wA hDi hdp hSh hG hL hA hD
      match iA, him, hl with
      | 0, _, hl =>
        obtain rfl := Option.some.inj hl
        refine o_gen [] trivial (fun e2 => ?_)
        refine o_build (v := .agg #[.slice none 0 0]) rfl (fun _ => by kernel_rfl) ?_
        refine o_nil ⟨(fun w => (Keep.refl [] w).t) _, rfl, hG⟩
      | 1, _, hl =>
        obtain rfl := Option.some.inj hl
        refine o_gen [(72, _)] ⟨hD 0 (by decide) 72 rfl, trivial⟩ (fun e2 => ?_)
        refine o_box rfl rfl (fun b w2 hB2 hK2 hb2 hZ2 => ?_)
        have hsz : K ≤ wA.heap.size := by have := hL.size; simp at this; omega
        exact o_nil ⟨hK2.t, trivial, ⟨fun _ _ => ⟨b, none, 0, rfl, ⟨hB2, Sl.nil _ _ _⟩, by omega, by simp⟩, (hG.new hK2).2⟩⟩
      | 2, _, hl =>
        obtain rfl := Option.some.inj hl
        refine o_gen [(12, _)] ⟨hA 12 (free_of rfl), trivial⟩ (fun e2 => ?_)
        refine m_int rfl rfl ?_
        refine o_nil ⟨(fun w => (Keep.refl [] w).t) _, rfl, hG⟩
      | 3, _, hl =>
        obtain rfl := Option.some.inj hl
        refine o_gen [(74, _)] ⟨hD 2 (by decide) 74 rfl, trivial⟩ (fun e2 => ?_)
        refine o_bsl (E := 3) (cs := ([20, 0, methN x, 0, 33].map nv).toArray) rfl (fun _ => by kernel_rfl) (fun g w2 hB2 hK2 hb2 hZ2 => ?_)
        exact o_nil ⟨hK2.t, ⟨g, rfl, hB2⟩, hG.new hK2⟩
      | 4, _, hl =>
        obtain rfl := Option.some.inj hl
        obtain ⟨g, hg, hgB⟩ := hD 3 (by decide) 75 rfl
        have hRow := hG.1 (hdp 1 (by decide)) hDi
        refine o_gen [(73, eA 73), (75, _)] ⟨rfl, hg, trivial⟩ (fun e2 => ?_)
        refine o_call rfl rfl (put_g K wA (eA 73) 2 g [] [20, 0, methN x, 0, 33] hRow hgB (by decide) (by decide) (by simp) (by simp)) (fun u w2 hu => ?_)
        exact o_nil ⟨hu.2, trivial, ⟨fun _ h => (by cases h), fun _ _ => hu.1, fun h => absurd ((hG.2.2 h).1.symm.trans hDi) (by decide)⟩⟩
      | 5, _, hl =>
        obtain rfl := Option.some.inj hl
        refine o_gen [(10, _)] ⟨hA 10 (free_of rfl), trivial⟩ (fun e2 => ?_)
        refine o_fld (off := 1) rfl rfl ?_
        refine o_nil ⟨(fun w => (Keep.refl [] w).t) _, rfl, hG⟩
      | 6, _, hl =>
        obtain rfl := Option.some.inj hl
        refine o_gen [(77, _)] ⟨hD 5 (by decide) 77 rfl, trivial⟩ (fun e2 => ?_)
        refine o_ld rfl rfl (blk_l (i := 1) (hB10.keep (hL.below (Keep.refl [] w10).drew (Nat.le_of_eq hK10)) (by simp)) rfl) ?_
        refine o_nil ⟨(fun w => (Keep.refl [] w).t) _, rfl, hG⟩
      | 7, _, hl =>
        obtain rfl := Option.some.inj hl
        refine o_gen [(78, _)] ⟨hD 6 (by decide) 78 rfl, trivial⟩ (fun e2 => ?_)
        refine o_bsl (E := 25) (cs := #[.slice x.a x.data.length x.c]) rfl (fun _ => by kernel_rfl) (fun g w2 hB2 hK2 hb2 hZ2 => ?_)
        exact o_nil ⟨hK2.t, ⟨g, rfl, hB2⟩, hG.new hK2⟩
      | 8, _, hl =>
        obtain rfl := Option.some.inj hl
        obtain ⟨g, hg, hgB⟩ := hD 7 (by decide) 79 rfl
        refine o_gen [(79, _)] ⟨hg, trivial⟩ (fun e2 => ?_)
        have hkA : Keep [] w wA := hkw10.tr (hL.below (Keep.refl [] w10).drew (by omega))
        refine o_call rfl rfl (sumof_ok wA (some ⟨g, 0, none⟩) 1 [⟨x.a, x.c, x.data⟩] (hgB.sl (len := 1) (sz := 1) rfl (by decide)).rd (by intro p hp; simp at hp; subst hp; exact ⟨hIx.1.new hkA, by simp only; omega⟩) (by simp)) (fun u w2 hu => ?_)
        obtain ⟨rfl, hK2⟩ := hu
        rw [sum_one]
        exact o_nil ⟨hK2.t, rfl, hG.new hK2⟩
      | 9, _, hl =>
        obtain rfl := Option.some.inj hl
        refine o_gen [(11, _)] ⟨hA 11 (free_of rfl), trivial⟩ (fun e2 => ?_)
        refine m_sl rfl rfl ?_
        refine o_nil ⟨(fun w => (Keep.refl [] w).t) _, rfl, hG⟩
      | 10, _, hl =>
        obtain rfl := Option.some.inj hl
        refine o_gen [(81, _)] ⟨hD 9 (by decide) 81 rfl, trivial⟩ (fun e2 => ?_)
        refine o_lens Tryd.underlying25 rfl ?_
        refine o_nil ⟨(fun w => (Keep.refl [] w).t) _, rfl, hG⟩
      | 11, _, hl =>
        obtain rfl := Option.some.inj hl
        refine o_gen [(10, _)] ⟨hA 10 (free_of rfl), trivial⟩ (fun e2 => ?_)
        refine o_fld (off := 1) rfl rfl ?_
        refine o_nil ⟨(fun w => (Keep.refl [] w).t) _, rfl, hG⟩
      | 12, _, hl =>
        obtain rfl := Option.some.inj hl
        refine o_gen [(83, _)] ⟨hD 11 (by decide) 83 rfl, trivial⟩ (fun e2 => ?_)
        refine o_ld rfl rfl (blk_l (i := 1) (hB10.keep (hL.below (Keep.refl [] w10).drew (Nat.le_of_eq hK10)) (by simp)) rfl) ?_
        refine o_nil ⟨(fun w => (Keep.refl [] w).t) _, rfl, hG⟩
      | 13, _, hl =>
        obtain rfl := Option.some.inj hl
        refine o_gen [(84, _)] ⟨hD 12 (by decide) 84 rfl, trivial⟩ (fun e2 => ?_)
        refine o_lens Tryd.underlying25 rfl ?_
        refine o_nil ⟨(fun w => (Keep.refl [] w).t) _, rfl, hG⟩
      | 14, _, hl =>
        obtain rfl := Option.some.inj hl
        refine o_gen [(80, nv (crcN x.data)), (82, nv (packB x).length), (85, nv x.data.length)] ⟨hD 8 (by decide) 80 rfl, hD 10 (by decide) 82 rfl, hD 13 (by decide) 85 rfl, trivial⟩ (fun e2 => ?_)
        refine o_bsl (E := 3) (cs := ([crcN x.data, (packB x).length, x.data.length].map nv).toArray) rfl (fun _ => by kernel_rfl) (fun g w2 hB2 hK2 hb2 hZ2 => ?_)
        exact o_nil ⟨hK2.t, ⟨g, rfl, hB2⟩, hG.new hK2⟩
      | 15, _, hl =>
        obtain rfl := Option.some.inj hl
        obtain ⟨g, hg, hgB⟩ := hD 14 (by decide) 86 rfl
        have hRow := hG.2.1 (hdp 4 (by decide)) hDi
        refine o_gen [(76, eA 76), (86, _)] ⟨rfl, hg, trivial⟩ (fun e2 => ?_)
        refine o_call rfl rfl (put_g K wA (eA 76) 4 g _ [crcN x.data, (packB x).length, x.data.length] hRow hgB (by decide) (by decide) (by simp) (by rw [putsN_len]; simp)) (fun u w2 hu => ?_)
        exact o_nil ⟨hu.2, trivial, ⟨fun _ h => absurd ((hdp 4 (by decide)).symm.trans h) (by decide), fun _ h => (by cases h), fun _ => ⟨hdp 4 (by decide), hu.1⟩⟩⟩
      | 16, _, hl =>
        obtain rfl := Option.some.inj hl
        refine o_gen [(10, _)] ⟨hA 10 (free_of rfl), trivial⟩ (fun e2 => ?_)
        refine o_fld0 rfl rfl ?_
        refine o_nil ⟨(fun w => (Keep.refl [] w).t) _, rfl, hG⟩
      | 17, _, hl =>
        obtain rfl := Option.some.inj hl
        refine o_gen [(88, _)] ⟨hD 16 (by decide) 88 rfl, trivial⟩ (fun e2 => ?_)
        refine o_ld rfl rfl (blk_l (i := 0) (hB10.keep (hL.below (Keep.refl [] w10).drew (Nat.le_of_eq hK10)) (by simp)) rfl) ?_
        refine o_nil ⟨(fun w => (Keep.refl [] w).t) _, rfl, hG⟩
      | 18, _, hl =>
        obtain rfl := Option.some.inj hl
        refine o_gen [(89, _)] ⟨hD 17 (by decide) 89 rfl, trivial⟩ (fun e2 => ?_)
        refine o_lenstr Tryd.underlying9 rfl ?_
        exact o_nil ⟨(Keep.refl [] _).t, congrArg (fun n : Nat => Value.int .i64 (n : Int)) (bsStr_size x.name), hG⟩
      | 19, _, hl =>
        obtain rfl := Option.some.inj hl
        refine o_gen [(90, _)] ⟨hD 18 (by decide) 90 rfl, trivial⟩ (fun e2 => ?_)
        refine o_bsl (E := 3) (cs := ([x.name.length, 0].map nv).toArray) rfl (fun _ => by kernel_rfl) (fun g w2 hB2 hK2 hb2 hZ2 => ?_)
        exact o_nil ⟨hK2.t, ⟨g, rfl, hB2⟩, hG.new hK2⟩
      | _ + 20, him, _ => exact absurd him (by omega)
    intro D eA wA hAll hG hL hA hV
    obtain ⟨g, hg, hgB⟩ := hV 19 (by decide) 91 rfl
    have hRow := (hG.2.2 (hAll 15 (by decide) (by decide))).2
    have hkA : Keep [] w10 wA := hL.below (Keep.refl [] w10).drew (by omega)
    refine o_gen [(0, .slice (some ⟨b0, o0, none⟩) l.length c), (7, .pointer (some ⟨rb, 0, none⟩)), (8, .pointer (some ⟨rd, 0, none⟩)), (10, .pointer (some ⟨b10, 0, none⟩)), (11, .slice pa (packB x).length pc), (13, nv (locsB (l.take i)).length), (49, .slice (some ⟨b0, o0, none⟩) l.length c), (50, .int .i64 (l.length : Int)), (51, .int .i64 (i : Int)), (87, eA 87), (91, .slice (some ⟨g, 0, none⟩) 2 2)] ⟨hA 0 (free_of rfl), hA 7 (free_of rfl), hA 8 (free_of rfl), hA 10 (free_of rfl), hA 11 (free_of rfl), hA 13 (free_of rfl), hA 49 (free_of rfl), hA 50 (free_of rfl), hA 51 (free_of rfl), rfl, hg, trivial⟩ (fun e3 => ?_)
    clear hV hA hG hAll
    refine o_call rfl rfl (put_g K wA (eA 87) 2 g _ [x.name.length, 0] hRow hgB (by decide) (by decide) (by simp) (by rw [List.length_append, putsN_len, putsN_len]; simp)) (fun u w13 hu => ?_)
    obtain ⟨hHd, hK13⟩ := hu
    have hkA3 : Keep [] w10 w13 := hK13.below hkA (by omega)
    obtain ⟨rh, ah, ch, rfl, gh⟩ := hHd
    have hsb : Sep rb ab rh ah := ⟨by have := g1.1.1.lt; have := gh.2.1; omega, fun p q hp hq => by have := g1.1.2.lt p hp; have := gh.2.2 q hq; omega⟩
    have hsd : Sep rd ad rh ah := ⟨by have := g2.1.1.lt; have := gh.2.1; omega, fun p q hp hq => by have := g2.1.2.lt p hp; have := gh.2.2 q hq; omega⟩
    have hWK : W0 ≤ K := by have := hkw10.size; omega
    have hBlen : ∀ X : Bs, X.length ≤ 1000000 → (locsB (l.take i) ++ X).length ≤ 1400000 := fun X hX => by rw [List.length_append]; omega
    refine m_ptr rfl rfl ?_
    refine o_nil ?_
    refine k_seq ?_
    refine k_region ?_
    refine m_ptr rfl rfl ?_
    refine o_bsl (E := 3) (cs := ([67324752].map nv).toArray) rfl (fun _ => by kernel_rfl) (fun g4 w14 hB14 hK14 hb14 hZ14 => ?_)
    have hk14 : Keep [] w10 w14 := hkA3.tr hK14
    have g14 := g1.new hk14
    have gh14 : RowX W0 w14 rh ah ch (headB x) := ⟨gh.1.new hK14, by have := gh.2.1; omega, fun q hq => by have := gh.2.2 q hq; omega⟩
    refine o_call rfl rfl (put_x W0 w14 rb 4 g4 ab cb (locsB (l.take i)) [67324752] g14 hB14 (by decide) (by decide) (by simp) (by omega)) (fun v w15 hv => ?_)
    obtain ⟨rfl, a5, c5, hX5, hK5, hf5⟩ := hv
    have g25 := (g2.new hk14).other g14.1 s1 hK5
    have gh5 := gh14.other g14.1 hsb hK5
    have s15 := s1.fresh hf5 (g2.new hk14).1
    have hsb5 := hsb.fresh hf5 gh14.1
    have hT15 := g14.kt hK5
    have hB15 : Blk w15 b10 (itC x).toArray 37 := (hB10.keep hk14 (by simp)).kt hT15 (by decide)
    have hPoff : (packB x).map u8v ≠ [] → Off (rb :: blkOf ab) pa := fun hne q hq hm => by
     have h1 := (hpo (by simpa using hne) q hq).1
     rcases List.mem_cons.1 hm with h2 | h2
     · have := g1.2.1; omega
     · cases ab with
       | none => simp [blkOf] at h2
       | some z => simp [blkOf] at h2; have := hab z rfl; have := g1.2.2 z rfl; omega
    have hP15 := (hP10.new hk14).keepN hK5 hPoff
    have hs14 := hk14.size
    have hPoff5 : (packB x).map u8v ≠ [] → Off (blkOf a5) pa := fun hne q hq hm => by
     cases a5 with
     | none => simp [blkOf] at hm
     | some z =>
      simp [blkOf] at hm
      rcases hf5 z rfl with h2 | h2
      · exact hPoff hne q hq (by rw [hm]; exact List.mem_cons_of_mem _ h2)
      · have := (hpo (by simpa using hne) q hq).2; omega
    have hkw15 : Keep [] w w15 := hT15.below (hkw10.tr hk14) (Nat.le_of_eq hW0)
    have hB0l : (locsB (l.take i) ++ putsN 4 [67324752]).length ≤ 1400000 := hBlen _ (by rw [putsN_len]; simp)
    have hpkl := packB_len x hgx.2
    have hhl := headB_len x
    generalize hB0 : locsB (l.take i) ++ putsN 4 [67324752] = B0 at *
    have hB15r : Blk w15 rb #[.slice a5 B0.length c5] 45 := hX5.1.1
    refine o_nil ?_
    refine k_seq ?_
    refine k_anyE 15 (leS) (fun iA => match iA with
        | 0 => fun v w => v = .pointer (some ⟨rb, 0, none⟩)
        | 1 => fun v w => v = .pointer (some ⟨rb, 0, none⟩)
        | 2 => fun v w => v = .pointer (some ⟨rb, 0, none⟩)
        | 3 => fun v w => v = .pointer (some ⟨rb, 0, none⟩)
        | 4 => fun v w => v = .slice a5 B0.length c5
        | 5 => fun v w => v = .pointer (some ⟨rh, 0, none⟩)
        | 6 => fun v w => v = .pointer (some ⟨rh, 0, none⟩)
        | 7 => fun v w => v = .pointer (some ⟨rh, 0, none⟩)
        | 8 => fun v w => v = .slice ah (headB x).length ch
        | 9 => fun v w => True
        | 10 => fun v w => v = .pointer (some ⟨b10, 0, none⟩)
        | 11 => fun v w => v = .string (bsStr x.name)
        | 12 => fun v w => True
        | 13 => fun v w => v = .slice pa (packB x).length pc
        | 14 => fun v w => True
        | _ => fun v w => True) (fun D e w' => GA w15 a5 c5 B0 (B0 ++ headB x) (B0 ++ headB x ++ x.name) (B0 ++ headB x ++ x.name ++ packB x) (D 9) (D 12) (D 14) (e 105) (e 108) (e 110) w') rfl rfl rfl rfl (leS_refl) (fun _ _ _ h1 h2 => leS.tr h1 h2) ?_ (⟨(Keep.refl _ _).drew, fun _ => hX5.1.2, fun h => (by cases h), fun h => (by cases h), fun h => (by cases h)⟩) ?_ ?_
    · intro iA v w w' h hL
      match iA, h with
      | 0, h =>
        exact h
      | 1, h =>
        exact h
      | 2, h =>
        exact h
      | 3, h =>
        exact h
      | 4, h =>
        exact h
      | 5, h =>
        exact h
      | 6, h =>
        exact h
      | 7, h =>
        exact h
      | 8, h =>
        exact h
      | 9, h =>
        exact h
      | 10, h =>
        exact h
      | 11, h =>
        exact h
      | 12, h =>
        exact h
      | 13, h =>
        exact h
      | 14, h =>
        exact h
      | _ + 15, h => trivial
    · intro iA o him hl D eA wA hDi hdp hSh hG hL hA hD
      match iA, him, hl with
      | 0, _, hl =>
        obtain rfl := Option.some.inj hl
        refine o_gen [(7, _)] ⟨hA 7 (free_of rfl), trivial⟩ (fun e2 => ?_)
        refine m_ptr rfl rfl ?_
        refine o_nil ⟨(leS_refl) _, rfl, hG⟩
      | 1, _, hl =>
        obtain rfl := Option.some.inj hl
        refine o_gen [(7, _)] ⟨hA 7 (free_of rfl), trivial⟩ (fun e2 => ?_)
        refine m_ptr rfl rfl ?_
        refine o_nil ⟨(leS_refl) _, rfl, hG⟩
      | 2, _, hl =>
        obtain rfl := Option.some.inj hl
        refine o_gen [(97, _)] ⟨hD 1 (by decide) 97 rfl, trivial⟩ (fun e2 => ?_)
        refine o_nilc rfl ?_
        refine o_nil ⟨(leS_refl) _, rfl, hG⟩
      | 3, _, hl =>
        obtain rfl := Option.some.inj hl
        refine o_gen [(98, _)] ⟨hD 2 (by decide) 98 rfl, trivial⟩ (fun e2 => ?_)
        refine o_fld0 rfl rfl ?_
        refine o_nil ⟨(leS_refl) _, rfl, hG⟩
      | 4, _, hl =>
        obtain rfl := Option.some.inj hl
        refine o_gen [(99, _)] ⟨hD 3 (by decide) 99 rfl, trivial⟩ (fun e2 => ?_)
        refine o_ld rfl rfl ((hB15r.keep hG.1 (hX5.1.2.notin hB15r (by decide))).at rfl) ?_
        refine o_nil ⟨(leS_refl) _, rfl, hG⟩
      | 5, _, hl =>
        obtain rfl := Option.some.inj hl
        refine o_gen [(14, _)] ⟨hA 14 (free_of rfl), trivial⟩ (fun e2 => ?_)
        refine m_ptr rfl rfl ?_
        refine o_nil ⟨(leS_refl) _, rfl, hG⟩
      | 6, _, hl =>
        obtain rfl := Option.some.inj hl
        refine o_gen [(101, _)] ⟨hD 5 (by decide) 101 rfl, trivial⟩ (fun e2 => ?_)
        refine o_nilc rfl ?_
        refine o_nil ⟨(leS_refl) _, rfl, hG⟩
      | 7, _, hl =>
        obtain rfl := Option.some.inj hl
        refine o_gen [(102, _)] ⟨hD 6 (by decide) 102 rfl, trivial⟩ (fun e2 => ?_)
        refine o_fld0 rfl rfl ?_
        refine o_nil ⟨(leS_refl) _, rfl, hG⟩
      | 8, _, hl =>
        obtain rfl := Option.some.inj hl
        refine o_gen [(103, _)] ⟨hD 7 (by decide) 103 rfl, trivial⟩ (fun e2 => ?_)
        refine o_ld rfl rfl ((gh5.1.1.keep hG.1 (hX5.1.2.notin gh5.1.1 (by decide))).at rfl) ?_
        refine o_nil ⟨(leS_refl) _, rfl, hG⟩
      | 9, _, hl =>
        obtain rfl := Option.some.inj hl
        refine o_gen [(100, _), (104, _)] ⟨hD 4 (by decide) 100 rfl, hD 8 (by decide) 104 rfl, trivial⟩ (fun e2 => ?_)
        refine o_app Tryd.underlying25 inf5 rfl (by decide) rfl rfl (hG.2.1 hDi) (gh5.1.2.rd.keep hG.1 hsb5.offB) (by simp) (u8_one _) (by simp [maxLen]; omega) (by omega) (fun a2 c2 w2 hS2 hK2 hv2 => ?_)
        obtain ⟨hap, hkk⟩ := ap_step (Fresh.refl _ _) hG.1 hS2 rfl hK2 hv2
        exact o_nil ⟨hK2.size, trivial, ⟨hkk, fun h => (by cases h), fun _ _ => hap, fun h => absurd ((hG.2.2.2.1 h).1.symm.trans hDi) (by decide), fun h => absurd ((hG.2.2.2.1 (hG.2.2.2.2 h).1).1.symm.trans hDi) (by decide)⟩⟩
      | 10, _, hl =>
        obtain rfl := Option.some.inj hl
        refine o_gen [(10, _)] ⟨hA 10 (free_of rfl), trivial⟩ (fun e2 => ?_)
        refine o_fld0 rfl rfl ?_
        refine o_nil ⟨(leS_refl) _, rfl, hG⟩
      | 11, _, hl =>
        obtain rfl := Option.some.inj hl
        refine o_gen [(106, _)] ⟨hD 10 (by decide) 106 rfl, trivial⟩ (fun e2 => ?_)
        refine o_ld rfl rfl (blk_l (i := 0) (hB15.keep hG.1 (hX5.1.2.notin hB15 (by decide))) rfl) ?_
        refine o_nil ⟨(leS_refl) _, rfl, hG⟩
      | 12, _, hl =>
        obtain rfl := Option.some.inj hl
        obtain ⟨a2, c2, he, hSx, hfx⟩ := hG.2.2.1 (hdp 9 (by decide)) hDi
        refine o_gen [(105, .slice a2 (B0 ++ headB x).length c2), (107, .string (bsStr x.name))] ⟨he, hD 11 (by decide) 107 rfl, trivial⟩ (fun e2 => ?_)
        refine o_apps Tryd.underlying25 Tryd.underlying9 inf5 rfl rfl hSx (by rw [bsStr_size, List.length_append]; omega) (fun a3 c3 w2 hS2 hK2 hv2 => ?_)
        rw [strCells_bs] at hS2
        obtain ⟨hap, hkk⟩ := ap_step hfx hG.1 hS2 (bsStr_size _) hK2 hv2
        exact o_nil ⟨hK2.size, trivial, ⟨hkk, fun h => absurd ((hdp 9 (by decide)).symm.trans h) (by decide), fun _ h => (by cases h), fun _ => ⟨hdp 9 (by decide), fun _ => hap⟩, fun h => absurd ((hG.2.2.2.2 h).1.symm.trans hDi) (by decide)⟩⟩
      | 13, _, hl =>
        obtain rfl := Option.some.inj hl
        refine o_gen [(11, _)] ⟨hA 11 (free_of rfl), trivial⟩ (fun e2 => ?_)
        refine m_sl rfl rfl ?_
        refine o_nil ⟨(leS_refl) _, rfl, hG⟩
      | 14, _, hl =>
        obtain rfl := Option.some.inj hl
        obtain ⟨h9, hx2⟩ := hG.2.2.2.1 (hdp 12 (by decide))
        obtain ⟨a2, c2, he, hSx, hfx⟩ := hx2 hDi
        refine o_gen [(108, .slice a2 (B0 ++ headB x ++ x.name).length c2), (109, .slice pa (packB x).length pc)] ⟨he, hD 13 (by decide) 109 rfl, trivial⟩ (fun e2 => ?_)
        refine o_app Tryd.underlying25 inf5 rfl (by decide) rfl rfl hSx (hP15.keepN hG.1 hPoff5) (by simp) (u8_one _) (by simp [maxLen]; omega) (by simp; omega) (fun a3 c3 w2 hS2 hK2 hv2 => ?_)
        obtain ⟨hap, hkk⟩ := ap_step hfx hG.1 hS2 rfl hK2 hv2
        exact o_nil ⟨hK2.size, trivial, ⟨hkk, fun h => absurd (h9.symm.trans h) (by decide), fun _ h => absurd ((hdp 12 (by decide)).symm.trans h) (by decide), fun _ => ⟨h9, fun h => (by cases h)⟩, fun _ => ⟨hdp 12 (by decide), hap⟩⟩⟩
      | _ + 15, him, _ => exact absurd him (by omega)
    intro D eA wA hAll hG hL hA hV
    obtain ⟨hkA, _, _, _, hfin⟩ := hG
    obtain ⟨a6, c6, he6, hS6, hf6⟩ := (hfin (hAll 14 (by decide) (by decide))).2
    refine o_gen [(0, .slice (some ⟨b0, o0, none⟩) l.length c), (7, .pointer (some ⟨rb, 0, none⟩)), (8, .pointer (some ⟨rd, 0, none⟩)), (10, .pointer (some ⟨b10, 0, none⟩)), (13, nv (locsB (l.take i)).length), (14, .pointer (some ⟨rh, 0, none⟩)), (49, .slice (some ⟨b0, o0, none⟩) l.length c), (50, .int .i64 (l.length : Int)), (51, .int .i64 (i : Int)), (96, .pointer (some ⟨rb, 0, none⟩)), (110, .slice a6 (B0 ++ headB x ++ x.name ++ packB x).length c6)] ⟨hA 0 (free_of rfl), hA 7 (free_of rfl), hA 8 (free_of rfl), hA 10 (free_of rfl), hA 13 (free_of rfl), hA 14 (free_of rfl), hA 49 (free_of rfl), hA 50 (free_of rfl), hA 51 (free_of rfl), hV 0 (by decide) 96 rfl, he6, trivial⟩ (fun e3 => ?_)
    clear hV hA hAll hfin
    have hBA := hB15r.keep hkA (hX5.1.2.notin hB15r (by decide))
    refine o_nilc rfl ?_
    refine o_fld0 rfl rfl ?_
    refine o_st (v := .slice a6 _ c6) rfl rfl rfl rfl hBA (by simp) (fun w17 hB17 hK17 hZ17 => ?_)
    obtain ⟨hR17, hT17⟩ := R3.app_b hX5 g25 gh5 s15 hsb5 hsd hS6 hkA hf6 hB17 hK17
    have hkw17 := hT17.below hkw15 (Nat.le_of_eq hW0)
    have hB17i := hB15.kt hT17 (by decide)
    clear hX5 g25 gh5 s15 hsb5 hsd hS6 hf6 hBA hB17 hK17 hP15 hPoff hPoff5 hB15 g14 gh14 g1 g2 g16 g26 s1 hsb gh hK5 hf5
    obtain ⟨B3, hB3⟩ : ∃ B3, B0 ++ headB x ++ x.name ++ packB x = B3 := ⟨_, rfl⟩
    rw [hB3] at hR17
    refine o_nil ?_
    refine k_seq ?_
    refine k_region ?_
    refine m_ptr rfl rfl ?_
    refine o_bsl (E := 3) (cs := ([33639248].map nv).toArray) rfl (fun _ => by kernel_rfl) (fun g7 w18 hB18 hK18 hb18 hZ18 => ?_)
    refine o_call rfl rfl (put_d3 W0 w18 rb rd rh 4 g7 B3 (dirsB (l.take i)) (headB x) [33639248] (hR17.new hK18) hB18 (by decide) (by decide) (by simp) (by omega)) (fun v w19 hv => ?_)
    obtain ⟨rfl, hR19, hT19⟩ := hv
    refine o_bsl (E := 3) (cs := ([20].map nv).toArray) rfl (fun _ => by kernel_rfl) (fun g8 w20 hB20 hK20 hb20 hZ20 => ?_)
    refine o_call rfl rfl (put_d3 W0 w20 rb rd rh 2 g8 B3 _ (headB x) [20] (hR19.new hK20) hB20 (by decide) (by decide) (by simp) (by rw [List.length_append, putsN_len]; simp; omega)) (fun v w21 hv => ?_)
    obtain ⟨rfl, hR21, hT21⟩ := hv
    have hT1721 : KeepT [45, 5] W0 w17 w21 := ((hK18.t.tr hT19).tr hK20.t).tr hT21
    have hkw21 := hT1721.below hkw17 (Nat.le_of_eq hW0)
    have hB21i := hB17i.kt hT1721 (by decide)
    have hDl : (dirsB (l.take i) ++ putsN 4 [33639248] ++ putsN 2 [20]).length = (dirsB (l.take i)).length + 6 := by rw [List.length_append, List.length_append, putsN_len, putsN_len]; rfl
    generalize hD0 : dirsB (l.take i) ++ putsN 4 [33639248] ++ putsN 2 [20] = D0 at *
    obtain ⟨ab7, cb7, ad7, cd7, ah7, ch7, k1, k2, k3, t1, t2, t3⟩ := hR21
    have hB21r : Blk w21 rd #[.slice ad7 D0.length cd7] 45 := k2.1.1
    refine o_nil ?_
    refine k_seq ?_
    refine k_anyE 10 (leS) (fun iA => match iA with
        | 0 => fun v w => v = .pointer (some ⟨rd, 0, none⟩)
        | 1 => fun v w => v = .pointer (some ⟨rd, 0, none⟩)
        | 2 => fun v w => v = .pointer (some ⟨rd, 0, none⟩)
        | 3 => fun v w => v = .pointer (some ⟨rd, 0, none⟩)
        | 4 => fun v w => v = .slice ad7 D0.length cd7
        | 5 => fun v w => v = .pointer (some ⟨rh, 0, none⟩)
        | 6 => fun v w => v = .pointer (some ⟨rh, 0, none⟩)
        | 7 => fun v w => v = .pointer (some ⟨rh, 0, none⟩)
        | 8 => fun v w => v = .slice ah7 (headB x).length ch7
        | 9 => fun v w => True
        | _ => fun v w => True) (fun D e w' => GA1 w21 ad7 cd7 D0 (D0 ++ headB x) (D 9) (e 127) w') rfl rfl rfl rfl (leS_refl) (fun _ _ _ h1 h2 => leS.tr h1 h2) ?_ (⟨(Keep.refl _ _).drew, fun _ => k2.1.2, fun h => (by cases h)⟩) ?_ ?_
    · intro iA v w w' h hL
      match iA, h with
      | 0, h =>
        exact h
      | 1, h =>
        exact h
      | 2, h =>
        exact h
      | 3, h =>
        exact h
      | 4, h =>
        exact h
      | 5, h =>
        exact h
      | 6, h =>
        exact h
      | 7, h =>
        exact h
      | 8, h =>
        exact h
      | 9, h =>
        exact h
      | _ + 10, h => trivial
    · intro iA o him hl D eA wA hDi hdp hSh hG hL hA hD
      match iA, him, hl with
      | 0, _, hl =>
        obtain rfl := Option.some.inj hl
        refine o_gen [(8, _)] ⟨hA 8 (free_of rfl), trivial⟩ (fun e2 => ?_)
        refine m_ptr rfl rfl ?_
        refine o_nil ⟨(leS_refl) _, rfl, hG⟩
      | 1, _, hl =>
        obtain rfl := Option.some.inj hl
        refine o_gen [(8, _)] ⟨hA 8 (free_of rfl), trivial⟩ (fun e2 => ?_)
        refine m_ptr rfl rfl ?_
        refine o_nil ⟨(leS_refl) _, rfl, hG⟩
      | 2, _, hl =>
        obtain rfl := Option.some.inj hl
        refine o_gen [(119, _)] ⟨hD 1 (by decide) 119 rfl, trivial⟩ (fun e2 => ?_)
        refine o_nilc rfl ?_
        refine o_nil ⟨(leS_refl) _, rfl, hG⟩
      | 3, _, hl =>
        obtain rfl := Option.some.inj hl
        refine o_gen [(120, _)] ⟨hD 2 (by decide) 120 rfl, trivial⟩ (fun e2 => ?_)
        refine o_fld0 rfl rfl ?_
        refine o_nil ⟨(leS_refl) _, rfl, hG⟩
      | 4, _, hl =>
        obtain rfl := Option.some.inj hl
        refine o_gen [(121, _)] ⟨hD 3 (by decide) 121 rfl, trivial⟩ (fun e2 => ?_)
        refine o_ld rfl rfl ((hB21r.keep hG.1 (k2.1.2.notin hB21r (by decide))).at rfl) ?_
        refine o_nil ⟨(leS_refl) _, rfl, hG⟩
      | 5, _, hl =>
        obtain rfl := Option.some.inj hl
        refine o_gen [(14, _)] ⟨hA 14 (free_of rfl), trivial⟩ (fun e2 => ?_)
        refine m_ptr rfl rfl ?_
        refine o_nil ⟨(leS_refl) _, rfl, hG⟩
      | 6, _, hl =>
        obtain rfl := Option.some.inj hl
        refine o_gen [(123, _)] ⟨hD 5 (by decide) 123 rfl, trivial⟩ (fun e2 => ?_)
        refine o_nilc rfl ?_
        refine o_nil ⟨(leS_refl) _, rfl, hG⟩
      | 7, _, hl =>
        obtain rfl := Option.some.inj hl
        refine o_gen [(124, _)] ⟨hD 6 (by decide) 124 rfl, trivial⟩ (fun e2 => ?_)
        refine o_fld0 rfl rfl ?_
        refine o_nil ⟨(leS_refl) _, rfl, hG⟩
      | 8, _, hl =>
        obtain rfl := Option.some.inj hl
        refine o_gen [(125, _)] ⟨hD 7 (by decide) 125 rfl, trivial⟩ (fun e2 => ?_)
        refine o_ld rfl rfl ((k3.1.1.keep hG.1 (k2.1.2.notin k3.1.1 (by decide))).at rfl) ?_
        refine o_nil ⟨(leS_refl) _, rfl, hG⟩
      | 9, _, hl =>
        obtain rfl := Option.some.inj hl
        refine o_gen [(122, _), (126, _)] ⟨hD 4 (by decide) 122 rfl, hD 8 (by decide) 126 rfl, trivial⟩ (fun e2 => ?_)
        refine o_app Tryd.underlying25 inf5 rfl (by decide) rfl rfl (hG.2.1 hDi) (k3.1.2.rd.keep hG.1 t3.offB) (by simp) (u8_one _) (by simp [maxLen]; omega) (by omega) (fun a2 c2 w2 hS2 hK2 hv2 => ?_)
        obtain ⟨hap, hkk⟩ := ap_step (Fresh.refl _ _) hG.1 hS2 rfl hK2 hv2
        exact o_nil ⟨hK2.size, trivial, ⟨hkk, fun h => (by cases h), fun _ => hap⟩⟩
      | _ + 10, him, _ => exact absurd him (by omega)
    intro D eA wA hAll hG hL hA hV
    obtain ⟨hkA, _, hfin⟩ := hG
    obtain ⟨a6, c6, he6, hS6, hf6⟩ := hfin (hAll 9 (by decide) (by decide))
    refine o_gen [(0, .slice (some ⟨b0, o0, none⟩) l.length c), (7, .pointer (some ⟨rb, 0, none⟩)), (8, .pointer (some ⟨rd, 0, none⟩)), (10, .pointer (some ⟨b10, 0, none⟩)), (13, nv (locsB (l.take i)).length), (49, .slice (some ⟨b0, o0, none⟩) l.length c), (50, .int .i64 (l.length : Int)), (51, .int .i64 (i : Int)), (118, .pointer (some ⟨rd, 0, none⟩)), (127, .slice a6 (D0 ++ headB x).length c6)] ⟨hA 0 (free_of rfl), hA 7 (free_of rfl), hA 8 (free_of rfl), hA 10 (free_of rfl), hA 13 (free_of rfl), hA 49 (free_of rfl), hA 50 (free_of rfl), hA 51 (free_of rfl), hV 0 (by decide) 118 rfl, he6, trivial⟩ (fun e3 => ?_)
    clear hV hA hAll hfin
    have hBA := hB21r.keep hkA (k2.1.2.notin hB21r (by decide))
    refine o_nilc rfl ?_
    refine o_fld0 rfl rfl ?_
    refine o_st (v := .slice a6 _ c6) rfl rfl rfl rfl hBA (by simp) (fun w22 hB22 hK22 hZ22 => ?_)
    obtain ⟨hR22, hT22⟩ := R3.app_b k2 k1 k3 t1.symm t3 t2 hS6 hkA hf6 hB22 hK22
    have hR22 := hR22.swap
    have hkw22 := hT22.below hkw21 (Nat.le_of_eq hW0)
    have hB22i := hB21i.kt hT22 (by decide)
    clear k1 k2 k3 t1 t2 t3 hS6 hf6 hBA hB22 hK22 hB21r
    refine o_nil ?_
    refine k_seq ?_
    refine k_region ?_
    refine m_ptr rfl rfl ?_
    refine o_bsl (E := 3) (cs := ([0, 0, 0].map nv).toArray) rfl (fun _ => by kernel_rfl) (fun g7 w23 hB23 hK23 hb23 hZ23 => ?_)
    refine o_call rfl rfl (put_d3 W0 w23 rb rd rh 2 g7 B3 (D0 ++ headB x) (headB x) [0, 0, 0] (hR22.new hK23) hB23 (by decide) (by decide) (by simp) (by rw [List.length_append]; omega)) (fun v w24 hv => ?_)
    obtain ⟨rfl, hR24, hT24⟩ := hv
    refine m_int rfl rfl ?_
    refine o_bsl (E := 3) (cs := ([0, (locsB (l.take i)).length].map nv).toArray) rfl (fun _ => by kernel_rfl) (fun g8 w25 hB25 hK25 hb25 hZ25 => ?_)
    refine o_call rfl rfl (put_d3 W0 w25 rb rd rh 4 g8 B3 _ (headB x) [0, (locsB (l.take i)).length] (hR24.new hK25) hB25 (by decide) (by decide) (by simp) (by rw [List.length_append, List.length_append, putsN_len]; simp; omega)) (fun v w26 hv => ?_)
    obtain ⟨rfl, hR26, hT26⟩ := hv
    have hT2226 : KeepT [45, 5] W0 w22 w26 := ((hK23.t.tr hT24).tr hK25.t).tr hT26
    have hkw26 := hT2226.below hkw22 (Nat.le_of_eq hW0)
    have hB26i := hB22i.kt hT2226 (by decide)
    have hDl2 : (D0 ++ headB x ++ putsN 2 [0, 0, 0] ++ putsN 4 [0, (locsB (l.take i)).length]).length = D0.length + 40 := by rw [List.length_append, List.length_append, List.length_append, putsN_len, putsN_len, hhl]; rfl
    generalize hD1 : D0 ++ headB x ++ putsN 2 [0, 0, 0] ++ putsN 4 [0, (locsB (l.take i)).length] = D1 at *
    obtain ⟨ab8, cb8, ad8, cd8, ah8, ch8, k1, k2, k3, t1, t2, t3⟩ := hR26
    have hB26r : Blk w26 rd #[.slice ad8 D1.length cd8] 45 := k2.1.1
    refine o_nil ?_
    refine k_anyE 8 (leS) (fun iA => match iA with
        | 0 => fun v w => v = .pointer (some ⟨rd, 0, none⟩)
        | 1 => fun v w => v = .pointer (some ⟨rd, 0, none⟩)
        | 2 => fun v w => v = .pointer (some ⟨rd, 0, none⟩)
        | 3 => fun v w => v = .pointer (some ⟨rd, 0, none⟩)
        | 4 => fun v w => v = .slice ad8 D1.length cd8
        | 5 => fun v w => v = .pointer (some ⟨b10, 0, none⟩)
        | 6 => fun v w => v = .string (bsStr x.name)
        | 7 => fun v w => True
        | _ => fun v w => True) (fun D e w' => GA1 w26 ad8 cd8 D1 (D1 ++ x.name) (D 7) (e 143) w') rfl rfl rfl rfl (leS_refl) (fun _ _ _ h1 h2 => leS.tr h1 h2) ?_ (⟨(Keep.refl _ _).drew, fun _ => k2.1.2, fun h => (by cases h)⟩) ?_ ?_
    · intro iA v w w' h hL
      match iA, h with
      | 0, h =>
        exact h
      | 1, h =>
        exact h
      | 2, h =>
        exact h
      | 3, h =>
        exact h
      | 4, h =>
        exact h
      | 5, h =>
        exact h
      | 6, h =>
        exact h
      | 7, h =>
        exact h
      | _ + 8, h => trivial
    · intro iA o him hl D eA wA hDi hdp hSh hG hL hA hD
      match iA, him, hl with
      | 0, _, hl =>
        obtain rfl := Option.some.inj hl
        refine o_gen [(8, _)] ⟨hA 8 (free_of rfl), trivial⟩ (fun e2 => ?_)
        refine m_ptr rfl rfl ?_
        refine o_nil ⟨(leS_refl) _, rfl, hG⟩
      | 1, _, hl =>
        obtain rfl := Option.some.inj hl
        refine o_gen [(8, _)] ⟨hA 8 (free_of rfl), trivial⟩ (fun e2 => ?_)
        refine m_ptr rfl rfl ?_
        refine o_nil ⟨(leS_refl) _, rfl, hG⟩
      | 2, _, hl =>
        obtain rfl := Option.some.inj hl
        refine o_gen [(137, _)] ⟨hD 1 (by decide) 137 rfl, trivial⟩ (fun e2 => ?_)
        refine o_nilc rfl ?_
        refine o_nil ⟨(leS_refl) _, rfl, hG⟩
      | 3, _, hl =>
        obtain rfl := Option.some.inj hl
        refine o_gen [(138, _)] ⟨hD 2 (by decide) 138 rfl, trivial⟩ (fun e2 => ?_)
        refine o_fld0 rfl rfl ?_
        refine o_nil ⟨(leS_refl) _, rfl, hG⟩
      | 4, _, hl =>
        obtain rfl := Option.some.inj hl
        refine o_gen [(139, _)] ⟨hD 3 (by decide) 139 rfl, trivial⟩ (fun e2 => ?_)
        refine o_ld rfl rfl ((hB26r.keep hG.1 (k2.1.2.notin hB26r (by decide))).at rfl) ?_
        refine o_nil ⟨(leS_refl) _, rfl, hG⟩
      | 5, _, hl =>
        obtain rfl := Option.some.inj hl
        refine o_gen [(10, _)] ⟨hA 10 (free_of rfl), trivial⟩ (fun e2 => ?_)
        refine o_fld0 rfl rfl ?_
        refine o_nil ⟨(leS_refl) _, rfl, hG⟩
      | 6, _, hl =>
        obtain rfl := Option.some.inj hl
        refine o_gen [(141, _)] ⟨hD 5 (by decide) 141 rfl, trivial⟩ (fun e2 => ?_)
        refine o_ld rfl rfl (blk_l (i := 0) (hB26i.keep hG.1 (k2.1.2.notin hB26i (by decide))) rfl) ?_
        refine o_nil ⟨(leS_refl) _, rfl, hG⟩
      | 7, _, hl =>
        obtain rfl := Option.some.inj hl
        refine o_gen [(140, _), (142, _)] ⟨hD 4 (by decide) 140 rfl, hD 6 (by decide) 142 rfl, trivial⟩ (fun e2 => ?_)
        refine o_apps Tryd.underlying25 Tryd.underlying9 inf5 rfl rfl (hG.2.1 hDi) (by rw [bsStr_size]; omega) (fun a3 c3 w2 hS2 hK2 hv2 => ?_)
        rw [strCells_bs] at hS2
        obtain ⟨hap, hkk⟩ := ap_step (Fresh.refl _ _) hG.1 hS2 (bsStr_size _) hK2 hv2
        exact o_nil ⟨hK2.size, trivial, ⟨hkk, fun h => (by cases h), fun _ => hap⟩⟩
      | _ + 8, him, _ => exact absurd him (by omega)
    intro D eA wA hAll hG hL hA hV
    obtain ⟨hkA, _, hfin⟩ := hG
    obtain ⟨a6, c6, he6, hS6, hf6⟩ := hfin (hAll 7 (by decide) (by decide))
    refine o_gen [(0, .slice (some ⟨b0, o0, none⟩) l.length c), (7, .pointer (some ⟨rb, 0, none⟩)), (8, .pointer (some ⟨rd, 0, none⟩)), (49, .slice (some ⟨b0, o0, none⟩) l.length c), (50, .int .i64 (l.length : Int)), (51, .int .i64 (i : Int)), (136, .pointer (some ⟨rd, 0, none⟩)), (143, .slice a6 (D1 ++ x.name).length c6)] ⟨hA 0 (free_of rfl), hA 7 (free_of rfl), hA 8 (free_of rfl), hA 49 (free_of rfl), hA 50 (free_of rfl), hA 51 (free_of rfl), hV 0 (by decide) 136 rfl, he6, trivial⟩ (fun e3 => ?_)
    clear hV hA hAll hfin
    have hBA := hB26r.keep hkA (k2.1.2.notin hB26r (by decide))
    refine o_nilc rfl ?_
    refine o_fld0 rfl rfl ?_
    refine o_st (v := .slice a6 _ c6) rfl rfl rfl rfl hBA (by simp) (fun w27 hB27 hK27 hZ27 => ?_)
    obtain ⟨hR27, hT27⟩ := R3.app_b k2 k1 k3 t1.symm t3 t2 hS6 hkA hf6 hB27 hK27
    have hR27 := hR27.swap.two
    have hkw27 := hT27.below hkw26 (Nat.le_of_eq hW0)
    refine o_nil ?_
    refine k_blk ?_
    refine k_region ?_
    refine n_add rfl rfl (by omega) ?_
    refine m_int rfl rfl ?_
    refine o_nil ?_
    have hlt : locsB (l.take (i + 1)) = B3 := by
     rw [locsB_take l i hil, hx, ← hB3, ← hB0]
     simp only [oneLoc, List.append_assoc]
    have hdt : dirsB (l.take (i + 1)) = D1 ++ x.name := by
     rw [dirsB_take l i hil, hx, ← hD1, ← hD0]
     simp only [oneDir, List.append_assoc]
    refine k_goal ⟨i + 1, ⟨rfl, rfl, rfl, rfl, rfl, rfl, trivial⟩, ⟨by omega, by rw [hlt, hdt]; exact hR27, fun j hj => ?_, ?_, ?_, hkw27⟩, by omega⟩
    · rcases Nat.lt_or_ge j i with h1 | h1
      · exact hlo j h1
      · obtain rfl : j = i := by omega
        exact hB6
    · rw [locsB_take l i hil, hx, List.length_append, oneLoc_len]; omega
    · rw [hdt, List.length_append]; omega
  have hil : i < l.length := by omega
  obtain ⟨b0, o0, rfl, _⟩ := hRd.at (i * 3) (by rw [flat3_len]; omega)
  obtain ⟨x, hx⟩ : ∃ x, l[i] = x := ⟨_, rfl⟩
  have hxm : x ∈ l := hx ▸ List.getElem_mem hil
  have hnx := hn x hxm
  refine k_skip ?_
  refine k_seq ?_
  refine k_block ?_
  refine k_seq ?_
  refine k_region ?_
  refine o_ixs (sz := 3) (m := i) Tryd.underlying22 rfl rfl rfl hil ?_
  refine o_lda (xs := itC x) rfl rfl rfl (by rw [← hx]; exact item_cells hRd hk3 i hil) ?_
  refine o_alloc (cs := #[.string emp, .slice none 0 0, .bool false]) inf37 rfl (fun b w4 hB4 hK4 hb4 hZ4 => ?_)
  refine o_sta (xs := itC x) rfl rfl rfl (itC_one x) hB4 (Nat.le_refl 3) (fun w5 hB5 hK5 hZ5 => ?_)
  have hB5 := sta_all hB5 rfl
  have hk35 : Keep [] w3 w5 := hK4.tr1 hK5 (by omega)
  have hM5 := hM3.keep hk35 (by simp)
  refine o_nil ?_
  refine k_seq ?_
  refine k_block ?_
  refine k_seq ?_
  refine k_region ?_
  refine o_fld0 rfl rfl ?_
  refine o_ld rfl rfl (blk_l hB5 rfl) ?_
  refine o_call rfl rfl (name_ok w5 (bsStr x.name) (by rw [bsStr_size]; omega)) (fun v w6 hv => ?_)
  obtain ⟨rfl, hK6⟩ := hv
  have hB6 := hB5.keep hK6 (by simp)
  have hM6 := hM5.keep hK6 (by simp)
  have hk6 : Keep [] w w6 := (hk3.tr hk35).tr hK6
  refine u_notb rfl ?_
  refine m_bool rfl rfl ?_
  refine o_nil ?_
  refine k_condb rfl (fun h26 => ?_) (fun h26 => ?_)
  ·
    refine k_seq ?_
    refine k_region ?_
    refine m_sl rfl rfl ?_
    refine m_int rfl rfl ?_
    refine o_nil ?_
    refine k_ret (ret_tmps (ts := [2, 3]) (v := .tuple #[.slice _ _ _, .int _ _]) rfl rfl ?_)
    exact ⟨hk6, .inl ⟨13, by decide, fun hh => (by have h9 := nameB_true (hh.2.1 x hxm); rw [h9] at h26; cases h26), rfl⟩⟩
  refine k_seq ?_
  refine k_region ?_
  refine m_map rfl rfl ?_
  refine o_fld0 rfl rfl ?_
  refine o_ld rfl rfl (blk_l hB6 rfl) ?_
  refine o_look (kv := Value.string) (q := bsStr x.name) Tryd.underlying41 (key_str Tryd.underlying9) inf4 rfl rfl hM6 (v := .bool (seenB (l.take i) (bsStr x.name))) (by rw [hm3]; cases seenB (l.take i) (bsStr x.name) <;> rfl) ?_
  refine m_bool rfl rfl ?_
  refine o_nil ?_
  refine k_condb rfl (fun h31 => ?_) (fun h31 => ?_)
  ·
    refine k_seq ?_
    refine k_region ?_
    refine m_sl rfl rfl ?_
    refine m_int rfl rfl ?_
    refine o_nil ?_
    refine k_ret (ret_tmps (ts := [2, 3]) (v := .tuple #[.slice _ _ _, .int _ _]) rfl rfl ?_)
    exact ⟨hk6, .inl ⟨14, by decide, fun hh => nodup_take hil hh.2.2.1 (by rw [hx]; exact (seenB_iff _ _).1 h31), rfl⟩⟩
  refine k_seq ?_
  refine k_region ?_
  refine o_fld (off := 1) rfl rfl ?_
  refine o_ld rfl rfl (blk_l hB6 rfl) ?_
  refine o_lens Tryd.underlying25 rfl ?_
  refine b_gtr rfl rfl ?_
  refine m_bool rfl rfl ?_
  refine o_nil ?_
  refine k_cond rfl (fun h => ?_) (fun h => ?_)
  ·
    refine k_seq ?_
    refine k_region ?_
    refine m_sl rfl rfl ?_
    refine m_int rfl rfl ?_
    refine o_nil ?_
    refine k_ret (ret_tmps (ts := [2, 3]) (v := .tuple #[.slice _ _ _, .int _ _]) rfl rfl ?_)
    exact ⟨hk6, .inl ⟨8, by decide, fun hh => by have := hh.2.2.2.1 x hxm; omega, rfl⟩⟩
  refine k_skip ?_
  refine k_blk ?_
  refine k_region ?_
  refine m_map rfl rfl ?_
  refine o_fld0 rfl rfl ?_
  refine o_ld rfl rfl (blk_l hB6 rfl) ?_
  refine o_mput (kv := Value.string) (q := bsStr x.name) Tryd.underlying41 (key_str Tryd.underlying9) rfl rfl rfl hM6 (.inl rfl) (fun w7 hM7 hK7 hZ7 => ?_)
  refine o_nil ?_
  refine k_blk ?_
  refine k_region ?_
  refine n_add rfl rfl (by omega) ?_
  refine m_int rfl rfl ?_
  refine o_nil ?_
  have hgx : nameP (bsStr x.name) := nameP_of (by cases h9 : nameB (bsStr x.name) <;> simp [h9] at h26 ⊢)
  refine k_goal ⟨i + 1, ⟨rfl, rfl, rfl, rfl, rfl, trivial⟩, ⟨by omega, fun y hy => ?_, nodup_step hil hnd (by rw [hx]; intro hm; rw [(seenB_iff _ _).2 hm] at h31; cases h31), ⟨_, hM7, by rw [← hx]; exact seen_put hm3 hil⟩, hk6.tr1 hK7 (by omega)⟩, by omega⟩
  rw [List.take_succ_eq_append_getElem hil, List.mem_append, List.mem_singleton, hx] at hy
  rcases hy with hy | rfl
  · exact hgood y hy
  · exact ⟨hgx, by omega⟩
end Go.Proofs.YtiapgmfooclpcaaDoor

/- Inflate: fixed, spread, take. No condition beyond what each contract names. -/
namespace Go.Proofs.YtiapgmfooclpcaaDoor
open Go.RowKit E
set_option linter.unusedVariables false
set_option linter.unusedSimpArgs false
set_option maxRecDepth 100000
attribute [local irreducible] ow qw kw kq cw opW Ret
def A16 : Bs := List.replicate 16 97#8
def PA : Bs := pack (sqBits A16)
theorem pa_eq : PA = [0x4b#8, 0x44#8, 0x3#8, 0#8] := by decide +kernel
theorem fixed_ok (w : World) : Ret Tryd.prog 84 [] w (fun v w' => ∃ g8 g9, v = .tuple #[.slice (some ⟨g8, 0, none⟩) 288 288, .slice (some ⟨g9, 0, none⟩) 32 32] ∧ Rd w' (some ⟨g8, 0, none⟩) (fixI.map iv) ∧ Rd w' (some ⟨g9, 0, none⟩) (fivI.map iv) ∧ Keep [] w w') := by
  obtain ⟨W0, hW0⟩ : ∃ n, w.heap.size = n := ⟨_, rfl⟩
  refine fn_enter (n := 42) Tryd.func84 rfl rfl (Nat.le_of_ble_eq_true rfl) (fun e => ?_)
  refine k_seq ?_
  refine k_region ?_
  refine m_sl rfl rfl ?_
  refine m_sl rfl rfl ?_
  refine o_nil ?_
  refine k_seq ?_
  refine k_anyF 3 (fun w w' => Keep [] w w') (fun iA => match iA with
      | 0 => fun v w => ∃ g, v = .slice (some ⟨g, 0, none⟩) 288 288 ∧ W0 ≤ g ∧ Sl w 3 1 (some ⟨g, 0, none⟩) 288 288 ((tab fixV 288 0).map iv)
      | 1 => fun v w => ∃ g, v = .slice (some ⟨g, 0, none⟩) 32 32 ∧ W0 ≤ g ∧ Sl w 3 1 (some ⟨g, 0, none⟩) 32 32 ((tab (fun _ => 5) 32 0).map iv)
      | 2 => fun v w => True
      | _ => fun v w => True) [0,1] rfl rfl rfl rfl rfl (Keep.refl []) (fun _ _ _ h1 h2 => h1.tr h2) ?_ ?_ ?_ ?_
  · intro iA v w w' h hL
    match iA, h with
    | 0, h =>
      obtain ⟨g, h1, h2, h3⟩ := h
      exact ⟨g, h1, h2, h3.new hL⟩
    | 1, h =>
      obtain ⟨g, h1, h2, h3⟩ := h
      exact ⟨g, h1, h2, h3.new hL⟩
    | 2, h =>
      exact h
    | _ + 3, h => trivial
  · intro iA hi v w h
    simp only [List.mem_cons, List.not_mem_nil, or_false] at hi
    rcases hi with rfl | rfl
    · obtain ⟨g, rfl, _, h2⟩ := h
      obtain ⟨g', cur, hg', hB, _⟩ := h2.blk (by decide)
      cases hg'; exact hB.lt
    · obtain ⟨g, rfl, _, h2⟩ := h
      obtain ⟨g', cur, hg', hB, _⟩ := h2.blk (by decide)
      cases hg'; exact hB.lt
  · intro iA o him hl eA wA hL hA hD
    match iA, him, hl with
    | 0, _, hl =>
      obtain rfl := Option.some.inj hl
      refine o_gen [] trivial (fun e2 => ?_)
      refine o_make (m := 288) Tryd.underlying74 inf3 rfl rfl (by decide) (by decide) (fun g w2 hS2 hK2 hb2 hZ2 => ?_)
      refine o_nil ⟨hK2, ⟨g, rfl, by have := hL.size; simp at this; omega, by rw [tab_nil, ← make3]; exact hS2⟩, fun _ => by show _ ≤ g; omega⟩
    | 1, _, hl =>
      obtain rfl := Option.some.inj hl
      refine o_gen [] trivial (fun e2 => ?_)
      refine o_make (m := 32) Tryd.underlying74 inf3 rfl rfl (by decide) (by decide) (fun g w2 hS2 hK2 hb2 hZ2 => ?_)
      refine o_nil ⟨hK2, ⟨g, rfl, by have := hL.size; simp at this; omega, by rw [tab_nil, ← make3]; exact hS2⟩, fun _ => by show _ ≤ g; omega⟩
    | 2, _, hl =>
      obtain rfl := Option.some.inj hl
      obtain ⟨g, hg, hg2⟩ := hD 0 (by decide) 4 rfl
      refine o_gen [(4, _)] ⟨hg, trivial⟩ (fun e2 => ?_)
      refine m_sl rfl rfl ?_
      refine o_nil ⟨Keep.refl _ _, trivial, fun h => by simp at h⟩
    | _ + 3, him, _ => exact absurd him (by omega)
  intro eA wA hL hA hV hN hM
  obtain ⟨g8, hg1, hg8, hS8⟩ := hV 0 (by decide) 4 rfl
  obtain ⟨g9, hz1, hg9, hS9⟩ := hV 1 (by decide) 5 rfl
  have hne : g8 ≠ g9 := by
   have := hN 0 1 (by simp) (by simp) (by decide) (by decide) (by decide) 4 5 rfl rfl
   rw [hg1, hz1] at this
   exact this
  have h4 : eA 0 = .slice (some ⟨g8, 0, none⟩) 288 288 := (hM 2 _ _ 0 (by decide) rfl rfl rfl rfl).trans hg1
  have hkA : Keep [] w wA := (Keep.refl [] w).drew.tr hL
  refine o_gen [(0, .slice (some ⟨g8, 0, none⟩) 288 288), (5, .slice (some ⟨g9, 0, none⟩) 32 32)] ⟨h4, hz1, trivial⟩ (fun e3 => ?_)
  clear hV hA hM hN
  refine m_sl rfl rfl ?_
  refine o_nil ?_
  refine k_seq ?_
  refine k_seq ?_
  refine k_region ?_
  refine m_sl rfl rfl ?_
  refine o_lens Tryd.underlying74 rfl ?_
  refine m_int rfl rfl ?_
  refine o_nil ?_
  refine k_block ?_
  refine k_loop (σ := Nat) (fun i => [(0, .slice (some ⟨g8, 0, none⟩) 288 288), (1, .slice (some ⟨g9, 0, none⟩) 32 32), (7, .int .i64 288), (8, .int .i64 (i : Int))]) (fun i w' => i ≤ 288 ∧ Sl w' 3 1 (some ⟨g8, 0, none⟩) 288 288 ((tab fixV 288 i).map iv) ∧ Sl w' 3 1 (some ⟨g9, 0, none⟩) 32 32 ((tab (fun _ => 5) 32 0).map iv) ∧ Keep [] w w') (fun i => 288 - i) 0 ⟨rfl, rfl, rfl, rfl, trivial⟩ ⟨by omega, hS8, hS9, hkA⟩ (fun i e w3 hJ => ?_)
  clear hS8 hS9 hkA
  obtain ⟨hi, hS8, hS9, hk3⟩ := hJ
  refine k_seq ?_
  refine k_region ?_
  refine b_lss rfl rfl ?_
  refine o_nil ?_
  refine k_seq ?_
  refine k_cond rfl (fun h => ?_) (fun h => ?_)
  rotate_left
  ·
    obtain rfl : i = 288 := by omega
    refine k_exit rfl ?_
    refine k_seq ?_
    refine k_seq ?_
    refine k_region ?_
    refine m_sl rfl rfl ?_
    refine o_lens Tryd.underlying74 rfl ?_
    refine m_int rfl rfl ?_
    refine o_nil ?_
    refine k_block ?_
    refine k_loop (σ := Nat) (fun i => [(0, .slice (some ⟨g8, 0, none⟩) 288 288), (1, .slice (some ⟨g9, 0, none⟩) 32 32), (32, .int .i64 32), (33, .int .i64 (i : Int))]) (fun i w' => i ≤ 32 ∧ Sl w' 3 1 (some ⟨g8, 0, none⟩) 288 288 (fixI.map iv) ∧ Sl w' 3 1 (some ⟨g9, 0, none⟩) 32 32 ((tab (fun _ => 5) 32 i).map iv) ∧ Keep [] w w') (fun i => 32 - i) 0 ⟨rfl, rfl, rfl, rfl, trivial⟩ ⟨by omega, hS8, hS9, hk3⟩ (fun i e w4 hJ => ?_)
    clear hS8 hS9 hk3
    obtain ⟨hi, hS8, hS9, hk3⟩ := hJ
    refine k_seq ?_
    refine k_region ?_
    refine b_lss rfl rfl ?_
    refine o_nil ?_
    refine k_seq ?_
    refine k_cond rfl (fun h => ?_) (fun h => ?_)
    rotate_left
    ·
      obtain rfl : i = 32 := by omega
      refine k_exit rfl ?_
      refine k_seq ?_
      refine k_region ?_
      refine m_sl rfl rfl ?_
      refine m_sl rfl rfl ?_
      refine m_sl rfl rfl ?_
      refine m_sl rfl rfl ?_
      refine o_nil ?_
      refine k_ret (ret_tmps (ts := [0, 1]) (v := .tuple #[.slice _ _ _, .slice _ _ _]) rfl rfl ?_)
      exact ⟨g8, g9, rfl, hS8.rd, hS9.rd, hk3⟩
    have hin : i < 32 := by omega
    obtain ⟨g', cur, hg', hB3, hsz⟩ := hS9.blk (by decide)
    obtain rfl : g9 = g' := by cases hg'; rfl
    refine k_skip ?_
    refine k_seq ?_
    refine k_block ?_
    refine k_seq ?_
    refine k_region ?_
    refine m_int rfl rfl ?_
    refine m_int rfl rfl ?_
    refine o_nil ?_
    refine k_region ?_
    refine m_sl rfl rfl ?_
    refine m_int rfl rfl ?_
    refine o_ixs1 (m := i) Tryd.underlying74 rfl rfl rfl hin ?_
    refine o_st (v := .int _ _) rfl rfl rfl rfl hB3 (by omega) (fun w5 hB4 hK4 hZ4 => ?_)
    have hS4 := hS9.set hin hB3 hB4
    refine o_nil ?_
    refine k_blk ?_
    refine k_region ?_
    refine n_add rfl rfl (by omega) ?_
    refine m_int rfl rfl ?_
    refine o_nil ?_
    refine k_goal ⟨i + 1, ⟨rfl, rfl, rfl, rfl, trivial⟩, ⟨by omega, hS8.keep hK4 (by intro q hq; cases hq; simp; exact hne), ?_, hk3.tr1 hK4 (by omega)⟩, by omega⟩
    rw [← tab_set, List.map_set]
    exact hS4
  have hin : i < 288 := by omega
  obtain ⟨g', cur, hg', hB3, hsz⟩ := hS8.blk (by decide)
  obtain rfl : g8 = g' := by cases hg'; rfl
  have hst : ∀ (v : Int) (w4 : World), v = fixV i → Blk w4 g8 (cur.setIfInBounds (0 + i) (iv v)) 3 → Keep [g8] w3 w4 → Sl w4 3 1 (some ⟨g8, 0, none⟩) 288 288 ((tab fixV 288 (i + 1)).map iv) ∧ Sl w4 3 1 (some ⟨g9, 0, none⟩) 32 32 ((tab (fun _ => 5) 32 0).map iv) ∧ Keep [] w w4 := fun v w4 hv hB4 hK4 => by
   subst hv
   refine ⟨?_, hS9.keep hK4 (by intro q hq; cases hq; simp; exact fun hh => hne hh.symm), hk3.tr1 hK4 (by omega)⟩
   rw [← tab_set, List.map_set]
   exact hS8.set hin hB3 hB4
  refine k_skip ?_
  refine k_seq ?_
  refine k_block ?_
  refine k_seq ?_
  refine k_region ?_
  refine m_int rfl rfl ?_
  refine m_int rfl rfl ?_
  refine o_nil ?_
  refine k_block ?_
  refine k_seq ?_
  refine k_region ?_
  refine m_int rfl rfl ?_
  refine b_lss rfl rfl ?_
  refine m_bool rfl rfl ?_
  refine o_split (t := 17) rfl (fun h => ?_) (fun h => ?_)
  ·
    refine g_no rfl rfl rfl ?_
    refine g_no rfl rfl rfl ?_
    refine pick_t rfl rfl ?_
    refine m_bool rfl rfl ?_
    refine o_nil ?_
    refine k_condt rfl ?_
    refine k_region ?_
    refine m_sl rfl rfl ?_
    refine m_int rfl rfl ?_
    refine o_ixs1 (m := i) Tryd.underlying74 rfl rfl rfl hin ?_
    refine o_st (v := .int _ _) rfl rfl rfl rfl hB3 (by omega) (fun w4 hB4 hK4 hZ4 => ?_)
    refine o_nil ?_
    refine k_blk ?_
    refine k_blk ?_
    refine k_region ?_
    refine n_add rfl rfl (by omega) ?_
    refine m_int rfl rfl ?_
    refine o_nil ?_
    refine k_goal ⟨i + 1, ⟨rfl, rfl, rfl, rfl, trivial⟩, ⟨by omega, hst 8 w4 (by unfold fixV; rw [if_neg (by omega), if_neg (by omega)]) hB4 hK4⟩, by omega⟩
  ·
    refine g_yes rfl rfl ?_
    refine m_int rfl rfl ?_
    refine g_yes rfl rfl ?_
    refine b_geq rfl rfl ?_
    refine pick_f rfl rfl ?_
    refine m_bool rfl rfl ?_
    refine o_nil ?_
    refine k_cond rfl (fun h => ?_) (fun h => ?_)
    ·
      refine k_region ?_
      refine m_sl rfl rfl ?_
      refine m_int rfl rfl ?_
      refine o_ixs1 (m := i) Tryd.underlying74 rfl rfl rfl hin ?_
      refine o_st (v := .int _ _) rfl rfl rfl rfl hB3 (by omega) (fun w4 hB4 hK4 hZ4 => ?_)
      refine o_nil ?_
      refine k_blk ?_
      refine k_blk ?_
      refine k_region ?_
      refine n_add rfl rfl (by omega) ?_
      refine m_int rfl rfl ?_
      refine o_nil ?_
      refine k_goal ⟨i + 1, ⟨rfl, rfl, rfl, rfl, trivial⟩, ⟨by omega, hst 8 w4 (by unfold fixV; rw [if_neg (by omega), if_neg (by omega)]) hB4 hK4⟩, by omega⟩
    refine k_seq ?_
    refine k_region ?_
    refine m_int rfl rfl ?_
    refine b_lss rfl rfl ?_
    refine m_bool rfl rfl ?_
    refine o_nil ?_
    refine k_cond rfl (fun h => ?_) (fun h => ?_)
    ·
      refine k_region ?_
      refine m_sl rfl rfl ?_
      refine m_int rfl rfl ?_
      refine o_ixs1 (m := i) Tryd.underlying74 rfl rfl rfl hin ?_
      refine o_st (v := .int _ _) rfl rfl rfl rfl hB3 (by omega) (fun w4 hB4 hK4 hZ4 => ?_)
      refine o_nil ?_
      refine k_blk ?_
      refine k_blk ?_
      refine k_region ?_
      refine n_add rfl rfl (by omega) ?_
      refine m_int rfl rfl ?_
      refine o_nil ?_
      refine k_goal ⟨i + 1, ⟨rfl, rfl, rfl, rfl, trivial⟩, ⟨by omega, hst 9 w4 (by unfold fixV; rw [if_neg (by omega), if_pos (by omega)]) hB4 hK4⟩, by omega⟩
    refine k_region ?_
    refine m_sl rfl rfl ?_
    refine m_int rfl rfl ?_
    refine o_ixs1 (m := i) Tryd.underlying74 rfl rfl rfl hin ?_
    refine o_st (v := .int _ _) rfl rfl rfl rfl hB3 (by omega) (fun w4 hB4 hK4 hZ4 => ?_)
    refine o_nil ?_
    refine k_blk ?_
    refine k_blk ?_
    refine k_region ?_
    refine n_add rfl rfl (by omega) ?_
    refine m_int rfl rfl ?_
    refine o_nil ?_
    refine k_goal ⟨i + 1, ⟨rfl, rfl, rfl, rfl, trivial⟩, ⟨by omega, hst 7 w4 (by unfold fixV; rw [if_pos (by omega)]) hB4 hK4⟩, by omega⟩
theorem spread1 (w : World) : Ret Tryd.prog 95 [.int .i64 10, .int .i64 4] w (fun v w' => v = .tuple #[.int .i64 12, .int .i64 1] ∧ w' = w) := by
  refine fn_enter (n := 24) Tryd.func95 rfl rfl (Nat.le_of_ble_eq_true rfl) (fun e => ?_)
  refine k_seq ?_
  refine k_region ?_
  refine m_int rfl rfl ?_
  refine m_int rfl rfl ?_
  refine o_nil ?_
  refine k_seq ?_
  refine k_seq ?_
  refine k_region ?_
  refine m_int rfl rfl ?_
  refine m_int rfl rfl ?_
  refine n_mul rfl rfl (by omega) ?_
  refine b_lss rfl rfl ?_
  refine o_nil ?_
  refine k_no rfl ((by decide)) ?_
  refine k_skip ?_
  refine k_seq ?_
  refine k_region ?_
  refine m_int rfl rfl ?_
  refine m_int rfl rfl ?_
  refine b_quo rfl rfl (by omega) ?_
  rw [show IntKind.i64.wrap (Int.tdiv 10 4) = 2 by decide]
  refine n_sub rfl rfl (by omega) ?_
  refine m_int rfl rfl ?_
  refine o_nil ?_
  refine k_seq ?_
  refine k_region ?_
  refine m_int rfl rfl ?_
  refine m_int rfl rfl ?_
  refine m_int rfl rfl ?_
  refine b_rem rfl rfl (by omega) ?_
  rw [show Int.tmod 10 4 = 2 by decide]
  refine n_add rfl rfl (by omega) ?_
  refine m_int rfl rfl ?_
  refine cv64 rfl Tryd.underlying100 rfl ?_
  refine b_shln rfl rfl ?_
  refine m_int rfl rfl ?_
  refine m_int rfl rfl ?_
  refine m_int rfl rfl ?_
  refine o_nil ?_
  refine k_ret (ret_tmps (ts := [4, 5]) (v := .tuple #[.int _ _, .int _ _]) rfl rfl ?_)
  exact ⟨by kernel_rfl, rfl⟩
theorem spread2 (w : World) : Ret Tryd.prog 95 [.int .i64 0, .int .i64 2] w (fun v w' => v = .tuple #[.int .i64 0, .int .i64 0] ∧ w' = w) := by
  refine fn_enter (n := 24) Tryd.func95 rfl rfl (Nat.le_of_ble_eq_true rfl) (fun e => ?_)
  refine k_seq ?_
  refine k_region ?_
  refine m_int rfl rfl ?_
  refine m_int rfl rfl ?_
  refine o_nil ?_
  refine k_seq ?_
  refine k_seq ?_
  refine k_region ?_
  refine m_int rfl rfl ?_
  refine m_int rfl rfl ?_
  refine n_mul rfl rfl (by omega) ?_
  refine b_lss rfl rfl ?_
  refine o_nil ?_
  refine k_yes rfl ((by decide)) ?_
  refine k_seq ?_
  refine k_region ?_
  refine m_int rfl rfl ?_
  refine m_int rfl rfl ?_
  refine m_int rfl rfl ?_
  refine o_nil ?_
  refine k_ret (ret_tmps (ts := [4, 5]) (v := .tuple #[.int _ _, .int _ _]) rfl rfl ?_)
  exact ⟨rfl, rfl⟩
def pI (i : Nat) : Nat := if i = 0 then 0 else if i = 1 then 1 else 3
def wI (i : Nat) : Int := if i = 0 then 1 else 2
theorem tkI (i : Nat) (h : i < 2) : tk PA (pI i) (wI i) = (1, 0, pI (i + 1)) := by
  rw [pa_eq]
  match i, h with
  | 0, _ => decide +kernel
  | 1, _ => decide +kernel
/-- the state of an unpacking -/
def StB (w : World) (s r : Nat) (a : Option Addr) (c : Nat) (out : Bs) (lim : Int) : Prop := Blk w s #[.pointer (some ⟨r, 0, none⟩), .slice a out.length c, .int .i64 lim] 142
theorem Rdr.sl {T E : TypeId} {w w' : World} {r p sz m c : Nat} {bs : Bs} {a : Option Addr} {xs : List Value} (h : Rdr T w r bs p) (hS : Sl w E sz a m c xs) (h1 : E ≠ T) (h2 : 5 ≠ E) (hk : Keep (blkOf a) w w') : Rdr T w' r bs p := by
  obtain ⟨a1, c1, hB, hS1, hp, hl⟩ := h
  exact ⟨a1, c1, hB.keep hk (hS.notin hB h1), hS1.keep hk (hS1.off2 hS h2), hp, hl⟩
theorem stake_ok (w : World) (s r g : Nat) (a : Option Addr) (c : Nat) (out : Bs) (lim : Int) (hS : StB w s r a c out lim) (hR : Rdr 156 w r PA 0) (hB : Blk w g #[.int .i64 1, .int .i64 2] 3) :
    Ret Tryd.prog 82 [.pointer (some ⟨s, 0, none⟩), .slice (some ⟨g, 0, none⟩) 2 2] w (fun v w' => ∃ a2 c2, v = .tuple #[.slice a2 2 c2, .int .i64 0] ∧ Rd w' a2 [.int .i64 1, .int .i64 1] ∧ Rdr 156 w' r PA 3 ∧ Keep [r] w w') := by
  obtain ⟨csr, hBr⟩ := hR.blk
  have hsr : s ≠ r := fun h => by subst h; have := hBr.ty hS; simp at this
  have hgr : g ≠ r := fun h => by subst h; have := hBr.ty hB; simp at this
  have hrl := hBr.lt
  refine fn_enter (n := 35) Tryd.func82 rfl rfl (Nat.le_of_ble_eq_true rfl) (fun e => ?_)
  refine k_seq ?_
  refine k_region ?_
  refine m_sl rfl rfl ?_
  refine m_int rfl rfl ?_
  refine o_nil ?_
  refine k_seq ?_
  refine k_region ?_
  refine m_sl rfl rfl ?_
  refine o_nil ?_
  refine k_seq ?_
  refine k_seq ?_
  refine k_region ?_
  refine m_sl rfl rfl ?_
  refine o_lens Tryd.underlying74 rfl ?_
  refine m_int rfl rfl ?_
  refine o_nil ?_
  refine k_block ?_
  refine k_loop (σ := Nat × Option Addr × Nat) (fun z => [(0, .pointer (some ⟨s, 0, none⟩)), (6, .slice z.2.1 z.1 z.2.2), (11, .slice (some ⟨g, 0, none⟩) 2 2), (12, .int .i64 2), (13, .int .i64 (z.1 : Int))]) (fun z w' => z.1 ≤ 2 ∧ Sl w' 3 1 z.2.1 z.1 z.2.2 (([1, 1].take z.1).map iv) ∧ Rdr 156 w' r PA (pI z.1) ∧ (∀ q, z.2.1 = some q → w.heap.size ≤ q.block) ∧ Keep [r] w w') (fun z => 2 - z.1) (0, none, 0) ⟨rfl, rfl, rfl, rfl, rfl, trivial⟩ ⟨by simp, Sl.nil _ _ _, hR, by simp, Keep.refl _ _⟩ (fun z e w3 hJ => ?_)
  obtain ⟨i, a3, c3⟩ := z
  obtain ⟨hi, hS3, hR3, hf3, hK3⟩ := hJ
  simp only at hi hS3 hR3 hf3 ⊢
  refine k_seq ?_
  refine k_region ?_
  refine b_lss rfl rfl ?_
  refine o_nil ?_
  refine k_seq ?_
  refine k_cond rfl (fun h => ?_) (fun h => ?_)
  rotate_left
  ·
    obtain rfl : i = 2 := by omega
    refine k_exit rfl ?_
    refine k_seq ?_
    refine k_region ?_
    refine m_sl rfl rfl ?_
    refine m_sl rfl rfl ?_
    refine m_int rfl rfl ?_
    refine o_nil ?_
    refine k_ret (ret_tmps (ts := [4, 5]) (v := .tuple #[.slice _ _ _, .int _ _]) rfl rfl ?_)
    exact ⟨a3, c3, rfl, hS3.rd, hR3, hK3⟩
  have hi2 : i < 2 := by omega
  have hB3 := hB.keep hK3 (by simpa using hgr)
  have hSt3 : StB w3 s r a c out lim := Blk.keep hS hK3 (by simpa using hsr)
  refine k_skip ?_
  refine k_seq ?_
  refine k_block ?_
  refine k_seq ?_
  refine k_region ?_
  refine o_ixs1 (m := i) Tryd.underlying74 rfl rfl rfl hi2 ?_
  refine o_ld (v := .int .i64 (wI i)) rfl rfl (by
    rw [hB3.cell, Nat.zero_add]
    match i, hi2 with
    | 0, _ => rfl
    | 1, _ => rfl) ?_
  refine m_int rfl rfl ?_
  refine o_nil ?_
  refine k_seq ?_
  refine k_region ?_
  refine m_ptr rfl rfl ?_
  refine o_nilc rfl ?_
  refine o_fld0 rfl rfl ?_
  refine o_ld rfl rfl (hSt3.at rfl) ?_
  refine m_int rfl rfl ?_
  refine o_call rfl rfl (take_ok w3 r (pI i) PA (wI i) hR3) (fun v w4 hv => ?_)
  unfold TkR at hv
  rw [tkI i hi2] at hv
  obtain ⟨rfl, hR4, hK4⟩ := hv
  refine m_any rfl rfl ?_
  refine o_extr (vs := [.int .i64 1, .int .i64 0]) rfl rfl ?_
  refine o_extr (vs := [.int .i64 1, .int .i64 0]) rfl rfl ?_
  refine m_int rfl rfl ?_
  refine m_int rfl rfl ?_
  refine o_nil ?_
  refine k_seq ?_
  refine k_seq ?_
  refine k_region ?_
  refine m_int rfl rfl ?_
  refine b_neq rfl rfl ?_
  refine o_nil ?_
  refine k_no rfl ((by decide)) ?_
  refine k_skip ?_
  refine k_region ?_
  refine m_sl rfl rfl ?_
  refine m_int rfl rfl ?_
  refine o_bsl (E := 3) (cs := #[.int .i64 1]) rfl (fun _ => by kernel_rfl) (fun g5 w5 hB5 hK5 hb5 hZ5 => ?_)
  have hS4 : Sl w4 3 1 a3 i c3 (([1, 1].take i).map iv) := hS3.keep hK4 (fun q hq hm => by simp at hm; have := hf3 q hq; omega)
  have hR5 := hR4.new hK5
  have hS5 := hS4.new hK5
  refine o_app Tryd.underlying74 inf3 rfl (by decide) rfl rfl hS5 (hB5.sl (len := 1) (sz := 1) rfl (by decide)).rd (by simp) (by intro u hu; simp at hu; subst hu; rfl) (by simp [maxLen]; omega) (by omega) (fun a6 c6 w6 hS6 hK6 hv6 => ?_)
  refine m_sl rfl rfl ?_
  refine o_nil ?_
  refine k_blk ?_
  refine k_region ?_
  refine n_add rfl rfl (by omega) ?_
  refine m_int rfl rfl ?_
  refine o_nil ?_
  have hsz3 := hK3.size
  have hsz4 := hK4.size
  have hsz5 := hK5.size
  have hfr : ∀ q, a6 = some q → w.heap.size ≤ q.block := fun q hq => by
   rcases hv6 with ⟨rfl, _⟩ | ⟨g6, rfl, h6, _⟩
   · exact hf3 q hq
   · cases hq; simp only; omega
  have ha3 : ∀ b ∈ blkOf a3, w.heap.size ≤ b := fun b hb => by
   cases a3 with
   | none => simp [blkOf] at hb
   | some p => simp [blkOf] at hb; subst hb; exact hf3 p rfl
  refine k_goal ⟨(i + 1, a6, c6), ⟨rfl, rfl, rfl, rfl, rfl, trivial⟩, ⟨by show i + 1 ≤ 2; omega, ?_, ?_, hfr, ?_⟩, by show 2 - (i + 1) < 2 - i; omega⟩
  · show Sl w6 3 1 a6 (i + 1) c6 (([1, 1].take (i + 1)).map iv)
    have e : (([1, 1].take (i + 1)).map iv : List Value) = ([1, 1].take i).map iv ++ [.int .i64 1] := by
     match i, hi2 with
     | 0, _ => rfl
     | 1, _ => rfl
    rw [e]
    exact hS6
  · exact hR5.sl hS5 (by decide) (by decide) hK6
  · exact ((hK3.trans hK4 (fun b hb _ => hb)).trans hK5 (fun b hb _ => by simp at hb)).trans hK6 (fun b hb hl => absurd (ha3 b hb) (by omega))
end Go.Proofs.YtiapgmfooclpcaaDoor

/- Inflate: readers whose bytes lie below a bound: Take and Next again (after this set's own BWa and PWc). No condition beyond what each contract names. -/
namespace Go.Proofs.YtiapgmfooclpcaaDoor
open Go.RowKit E
set_option linter.unusedVariables false
set_option linter.unusedSimpArgs false
set_option maxRecDepth 100000
attribute [local irreducible] ow qw kw kq cw opW Ret
def RdK (K : Nat) (w : World) (r : Nat) (bs : List (BitVec 8)) (p : Nat) : Prop :=
  ∃ a c, Blk w r #[.slice a bs.length c, .int .i64 (p : Int)] 156 ∧ Sl w 5 1 a bs.length c (bs.map u8v) ∧ p ≤ 8 * bs.length ∧ bs.length ≤ 140737488355328 ∧ ∀ q, a = some q → q.block < K
theorem RdK.new {K : Nat} {w w' : World} {r : Nat} {bs : List (BitVec 8)} {p : Nat} (h : RdK K w r bs p) (hk : Keep [] w w') : RdK K w' r bs p := by
  obtain ⟨a, c, hB, hS, hp⟩ := h
  exact ⟨a, c, hB.keep hk (by simp), hS.new hk, hp⟩
theorem RdK.keep1 {K : Nat} {T' : TypeId} {w w' : World} {r x : Nat} {bs : List (BitVec 8)} {p : Nat} {cs : Array Value} (h : RdK K w r bs p) (hx : Blk w x cs T') (hrx : r ≠ x) (h5 : 5 ≠ T') (hk : Keep [x] w w') : RdK K w' r bs p := by
  obtain ⟨a, c, hB, hS, hp⟩ := h
  exact ⟨a, c, hB.keep hk (by simpa using hrx), hS.keep hk (hS.off hx h5), hp⟩
theorem RdK.blk {K : Nat} {w : World} {r : Nat} {bs : List (BitVec 8)} {p : Nat} (h : RdK K w r bs p) : ∃ cs, Blk w r cs 156 := by
  obtain ⟨a, c, hB, _⟩ := h
  exact ⟨_, hB⟩
theorem RdK.rdr {K : Nat} {w : World} {r : Nat} {bs : List (BitVec 8)} {p : Nat} (h : RdK K w r bs p) : Rdr 156 w r bs p := by
  obtain ⟨a, c, hB, hS, h1, h2, _⟩ := h
  exact ⟨a, c, hB, hS, h1, h2⟩
theorem Rdr.high {w : World} {r : Nat} {bs : List (BitVec 8)} {p : Nat} (h : Rdr 156 w r bs p) : RdK w.heap.size w r bs p := by
  obtain ⟨a, c, hB, hS, h1, h2⟩ := h
  exact ⟨a, c, hB, hS, h1, h2, hS.lt⟩
/-- bytes that lie above the bound are written -/
theorem RdK.sl {K E : Nat} {w w' : World} {r p : Nat} {bs : List (BitVec 8)} {a : Option Addr} {sz m c : Nat} {xs : List Value} (h : RdK K w r bs p) (hS : Sl w E sz a m c xs) (hE : E ≠ 156) (ha : ∀ q, a = some q → K ≤ q.block) (hk : Keep (blkOf a) w w') : RdK K w' r bs p := by
  obtain ⟨a1, c1, hB, hS1, h1, h2, h3⟩ := h
  refine ⟨a1, c1, hB.keep hk (hS.notin hB hE), hS1.keep hk (fun q hq hm => ?_), h1, h2, h3⟩
  cases a with
  | none => simp [blkOf] at hm
  | some z => simp [blkOf] at hm; have := ha z rfl; have := h3 q hq; omega
def TkK (K : Nat) (w : World) (r : Nat) (bs : List (BitVec 8)) (p : Nat) (n : Int) (v : Value) (w' : World) : Prop :=
  v = .tuple #[.int .i64 (tk bs p n).1, .int .i64 (tk bs p n).2.1] ∧ RdK K w' r bs (tk bs p n).2.2 ∧ Keep [r] w w'
theorem TkK.of {K : Nat} {w w' : World} {r p q : Nat} {bs : List (BitVec 8)} {n x y : Int} (h : tk bs p n = (x, y, q)) (hR : RdK K w' r bs q) (hK : Keep [r] w w') : TkK K w r bs p n (.tuple #[.int .i64 x, .int .i64 y]) w' := by
  unfold TkK; rw [h]; exact ⟨rfl, hR, hK⟩
theorem take_k (K : Nat) (w : World) (r p : Nat) (bs : List (BitVec 8)) (n : Int) (h : RdK K w r bs p) :
    Ret Tryd.prog 92 [.pointer (some ⟨r, 0, none⟩), .int .i64 n] w (fun v w' => TkK K w r bs p n v w') := by
  have hR := h
  obtain ⟨a, c, hB, hS, hp, hl⟩ := h
  refine fn_enter (n := 88) Tryd.func92 rfl rfl (Nat.le_of_ble_eq_true rfl) (fun e => ?_)
  refine k_seq ?_
  refine k_region ?_
  refine m_int rfl rfl ?_
  refine m_int rfl rfl ?_
  refine o_nil ?_
  refine k_seq ?_
  refine k_seq ?_
  refine k_region ?_
  refine m_ptr rfl rfl ?_
  refine b_eqlp Tryd.underlying139 rfl rfl ?_
  refine m_bool rfl rfl ?_
  refine o_false (t := 12) rfl ((by simp)) ?_
  refine g_yes rfl rfl ?_
  refine m_int rfl rfl ?_
  refine g_yes rfl rfl ?_
  refine b_lss rfl rfl ?_
  refine pick_f rfl rfl ?_
  refine m_bool rfl rfl ?_
  refine o_split (t := 16) rfl (fun h => ?_) (fun h => ?_)
  ·
    refine g_no rfl rfl rfl ?_
    refine g_no rfl rfl rfl ?_
    refine pick_t rfl rfl ?_
    refine o_nil ?_
    refine k_condt rfl ?_
    refine k_seq ?_
    refine k_region ?_
    refine m_int rfl rfl ?_
    refine m_int rfl rfl ?_
    refine o_nil ?_
    refine k_ret (ret_tmps (ts := [4, 5]) (v := .tuple #[.int _ _, .int _ _]) rfl rfl ?_)
    exact TkK.of (tk_arg (.inl h)) hR (Keep.refl _ _)
  ·
    refine g_yes rfl rfl ?_
    refine m_int rfl rfl ?_
    refine g_yes rfl rfl ?_
    refine b_gtr rfl rfl ?_
    refine pick_f rfl rfl ?_
    refine o_nil ?_
    refine k_cond rfl (fun h => ?_) (fun h => ?_)
    ·
      refine k_seq ?_
      refine k_region ?_
      refine m_int rfl rfl ?_
      refine m_int rfl rfl ?_
      refine o_nil ?_
      refine k_ret (ret_tmps (ts := [4, 5]) (v := .tuple #[.int _ _, .int _ _]) rfl rfl ?_)
      exact TkK.of (tk_arg (.inr h)) hR (Keep.refl _ _)
    refine k_skip ?_
    refine k_seq ?_
    refine k_seq ?_
    refine k_qk 12 rfl rfl rfl rfl rfl ?_
    refine q_step (fun w1 hC => m_int rfl rfl (o_nil ⟨rfl, hC⟩)) ?_
    refine q_step (fun w1 hC => m_ptr rfl rfl (o_nil ⟨rfl, hC⟩)) ?_
    refine q_step (fun w1 hC => o_nilc rfl (o_nil ⟨rfl, hC⟩)) ?_
    refine q_step (fun w1 hC => o_fld0 rfl rfl (o_nil ⟨rfl, hC⟩)) ?_
    refine q_step (fun w1 hC => o_ld rfl rfl (by first | exact hB.at rfl | exact hB.kat hC rfl) (o_nil ⟨rfl, hC⟩)) ?_
    refine q_step (fun w1 hC => o_lens Tryd.underlying25 rfl (o_nil ⟨rfl, hC⟩)) ?_
    refine q_step (fun w1 hC => n_mul rfl rfl (by omega) (o_nil ⟨rfl, hC⟩)) ?_
    refine q_step (fun w1 hC => m_ptr rfl rfl (o_nil ⟨rfl, hC⟩)) ?_
    refine q_step (fun w1 hC => o_nilc rfl (o_nil ⟨rfl, hC⟩)) ?_
    refine q_step (fun w1 hC => o_fld (off := 1) rfl rfl (o_nil ⟨rfl, hC⟩)) ?_
    refine q_step (fun w1 hC => o_ld rfl rfl (by first | exact hB.at rfl | exact hB.kat hC rfl) (o_nil ⟨rfl, hC⟩)) ?_
    refine q_step (fun w1 hC => n_sub rfl rfl (by omega) (o_nil ⟨rfl, hC⟩)) ?_
    refine q_nil ?_
    intro w2 hC2
    have hR2 := hR.new hC2
    have hB := hB.keep hC2 (by simp)
    have hB2 := hB
    have hS := hS.new hC2
    refine b_gtr rfl rfl ?_
    refine o_nil ?_
    refine k_cond rfl (fun h => ?_) (fun h => ?_)
    ·
      refine k_seq ?_
      refine k_region ?_
      refine m_int rfl rfl ?_
      refine m_int rfl rfl ?_
      refine o_nil ?_
      refine k_ret (ret_tmps (ts := [4, 5]) (v := .tuple #[.int _ _, .int _ _]) rfl rfl ?_)
      exact TkK.of (tk_short (by omega) h) hR2 hC2.also
    obtain ⟨m, rfl⟩ : ∃ m : Nat, n = m := ⟨n.toNat, by omega⟩
    refine k_skip ?_
    refine k_seq ?_
    refine k_region ?_
    refine m_int rfl rfl ?_
    refine o_nil ?_
    refine k_seq ?_
    refine k_seq ?_
    refine k_region ?_
    refine m_int rfl rfl ?_
    refine o_nil ?_
    refine k_block ?_
    refine k_loop (σ := Nat × BitVec 32) (fun s => [(0, .pointer (some ⟨r, 0, none⟩)), (1, .int .i64 (m : Int)), (6, .int .u32 (s.2.toNat : Int)), (7, .int .i64 (s.1 : Int))]) (fun s w' => s.1 ≤ 3 ∧ (∀ j, s.2.getLsbD j = (decide (j < 8 * s.1) && bitAt bs (8 * (p / 8) + j))) ∧ w' = w2) (fun s => 3 - s.1) (0, 0#32) ⟨rfl, rfl, rfl, rfl, trivial⟩ ⟨by simp, by intro j; simp, rfl⟩ (fun s e w' hJ => ?_)
    obtain ⟨i, acc⟩ := s
    obtain ⟨hi, hacc, rfl⟩ := hJ
    simp only at hi hacc
    refine k_seq ?_
    refine k_seq ?_
    refine k_region ?_
    refine m_int rfl rfl ?_
    refine b_lss rfl rfl ?_
    refine o_nil ?_
    refine k_cond rfl (fun h => ?_) (fun h => ?_)
    rotate_left
    ·
      obtain rfl : i = 3 := by omega
      refine k_exit rfl ?_
      refine k_seq ?_
      refine k_region ?_
      refine m_int rfl rfl ?_
      refine m_ptr rfl rfl ?_
      refine o_nilc rfl ?_
      refine o_fld (off := 1) rfl rfl ?_
      refine o_ld rfl rfl (by first | exact hB.at rfl | exact hB.kat hC rfl) ?_ 
      refine cv64 rfl Tryd.underlying100 rfl ?_
      refine v64_and (b := 7#64) rfl rfl ?_
      rw [and7 p (by omega)]
      refine v32_shrn rfl rfl ?_
      refine m_int rfl rfl ?_
      refine cv64 rfl Tryd.underlying100 rfl ?_
      rw [ofN m (by omega)]
      refine v32_shln (a := 1#32) rfl rfl ?_
      refine v32_sub (b := 1#32) rfl rfl ?_
      refine v32_and rfl rfl ?_
      refine m_int rfl rfl ?_
      refine o_nil ?_
      refine k_seq ?_
      refine k_region ?_
      refine m_ptr rfl rfl ?_
      refine o_nilc rfl ?_
      refine o_fld (off := 1) rfl rfl ?_
      refine o_ld rfl rfl (by first | exact hB.at rfl | exact hB.kat hC rfl) ?_ 
      refine m_int rfl rfl ?_
      refine n_add rfl rfl (by omega) ?_
      refine o_nilc rfl ?_
      refine o_fld (off := 1) rfl rfl ?_
      refine o_st (v := .int _ _) rfl rfl rfl rfl hB (by simp) (fun w' hB hK hZ => ?_)
      rename_i w3
      refine o_nil ?_
      refine k_seq ?_
      refine k_region ?_
      refine m_int rfl rfl ?_
      refine cv32_i rfl Tryd.underlying3 rfl ?_
      rw [take_val bs p m acc (by omega) hacc]
      refine m_int rfl rfl ?_
      refine m_int rfl rfl ?_
      refine o_nil ?_
      refine k_ret (ret_tmps (ts := [4, 5]) (v := .tuple #[.int _ _, .int _ _]) rfl rfl ?_)
      refine TkK.of (tk_ok (by omega) (by omega)) ⟨a, c, hB, hS.keep hK (hS.off hB2 (by decide)), by omega, hl⟩ (hC2.also.trans hK (fun _ h _ => h))
    have hi3 : i < 3 := by omega
    refine k_skip ?_
    refine k_seq ?_
    refine k_block ?_
    refine k_seq ?_
    refine k_region ?_
    refine m_ptr rfl rfl ?_
    refine o_nilc rfl ?_
    refine o_fld (off := 1) rfl rfl ?_
    refine o_ld rfl rfl (by first | exact hB.at rfl | exact hB.kat hC rfl) ?_ 
    refine b_shrn (c := 3) rfl rfl ?_
    rw [sh3 p]
    refine m_int rfl rfl ?_
    refine n_add rfl rfl (by omega) ?_
    refine m_int rfl rfl ?_
    refine o_nil ?_
    refine k_seq ?_
    refine k_region ?_
    refine m_int rfl rfl ?_
    refine m_ptr rfl rfl ?_
    refine o_nilc rfl ?_
    refine o_fld0 rfl rfl ?_
    refine o_ld rfl rfl (by first | exact hB.at rfl | exact hB.kat hC rfl) ?_ 
    refine o_lens Tryd.underlying25 rfl ?_
    refine b_lss rfl rfl ?_
    refine o_nil ?_
    refine k_cond rfl (fun h => ?_) (fun h => ?_)
    ·
      have hpi : p / 8 + i < bs.length := by omega
      obtain ⟨b1, o1, rfl, _⟩ := hS.rd.at (p / 8 + i) (by simpa using hpi)
      refine k_region ?_
      refine m_int rfl rfl ?_
      refine m_ptr rfl rfl ?_
      refine o_nilc rfl ?_
      refine o_fld0 rfl rfl ?_
      refine o_ld rfl rfl (by first | exact hB.at rfl | exact hB.kat hC rfl) ?_ 
      refine m_int rfl rfl ?_
      refine o_ixs1 (m := p / 8 + i) Tryd.underlying25 rfl rfl rfl hpi ?_
      refine o_ld rfl rfl (hS.rd.cellK (Keep.refl _ _) (u8_at bs (p / 8 + i) hpi)) ?_
      refine cv8_32 rfl Tryd.underlying107 rfl ?_
      refine m_int rfl rfl ?_
      refine cv64 rfl Tryd.underlying100 rfl ?_
      refine v64_mul (a := 8#64) rfl rfl ?_
      rw [mul8 i hi3]
      refine v32_shln rfl rfl ?_
      refine v32_or rfl rfl ?_
      refine m_int rfl rfl ?_
      refine o_nil ?_
      refine k_blk ?_
      refine k_region ?_
      refine m_int rfl rfl ?_
      refine n_add rfl rfl (by omega) ?_
      refine m_int rfl rfl ?_
      refine o_nil ?_
      refine k_goal ⟨(i + 1, _), ⟨rfl, rfl, rfl, rfl, trivial⟩, ⟨by simp only; omega, acc_step bs (p / 8) i acc hi3 hacc hpi, rfl⟩, by simp only; omega⟩
    refine k_skip ?_
    refine k_blk ?_
    refine k_region ?_
    refine m_int rfl rfl ?_
    refine n_add rfl rfl (by omega) ?_
    refine m_int rfl rfl ?_
    refine o_nil ?_
    refine k_goal ⟨(i + 1, acc), ⟨rfl, rfl, rfl, rfl, trivial⟩, ⟨by simp only; omega, acc_out bs (p / 8) i acc hacc (by omega), rfl⟩, by simp only; omega⟩
def NxK (K : Nat) (w : World) (x : Nat) (L : List Nat) (bs : List (BitVec 8)) (p : Nat) (v : Value) (w' : World) : Prop :=
  v = .tuple #[.int .i64 (nx L bs (mostL L) 0 0 p).1, .int .i64 (nx L bs (mostL L) 0 0 p).2.1] ∧ RdK K w' x bs (nx L bs (mostL L) 0 0 p).2.2 ∧ Keep [x] w w'
theorem NxK.of {K : Nat} {w w' : World} {x p q : Nat} {L : List Nat} {bs : List (BitVec 8)} {a b : Int} (h : nx L bs (mostL L) 0 0 p = (a, b, q)) (hR : RdK K w' x bs q) (hK : Keep [x] w w') : NxK K w x L bs p (.tuple #[.int .i64 a, .int .i64 b]) w' := by
  unfold NxK; rw [h]; exact ⟨rfl, hR, hK⟩
theorem next_k (K : Nat) (w : World) (r x : Nat) (L : List Nat) (bs : List (BitVec 8)) (p : Nat) (h : CodeP w r L) (hR : RdK K w x bs p) :
    Ret Tryd.prog 94 [.pointer (some ⟨r, 0, none⟩), .pointer (some ⟨x, 0, none⟩)] w (fun v w' => NxK K w x L bs p v w') := by
  obtain ⟨csx, hBx⟩ := hR.blk
  have hxlt := hBx.lt
  have hcode : ∀ w', Keep [x] w w' → CodeP w' r L := fun w' hk => h.kt (Ts := [156]) (k := 0) (hk.t1 (Nat.zero_le _) hBx (by simp)) (by decide)
  obtain ⟨rs, rw, sm, wm, hB, hM, hN, hS, hW, hL, hk, hl⟩ := id h
  have hm15 := most_15 L hL
  refine fn_enter (n := 54) Tryd.func94 rfl rfl (Nat.le_of_ble_eq_true rfl) (fun e => ?_)
  refine k_seq ?_
  refine k_region ?_
  refine m_int rfl rfl ?_
  refine m_int rfl rfl ?_
  refine o_nil ?_
  refine k_seq ?_
  refine k_seq ?_
  refine k_region ?_
  refine m_ptr rfl rfl ?_
  refine b_eqlp Tryd.underlying78 rfl rfl ?_
  refine m_bool rfl rfl ?_
  refine o_false (t := 13) rfl ((by simp)) ?_
  refine g_yes rfl rfl ?_
  refine m_ptr rfl rfl ?_
  refine g_yes rfl rfl ?_
  refine b_eqlp Tryd.underlying139 rfl rfl ?_
  refine pick_f rfl rfl ?_
  refine o_nil ?_
  refine k_no rfl ((by simp)) ?_
  refine k_skip ?_
  refine k_seq ?_
  refine k_region ?_
  refine o_alloc (cs := #[.int .u8 0, .int .u16 0]) inf116 rfl (fun bw w2 hB2 hK2 hb2 hZ2 => ?_)
  have hB2 : Blk w2 bw (#[.int .u8 ((BitVec.ofNat 8 0).toNat : Int), .int .u16 ((BitVec.ofNat 16 0).toNat : Int)]) 116 := hB2
  refine o_nil ?_
  refine k_seq ?_
  refine k_block ?_
  refine k_loop (σ := Nat × Nat × Nat) (fun s => [(0, .pointer (some ⟨r, 0, none⟩)), (1, .pointer (some ⟨x, 0, none⟩)), (6, .pointer (some ⟨bw, 0, none⟩))]) (fun s w' => s.1 ≤ mostL L ∧ s.2.1 < 2 ^ s.1 ∧ Blk w' bw #[.int .u8 ((BitVec.ofNat 8 s.1).toNat : Int), .int .u16 ((BitVec.ofNat 16 s.2.1).toNat : Int)] 116 ∧ RdK K w' x bs s.2.2 ∧ nx L bs (mostL L) 0 0 p = nx L bs (mostL L - s.1) s.1 s.2.1 s.2.2 ∧ Keep [x] w w') (fun s => mostL L - s.1) (0, 0, p) ⟨rfl, rfl, rfl, trivial⟩ ⟨by simp, by simp, hB2, hR.new hK2, rfl, hK2.also⟩ (fun s e w3 hJ => ?_)
  obtain ⟨n, b, p'⟩ := s
  obtain ⟨hn, hb, hB3, hR3, hnx, hK3⟩ := hJ
  simp only at hn hb hB3 hR3 hnx
  have hbw : bw ∉ [x] := by simp; omega
  have hb15 : b < 32768 := by
   have : 2 ^ n ≤ 2 ^ 15 := Nat.pow_le_pow_right (by decide) (by omega)
   omega
  obtain ⟨rs3, rw3, sm3, wm3, hC3, hM3, _, hS3, _, _, _, _⟩ := hcode w3 hK3
  refine k_seq ?_
  refine k_seq ?_
  refine k_qk 6 rfl rfl rfl rfl rfl ?_
  refine q_step (fun w1 hC => o_fld0 rfl rfl (o_nil ⟨rfl, hC⟩)) ?_
  refine q_step (fun w1 hC => o_ld rfl rfl (hB3.kat hC rfl) (o_nil ⟨rfl, hC⟩)) ?_
  refine q_step (fun w1 hC => m_ptr rfl rfl (o_nil ⟨rfl, hC⟩)) ?_
  refine q_step (fun w1 hC => o_nilc rfl (o_nil ⟨rfl, hC⟩)) ?_
  refine q_step (fun w1 hC => o_fld (off := 2) rfl rfl (o_nil ⟨rfl, hC⟩)) ?_
  refine q_step (fun w1 hC => o_ld rfl rfl (hC3.kat hC rfl) (o_nil ⟨rfl, hC⟩)) ?_
  refine q_nil ?_
  intro w4 hC4
  rw [tn8 n (by omega), tn8 _ (by omega)]
  have hR4 := hR3.new hC4
  have hK4 : Keep [x] w w4 := hK3.trans hC4 (by simp)
  have hB4 := hB3.keep hC4 (by simp)
  refine b_lss rfl rfl ?_
  refine o_nil ?_
  refine k_cond rfl (fun h => ?_) (fun h => ?_)
  rotate_left
  ·
    refine k_exit rfl ?_
    refine k_seq ?_
    refine k_region ?_
    refine m_int rfl rfl ?_
    refine m_int rfl rfl ?_
    refine o_nil ?_
    refine k_ret (ret_tmps (ts := [4, 5]) (v := .tuple #[.int _ _, .int _ _]) rfl rfl ?_)
    refine NxK.of ?_ hR4 hK4
    rw [hnx, show mostL L - n = 0 by omega]; rfl
  have hnm : n < mostL L := by omega
  obtain ⟨k', hk'⟩ : ∃ k', mostL L - n = k' + 1 := ⟨mostL L - n - 1, by omega⟩
  have hn14 : b < 2 ^ 14 := by
   have : 2 ^ n ≤ 2 ^ 14 := Nat.pow_le_pow_right (by decide) (by omega)
   omega
  rw [hk'] at hnx
  refine k_skip ?_
  refine k_block ?_
  refine k_seq ?_
  refine k_region ?_
  refine m_ptr rfl rfl ?_
  refine o_call rfl rfl (take_k K w4 x p' bs ((1 : Nat) : Int) hR4) (fun v w5 hv => ?_)
  obtain ⟨rfl, hR5, hK5⟩ := hv
  have hK45 : Keep [x] w w5 := hK4.trans hK5 (fun _ h _ => h)
  have hB5 := hB4.keep hK5 hbw
  have hpl : p' ≤ 8 * bs.length := by obtain ⟨_, _, _, _, hp, _⟩ := hR4; exact hp
  refine m_any rfl rfl ?_
  refine o_extr rfl rfl ?_
  refine o_extr rfl rfl ?_
  refine m_int rfl rfl ?_
  refine m_int rfl rfl ?_
  refine o_nil ?_
  refine k_seq ?_
  refine k_seq ?_
  refine k_region ?_
  refine m_int rfl rfl ?_
  refine b_neq rfl rfl ?_
  refine o_nil ?_
  refine k_cond rfl (fun hx => ?_) (fun hx => ?_)
  ·
    have hsh : 8 * bs.length ≤ p' := by
     by_cases hc : 8 * bs.length ≤ p'
     · exact hc
     · rw [tk_ok (by omega) (by omega)] at hx; exact absurd rfl hx
    rw [tk_short (by omega) (by omega)] at hR5 ⊢
    refine k_seq ?_
    refine k_region ?_
    refine m_int rfl rfl ?_
    refine m_int rfl rfl ?_
    refine m_int rfl rfl ?_
    refine o_nil ?_
    refine k_ret (ret_tmps (ts := [4, 5]) (v := .tuple #[.int _ _, .int _ _]) rfl rfl ?_)
    exact NxK.of (by rw [hnx, nx_short hsh]) hR5 hK45
  have hns : ¬ 8 * bs.length ≤ p' := by
   intro hc
   rw [tk_short (by omega) (by omega)] at hx
   exact hx (by simp)
  rw [tk_ok (by omega) (by omega), num1] at hR5 ⊢
  refine k_skip ?_
  refine k_seq ?_
  refine k_region ?_
  refine o_fld0 rfl rfl ?_
  refine o_ld rfl rfl (hB5.at rfl) ?_
  refine v8_add (b := 1#8) rfl rfl ?_
  rw [show (BitVec.ofNat 8 n + 1#8) = BitVec.ofNat 8 (n + 1) from (BitVec.ofNat_add n 1).symm]
  refine o_fld0 rfl rfl ?_
  refine o_st (v := .int _ _) rfl rfl rfl rfl hB5 (by simp) (fun w6 hB6 hK6 hZ6 => ?_)
  have hK46 : Keep [x] w w6 := hK45.trans hK6 (by intro y hy hl; simp at hy; omega)
  have hR6 := hR5.keep1 hB5 (by omega) (by decide) hK6
  refine o_nil ?_
  refine k_seq ?_
  refine k_region ?_
  refine o_fld (off := 1) rfl rfl ?_
  refine o_ld rfl rfl (hB6.at rfl) ?_
  refine v16_shln (c := 1) rfl rfl ?_
  refine m_int rfl rfl ?_
  refine cv16 rfl Tryd.underlying114 rfl ?_
  refine v16_or rfl rfl ?_
  rw [bit_step b _ hb15]
  refine o_fld (off := 1) rfl rfl ?_
  refine o_st (v := .int _ _) rfl rfl rfl rfl hB6 (by simp) (fun w7 hB7 hK7 hZ7 => ?_)
  have hK47 : Keep [x] w w7 := hK46.trans hK7 (by intro y hy hl; simp at hy; omega)
  have hR7 := hR6.keep1 hB6 (by omega) (by decide) hK7
  have hB7 : Blk w7 bw #[.int .u8 ((BitVec.ofNat 8 (n + 1)).toNat : Int), .int .u16 ((BitVec.ofNat 16 (2 * b + (bitAt bs p').toNat)).toNat : Int)] 116 := hB7
  obtain ⟨rs7, rw7, sm7, wm7, hC7, hM7, _, hS7, _, _, _, _⟩ := hcode w7 hK47
  have hb2 : 2 * b + (bitAt bs p').toNat < 2 ^ (n + 1) := by rw [Nat.pow_succ]; cases bitAt bs p' <;> simp <;> omega
  have hb3 : 2 * b + (bitAt bs p').toNat < 65536 := by cases bitAt bs p' <;> simp <;> omega
  have hhit := sm_hit hS7 (n + 1) _ (by omega) hb3
  refine o_nil ?_
  refine k_seq ?_
  refine k_qk 10 rfl rfl rfl rfl rfl ?_
  refine q_step (fun w1 hC => m_ptr rfl rfl (o_nil ⟨rfl, hC⟩)) ?_
  refine q_step (fun w1 hC => o_nilc rfl (o_nil ⟨rfl, hC⟩)) ?_
  refine q_step (fun w1 hC => o_fld0 rfl rfl (o_nil ⟨rfl, hC⟩)) ?_
  refine q_step (fun w1 hC => o_ld rfl rfl (hC7.kat hC rfl) (o_nil ⟨rfl, hC⟩)) ?_
  refine q_step (fun w1 hC => o_lda (xs := [.int .u8 ((BitVec.ofNat 8 (n + 1)).toNat : Int), .int .u16 ((BitVec.ofNat 16 (2 * b + (bitAt bs p').toNat)).toNat : Int)]) rfl rfl rfl (fun j u hj => hB7.kat hC (by rw [Nat.zero_add]; simpa using hj)) (o_nil ⟨rfl, hC⟩)) ?_
  refine q_step (fun w1 hC => o_lookok (kv := kvw) (q := (BitVec.ofNat 8 (n + 1), BitVec.ofNat 16 (2 * b + (bitAt bs p').toNat))) Tryd.underlying109 key_w inf3 rfl rfl (hM7.keep hC (by simp)) (v := .int .i64 (((hit L (n + 1) (2 * b + (bitAt bs p').toNat)).getD 0 : Nat) : Int)) (b := (hit L (n + 1) (2 * b + (bitAt bs p').toNat)).isSome) (by rw [hhit, hit_get]) (by rw [hhit, Option.isSome_map]) (o_nil ⟨rfl, hC⟩)) ?_
  refine q_step (fun w1 hC => m_any rfl rfl (o_nil ⟨rfl, hC⟩)) ?_
  refine q_step (fun w1 hC => o_extr (vs := [.int .i64 (((hit L (n + 1) (2 * b + (bitAt bs p').toNat)).getD 0 : Nat) : Int), .bool (hit L (n + 1) (2 * b + (bitAt bs p').toNat)).isSome]) rfl rfl (o_nil ⟨rfl, hC⟩)) ?_
  refine q_step (fun w1 hC => o_extr (vs := [.int .i64 (((hit L (n + 1) (2 * b + (bitAt bs p').toNat)).getD 0 : Nat) : Int), .bool (hit L (n + 1) (2 * b + (bitAt bs p').toNat)).isSome]) rfl rfl (o_nil ⟨rfl, hC⟩)) ?_
  refine q_step (fun w1 hC => m_int rfl rfl (o_nil ⟨rfl, hC⟩)) ?_
  refine q_nil ?_
  intro w8 hC8
  have hK48 : Keep [x] w w8 := hK47.trans hC8 (by simp)
  refine m_bool rfl rfl ?_
  refine o_nil ?_
  refine k_seq ?_
  refine k_region ?_
  refine m_bool rfl rfl ?_
  refine o_nil ?_
  refine k_condb rfl (fun hh => ?_) (fun hh => ?_)
  ·
    obtain ⟨s, hs⟩ := Option.isSome_iff_exists.1 hh
    rw [hs]
    refine k_seq ?_
    refine k_region ?_
    refine m_int rfl rfl ?_
    refine m_int rfl rfl ?_
    refine m_int rfl rfl ?_
    refine o_nil ?_
    refine k_ret (ret_tmps (ts := [4, 5]) (v := .tuple #[.int _ _, .int _ _]) rfl rfl ?_)
    exact NxK.of (by rw [hnx, nx_hit hns hs]; rfl) (hR7.new hC8) hK48
  have hs : hit L (n + 1) (2 * b + (bitAt bs p').toNat) = none := by simpa using hh
  refine k_skip ?_
  refine k_blk ?_
  refine k_goal ⟨(n + 1, _, _), ⟨rfl, rfl, rfl, trivial⟩, ⟨by simp only; omega, hb2, hB7.keep hC8 (by simp), hR7.new hC8, ?_, hK48⟩, by simp only; omega⟩
  simp only
  rw [hnx, nx_on hns hs, show mostL L - (n + 1) = k' by omega]
end Go.Proofs.YtiapgmfooclpcaaDoor

/- Inflate: the walk of symbols at the packed row of the law. No condition beyond what its contract names. -/
namespace Go.Proofs.YtiapgmfooclpcaaDoor
open Go.RowKit E
set_option linter.unusedVariables false
set_option linter.unusedSimpArgs false
set_option maxRecDepth 100000
attribute [local irreducible] ow qw kw kq cw opW Ret
def outS (t : Nat) : Bs := if t = 0 then [] else if t = 1 then [97#8] else A16
def pS (t : Nat) : Nat := if t = 0 then 3 else if t = 1 then 11 else 24
def qS (t : Nat) : Nat := if t = 0 then 11 else if t = 1 then 18 else 31
def symS (t : Nat) : Int := if t = 0 then 97 else if t = 1 then 267 else 256
theorem most_fix : mostL fixL = 9 := by decide +kernel
theorem most_five : mostL fivL = 5 := by decide +kernel
theorem nxS (t : Nat) (h : t ≤ 2) : nx fixL PA (mostL fixL) 0 0 (pS t) = (symS t, 0, qS t) := by
  rw [pa_eq, most_fix]
  match t, h with
  | 0, _ => decide +kernel
  | 1, _ => decide +kernel
  | 2, _ => decide +kernel
theorem nxD : nx fivL PA (mostL fivL) 0 0 19 = (0, 0, 24) := by rw [pa_eq, most_five]; decide +kernel
theorem tkA : tk PA 18 1 = (0, 0, 19) := by rw [pa_eq]; decide +kernel
theorem tkB : tk PA 24 0 = (0, 0, 24) := by rw [pa_eq]; decide +kernel
theorem rep_app (j : Nat) : List.replicate (1 + j) 97#8 ++ [97#8] = List.replicate (1 + (j + 1)) 97#8 := by
  rw [show 1 + (j + 1) = (1 + j) + 1 by omega, List.replicate_succ']
theorem keepF {k : Nat} {w w' : World} {a : Option Addr} {m c sz : Nat} {xs : List Value} (h : Keep (blkOf a) w w') (hS : Sl w 5 sz a m c xs) (hk : ∀ q, a = some q → k ≤ q.block) : KeepT [142, 156, 5] k w w' := h.ts hS hk (by simp)
theorem sym_ok (k K : Nat) (w : World) (s r rx ry : Nat) (hS : StB w s r none 0 [] 16) (hR : RdK K w r PA 3) (hx : CodeP w rx fixL) (hy : CodeP w ry fivL) (hks : k ≤ s) (hkr : k ≤ r) (hK : K ≤ w.heap.size) (hkK : k ≤ K) :
    Ret Tryd.prog 86 [.pointer (some ⟨s, 0, none⟩), .pointer (some ⟨rx, 0, none⟩), .pointer (some ⟨ry, 0, none⟩)] w (fun v w' => v = .int .i64 0 ∧ ∃ a c, StB w' s r a c A16 16 ∧ Sl w' 5 1 a 16 c (A16.map u8v) ∧ RdK K w' r PA 31 ∧ KeepT [142, 156, 5] k w w' ∧ ∀ q, a = some q → K ≤ q.block) := by
  obtain ⟨csr, hBr⟩ := hR.blk
  have hsr : s ≠ r := fun h => by subst h; have := hBr.ty hS; simp at this
  refine fn_enter (n := 161) Tryd.func86 rfl rfl (Nat.le_of_ble_eq_true rfl) (fun e => ?_)
  refine k_seq ?_
  refine k_region ?_
  refine m_int rfl rfl ?_
  refine o_nil ?_
  refine k_block ?_
  refine k_loop (σ := Nat × Option Addr × Nat) (fun z => [(0, .pointer (some ⟨s, 0, none⟩)), (1, .pointer (some ⟨rx, 0, none⟩)), (2, .pointer (some ⟨ry, 0, none⟩))]) (fun z w' => z.1 ≤ 2 ∧ StB w' s r z.2.1 z.2.2 (outS z.1) 16 ∧ Sl w' 5 1 z.2.1 (outS z.1).length z.2.2 ((outS z.1).map u8v) ∧ RdK K w' r PA (pS z.1) ∧ (∀ q, z.2.1 = some q → K ≤ q.block) ∧ KeepT [142, 156, 5] k w w') (fun z => 3 - z.1) (0, none, 0) ⟨rfl, rfl, rfl, trivial⟩ ⟨by simp, hS, Sl.nil _ _ _, hR, by simp, (Keep.refl [] w).t⟩ (fun z e w3 hJ => ?_)
  obtain ⟨t, a, c⟩ := z
  obtain ⟨ht, hS3, hO3, hR3, hka, hT3⟩ := hJ
  simp only at ht hS3 hO3 hR3 hka ⊢
  have hx3 := hx.kt hT3 (by decide)
  have hy3 := hy.kt hT3 (by decide)
  have hS3' : Blk w3 s #[.pointer (some ⟨r, 0, none⟩), .slice a (outS t).length c, .int .i64 16] 142 := hS3
  refine k_block ?_
  refine k_seq ?_
  refine k_region ?_
  refine m_ptr rfl rfl ?_
  refine m_ptr rfl rfl ?_
  refine o_nilc rfl ?_
  refine o_fld0 rfl rfl ?_
  refine o_ld rfl rfl (hS3'.at rfl) ?_
  refine o_call rfl rfl (next_k K w3 rx r fixL PA (pS t) hx3 hR3) (fun v w4 hv => ?_)
  unfold NxK at hv
  rw [nxS t ht] at hv
  obtain ⟨rfl, hR4, hK4⟩ := hv
  obtain ⟨cs3, hBr3⟩ := hR3.blk
  have hS4 := hS3'.keep hK4 (by simpa using hsr)
  have hO4 := hO3.keep hK4 (hO3.off hBr3 (by decide))
  have hT4 := hT3.tr (hK4.t1 (k := k) (Ts := [142, 156, 5]) hkr hBr3 (by simp))
  have hcs : (t = 0 ∧ symS t = 97) ∨ (t = 1 ∧ symS t = 267) ∨ (t = 2 ∧ symS t = 256) := by
   match t, ht with
   | 0, _ => exact .inl ⟨rfl, rfl⟩
   | 1, _ => exact .inr (.inl ⟨rfl, rfl⟩)
   | 2, _ => exact .inr (.inr ⟨rfl, rfl⟩)
  refine m_any rfl rfl ?_
  refine o_extr (vs := [.int .i64 (symS t), .int .i64 0]) rfl rfl ?_
  refine o_extr (vs := [.int .i64 (symS t), .int .i64 0]) rfl rfl ?_
  refine m_int rfl rfl ?_
  refine m_int rfl rfl ?_
  refine o_nil ?_
  refine k_seq ?_
  refine k_block ?_
  refine k_seq ?_
  refine k_region ?_
  refine m_int rfl rfl ?_
  refine b_neq rfl rfl ?_
  refine m_bool rfl rfl ?_
  refine o_nil ?_
  refine k_no rfl ((by decide)) ?_
  refine k_seq ?_
  refine k_region ?_
  refine m_int rfl rfl ?_
  refine b_eql rfl rfl ?_
  refine m_bool rfl rfl ?_
  refine o_nil ?_
  refine k_cond rfl (fun h => ?_) (fun h => ?_)
  ·
    obtain rfl : t = 2 := by omega
    refine k_seq ?_
    refine k_region ?_
    refine m_int rfl rfl ?_
    refine o_nil ?_
    refine k_ret (ret_tmps (ts := [6]) (v := .int _ _) rfl rfl ?_)
    exact ⟨rfl, a, c, hS4, hO4, hR4, hT4, hka⟩
  refine k_seq ?_
  refine k_region ?_
  refine m_int rfl rfl ?_
  refine b_lss rfl rfl ?_
  refine m_bool rfl rfl ?_
  refine o_nil ?_
  refine k_cond rfl (fun h => ?_) (fun h => ?_)
  ·
    obtain rfl : t = 0 := by omega
    clear hcs
    refine k_seq ?_
    refine k_seq ?_
    refine k_qk 9 rfl rfl rfl rfl rfl ?_
    refine q_step (fun w1 hC => m_ptr rfl rfl (o_nil ⟨rfl, hC⟩)) ?_
    refine q_step (fun w1 hC => o_nilc rfl (o_nil ⟨rfl, hC⟩)) ?_
    refine q_step (fun w1 hC => o_fld (off := 1) rfl rfl (o_nil ⟨rfl, hC⟩)) ?_
    refine q_step (fun w1 hC => o_ld rfl rfl (hS4.kat hC rfl) (o_nil ⟨rfl, hC⟩)) ?_
    refine q_step (fun w1 hC => o_lens Tryd.underlying25 rfl (o_nil ⟨rfl, hC⟩)) ?_
    refine q_step (fun w1 hC => m_ptr rfl rfl (o_nil ⟨rfl, hC⟩)) ?_
    refine q_step (fun w1 hC => o_nilc rfl (o_nil ⟨rfl, hC⟩)) ?_
    refine q_step (fun w1 hC => o_fld (off := 2) rfl rfl (o_nil ⟨rfl, hC⟩)) ?_
    refine q_step (fun w1 hC => o_ld rfl rfl (hS4.kat hC rfl) (o_nil ⟨rfl, hC⟩)) ?_
    refine q_nil ?_
    intro w5 hC5
    have hS5 := hS4.keep hC5 (by simp)
    refine b_geq rfl rfl ?_
    refine o_nil ?_
    refine k_no rfl ((by decide)) ?_
    refine k_skip ?_
    refine k_seq ?_
    refine k_region ?_
    refine m_ptr rfl rfl ?_
    refine m_ptr rfl rfl ?_
    refine o_nilc rfl ?_
    refine o_fld (off := 1) rfl rfl ?_
    refine o_ld rfl rfl (hS5.at rfl) ?_
    refine m_int rfl rfl ?_
    refine cv8 rfl Tryd.underlying5 rfl ?_
    refine o_bsl (E := 5) (cs := #[u8v 97#8]) rfl (fun _ => by kernel_rfl) (fun g w6 hB6 hK6 hb6 hZ6 => ?_)
    have hS6 := hS5.keep hK6 (by simp)
    have hO6 := (hO4.new hC5).new hK6
    have hR6 := (hR4.new hC5).new hK6
    refine o_app Tryd.underlying25 inf5 rfl (by decide) rfl rfl hO6 (hB6.sl (len := 1) (sz := 1) rfl (by decide)).rd (by simp) (by intro u hu; simp at hu; subst hu; rfl) (by decide) (by decide) (fun a7 c7 w7 hO7 hK7 hv7 => ?_)
    have hka7 : ∀ q, a7 = some q → K ≤ q.block := fun q hq => by
     rcases hv7 with ⟨rfl, _⟩ | ⟨g7, rfl, h7, _⟩
     · exact hka q hq
     · cases hq; have := hT4.size; have := hC5.size; have := hK6.size; simp only; omega
    have hS7 := hS6.keep hK7 (hO6.notin hS6 (by decide))
    have hR7 := hR6.sl hO6 (by decide) hka hK7
    have hT7 := ((hT4.tr hC5.t).tr hK6.t).tr (keepF hK7 hO6 (fun q hq => by have := hka q hq; omega))
    refine o_nilc rfl ?_
    refine o_fld (off := 1) rfl rfl ?_
    refine o_st (v := .slice _ _ _) rfl rfl rfl rfl hS7 (show 0 + 1 < 3 by decide) (fun w8 hB8 hK8 hZ8 => ?_)
    refine o_nil ?_
    refine k_exit rfl ?_
    refine k_goal ⟨(1, a7, c7), ⟨rfl, rfl, rfl, trivial⟩, ⟨by simp, hB8, hO7.keep hK8 (hO7.off hS7 (by decide)), hR7.keep1 hS7 hsr.symm (by decide) hK8, hka7, hT7.tr (hK8.t1 hks hS7 (by simp))⟩, by simp⟩
  obtain rfl : t = 1 := by omega
  clear hcs
  refine k_seq ?_
  refine k_region ?_
  refine m_int rfl rfl ?_
  refine b_gtr rfl rfl ?_
  refine m_bool rfl rfl ?_
  refine o_nil ?_
  refine k_no rfl ((by decide)) ?_
  refine k_skip ?_
  refine k_blk ?_
  refine k_seq ?_
  refine k_region ?_
  refine m_int rfl rfl ?_
  refine n_sub rfl rfl (by decide) ?_
  refine o_call (vs := [.int .i64 10, .int .i64 4]) rfl rfl (spread1 w4) (fun v w5 hv => ?_)
  obtain ⟨rfl, hw5⟩ := hv
  subst hw5
  refine m_any rfl rfl ?_
  refine o_extr (vs := [.int .i64 12, .int .i64 1]) rfl rfl ?_
  refine o_extr (vs := [.int .i64 12, .int .i64 1]) rfl rfl ?_
  refine m_int rfl rfl ?_
  refine m_int rfl rfl ?_
  refine o_nil ?_
  refine k_seq ?_
  refine k_region ?_
  refine m_int rfl rfl ?_
  refine n_add rfl rfl (by omega) ?_
  refine m_int rfl rfl ?_
  refine o_nil ?_
  refine k_seq ?_
  refine k_seq ?_
  refine k_region ?_
  refine m_int rfl rfl ?_
  refine b_eql rfl rfl ?_
  refine o_nil ?_
  refine k_cut (σ := Unit) (fun _ => [(0, .pointer (some ⟨s, 0, none⟩)), (1, .pointer (some ⟨rx, 0, none⟩)), (2, .pointer (some ⟨ry, 0, none⟩)), (9, .int .i64 15), (10, .int .i64 1)]) (fun _ w' => w' = w5) ?_ (fun _ e w6 hJ => ?_)
  ·
    refine k_no rfl ((by decide)) ?_
    refine k_skip ?_
    exact k_goal ⟨(), ⟨rfl, rfl, rfl, rfl, rfl, trivial⟩, rfl⟩
  subst hJ
  refine k_seq ?_
  refine k_region ?_
  refine m_ptr rfl rfl ?_
  refine o_nilc rfl ?_
  refine o_fld0 rfl rfl ?_
  refine o_ld rfl rfl (hS4.at rfl) ?_
  refine m_int rfl rfl ?_
  refine o_call rfl rfl (take_k K w6 r 18 PA 1 hR4) (fun v w7 hv => ?_)
  unfold TkK at hv
  rw [tkA] at hv
  obtain ⟨rfl, hR7, hK7⟩ := hv
  obtain ⟨cs4, hBr4⟩ := hR4.blk
  have hS7 := hS4.keep hK7 (by simpa using hsr)
  have hO7 := hO4.keep hK7 (hO4.off hBr4 (by decide))
  have hT7 := hT4.tr (hK7.t1 (k := k) (Ts := [142, 156, 5]) hkr hBr4 (by simp))
  refine m_any rfl rfl ?_
  refine o_extr (vs := [.int .i64 0, .int .i64 0]) rfl rfl ?_
  refine o_extr (vs := [.int .i64 0, .int .i64 0]) rfl rfl ?_
  refine m_int rfl rfl ?_
  refine m_int rfl rfl ?_
  refine o_nil ?_
  refine k_seq ?_
  refine k_seq ?_
  refine k_region ?_
  refine m_int rfl rfl ?_
  refine b_neq rfl rfl ?_
  refine o_nil ?_
  refine k_no rfl ((by decide)) ?_
  refine k_skip ?_
  refine k_seq ?_
  refine k_region ?_
  refine m_int rfl rfl ?_
  refine m_int rfl rfl ?_
  refine n_add rfl rfl (by omega) ?_
  refine m_int rfl rfl ?_
  refine o_nil ?_
  refine k_seq ?_
  refine k_seq ?_
  refine k_region ?_
  refine m_ptr rfl rfl ?_
  refine m_ptr rfl rfl ?_
  refine o_nilc rfl ?_
  refine o_fld0 rfl rfl ?_
  refine o_ld rfl rfl (hS7.at rfl) ?_
  refine o_call rfl rfl (next_k K w7 ry r fivL PA 19 (hy.kt hT7 (by decide)) hR7) (fun v w8 hv => ?_)
  unfold NxK at hv
  rw [nxD] at hv
  obtain ⟨rfl, hR8, hK8⟩ := hv
  obtain ⟨cs7, hBr7⟩ := hR7.blk
  have hS8 := hS7.keep hK8 (by simpa using hsr)
  have hO8 := hO7.keep hK8 (hO7.off hBr7 (by decide))
  have hT8 := hT7.tr (hK8.t1 (k := k) (Ts := [142, 156, 5]) hkr hBr7 (by simp))
  refine m_any rfl rfl ?_
  refine o_extr (vs := [.int .i64 0, .int .i64 0]) rfl rfl ?_
  refine o_extr (vs := [.int .i64 0, .int .i64 0]) rfl rfl ?_
  refine m_int rfl rfl ?_
  refine m_int rfl rfl ?_
  refine o_nil ?_
  refine k_seq ?_
  refine k_region ?_
  refine m_int rfl rfl ?_
  refine b_neq rfl rfl ?_
  refine o_nil ?_
  refine k_no rfl ((by decide)) ?_
  refine k_skip ?_
  refine k_seq ?_
  refine k_seq ?_
  refine k_region ?_
  refine m_int rfl rfl ?_
  refine b_gtr rfl rfl ?_
  refine o_nil ?_
  refine k_no rfl ((by decide)) ?_
  refine k_skip ?_
  refine k_seq ?_
  refine k_region ?_
  refine m_int rfl rfl ?_
  refine o_call rfl rfl (spread2 w8) (fun v w9 hv => ?_)
  obtain ⟨rfl, hw9⟩ := hv
  subst hw9
  refine m_any rfl rfl ?_
  refine o_extr (vs := [.int .i64 0, .int .i64 0]) rfl rfl ?_
  refine o_extr (vs := [.int .i64 0, .int .i64 0]) rfl rfl ?_
  refine m_int rfl rfl ?_
  refine m_int rfl rfl ?_
  refine o_nil ?_
  refine k_seq ?_
  refine k_seq ?_
  refine k_region ?_
  refine m_ptr rfl rfl ?_
  refine o_nilc rfl ?_
  refine o_fld0 rfl rfl ?_
  refine o_ld rfl rfl (hS8.at rfl) ?_
  refine m_int rfl rfl ?_
  refine o_call rfl rfl (take_k K w9 r 24 PA 0 hR8) (fun v w10 hv => ?_)
  unfold TkK at hv
  rw [tkB] at hv
  obtain ⟨rfl, hR10, hK10⟩ := hv
  obtain ⟨cs8, hBr8⟩ := hR8.blk
  have hS10 := hS8.keep hK10 (by simpa using hsr)
  have hO10 := hO8.keep hK10 (hO8.off hBr8 (by decide))
  have hT10 := hT8.tr (hK10.t1 (k := k) (Ts := [142, 156, 5]) hkr hBr8 (by simp))
  refine m_any rfl rfl ?_
  refine o_extr (vs := [.int .i64 0, .int .i64 0]) rfl rfl ?_
  refine o_extr (vs := [.int .i64 0, .int .i64 0]) rfl rfl ?_
  refine m_int rfl rfl ?_
  refine m_int rfl rfl ?_
  refine o_nil ?_
  refine k_seq ?_
  refine k_region ?_
  refine m_int rfl rfl ?_
  refine b_neq rfl rfl ?_
  refine o_nil ?_
  refine k_no rfl ((by decide)) ?_
  refine k_skip ?_
  refine k_seq ?_
  refine k_region ?_
  refine m_int rfl rfl ?_
  refine m_int rfl rfl ?_
  refine n_add rfl rfl (by omega) ?_
  refine n_add rfl rfl (by omega) ?_
  refine m_int rfl rfl ?_
  refine o_nil ?_
  refine k_seq ?_
  refine k_seq ?_
  refine k_region ?_
  refine m_int rfl rfl ?_
  refine m_ptr rfl rfl ?_
  refine o_nilc rfl ?_
  refine o_fld (off := 1) rfl rfl ?_
  refine o_ld rfl rfl (hS10.at rfl) ?_
  refine o_lens Tryd.underlying25 rfl ?_
  refine b_gtr rfl rfl ?_
  refine o_nil ?_
  refine k_no rfl ((by decide)) ?_
  refine k_skip ?_
  refine k_seq ?_
  refine k_seq ?_
  refine k_qk 11 rfl rfl rfl rfl rfl ?_
  refine q_step (fun w1 hC => m_int rfl rfl (o_nil ⟨rfl, hC⟩)) ?_
  refine q_step (fun w1 hC => m_ptr rfl rfl (o_nil ⟨rfl, hC⟩)) ?_
  refine q_step (fun w1 hC => o_nilc rfl (o_nil ⟨rfl, hC⟩)) ?_
  refine q_step (fun w1 hC => o_fld (off := 2) rfl rfl (o_nil ⟨rfl, hC⟩)) ?_
  refine q_step (fun w1 hC => o_ld rfl rfl (hS10.kat hC rfl) (o_nil ⟨rfl, hC⟩)) ?_
  refine q_step (fun w1 hC => m_ptr rfl rfl (o_nil ⟨rfl, hC⟩)) ?_
  refine q_step (fun w1 hC => o_nilc rfl (o_nil ⟨rfl, hC⟩)) ?_
  refine q_step (fun w1 hC => o_fld (off := 1) rfl rfl (o_nil ⟨rfl, hC⟩)) ?_
  refine q_step (fun w1 hC => o_ld rfl rfl (hS10.kat hC rfl) (o_nil ⟨rfl, hC⟩)) ?_
  refine q_step (fun w1 hC => o_lens Tryd.underlying25 rfl (o_nil ⟨rfl, hC⟩)) ?_
  refine q_step (fun w1 hC => n_sub rfl rfl (by decide) (o_nil ⟨rfl, hC⟩)) ?_
  refine q_nil ?_
  intro w11 hC11
  have hS11 := hS10.keep hC11 (by simp)
  have hO11 := hO10.new hC11
  have hR11 := hR10.new hC11
  have hT11 := hT10.tr hC11.t
  refine b_gtr rfl rfl ?_
  refine o_nil ?_
  refine k_no rfl ((by decide)) ?_
  refine k_skip ?_
  refine k_seq ?_
  refine k_region ?_
  refine m_int rfl rfl ?_
  refine m_int rfl rfl ?_
  refine o_nil ?_
  refine k_block ?_
  refine k_loop (σ := Nat × Option Addr × Nat) (fun z => [(0, .pointer (some ⟨s, 0, none⟩)), (1, .pointer (some ⟨rx, 0, none⟩)), (2, .pointer (some ⟨ry, 0, none⟩)), (12, .int .i64 1), (135, .int .i64 15), (136, .int .i64 (z.1 : Int))]) (fun z w' => z.1 ≤ 15 ∧ Blk w' s #[.pointer (some ⟨r, 0, none⟩), .slice z.2.1 (1 + z.1) z.2.2, .int .i64 16] 142 ∧ Sl w' 5 1 z.2.1 (1 + z.1) z.2.2 ((List.replicate (1 + z.1) 97#8).map u8v) ∧ RdK K w' r PA 24 ∧ (∀ q, z.2.1 = some q → K ≤ q.block) ∧ KeepT [142, 156, 5] k w w') (fun z => 15 - z.1) (0, a, c) ⟨rfl, rfl, rfl, rfl, rfl, rfl, trivial⟩ ⟨by simp, hS11, hO11, hR11, hka, hT11⟩ (fun z e w12 hJ => ?_)
  obtain ⟨j, a2, c2⟩ := z
  obtain ⟨hj, hS12, hO12, hR12, hka2, hT12⟩ := hJ
  simp only at hj hS12 hO12 hR12 hka2 ⊢
  refine k_seq ?_
  refine k_region ?_
  refine b_lss rfl rfl ?_
  refine o_nil ?_
  refine k_seq ?_
  refine k_cond rfl (fun h => ?_) (fun h => ?_)
  rotate_left
  ·
    obtain rfl : j = 15 := by omega
    refine k_exit rfl ?_
    refine k_blk ?_
    exact k_goal ⟨(2, a2, c2), ⟨rfl, rfl, rfl, trivial⟩, ⟨by simp, hS12, hO12, hR12, hka2, hT12⟩, by simp⟩
  have hj15 : j < 15 := by omega
  obtain ⟨ga, cura, hga, hBa, hsza⟩ := hO12.blk (by omega)
  subst hga
  obtain ⟨B, hB⟩ : ∃ B, List.replicate (1 + j) 97#8 = B := ⟨_, rfl⟩
  have hBl : B.length = 1 + j := by rw [← hB]; simp
  have hBj : ∀ i (h : i < B.length), B[i] = 97#8 := fun i h => by subst hB; simp
  rw [hB, ← hBl] at hO12
  rw [← hBl] at hS12
  have hgal := hBa.lt
  refine k_skip ?_
  refine k_seq ?_
  refine k_block ?_
  refine k_anyE 20 (fun w w' => Keep [ga] w w') (fun iA => match iA with
      | 0 => fun v w => v = .pointer (some ⟨s, 0, none⟩)
      | 1 => fun v w => v = .pointer (some ⟨s, 0, none⟩)
      | 2 => fun v w => v = .pointer (some ⟨s, 0, none⟩)
      | 3 => fun v w => v = .pointer (some ⟨s, 1, none⟩)
      | 4 => fun v w => v = .slice (some ⟨ga, 0, none⟩) B.length c2
      | 5 => fun v w => v = .pointer (some ⟨s, 0, none⟩)
      | 6 => fun v w => v = .pointer (some ⟨s, 0, none⟩)
      | 7 => fun v w => v = .pointer (some ⟨s, 1, none⟩)
      | 8 => fun v w => v = .slice (some ⟨ga, 0, none⟩) B.length c2
      | 9 => fun v w => v = .pointer (some ⟨s, 0, none⟩)
      | 10 => fun v w => v = .pointer (some ⟨s, 0, none⟩)
      | 11 => fun v w => v = .pointer (some ⟨s, 1, none⟩)
      | 12 => fun v w => v = .slice (some ⟨ga, 0, none⟩) B.length c2
      | 13 => fun v w => v = .int .i64 (B.length : Int)
      | 14 => fun v w => v = .int .i64 1
      | 15 => fun v w => v = .int .i64 (j : Int)
      | 16 => fun v w => v = .pointer (some ⟨ga, j, none⟩)
      | 17 => fun v w => v = u8v 97#8
      | 18 => fun v w => ∃ g, v = .slice (some ⟨g, 0, none⟩) 1 1 ∧ w12.heap.size ≤ g ∧ Blk w g #[u8v 97#8] 5
      | 19 => fun v w => True
      | _ => fun v w => True) (fun D e w' => GA1 w12 (some ⟨ga, 0, none⟩) c2 B (B ++ [97#8]) (D 19) (e 157) w') rfl rfl rfl rfl (Keep.refl [ga]) (fun _ _ _ h1 h2 => h1.trans h2 (fun _ hb _ => hb)) ?_ (⟨(Keep.refl _ _).drew, fun _ => hO12, fun h => (by cases h)⟩) ?_ ?_
  · intro iA v w w' h hL
    match iA, h with
    | 0, h =>
      exact h
    | 1, h =>
      exact h
    | 2, h =>
      exact h
    | 3, h =>
      exact h
    | 4, h =>
      exact h
    | 5, h =>
      exact h
    | 6, h =>
      exact h
    | 7, h =>
      exact h
    | 8, h =>
      exact h
    | 9, h =>
      exact h
    | 10, h =>
      exact h
    | 11, h =>
      exact h
    | 12, h =>
      exact h
    | 13, h =>
      exact h
    | 14, h =>
      exact h
    | 15, h =>
      exact h
    | 16, h =>
      exact h
    | 17, h =>
      exact h
    | 18, h =>
      obtain ⟨g, h1, h2, h3⟩ := h
      exact ⟨g, h1, h2, h3.keep hL (by simp; omega)⟩
    | 19, h =>
      exact h
    | _ + 20, h => trivial
  · intro iA o him hl D eA wA hDi hdp hSh hG hL hA hD
    match iA, him, hl with
    | 0, _, hl =>
      obtain rfl := Option.some.inj hl
      refine o_gen [(0, _)] ⟨hA 0 (free_of rfl), trivial⟩ (fun e2 => ?_)
      refine m_ptr rfl rfl ?_
      refine o_nil ⟨(Keep.refl [ga]) _, rfl, hG⟩
    | 1, _, hl =>
      obtain rfl := Option.some.inj hl
      refine o_gen [(0, _)] ⟨hA 0 (free_of rfl), trivial⟩ (fun e2 => ?_)
      refine m_ptr rfl rfl ?_
      refine o_nil ⟨(Keep.refl [ga]) _, rfl, hG⟩
    | 2, _, hl =>
      obtain rfl := Option.some.inj hl
      refine o_gen [(139, _)] ⟨hD 1 (by decide) 139 rfl, trivial⟩ (fun e2 => ?_)
      refine o_nilc rfl ?_
      refine o_nil ⟨(Keep.refl [ga]) _, rfl, hG⟩
    | 3, _, hl =>
      obtain rfl := Option.some.inj hl
      refine o_gen [(140, _)] ⟨hD 2 (by decide) 140 rfl, trivial⟩ (fun e2 => ?_)
      refine o_fld (off := 1) rfl rfl ?_
      refine o_nil ⟨(Keep.refl [ga]) _, rfl, hG⟩
    | 4, _, hl =>
      obtain rfl := Option.some.inj hl
      refine o_gen [(141, _)] ⟨hD 3 (by decide) 141 rfl, trivial⟩ (fun e2 => ?_)
      refine o_ld rfl rfl ((hS12.keep hG.1 (hO12.notin hS12 (by decide))).at rfl) ?_
      refine o_nil ⟨(Keep.refl [ga]) _, rfl, hG⟩
    | 5, _, hl =>
      obtain rfl := Option.some.inj hl
      refine o_gen [(0, _)] ⟨hA 0 (free_of rfl), trivial⟩ (fun e2 => ?_)
      refine m_ptr rfl rfl ?_
      refine o_nil ⟨(Keep.refl [ga]) _, rfl, hG⟩
    | 6, _, hl =>
      obtain rfl := Option.some.inj hl
      refine o_gen [(143, _)] ⟨hD 5 (by decide) 143 rfl, trivial⟩ (fun e2 => ?_)
      refine o_nilc rfl ?_
      refine o_nil ⟨(Keep.refl [ga]) _, rfl, hG⟩
    | 7, _, hl =>
      obtain rfl := Option.some.inj hl
      refine o_gen [(144, _)] ⟨hD 6 (by decide) 144 rfl, trivial⟩ (fun e2 => ?_)
      refine o_fld (off := 1) rfl rfl ?_
      refine o_nil ⟨(Keep.refl [ga]) _, rfl, hG⟩
    | 8, _, hl =>
      obtain rfl := Option.some.inj hl
      refine o_gen [(145, _)] ⟨hD 7 (by decide) 145 rfl, trivial⟩ (fun e2 => ?_)
      refine o_ld rfl rfl ((hS12.keep hG.1 (hO12.notin hS12 (by decide))).at rfl) ?_
      refine o_nil ⟨(Keep.refl [ga]) _, rfl, hG⟩
    | 9, _, hl =>
      obtain rfl := Option.some.inj hl
      refine o_gen [(0, _)] ⟨hA 0 (free_of rfl), trivial⟩ (fun e2 => ?_)
      refine m_ptr rfl rfl ?_
      refine o_nil ⟨(Keep.refl [ga]) _, rfl, hG⟩
    | 10, _, hl =>
      obtain rfl := Option.some.inj hl
      refine o_gen [(147, _)] ⟨hD 9 (by decide) 147 rfl, trivial⟩ (fun e2 => ?_)
      refine o_nilc rfl ?_
      refine o_nil ⟨(Keep.refl [ga]) _, rfl, hG⟩
    | 11, _, hl =>
      obtain rfl := Option.some.inj hl
      refine o_gen [(148, _)] ⟨hD 10 (by decide) 148 rfl, trivial⟩ (fun e2 => ?_)
      refine o_fld (off := 1) rfl rfl ?_
      refine o_nil ⟨(Keep.refl [ga]) _, rfl, hG⟩
    | 12, _, hl =>
      obtain rfl := Option.some.inj hl
      refine o_gen [(149, _)] ⟨hD 11 (by decide) 149 rfl, trivial⟩ (fun e2 => ?_)
      refine o_ld rfl rfl ((hS12.keep hG.1 (hO12.notin hS12 (by decide))).at rfl) ?_
      refine o_nil ⟨(Keep.refl [ga]) _, rfl, hG⟩
    | 13, _, hl =>
      obtain rfl := Option.some.inj hl
      refine o_gen [(150, _)] ⟨hD 12 (by decide) 150 rfl, trivial⟩ (fun e2 => ?_)
      refine o_lens Tryd.underlying25 rfl ?_
      refine o_nil ⟨(Keep.refl [ga]) _, rfl, hG⟩
    | 14, _, hl =>
      obtain rfl := Option.some.inj hl
      refine o_gen [(12, _)] ⟨hA 12 (free_of rfl), trivial⟩ (fun e2 => ?_)
      refine m_int rfl rfl ?_
      refine o_nil ⟨(Keep.refl [ga]) _, rfl, hG⟩
    | 15, _, hl =>
      obtain rfl := Option.some.inj hl
      refine o_gen [(151, _), (152, _)] ⟨hD 13 (by decide) 151 rfl, hD 14 (by decide) 152 rfl, trivial⟩ (fun e2 => ?_)
      refine n_sub rfl rfl (by omega) ?_
      exact o_nil ⟨Keep.refl _ _, congrArg (Value.int .i64) (show (B.length : Int) - 1 = (j : Int) by omega), hG⟩
    | 16, _, hl =>
      obtain rfl := Option.some.inj hl
      refine o_gen [(146, _), (153, _)] ⟨hD 8 (by decide) 146 rfl, hD 15 (by decide) 153 rfl, trivial⟩ (fun e2 => ?_)
      refine o_ixs1 (m := j) Tryd.underlying25 rfl rfl rfl (by omega) ?_
      exact o_nil ⟨Keep.refl _ _, congrArg (fun n => Value.pointer (some ⟨ga, n, none⟩)) (Nat.zero_add j), hG⟩
    | 17, _, hl =>
      obtain rfl := Option.some.inj hl
      refine o_gen [(154, _)] ⟨hD 16 (by decide) 154 rfl, trivial⟩ (fun e2 => ?_)
      have h19 : D 19 = false := by
       cases h : D 19 with
       | false => rfl
       | true =>
        have h18 := hSh 19 _ rfl h 18 (by decide)
        have h17 := hSh 18 _ rfl h18 17 (by decide)
        exact h17.symm.trans hDi
      have hcell := (hG.2.1 h19).rd.cellK (Keep.refl _ _) (u8_at B j (by omega))
      rw [Nat.zero_add, hBj] at hcell
      refine o_ld rfl rfl hcell ?_
      refine o_nil ⟨(Keep.refl [ga]) _, rfl, hG⟩
    | 18, _, hl =>
      obtain rfl := Option.some.inj hl
      refine o_gen [(155, _)] ⟨hD 17 (by decide) 155 rfl, trivial⟩ (fun e2 => ?_)
      refine o_bsl (E := 5) (cs := #[u8v 97#8]) rfl (fun _ => by kernel_rfl) (fun g w13 hB13 hK13 hb13 hZ13 => ?_)
      have hkk : Keep (blkOf (some ⟨ga, 0, none⟩)) w12 w13 := hG.1.trans hK13 (fun b hb _ => by simp at hb)
      exact o_nil ⟨hK13.also, ⟨g, rfl, by have := hG.1.size; omega, hB13⟩, hkk, fun h => (hG.2.1 h).new hK13, fun h => (hG.2.2 h).new hK13⟩
    | 19, _, hl =>
      obtain rfl := Option.some.inj hl
      obtain ⟨g, hg, hgl, hgB⟩ := hD 18 (by decide) 156 rfl
      refine o_gen [(142, .slice (some ⟨ga, 0, none⟩) B.length c2), (156, _)] ⟨hD 4 (by decide) 142 rfl, hg, trivial⟩ (fun e2 => ?_)
      refine o_app Tryd.underlying25 inf5 rfl (by decide) rfl rfl (hG.2.1 hDi) (hgB.sl (len := 1) (sz := 1) rfl (by decide)).rd (by simp) (by intro u hu; simp at hu; subst hu; rfl) (by simp [maxLen]; omega) (by omega) (fun a3 c3 w13 hS13 hK13 hv13 => ?_)
      obtain ⟨hap, hkk⟩ := ap_step (ys := [97#8]) (Fresh.refl _ _) hG.1 hS13 rfl hK13 hv13
      exact o_nil ⟨hK13, trivial, ⟨hkk, fun h => (by cases h), fun _ => hap⟩⟩
    | _ + 20, him, _ => exact absurd him (by omega)
  intro D eA wA hAll hG hL hA hV
  obtain ⟨hkA, _, hfin⟩ := hG
  obtain ⟨a6, c6, he6, hO6, hf6⟩ := hfin (hAll 19 (by decide) (by decide))
  have hlen : (B ++ [97#8]).length = 1 + (j + 1) := by simp; omega
  rw [hlen] at he6 hO6
  refine o_gen [(0, .pointer (some ⟨s, 0, none⟩)), (1, .pointer (some ⟨rx, 0, none⟩)), (2, .pointer (some ⟨ry, 0, none⟩)), (12, .int .i64 1), (135, .int .i64 15), (136, .int .i64 (j : Int)), (138, .pointer (some ⟨s, 0, none⟩)), (157, .slice a6 (1 + (j + 1)) c6)] ⟨hA 0 (free_of rfl), hA 1 (free_of rfl), hA 2 (free_of rfl), hA 12 (free_of rfl), hA 135 (free_of rfl), hA 136 (free_of rfl), hV 0 (by decide) 138 rfl, he6, trivial⟩ (fun e3 => ?_)
  clear hV hA hAll hfin
  have hSA := hS12.keep hkA (hO12.notin hS12 (by decide))
  have hRA := hR12.sl hO12 (by decide) hka2 hkA
  have hTA := hT12.tr (keepF hkA hO12 (fun q hq => by have := hka2 q hq; omega))
  have hka6 : ∀ q, a6 = some q → K ≤ q.block := fun q hq => by
   rcases hf6 q hq with h7 | h7
   · simp [blkOf] at h7; rw [h7]; exact hka2 _ rfl
   · have := hT12.size; omega
  refine o_nilc rfl ?_
  refine o_fld (off := 1) rfl rfl ?_
  refine o_st (v := .slice _ _ _) rfl rfl rfl rfl hSA (show 0 + 1 < 3 by decide) (fun w14 hB14 hK14 hZ14 => ?_)
  refine o_nil ?_
  refine k_blk ?_
  refine k_region ?_
  refine n_add rfl rfl (by omega) ?_
  refine m_int rfl rfl ?_
  refine o_nil ?_
  refine k_goal ⟨(j + 1, a6, c6), ⟨rfl, rfl, rfl, rfl, rfl, rfl, trivial⟩, ⟨by show j + 1 ≤ 15; omega, hB14, ?_, hRA.keep1 hSA hsr.symm (by decide) hK14, hka6, hTA.tr (hK14.t1 hks hSA (by simp))⟩, by show 15 - (j + 1) < 15 - j; omega⟩
  show Sl w14 5 1 a6 (1 + (j + 1)) c6 ((List.replicate (1 + (j + 1)) 97#8).map u8v)
  rw [← rep_app, hB]
  exact hO6.keep hK14 (hO6.off hSA (by decide))
end Go.Proofs.YtiapgmfooclpcaaDoor

/- Inflate: block and All at the packed row of the law. No condition beyond what each contract names. -/
namespace Go.Proofs.YtiapgmfooclpcaaDoor
open Go.RowKit E
set_option linter.unusedVariables false
set_option linter.unusedSimpArgs false
set_option maxRecDepth 100000
attribute [local irreducible] ow qw kw kq cw opW Ret
theorem stake_k (K : Nat) (w : World) (s r g : Nat) (a : Option Addr) (c : Nat) (out : Bs) (lim : Int) (hS : StB w s r a c out lim) (hR : RdK K w r PA 0) (hB : Blk w g #[.int .i64 1, .int .i64 2] 3) (hKw : K ≤ w.heap.size) :
    Ret Tryd.prog 82 [.pointer (some ⟨s, 0, none⟩), .slice (some ⟨g, 0, none⟩) 2 2] w (fun v w' => ∃ a2 c2, v = .tuple #[.slice a2 2 c2, .int .i64 0] ∧ Rd w' a2 [.int .i64 1, .int .i64 1] ∧ RdK K w' r PA 3 ∧ Keep [r] w w') := by
  obtain ⟨csr, hBr⟩ := hR.blk
  have hsr : s ≠ r := fun h => by subst h; have := hBr.ty hS; simp at this
  have hgr : g ≠ r := fun h => by subst h; have := hBr.ty hB; simp at this
  have hrl := hBr.lt
  refine fn_enter (n := 35) Tryd.func82 rfl rfl (Nat.le_of_ble_eq_true rfl) (fun e => ?_)
  refine k_seq ?_
  refine k_region ?_
  refine m_sl rfl rfl ?_
  refine m_int rfl rfl ?_
  refine o_nil ?_
  refine k_seq ?_
  refine k_region ?_
  refine m_sl rfl rfl ?_
  refine o_nil ?_
  refine k_seq ?_
  refine k_seq ?_
  refine k_region ?_
  refine m_sl rfl rfl ?_
  refine o_lens Tryd.underlying74 rfl ?_
  refine m_int rfl rfl ?_
  refine o_nil ?_
  refine k_block ?_
  refine k_loop (σ := Nat × Option Addr × Nat) (fun z => [(0, .pointer (some ⟨s, 0, none⟩)), (6, .slice z.2.1 z.1 z.2.2), (11, .slice (some ⟨g, 0, none⟩) 2 2), (12, .int .i64 2), (13, .int .i64 (z.1 : Int))]) (fun z w' => z.1 ≤ 2 ∧ Sl w' 3 1 z.2.1 z.1 z.2.2 (([1, 1].take z.1).map iv) ∧ RdK K w' r PA (pI z.1) ∧ (∀ q, z.2.1 = some q → w.heap.size ≤ q.block) ∧ Keep [r] w w') (fun z => 2 - z.1) (0, none, 0) ⟨rfl, rfl, rfl, rfl, rfl, trivial⟩ ⟨by simp, Sl.nil _ _ _, hR, by simp, Keep.refl _ _⟩ (fun z e w3 hJ => ?_)
  obtain ⟨i, a3, c3⟩ := z
  obtain ⟨hi, hS3, hR3, hf3, hK3⟩ := hJ
  simp only at hi hS3 hR3 hf3 ⊢
  refine k_seq ?_
  refine k_region ?_
  refine b_lss rfl rfl ?_
  refine o_nil ?_
  refine k_seq ?_
  refine k_cond rfl (fun h => ?_) (fun h => ?_)
  rotate_left
  ·
    obtain rfl : i = 2 := by omega
    refine k_exit rfl ?_
    refine k_seq ?_
    refine k_region ?_
    refine m_sl rfl rfl ?_
    refine m_sl rfl rfl ?_
    refine m_int rfl rfl ?_
    refine o_nil ?_
    refine k_ret (ret_tmps (ts := [4, 5]) (v := .tuple #[.slice _ _ _, .int _ _]) rfl rfl ?_)
    exact ⟨a3, c3, rfl, hS3.rd, hR3, hK3⟩
  have hi2 : i < 2 := by omega
  have hB3 := hB.keep hK3 (by simpa using hgr)
  have hSt3 : StB w3 s r a c out lim := Blk.keep hS hK3 (by simpa using hsr)
  refine k_skip ?_
  refine k_seq ?_
  refine k_block ?_
  refine k_seq ?_
  refine k_region ?_
  refine o_ixs1 (m := i) Tryd.underlying74 rfl rfl rfl hi2 ?_
  refine o_ld (v := .int .i64 (wI i)) rfl rfl (by
    rw [hB3.cell, Nat.zero_add]
    match i, hi2 with
    | 0, _ => rfl
    | 1, _ => rfl) ?_
  refine m_int rfl rfl ?_
  refine o_nil ?_
  refine k_seq ?_
  refine k_region ?_
  refine m_ptr rfl rfl ?_
  refine o_nilc rfl ?_
  refine o_fld0 rfl rfl ?_
  refine o_ld rfl rfl (hSt3.at rfl) ?_
  refine m_int rfl rfl ?_
  refine o_call rfl rfl (take_k K w3 r (pI i) PA (wI i) hR3) (fun v w4 hv => ?_)
  unfold TkK at hv
  rw [tkI i hi2] at hv
  obtain ⟨rfl, hR4, hK4⟩ := hv
  refine m_any rfl rfl ?_
  refine o_extr (vs := [.int .i64 1, .int .i64 0]) rfl rfl ?_
  refine o_extr (vs := [.int .i64 1, .int .i64 0]) rfl rfl ?_
  refine m_int rfl rfl ?_
  refine m_int rfl rfl ?_
  refine o_nil ?_
  refine k_seq ?_
  refine k_seq ?_
  refine k_region ?_
  refine m_int rfl rfl ?_
  refine b_neq rfl rfl ?_
  refine o_nil ?_
  refine k_no rfl ((by decide)) ?_
  refine k_skip ?_
  refine k_region ?_
  refine m_sl rfl rfl ?_
  refine m_int rfl rfl ?_
  refine o_bsl (E := 3) (cs := #[.int .i64 1]) rfl (fun _ => by kernel_rfl) (fun g5 w5 hB5 hK5 hb5 hZ5 => ?_)
  have hS4 : Sl w4 3 1 a3 i c3 (([1, 1].take i).map iv) := hS3.keep hK4 (fun q hq hm => by simp at hm; have := hf3 q hq; omega)
  have hR5 := hR4.new hK5
  have hS5 := hS4.new hK5
  refine o_app Tryd.underlying74 inf3 rfl (by decide) rfl rfl hS5 (hB5.sl (len := 1) (sz := 1) rfl (by decide)).rd (by simp) (by intro u hu; simp at hu; subst hu; rfl) (by simp [maxLen]; omega) (by omega) (fun a6 c6 w6 hS6 hK6 hv6 => ?_)
  refine m_sl rfl rfl ?_
  refine o_nil ?_
  refine k_blk ?_
  refine k_region ?_
  refine n_add rfl rfl (by omega) ?_
  refine m_int rfl rfl ?_
  refine o_nil ?_
  have hsz3 := hK3.size
  have hsz4 := hK4.size
  have hsz5 := hK5.size
  have hfr : ∀ q, a6 = some q → w.heap.size ≤ q.block := fun q hq => by
   rcases hv6 with ⟨rfl, _⟩ | ⟨g6, rfl, h6, _⟩
   · exact hf3 q hq
   · cases hq; simp only; omega
  have ha3 : ∀ b ∈ blkOf a3, w.heap.size ≤ b := fun b hb => by
   cases a3 with
   | none => simp [blkOf] at hb
   | some p => simp [blkOf] at hb; subst hb; exact hf3 p rfl
  refine k_goal ⟨(i + 1, a6, c6), ⟨rfl, rfl, rfl, rfl, rfl, trivial⟩, ⟨by show i + 1 ≤ 2; omega, ?_, ?_, hfr, ?_⟩, by show 2 - (i + 1) < 2 - i; omega⟩
  · show Sl w6 3 1 a6 (i + 1) c6 (([1, 1].take (i + 1)).map iv)
    have e : (([1, 1].take (i + 1)).map iv : List Value) = ([1, 1].take i).map iv ++ [.int .i64 1] := by
     match i, hi2 with
     | 0, _ => rfl
     | 1, _ => rfl
    rw [e]
    exact hS6
  · exact hR5.sl hS5 (by decide) (fun q hq => by have := hf3 q hq; omega) hK6
  · exact ((hK3.trans hK4 (fun b hb _ => hb)).trans hK5 (fun b hb _ => by simp at hb)).trans hK6 (fun b hb hl => absurd (ha3 b hb) (by omega))
theorem five_ok2 : okL fivI ∧ Fit (nats fivI) true := by unfold okL; decide +kernel
theorem block_ok (k K : Nat) (w : World) (s r : Nat) (hS : StB w s r none 0 [] 16) (hR : RdK K w r PA 0) (hks : k ≤ s) (hkr : k ≤ r) (hK : K ≤ w.heap.size) (hkK : k ≤ K) :
    Ret Tryd.prog 70 [.pointer (some ⟨s, 0, none⟩)] w (fun v w' => v = .tuple #[.bool true, .int .i64 0] ∧ ∃ a c, StB w' s r a c A16 16 ∧ Sl w' 5 1 a 16 c (A16.map u8v) ∧ RdK K w' r PA 31 ∧ KeepT [142, 156, 5] k w w' ∧ ∀ q, a = some q → K ≤ q.block) := by
  obtain ⟨csr, hBr⟩ := hR.blk
  have hsr : s ≠ r := fun h => by subst h; have := hBr.ty hS; simp at this
  refine fn_enter (n := 72) Tryd.func70 rfl rfl (Nat.le_of_ble_eq_true rfl) (fun e => ?_)
  refine k_seq ?_
  refine k_region ?_
  refine m_bool rfl rfl ?_
  refine m_int rfl rfl ?_
  refine o_nil ?_
  refine k_seq ?_
  refine k_region ?_
  refine m_ptr rfl rfl ?_
  refine o_bsl (E := 3) (cs := #[.int .i64 1, .int .i64 2]) rfl (fun _ => by kernel_rfl) (fun g w2 hB2 hK2 hb2 hZ2 => ?_)
  refine o_call rfl rfl (stake_k K w2 s r g none 0 [] 16 (Blk.keep hS hK2 (by simp)) (hR.new hK2) hB2 (by omega)) (fun v w3 hv => ?_)
  obtain ⟨a2, c2, rfl, hR2, hR3, hK3⟩ := hv
  have hS3 : StB w3 s r none 0 [] 16 := Blk.keep (Blk.keep hS hK2 (by simp)) hK3 (by simpa using hsr)
  have hT3 : KeepT [142, 156, 5] k w w3 := hK2.t.tr (hK3.t1 hkr (hBr.keep hK2 (by simp)) (by simp))
  obtain ⟨b, o, rfl, _⟩ := hR2.at 0 (by simp)
  refine m_any rfl rfl ?_
  refine o_extr (vs := [.slice (some ⟨b, o, none⟩) 2 c2, .int .i64 0]) rfl rfl ?_
  refine o_extr (vs := [.slice (some ⟨b, o, none⟩) 2 c2, .int .i64 0]) rfl rfl ?_
  refine m_sl rfl rfl ?_
  refine m_int rfl rfl ?_
  refine o_nil ?_
  refine k_seq ?_
  refine k_seq ?_
  refine k_region ?_
  refine m_int rfl rfl ?_
  refine b_neq rfl rfl ?_
  refine o_nil ?_
  refine k_no rfl ((by decide)) ?_
  refine k_skip ?_
  refine k_seq ?_
  refine k_region ?_
  refine m_sl rfl rfl ?_
  refine o_ixs1 (m := 0) Tryd.underlying74 rfl rfl rfl (by decide) ?_
  refine o_ld (v := .int .i64 1) rfl rfl (hR2.cellK (Keep.refl _ _) (i := 0) rfl) ?_
  refine b_eql rfl rfl ?_
  refine m_bool rfl rfl ?_
  refine o_nil ?_
  refine k_seq ?_
  refine k_seq ?_
  refine k_region ?_
  refine m_sl rfl rfl ?_
  refine o_ixs1 (m := 1) Tryd.underlying74 rfl rfl rfl (by decide) ?_
  refine o_ld (v := .int .i64 1) rfl rfl (hR2.cellK (Keep.refl _ _) (i := 1) rfl) ?_
  refine o_nil ?_
  refine k_block ?_
  refine k_seq ?_
  refine k_region ?_
  refine b_eql rfl rfl ?_
  refine m_bool rfl rfl ?_
  refine o_nil ?_
  refine k_no rfl ((by decide)) ?_
  refine k_seq ?_
  refine k_region ?_
  refine b_eql rfl rfl ?_
  refine m_bool rfl rfl ?_
  refine o_nil ?_
  refine k_no rfl ((by decide)) ?_
  refine k_skip ?_
  refine k_blk ?_
  refine k_seq ?_
  refine k_region ?_
  refine o_call rfl rfl (fixed_ok w3) (fun v w4 hv => ?_)
  obtain ⟨g8, g9, rfl, hF8, hF9, hK4⟩ := hv
  refine m_any rfl rfl ?_
  refine o_extr (vs := [.slice (some ⟨g8, 0, none⟩) 288 288, .slice (some ⟨g9, 0, none⟩) 32 32]) rfl rfl ?_
  refine o_extr (vs := [.slice (some ⟨g8, 0, none⟩) 288 288, .slice (some ⟨g9, 0, none⟩) 32 32]) rfl rfl ?_
  refine m_sl rfl rfl ?_
  refine m_sl rfl rfl ?_
  refine o_nil ?_
  refine k_seq ?_
  refine k_seq ?_
  refine k_region ?_
  refine m_sl rfl rfl ?_
  refine o_ixs1 (m := 1) Tryd.underlying74 rfl rfl rfl (by decide) ?_
  refine o_ld (v := .int .i64 1) rfl rfl (hR2.cellK hK4 (i := 1) rfl) ?_
  refine b_eql rfl rfl ?_
  refine o_nil ?_
  refine k_cut (σ := Unit) (fun _ => [(0, .pointer (some ⟨s, 0, none⟩)), (6, .bool true), (7, .slice (some ⟨g8, 0, none⟩) 288 288), (8, .slice (some ⟨g9, 0, none⟩) 32 32)]) (fun _ w' => w' = w4) ?_ (fun _ e w5 hJ => ?_)
  ·
    refine k_no rfl ((by decide)) ?_
    refine k_skip ?_
    exact k_goal ⟨(), ⟨rfl, rfl, rfl, rfl, trivial⟩, rfl⟩
  subst hJ
  have hlf : fixI.length = 288 := tab_len _ _ _
  have hlv : fivI.length = 32 := tab_len _ _ _
  have hp8 := pnew_ok w5 (some ⟨g8, 0, none⟩) 288 fixI false hF8 (by omega)
  rw [hlf] at hp8
  refine k_seq ?_
  refine k_region ?_
  refine m_sl rfl rfl ?_
  refine o_call rfl rfl hp8 (fun v w6 hv => ?_)
  obtain ⟨hK6, hv⟩ := hv
  obtain ⟨rx, rfl, hX6⟩ : ∃ rx, v = .tuple #[.pointer (some ⟨rx, 0, none⟩), .int .i64 0] ∧ CodeP w6 rx fixL := by
   rcases hv with ⟨hn, _⟩ | ⟨_, hn, _⟩ | ⟨_, _, rc, h1, h2⟩
   · exact absurd fix_ok.1 hn
   · exact absurd fix_ok.2 hn
   · exact ⟨rc, h1, h2⟩
  refine m_any rfl rfl ?_
  refine o_extr (vs := [.pointer (some ⟨rx, 0, none⟩), .int .i64 0]) rfl rfl ?_
  refine o_extr (vs := [.pointer (some ⟨rx, 0, none⟩), .int .i64 0]) rfl rfl ?_
  refine m_ptr rfl rfl ?_
  refine m_int rfl rfl ?_
  refine o_nil ?_
  refine k_seq ?_
  refine k_seq ?_
  refine k_region ?_
  refine m_int rfl rfl ?_
  refine b_neq rfl rfl ?_
  refine o_nil ?_
  refine k_no rfl ((by decide)) ?_
  refine k_skip ?_
  refine k_seq ?_
  refine k_region ?_
  refine m_sl rfl rfl ?_
  have hp9 := pnew_ok w6 (some ⟨g9, 0, none⟩) 32 fivI true (hF9.new hK6) (by omega)
  rw [hlv] at hp9
  refine o_call rfl rfl hp9 (fun v w7 hv => ?_)
  obtain ⟨hK7, hv⟩ := hv
  obtain ⟨ry, rfl, hY7⟩ : ∃ ry, v = .tuple #[.pointer (some ⟨ry, 0, none⟩), .int .i64 0] ∧ CodeP w7 ry fivL := by
   rcases hv with ⟨hn, _⟩ | ⟨_, hn, _⟩ | ⟨_, _, rc, h1, h2⟩
   · exact absurd five_ok2.1 hn
   · exact absurd five_ok2.2 hn
   · exact ⟨rc, h1, h2⟩
  refine m_any rfl rfl ?_
  refine o_extr (vs := [.pointer (some ⟨ry, 0, none⟩), .int .i64 0]) rfl rfl ?_
  refine o_extr (vs := [.pointer (some ⟨ry, 0, none⟩), .int .i64 0]) rfl rfl ?_
  refine m_ptr rfl rfl ?_
  refine m_int rfl rfl ?_
  refine o_nil ?_
  refine k_seq ?_
  refine k_seq ?_
  refine k_region ?_
  refine m_int rfl rfl ?_
  refine b_neq rfl rfl ?_
  refine o_nil ?_
  refine k_no rfl ((by decide)) ?_
  refine k_skip ?_
  refine k_seq ?_
  refine k_region ?_
  refine m_bool rfl rfl ?_
  have hk37 : Keep [] w3 w7 := (hK4.tr hK6).tr hK7
  refine m_ptr rfl rfl ?_
  refine m_ptr rfl rfl ?_
  refine m_ptr rfl rfl ?_
  refine o_call rfl rfl (sym_ok k K w7 s r rx ry (Blk.keep hS3 hk37 (by simp)) (hR3.new hk37) (hX6.new hK7) hY7 hks hkr (by have := hT3.size; have := hk37.size; omega) hkK) (fun v w8 hv => ?_)
  obtain ⟨rfl, a8, c8, hS8, hO8, hR8, hT8, hf8⟩ := hv
  refine m_bool rfl rfl ?_
  refine m_int rfl rfl ?_
  refine o_nil ?_
  refine k_ret (ret_tmps (ts := [2, 3]) (v := .tuple #[.bool _, .int _ _]) rfl rfl ?_)
  exact ⟨rfl, a8, c8, hS8, hO8, hR8, (hT3.tr hk37.t).tr hT8, hf8⟩
theorem infall_ok (w : World) (a : Option Addr) (c : Nat) (hR : Rd w a (PA.map u8v)) :
    Ret Tryd.prog 48 [.slice a PA.length c, .int .i64 16] w (fun v w' => ∃ u, v = .tuple #[u, .int .i64 4, .int .i64 0] ∧ New w w' 5 u (A16.map u8v) ∧ Keep [] w w') := by
  refine fn_enter (n := 41) Tryd.func48 rfl rfl (Nat.le_of_ble_eq_true rfl) (fun e => ?_)
  refine k_seq ?_
  refine k_region ?_
  refine m_sl rfl rfl ?_
  refine m_int rfl rfl ?_
  refine m_int rfl rfl ?_
  refine o_nil ?_
  refine k_seq ?_
  refine k_seq ?_
  refine k_region ?_
  refine m_int rfl rfl ?_
  refine b_lss rfl rfl ?_
  refine m_bool rfl rfl ?_
  refine o_false (t := 12) rfl ((by decide)) ?_
  refine g_yes rfl rfl ?_
  refine m_int rfl rfl ?_
  refine g_yes rfl rfl ?_
  refine b_gtr rfl rfl ?_
  refine pick_f rfl rfl ?_
  refine o_nil ?_
  refine k_no rfl ((by decide)) ?_
  refine k_skip ?_
  refine k_seq ?_
  refine k_region ?_
  refine m_sl rfl rfl ?_
  refine o_call rfl rfl (bnew_ok w a c PA hR (by rw [pa_eq]; decide)) (fun v w2 hv => ?_)
  obtain ⟨r, rfl, hR2, hK2, hr2⟩ := hv
  refine m_int rfl rfl ?_
  refine o_build (v := .agg #[.pointer (some ⟨r, 0, none⟩), .slice none 0 0, .int .i64 16]) rfl (fun _ => by kernel_rfl) ?_
  refine o_box rfl rfl (fun s w3 hB3 hK3 hb3 hZ3 => ?_)
  have hRK := (hR2.high).new hK3
  have hs2 := hK2.size
  refine m_ptr rfl rfl ?_
  refine o_nil ?_
  refine k_block ?_
  refine k_loop (σ := Unit) (fun _ => [(7, .pointer (some ⟨s, 0, none⟩))]) (fun _ w' => w' = w3) (fun _ => 0) () ⟨rfl, trivial⟩ rfl (fun _ e w4 hJ => ?_)
  subst hJ
  refine k_block ?_
  refine k_seq ?_
  refine k_region ?_
  refine m_ptr rfl rfl ?_
  refine o_call rfl rfl (block_ok w.heap.size w2.heap.size w4 s r hB3 hRK (by omega) hr2 (by omega) hs2) (fun v w5 hv => ?_)
  obtain ⟨rfl, a5, c5, hS5, hO5, hR5, hT5, hf5⟩ := hv
  have hS5' : Blk w5 s #[.pointer (some ⟨r, 0, none⟩), .slice a5 16 c5, .int .i64 16] 142 := hS5
  refine m_any rfl rfl ?_
  refine o_extr (vs := [.bool (decide ((0 : Int) = 0)), .int .i64 0]) rfl rfl ?_
  refine o_extr (vs := [.bool (decide ((0 : Int) = 0)), .int .i64 0]) rfl rfl ?_
  refine m_bool rfl rfl ?_
  refine m_int rfl rfl ?_
  refine o_nil ?_
  refine k_seq ?_
  refine k_seq ?_
  refine k_region ?_
  refine m_int rfl rfl ?_
  refine b_neq rfl rfl ?_
  refine o_nil ?_
  refine k_no rfl ((by decide)) ?_
  refine k_skip ?_
  refine k_seq ?_
  refine k_region ?_
  refine m_bool rfl rfl ?_
  refine o_nil ?_
  refine k_yes rfl (rfl) ?_
  refine k_seq ?_
  refine k_qk 12 rfl rfl rfl rfl rfl ?_
  refine q_step (fun w1 hC => m_ptr rfl rfl (o_nil ⟨rfl, hC⟩)) ?_
  refine q_step (fun w1 hC => o_nilc rfl (o_nil ⟨rfl, hC⟩)) ?_
  refine q_step (fun w1 hC => o_fld (off := 1) rfl rfl (o_nil ⟨rfl, hC⟩)) ?_
  refine q_step (fun w1 hC => o_ld rfl rfl (hS5'.kat hC rfl) (o_nil ⟨rfl, hC⟩)) ?_
  refine q_step (fun w1 hC => m_ptr rfl rfl (o_nil ⟨rfl, hC⟩)) ?_
  refine q_step (fun w1 hC => o_nilc rfl (o_nil ⟨rfl, hC⟩)) ?_
  refine q_step (fun w1 hC => o_fld0 rfl rfl (o_nil ⟨rfl, hC⟩)) ?_
  refine q_step (fun w1 hC => o_ld rfl rfl (hS5'.kat hC rfl) (o_nil ⟨rfl, hC⟩)) ?_
  refine q_step (v := .int .i64 31) (fun w1 hC => o_call rfl rfl (bat_ok w1 r 31 PA (hR5.rdr.new hC)) (fun v w2 hv => by obtain ⟨rfl, rfl⟩ := hv; exact o_nil ⟨rfl, hC⟩)) ?_
  refine q_step (fun w1 hC => n_add rfl rfl (by omega) (o_nil ⟨rfl, hC⟩)) ?_
  refine q_step (fun w1 hC => b_shrn (c := 3) rfl rfl (o_nil ⟨rfl, hC⟩)) ?_
  refine q_step (fun w1 hC => m_sl rfl rfl (o_nil ⟨rfl, hC⟩)) ?_
  refine q_nil ?_
  intro w6 hC6
  refine m_int rfl rfl ?_
  refine m_int rfl rfl ?_
  refine o_nil ?_
  refine k_ret (ret_tmps (ts := [4, 5, 6]) (v := .tuple #[.slice _ _ _, .int _ _, .int _ _]) rfl rfl ?_)
  exact ⟨_, rfl, ⟨a5, c5, rfl, hO5.new hC6, fun q hq => by have := hf5 q hq; omega⟩, (hT5.below (hK2.tr hK3) (Nat.le_refl _)).tr hC6⟩
end Go.Proofs.YtiapgmfooclpcaaDoor

/- Entries: Unpack and Find at the packed row of the law. No condition beyond what each contract names. -/
namespace Go.Proofs.YtiapgmfooclpcaaDoor
open Go.RowKit E
set_option linter.unusedVariables false
set_option linter.unusedSimpArgs false
set_option maxRecDepth 100000
attribute [local irreducible] ow qw kw kq cw opW Ret
def recV (nm : ByteArray) (at_ hd : Nat) : List Value := [.string nm, nv 8, nv 4, nv 16, nv (crcN A16), nv at_, nv hd]
/-- bytes in a slice -/
def OutA (w0 w : World) (v : Value) (xs : Bs) : Prop := ∃ a c, v = .slice a xs.length c ∧ Sl w 5 1 a xs.length c (xs.map u8v) ∧ ∀ q, a = some q → w0.heap.size ≤ q.block
theorem OutA.new {w0 w w' : World} {v : Value} {xs : Bs} (h : OutA w0 w v xs) (hk : Keep [] w w') : OutA w0 w' v xs := by
  obtain ⟨a, c, h1, h2, h3⟩ := h
  exact ⟨a, c, h1, h2.new hk, h3⟩
theorem unpack_ok (w : World) (a : Option Addr) (c : Nat) (nm : ByteArray) (at_ hd : Nat) (hR : Rd w a (PA.map u8v)) :
    Ret Tryd.prog 28 [.agg (recV nm at_ hd).toArray, .slice a 4 c] w (fun v w' => ∃ u, v = .tuple #[u, .int .i64 0] ∧ OutA w w' u A16 ∧ Keep [] w w') := by
  refine fn_enter (n := 70) Tryd.func28 rfl rfl (Nat.le_of_ble_eq_true rfl) (fun e => ?_)
  refine k_seq ?_
  refine k_region ?_
  refine o_box (cs := (recV nm at_ hd).toArray) rfl rfl (fun b w2 hB2 hK2 hb2 hZ2 => ?_)
  refine m_sl rfl rfl ?_
  refine m_int rfl rfl ?_
  refine o_nil ?_
  refine k_seq ?_
  refine k_seq ?_
  refine k_region ?_
  refine m_sl rfl rfl ?_
  refine o_lens Tryd.underlying25 rfl ?_
  refine o_fld (off := 2) rfl rfl ?_
  refine o_ld rfl rfl (blk_l (i := 2) hB2 rfl) ?_
  refine b_neq rfl rfl ?_
  refine m_bool rfl rfl ?_
  refine o_false (t := 15) rfl ((by decide)) ?_
  refine g_yes rfl rfl ?_
  refine o_fld (off := 1) rfl rfl ?_
  refine g_yes rfl rfl ?_
  refine o_ld rfl rfl (blk_l (i := 1) hB2 rfl) ?_
  refine g_yes rfl rfl ?_
  refine b_andNot rfl rfl ?_
  refine g_yes rfl rfl ?_
  refine b_neq rfl rfl ?_
  refine pick_f rfl rfl ?_
  refine m_bool rfl rfl ?_
  refine o_false (t := 21) rfl ((by decide)) ?_
  refine g_yes rfl rfl ?_
  refine o_fld (off := 3) rfl rfl ?_
  refine g_yes rfl rfl ?_
  refine o_ld rfl rfl (blk_l (i := 3) hB2 rfl) ?_
  refine g_yes rfl rfl ?_
  refine b_lss rfl rfl ?_
  refine pick_f rfl rfl ?_
  refine o_nil ?_
  refine k_no rfl ((by decide)) ?_
  refine k_skip ?_
  refine k_seq ?_
  refine k_seq ?_
  refine k_region ?_
  refine o_fld (off := 3) rfl rfl ?_
  refine o_ld rfl rfl (blk_l (i := 3) hB2 rfl) ?_
  refine b_gtr rfl rfl ?_
  refine o_nil ?_
  refine k_no rfl ((by decide)) ?_
  refine k_skip ?_
  refine k_seq ?_
  refine k_region ?_
  refine m_sl rfl rfl ?_
  refine o_nil ?_
  refine k_seq ?_
  refine k_seq ?_
  refine k_region ?_
  refine o_fld (off := 1) rfl rfl ?_
  refine o_ld rfl rfl (blk_l (i := 1) hB2 rfl) ?_
  refine b_eql rfl rfl ?_
  refine o_nil ?_
  refine k_cut (σ := Option Addr × Nat) (fun s => [(2, .pointer (some ⟨b, 0, none⟩)), (6, .slice s.1 16 s.2)]) (fun s w' => Sl w' 5 1 s.1 16 s.2 (A16.map u8v) ∧ (∀ q, s.1 = some q → w.heap.size ≤ q.block) ∧ Keep [] w w' ∧ Blk w' b (recV nm at_ hd).toArray 33) ?_ (fun s e w4 hJ => ?_)
  ·
    refine k_yes rfl ((by decide)) ?_
    refine k_seq ?_
    refine k_region ?_
    refine m_sl rfl rfl ?_
    refine o_fld (off := 3) rfl rfl ?_
    refine o_ld rfl rfl (blk_l (i := 3) hB2 rfl) ?_
    have hall := infall_ok w2 a c (hR.new hK2)
    rw [show PA.length = 4 by rw [pa_eq]; rfl] at hall
    refine o_call rfl rfl hall (fun v w3 hv => ?_)
    obtain ⟨u, rfl, ⟨a3, c3, rfl, hS3, hf3⟩, hK3⟩ := hv
    rw [List.length_map] at *
    refine m_any rfl rfl ?_
    refine o_extr (vs := [.slice a3 16 c3, .int .i64 4, .int .i64 0]) rfl rfl ?_
    refine o_extr (vs := [.slice a3 16 c3, .int .i64 4, .int .i64 0]) rfl rfl ?_
    refine o_extr (vs := [.slice a3 16 c3, .int .i64 4, .int .i64 0]) rfl rfl ?_
    refine m_sl rfl rfl ?_
    refine m_int rfl rfl ?_
    refine m_int rfl rfl ?_
    refine o_nil ?_
    refine k_seq ?_
    refine k_seq ?_
    refine k_region ?_
    refine m_int rfl rfl ?_
    refine b_neq rfl rfl ?_
    refine o_nil ?_
    refine k_no rfl ((by decide)) ?_
    refine k_skip ?_
    refine k_seq ?_
    refine k_seq ?_
    refine k_region ?_
    refine m_int rfl rfl ?_
    refine m_sl rfl rfl ?_
    refine o_lens Tryd.underlying25 rfl ?_
    refine b_lss rfl rfl ?_
    refine o_nil ?_
    refine k_no rfl ((by decide)) ?_
    refine k_skip ?_
    refine k_region ?_
    refine m_sl rfl rfl ?_
    refine m_sl rfl rfl ?_
    refine o_nil ?_
    exact k_goal ⟨(a3, c3), ⟨rfl, rfl, trivial⟩, hS3, fun q hq => by have := hf3 q hq; have := hK2.size; omega, hK2.tr hK3, hB2.keep hK3 (by simp)⟩
  obtain ⟨a4, c4⟩ := s
  obtain ⟨hS4, hf4, hk4, hB4⟩ := hJ
  simp only at hS4 hf4 ⊢
  refine k_seq ?_
  refine k_block ?_
  refine k_seq ?_
  refine k_region ?_
  refine m_sl rfl rfl ?_
  refine o_lens Tryd.underlying25 rfl ?_
  refine o_fld (off := 3) rfl rfl ?_
  refine o_ld rfl rfl (blk_l (i := 3) hB4 rfl) ?_
  refine b_neq rfl rfl ?_
  refine m_bool rfl rfl ?_
  refine o_nil ?_
  refine k_no rfl ((by decide)) ?_
  refine k_seq ?_
  refine k_any 5 (fun w w' => Keep [] w w') (fun iA => match iA with
      | 0 => fun v w => v = .slice a4 16 c4
      | 1 => fun v w => ∃ g, v = .slice (some ⟨g, 0, none⟩) 1 1 ∧ Blk w g #[.slice a4 16 c4] 25
      | 2 => fun v w => v = nv (crcN A16)
      | 3 => fun v w => v = .pointer (some ⟨b, 4, none⟩)
      | 4 => fun v w => v = nv (crcN A16)
      | _ => fun v w => True) rfl rfl rfl rfl rfl (Keep.refl []) (fun _ _ _ h1 h2 => h1.tr h2) ?_ ?_ ?_
  · intro iA v w w' h hL
    match iA, h with
    | 0, h =>
      exact h
    | 1, h =>
      obtain ⟨g, h1, h2⟩ := h
      exact ⟨g, h1, h2.keep hL (by simp)⟩
    | 2, h =>
      exact h
    | 3, h =>
      exact h
    | 4, h =>
      exact h
    | _ + 5, h => trivial
  · intro iA o him hl eA wA hL hA hD
    match iA, him, hl with
    | 0, _, hl =>
      obtain rfl := Option.some.inj hl
      refine o_gen [(6, _)] ⟨hA 6 (free_of rfl), trivial⟩ (fun e2 => ?_)
      refine m_sl rfl rfl ?_
      refine o_nil ⟨Keep.refl _ _, rfl⟩
    | 1, _, hl =>
      obtain rfl := Option.some.inj hl
      refine o_gen [(63, _)] ⟨hD 0 (by decide) 63 rfl, trivial⟩ (fun e2 => ?_)
      refine o_bsl (E := 25) (cs := #[.slice a4 16 c4]) rfl (fun _ => by kernel_rfl) (fun g w5 hB5 hK5 hb5 hZ5 => ?_)
      exact o_nil ⟨hK5, g, rfl, hB5⟩
    | 2, _, hl =>
      obtain rfl := Option.some.inj hl
      obtain ⟨g, hg, hgB⟩ := hD 1 (by decide) 64 rfl
      refine o_gen [(64, _)] ⟨hg, trivial⟩ (fun e2 => ?_)
      have hkA : Keep [] w4 wA := (Keep.refl [] w4).drew.tr hL
      refine o_call rfl rfl (sumof_ok wA (some ⟨g, 0, none⟩) 1 [⟨a4, c4, A16⟩] (hgB.sl (len := 1) (sz := 1) rfl (by decide)).rd (by intro p hp; simp at hp; subst hp; exact ⟨hS4.rd.new hkA, show (16 : Nat) ≤ _ by decide⟩) (by simp)) (fun u w2 hu => ?_)
      obtain ⟨rfl, hK2⟩ := hu
      rw [sum_one]
      exact o_nil ⟨hK2, rfl⟩
    | 3, _, hl =>
      obtain rfl := Option.some.inj hl
      refine o_gen [(2, _)] ⟨hA 2 (free_of rfl), trivial⟩ (fun e2 => ?_)
      refine o_fld (off := 4) rfl rfl ?_
      refine o_nil ⟨Keep.refl _ _, rfl⟩
    | 4, _, hl =>
      obtain rfl := Option.some.inj hl
      refine o_gen [(66, _)] ⟨hD 3 (by decide) 66 rfl, trivial⟩ (fun e2 => ?_)
      refine o_ld rfl rfl (blk_l (i := 4) (hB4.keep ((Keep.refl [] w4).drew.tr hL) (by simp)) rfl) ?_
      refine o_nil ⟨Keep.refl _ _, rfl⟩
    | _ + 5, him, _ => exact absurd him (by omega)
  intro eA wA hL hA hV
  refine o_gen [(6, .slice a4 16 c4), (65, nv (crcN A16)), (67, nv (crcN A16))] ⟨hA 6 (free_of rfl), hV 2 (by decide) 65 rfl, hV 4 (by decide) 67 rfl, trivial⟩ (fun e3 => ?_)
  refine b_neq rfl rfl ?_
  refine m_bool rfl rfl ?_
  refine o_nil ?_
  refine k_no rfl ((by simp)) ?_
  refine k_skip ?_
  refine k_blk ?_
  refine k_seq ?_
  refine k_region ?_
  refine m_sl rfl rfl ?_
  refine m_sl rfl rfl ?_
  refine m_int rfl rfl ?_
  refine o_nil ?_
  refine k_ret (ret_tmps (ts := [4, 5]) (v := .tuple #[.slice _ _ _, .int _ _]) rfl rfl ?_)
  exact ⟨_, rfl, ⟨a4, c4, rfl, hS4.new ((Keep.refl [] w4).drew.tr hL), hf4⟩, hk4.tr ((Keep.refl [] w4).drew.tr hL)⟩
theorem find_ok (w : World) (a : Option Addr) (c : Nat) (bs : Bs) (nm : ByteArray) (at_ hd : Nat) (rc : Rc) (hR : Rd w a (bs.map u8v)) (hc : bs.length ≤ c) (hl : bs.length ≤ 1000000) (hE : dirE bs = 0) (hG : Good (dirL bs)) (hL : dirL bs = [rc]) (hrc : (rcC rc).take 7 = recV nm at_ hd) (hat : at_ + 4 ≤ bs.length) (hsub : sub bs at_ 4 = PA) :
    Ret Tryd.prog 12 [.slice a bs.length c, .string nm] w (fun v w' => ∃ u, v = .tuple #[u, .int .i64 0] ∧ OutA w w' u A16 ∧ Keep [] w w') := by
  obtain ⟨wO, rfl⟩ : ∃ x : World, x = w := ⟨w, rfl⟩
  refine fn_enter (n := 42) Tryd.func12 rfl rfl (Nat.le_of_ble_eq_true rfl) (fun e => ?_)
  refine k_seq ?_
  refine k_region ?_
  refine m_sl rfl rfl ?_
  refine m_int rfl rfl ?_
  refine o_nil ?_
  refine k_seq ?_
  refine k_region ?_
  refine m_sl rfl rfl ?_
  refine o_call rfl rfl (dir_ok wO a c bs hR hc (by omega) (fun _ => hG)) (fun v w2 hv => ?_)
  obtain ⟨al, m, cl, rfl, hK2, _, hv2⟩ := hv
  obtain ⟨rfl, hS2, hf2⟩ := hv2 hE
  rw [hE]
  rw [hL] at hS2 ⊢
  have hoc : outC [rc] = recV nm at_ hd := by show (rcC rc).take 7 ++ [] = _; rw [hrc, List.append_nil]
  rw [hoc] at hS2
  obtain ⟨gl, cur, hgl, hBl, hszl⟩ := hS2.blk (show 0 < 1 by decide)
  subst hgl
  refine m_any rfl rfl ?_
  refine o_extr (vs := [.slice (some ⟨gl, 0, none⟩) 1 cl, .int .i64 0]) rfl rfl ?_
  refine o_extr (vs := [.slice (some ⟨gl, 0, none⟩) 1 cl, .int .i64 0]) rfl rfl ?_
  refine m_sl rfl rfl ?_
  refine m_int rfl rfl ?_
  refine o_nil ?_
  refine k_seq ?_
  refine k_seq ?_
  refine k_region ?_
  refine m_int rfl rfl ?_
  refine b_neq rfl rfl ?_
  refine o_nil ?_
  refine k_no rfl ((by decide)) ?_
  refine k_skip ?_
  refine k_seq ?_
  refine k_seq ?_
  refine k_region ?_
  refine m_sl rfl rfl ?_
  refine o_lens Tryd.underlying29 rfl ?_
  refine m_int rfl rfl ?_
  refine o_nil ?_
  refine k_block ?_
  refine k_loop (σ := Unit) (fun _ => [(0, .slice a bs.length c), (1, .string nm), (18, .slice (some ⟨gl, 0, none⟩) 1 cl), (19, .int .i64 1), (20, .int .i64 0)]) (fun _ w' => w' = w2) (fun _ => 0) () ⟨rfl, rfl, rfl, rfl, rfl, trivial⟩ rfl (fun _ e w3 hJ => ?_)
  subst hJ
  refine k_seq ?_
  refine k_region ?_
  refine b_lss rfl rfl ?_
  refine o_nil ?_
  refine k_seq ?_
  refine k_yes rfl ((by decide)) ?_
  refine k_skip ?_
  refine k_seq ?_
  refine k_block ?_
  refine k_seq ?_
  refine k_region ?_
  refine o_ixs (sz := 7) (m := 0) Tryd.underlying29 rfl rfl rfl (by decide) ?_
  refine o_lda (xs := recV nm at_ hd) rfl rfl rfl (fun j v hj => by
   have := hS2.rd.cellK (Keep.refl _ _) hj
   rw [Nat.zero_add] at this
   simpa using this) ?_
  refine o_alloc (cs := (r0C.take 7).toArray) inf33 rfl (fun b9 w4 hB4 hK4 hb4 hZ4 => ?_)
  refine o_sta (xs := recV nm at_ hd) rfl rfl rfl (by intro u hu; simp [recV] at hu; rcases hu with rfl | rfl | rfl | rfl | rfl | rfl | rfl <;> rfl) hB4 (show 7 ≤ 7 by decide) (fun w5 hB5 hK5 hZ5 => ?_)
  have hB5 := sta_all hB5 rfl
  have hk25 : Keep [] w3 w5 := hK4.tr1 hK5 (by omega)
  refine o_nil ?_
  refine k_seq ?_
  refine k_region ?_
  refine o_fld0 rfl rfl ?_
  refine o_ld rfl rfl (blk_l (i := 0) hB5 rfl) ?_
  obtain ⟨b0, o0, rfl, _⟩ := hR.at at_ (by simp; omega)
  refine m_str rfl rfl ?_
  refine b_eqlstr Tryd.underlying9 rfl rfl ?_
  refine o_nil ?_
  refine k_yes rfl (rfl) ?_
  refine k_seq ?_
  refine k_any 13 (fun w w' => Keep [] w w') (fun iA => match iA with
      | 0 => fun v w => v = .agg (recV nm at_ hd).toArray
      | 1 => fun v w => v = .slice (some ⟨b0, o0, none⟩) bs.length c
      | 2 => fun v w => v = .pointer (some ⟨b9, 5, none⟩)
      | 3 => fun v w => v = nv at_
      | 4 => fun v w => v = .pointer (some ⟨b9, 5, none⟩)
      | 5 => fun v w => v = nv at_
      | 6 => fun v w => v = .pointer (some ⟨b9, 2, none⟩)
      | 7 => fun v w => v = nv 4
      | 8 => fun v w => v = nv (at_ + 4)
      | 9 => fun v w => v = .slice (some ⟨b0, o0 + at_, none⟩) 4 (c - at_)
      | 10 => fun v w => ∃ u, v = .tuple #[u, .int .i64 0] ∧ OutA wO w u A16
      | 11 => fun v w => OutA wO w v A16
      | 12 => fun v w => v = .int .i64 0
      | _ => fun v w => True) rfl rfl rfl rfl rfl (Keep.refl []) (fun _ _ _ h1 h2 => h1.tr h2) ?_ ?_ ?_
  · intro iA v w w' h hL
    match iA, h with
    | 0, h =>
      exact h
    | 1, h =>
      exact h
    | 2, h =>
      exact h
    | 3, h =>
      exact h
    | 4, h =>
      exact h
    | 5, h =>
      exact h
    | 6, h =>
      exact h
    | 7, h =>
      exact h
    | 8, h =>
      exact h
    | 9, h =>
      exact h
    | 10, h =>
      obtain ⟨u, h1, h2⟩ := h
      exact ⟨u, h1, h2.new hL⟩
    | 11, h =>
      exact h.new hL
    | 12, h =>
      exact h
    | _ + 13, h => trivial
  · intro iA o him hl eA wA hL hA hD
    match iA, him, hl with
    | 0, _, hl =>
      obtain rfl := Option.some.inj hl
      refine o_gen [(9, _)] ⟨hA 9 (free_of rfl), trivial⟩ (fun e2 => ?_)
      refine o_lda (xs := recV nm at_ hd) rfl rfl rfl (fun j v hj => by rw [Nat.zero_add]; exact blk_l (hB5.keep ((Keep.refl [] w5).drew.tr hL) (by simp)) hj) ?_
      refine o_nil ⟨Keep.refl _ _, rfl⟩
    | 1, _, hl =>
      obtain rfl := Option.some.inj hl
      refine o_gen [(0, _)] ⟨hA 0 (free_of rfl), trivial⟩ (fun e2 => ?_)
      refine m_sl rfl rfl ?_
      refine o_nil ⟨Keep.refl _ _, rfl⟩
    | 2, _, hl =>
      obtain rfl := Option.some.inj hl
      refine o_gen [(9, _)] ⟨hA 9 (free_of rfl), trivial⟩ (fun e2 => ?_)
      refine o_fld (off := 5) rfl rfl ?_
      refine o_nil ⟨Keep.refl _ _, rfl⟩
    | 3, _, hl =>
      obtain rfl := Option.some.inj hl
      refine o_gen [(30, _)] ⟨hD 2 (by decide) 30 rfl, trivial⟩ (fun e2 => ?_)
      refine o_ld rfl rfl (blk_l (i := 5) (hB5.keep ((Keep.refl [] w5).drew.tr hL) (by simp)) rfl) ?_
      refine o_nil ⟨Keep.refl _ _, rfl⟩
    | 4, _, hl =>
      obtain rfl := Option.some.inj hl
      refine o_gen [(9, _)] ⟨hA 9 (free_of rfl), trivial⟩ (fun e2 => ?_)
      refine o_fld (off := 5) rfl rfl ?_
      refine o_nil ⟨Keep.refl _ _, rfl⟩
    | 5, _, hl =>
      obtain rfl := Option.some.inj hl
      refine o_gen [(32, _)] ⟨hD 4 (by decide) 32 rfl, trivial⟩ (fun e2 => ?_)
      refine o_ld rfl rfl (blk_l (i := 5) (hB5.keep ((Keep.refl [] w5).drew.tr hL) (by simp)) rfl) ?_
      refine o_nil ⟨Keep.refl _ _, rfl⟩
    | 6, _, hl =>
      obtain rfl := Option.some.inj hl
      refine o_gen [(9, _)] ⟨hA 9 (free_of rfl), trivial⟩ (fun e2 => ?_)
      refine o_fld (off := 2) rfl rfl ?_
      refine o_nil ⟨Keep.refl _ _, rfl⟩
    | 7, _, hl =>
      obtain rfl := Option.some.inj hl
      refine o_gen [(34, _)] ⟨hD 6 (by decide) 34 rfl, trivial⟩ (fun e2 => ?_)
      refine o_ld rfl rfl (blk_l (i := 2) (hB5.keep ((Keep.refl [] w5).drew.tr hL) (by simp)) rfl) ?_
      refine o_nil ⟨Keep.refl _ _, rfl⟩
    | 8, _, hl =>
      obtain rfl := Option.some.inj hl
      refine o_gen [(33, _), (35, _)] ⟨hD 5 (by decide) 33 rfl, hD 7 (by decide) 35 rfl, trivial⟩ (fun e2 => ?_)
      refine n_add rfl rfl (by omega) ?_
      refine o_nil ⟨Keep.refl _ _, rfl⟩
    | 9, _, hl =>
      obtain rfl := Option.some.inj hl
      refine o_gen [(29, _), (31, _), (36, _)] ⟨hD 1 (by decide) 29 rfl, hD 3 (by decide) 31 rfl, hD 8 (by decide) 36 rfl, trivial⟩ (fun e2 => ?_)
      refine o_sllh (sz := 1) (lo := at_) (hi := at_ + 4) Tryd.underlying25 rfl rfl rfl rfl (by omega) (by omega) ?_
      exact o_nil ⟨Keep.refl _ _, by
       show Value.slice (cutAt (some ⟨b0, o0, none⟩) at_ c 1) (at_ + 4 - at_) (c - at_) = _
       rw [cut_some b0 o0 at_ c (by omega), show at_ + 4 - at_ = 4 by omega]⟩
    | 10, _, hl =>
      obtain rfl := Option.some.inj hl
      refine o_gen [(28, _), (37, _)] ⟨hD 0 (by decide) 28 rfl, hD 9 (by decide) 37 rfl, trivial⟩ (fun e2 => ?_)
      have hkA : Keep [] wO wA := (hK2.tr hk25).tr ((Keep.refl [] w5).drew.tr hL)
      have hRA : Rd wA (some ⟨b0, o0 + at_, none⟩) (PA.map u8v) := by
       have h1 := sub_rd (p := at_) (n := 4) (c := c) hR hkA hat hc
       rw [cut_some b0 o0 at_ c (by omega), hsub] at h1
       exact h1
      refine o_call rfl rfl (unpack_ok wA (some ⟨b0, o0 + at_, none⟩) (c - at_) nm at_ hd hRA) (fun u w6 hu => ?_)
      obtain ⟨u, rfl, ⟨a6, c6, rfl, hS6, hf6⟩, hK6⟩ := hu
      exact o_nil ⟨hK6, _, rfl, a6, c6, rfl, hS6, fun q hq => by have := hf6 q hq; have := hkA.size; omega⟩
    | 11, _, hl =>
      obtain rfl := Option.some.inj hl
      obtain ⟨u, h1, h2⟩ := hD 10 (by decide) 38 rfl
      refine o_gen [(38, .tuple #[u, .int .i64 0])] ⟨h1, trivial⟩ (fun e2 => ?_)
      refine o_extr (vs := [u, .int .i64 0]) rfl rfl ?_
      exact o_nil ⟨Keep.refl _ _, h2⟩
    | 12, _, hl =>
      obtain rfl := Option.some.inj hl
      obtain ⟨u, h1, h2⟩ := hD 10 (by decide) 38 rfl
      refine o_gen [(38, .tuple #[u, .int .i64 0])] ⟨h1, trivial⟩ (fun e2 => ?_)
      refine o_extr (vs := [u, .int .i64 0]) rfl rfl ?_
      refine o_nil ⟨Keep.refl _ _, rfl⟩
    | _ + 13, him, _ => exact absurd him (by omega)
  intro eA wA hL hA hV
  obtain ⟨a6, c6, h39, hS6, hf6⟩ := hV 11 (by decide) 39 rfl
  have hkA : Keep [] wO wA := (hK2.tr hk25).tr ((Keep.refl [] w5).drew.tr hL)
  refine o_gen [(39, .slice a6 16 c6), (40, .int .i64 0)] ⟨h39, hV 12 (by decide) 40 rfl, trivial⟩ (fun e3 => ?_)
  refine m_sl rfl rfl ?_
  refine m_int rfl rfl ?_
  refine o_nil ?_
  refine k_ret (ret_tmps (ts := [4, 5]) (v := .tuple #[.slice _ _ _, .int _ _]) rfl rfl ?_)
  exact ⟨_, rfl, ⟨a6, c6, rfl, hS6, hf6⟩, hkA⟩
end Go.Proofs.YtiapgmfooclpcaaDoor

/- Archives read back, in plain Lean. No condition beyond what each contract names. -/
namespace Go.Proofs.YtiapgmfooclpcaaDoor
open Go.RowKit E
set_option linter.unusedVariables false
set_option linter.unusedSimpArgs false
set_option maxRecDepth 100000
attribute [local irreducible] ow qw kw kq cw opW Ret
/-- xs stands at place p -/
def At (bs : Bs) (p : Nat) (xs : Bs) : Prop := ∃ pre post, bs = pre ++ (xs ++ post) ∧ pre.length = p
theorem At.getD {bs xs : Bs} {p : Nat} (h : At bs p xs) (i : Nat) (hi : i < xs.length) : bs.getD (p + i) 0#8 = xs.getD i 0#8 := by
  obtain ⟨pre, post, rfl, rfl⟩ := h
  rw [List.getD_eq_getElem?_getD, List.getD_eq_getElem?_getD, List.getElem?_append_right (by omega), show pre.length + i - pre.length = i by omega, List.getElem?_append_left hi]
theorem At.len {bs xs : Bs} {p : Nat} (h : At bs p xs) : p + xs.length ≤ bs.length := by
  obtain ⟨pre, post, rfl, rfl⟩ := h
  simp
theorem At.left {bs xs ys : Bs} {p : Nat} (h : At bs p (xs ++ ys)) : At bs p xs := by
  obtain ⟨pre, post, rfl, rfl⟩ := h
  exact ⟨pre, ys ++ post, by simp, rfl⟩
theorem At.right {bs xs ys : Bs} {p : Nat} (h : At bs p (xs ++ ys)) : At bs (p + xs.length) ys := by
  obtain ⟨pre, post, rfl, rfl⟩ := h
  exact ⟨pre ++ xs, post, by simp, by simp⟩
theorem At.rdN {bs xs : Bs} {p : Nat} (h : At bs p xs) : ∀ n i, i + n ≤ xs.length → rdN bs (p + i) n = rdN xs i n
  | 0, i, _ => rfl
  | n + 1, i, hi => by
    show (bs.getD (p + i) 0#8).toNat + 256 * _ = (xs.getD i 0#8).toNat + 256 * _
    rw [h.getD i (by omega), Nat.add_assoc, h.rdN n (i + 1) (by omega)]
theorem At.q4 {bs xs : Bs} {p : Nat} (h : At bs p xs) (hi : 4 ≤ xs.length) : q4 bs p = q4 xs 0 := by
  have g := fun i hi => h.getD i hi
  unfold Go.Proofs.YtiapgmfooclpcaaDoor.q4
  rw [← Nat.add_zero p, g 0 (by omega), Nat.add_zero, g 1 (by omega), g 2 (by omega), g 3 (by omega)]
theorem At.sub {bs xs : Bs} {p : Nat} (h : At bs p xs) (i n : Nat) (hi : i + n ≤ xs.length) : sub bs (p + i) n = sub xs i n := by
  obtain ⟨pre, post, rfl, rfl⟩ := h
  unfold Go.Proofs.YtiapgmfooclpcaaDoor.sub
  rw [List.drop_append, List.drop_of_length_le (by omega), List.nil_append, show pre.length + i - pre.length = i by omega, List.drop_append, List.take_append_of_le_length (by simp; omega)]
theorem rdN_of (xs : Bs) : ∀ n p v, (∀ i, i < n → xs.getD (p + i) 0#8 = BitVec.ofNat 8 (v / 256 ^ i)) → rdN xs p n = v % 256 ^ n
  | 0, p, v, _ => by simp [rdN, Nat.mod_one]
  | n + 1, p, v, h => by
    show (xs.getD p 0#8).toNat + 256 * rdN xs (p + 1) n = _
    have h0 := h 0 (by omega)
    rw [Nat.add_zero, Nat.pow_zero, Nat.div_one] at h0
    rw [h0, rdN_of xs n (p + 1) (v / 256) (fun i hi => by
      have := h (i + 1) (by omega)
      rw [show p + (i + 1) = p + 1 + i by omega] at this
      rw [this, Nat.pow_succ, Nat.mul_comm, Nat.div_div_eq_div_mul])]
    rw [BitVec.toNat_ofNat, show (2 : Nat) ^ 8 = 256 from rfl, show 256 ^ (n + 1) = 256 * 256 ^ n by rw [Nat.pow_succ, Nat.mul_comm], Nat.mod_mul]
theorem rdN_leB (n v : Nat) (h8 : n ≤ 7) (hv : v < 256 ^ n) : rdN (leB n (v : Int)) 0 n = v := by
  have h2 : 256 ^ n ≤ 256 ^ 7 := Nat.pow_le_pow_right (by decide) h8
  rw [rdN_of _ n 0 v (fun i hi => by
    rw [Nat.zero_add, List.getD_eq_getElem?_getD, leB_nat n i v hi (by omega) (by omega)]; rfl)]
  exact Nat.mod_eq_of_lt hv
theorem crcN_lt (l : Bs) : crcN l < 4294967296 := by
  unfold crcN
  have := Crc.add_range 0 l
  omega
/-- a record as it is read -/
def rcOf (x : It) (h p : Nat) : Rc := ⟨bsStr x.name, methN x, (packB x).length, x.data.length, crcN x.data, 0, h, p⟩
structure XOk (x : It) (h : Nat) : Prop where
  nm : nameP (bsStr x.name)
  pk : (packB x).length < 4294967296
  dt : x.data.length < 4294967296
  hd : h < 4294967296
theorem XOk.nl {x : It} {h : Nat} (hx : XOk x h) : x.name.length ≤ 64 := by
  have := hx.nm.2.1
  rw [bsStr_size] at this
  exact this
theorem meth_lt (x : It) : methN x < 65536 := by unfold methN; split <;> omega
theorem anI_meth (x : It) : anI (methN x : Int) 8 = 0 := by unfold methN; cases x.sq <;> decide
section
variable (x : It) (h : Nat)
theorem od_len : 46 ≤ (oneDir x h).length := by rw [oneDir_len]; omega
theorem od_q4 : q4 (oneDir x h) 0 = mC := rfl
theorem od_6 : rdN (oneDir x h) 6 2 = 20 := rfl
theorem od_8 : rdN (oneDir x h) 8 2 = 0 := rfl
theorem od_10 : rdN (oneDir x h) 10 2 = rdN (leB 2 (methN x : Int)) 0 2 := rfl
theorem od_16 : rdN (oneDir x h) 16 4 = rdN (leB 4 (crcN x.data : Int)) 0 4 := rfl
theorem od_20 : rdN (oneDir x h) 20 4 = rdN (leB 4 ((packB x).length : Int)) 0 4 := rfl
theorem od_24 : rdN (oneDir x h) 24 4 = rdN (leB 4 (x.data.length : Int)) 0 4 := rfl
theorem od_28 : rdN (oneDir x h) 28 2 = rdN (leB 2 (x.name.length : Int)) 0 2 := rfl
theorem od_30 : rdN (oneDir x h) 30 2 = 0 := rfl
theorem od_32 : rdN (oneDir x h) 32 2 = 0 := rfl
theorem od_34 : rdN (oneDir x h) 34 2 = 0 := rfl
theorem od_42 : rdN (oneDir x h) 42 4 = rdN (leB 4 (h : Int)) 0 4 := rfl
theorem od_nm : (oneDir x h).drop 46 = x.name := rfl
theorem od_hd : sub (oneDir x h) 6 24 = (headB x).take 24 := rfl
end
theorem rec_at {bs : Bs} {p : Nat} {x : It} {h : Nat} (hA : At bs p (oneDir x h)) (hx : XOk x h) :
    recAt bs p = rcOf x h p ∧ recEnd bs p = p + 46 + x.name.length ∧ sub bs (p + 6) 24 = (headB x).take 24 ∧ ∀ bd sn, p + 46 + x.name.length ≤ bd → recE bs p bd sn = if sn (bsStr x.name) = true then 14 else 0 := by
  have hl := oneDir_len x h
  have hn := hx.nl
  have r := fun n i hi => hA.rdN n i hi
  have e28 : rdN bs (p + 28) 2 = x.name.length := by rw [r 2 28 (by omega), od_28, rdN_leB 2 _ (by decide) (by omega)]
  have hnm : sub bs (p + 46) x.name.length = x.name := by
    rw [hA.sub 46 _ (by omega)]
    show ((oneDir x h).drop 46).take _ = _
    rw [od_nm, List.take_length]
  have hrec : recAt bs p = rcOf x h p := by
    unfold recAt rcOf
    rw [e28, hnm, r 2 10 (by omega), r 4 20 (by omega), r 4 24 (by omega), r 4 16 (by omega), r 4 42 (by omega), od_10, od_20, od_24, od_16, od_42, rdN_leB 2 _ (by decide) (meth_lt x), rdN_leB 4 _ (by decide) hx.pk, rdN_leB 4 _ (by decide) hx.dt, rdN_leB 4 _ (by decide) (crcN_lt _), rdN_leB 4 _ (by decide) hx.hd]
  have hend : recEnd bs p = p + 46 + x.name.length := by
    unfold recEnd
    rw [e28, r 2 30 (by omega), r 2 32 (by omega), od_30, od_32, Nat.add_zero, Nat.add_zero]
  refine ⟨hrec, hend, by rw [hA.sub 6 24 (by omega), od_hd], fun bd sn hbd => ?_⟩
  unfold recE
  rw [hend, hrec, hA.q4 (by omega), od_q4, r 2 34 (by omega), od_34, r 2 6 (by omega), od_6, r 2 8 (by omega), od_8, r 2 10 (by omega), od_10, rdN_leB 2 _ (by decide) (meth_lt x), anI_meth]
  rw [if_neg (fun hh => hh ⟨by omega, by decide⟩), if_neg (by omega), if_neg (by rw [show anI ((0 : Nat) : Int) 2054 = 0 by decide]; omega), show (rcOf x h p).name = bsStr x.name from rfl, nameB_true hx.nm, if_neg (by decide)]
/-! ### a directory -/
def dirG (q : List (It × Nat)) : Bs := q.flatMap fun y => oneDir y.1 y.2
def recsG : List (It × Nat) → Nat → List Rc
  | [], _ => []
  | y :: q, p => rcOf y.1 y.2 p :: recsG q (p + 46 + y.1.name.length)
theorem recs_ok {bs : Bs} {bd : Nat} : ∀ (q : List (It × Nat)) (p : Nat) (sn : ByteArray → Bool), At bs p (dirG q) → (∀ y ∈ q, XOk y.1 y.2) → (q.map fun y => y.1.name).Nodup → (∀ y ∈ q, sn (bsStr y.1.name) = false) → p + (dirG q).length ≤ bd → recsF bs bd q.length p sn = (0, recsG q p, p + (dirG q).length)
  | [], p, sn, _, _, _, _, _ => rfl
  | y :: q, p, sn, hA, hx, hnd, hsn, hbd => by
    have hA1 : At bs p (oneDir y.1 y.2) := At.left (ys := dirG q) hA
    have hA2 : At bs (p + (oneDir y.1 y.2).length) (dirG q) := At.right (xs := oneDir y.1 y.2) hA
    have hlen : (dirG (y :: q)).length = 46 + y.1.name.length + (dirG q).length := by
      show (oneDir y.1 y.2 ++ dirG q).length = _
      rw [List.length_append, oneDir_len]
    rw [oneDir_len] at hA2
    obtain ⟨h1, h2, _, h3⟩ := rec_at hA1 (hx y List.mem_cons_self)
    have h0 : recE bs p bd sn = 0 := by rw [h3 bd sn (by omega), if_neg (by rw [hsn y List.mem_cons_self]; decide)]
    rw [List.map_cons, List.nodup_cons] at hnd
    rw [List.length_cons, recsF_ok h0, h1, h2]
    have ih := recs_ok (bd := bd) q (p + 46 + y.1.name.length) (snPut sn (rcOf y.1 y.2 p).name) (by rw [show p + 46 + y.1.name.length = p + (46 + y.1.name.length) by omega]; exact hA2) (fun z hz => hx z (List.mem_cons_of_mem _ hz)) hnd.2 (fun z hz => by
      unfold snPut
      rw [if_neg (show ¬ bsStr z.1.name = (rcOf y.1 y.2 p).name from fun hh => hnd.1 (List.mem_map.2 ⟨z, hz, bsStr_inj hh⟩))]
      exact hsn z (List.mem_cons_of_mem _ hz)) (by omega)
    rw [ih]
    exact Prod.ext rfl (Prod.ext rfl (by simp only; omega))
end Go.Proofs.YtiapgmfooclpcaaDoor

/- Archives read back, in plain Lean: ends, local headers, what Directory says. No condition beyond what each contract names. -/
namespace Go.Proofs.YtiapgmfooclpcaaDoor
open Go.RowKit E
set_option linter.unusedVariables false
set_option linter.unusedSimpArgs false
set_option maxRecDepth 100000
attribute [local irreducible] ow qw kw kq cw opW Ret
theorem endB_len (n d f : Nat) : (endB n d f).length = 22 := by
  unfold endB
  rw [List.length_append, List.length_append, List.length_append, putsN_len, putsN_len, putsN_len, putsN_len]
  rfl
structure Dirs (bs : Bs) (q : List (It × Nat)) (L : Nat) : Prop where
  at_ : At bs L (dirG q ++ endB q.length (dirG q).length L)
  len : bs.length = L + (dirG q).length + 22
theorem mem_ends {bs : Bs} {p : Nat} (h : isE bs p) : p ∈ endsN bs bs.length := by
  unfold endsN
  rw [List.mem_filter, List.mem_range]
  exact ⟨by have := h.1; omega, decide_eq_true h⟩
theorem endI_of {bs : Bs} {e : Nat} (h : isE bs e) : endI bs = -1 ∨ endI bs = (e : Int) := by
  rcases endI_cases bs with ⟨h1, _⟩ | ⟨p, h1, h2, _⟩
  · exact .inl h1
  · have := mem_ends h
    rw [h2, List.mem_singleton] at this
    subst this
    exact .inr h1
section
variable (n d f : Nat)
theorem oe_q4 : q4 (endB n d f) 0 = mE := rfl
theorem oe_4 : rdN (endB n d f) 4 4 = 0 := rfl
theorem oe_8 : rdN (endB n d f) 8 2 = rdN (leB 2 (n : Int)) 0 2 := rfl
theorem oe_10 : rdN (endB n d f) 10 2 = rdN (leB 2 (n : Int)) 0 2 := rfl
theorem oe_12 : rdN (endB n d f) 12 4 = rdN (leB 4 (d : Int)) 0 4 := rfl
theorem oe_16 : rdN (endB n d f) 16 4 = rdN (leB 4 (f : Int)) 0 4 := rfl
theorem oe_20 : rdN (endB n d f) 20 2 = 0 := rfl
end
theorem Dirs.isE {bs : Bs} {q : List (It × Nat)} {L : Nat} (h : Dirs bs q L) : isE bs (L + (dirG q).length) := by
  have hE := h.at_.right
  have hl := endB_len q.length (dirG q).length L
  refine ⟨by rw [h.len]; exact Nat.le_refl _, by rw [hE.q4 (by omega), oe_q4], ?_⟩
  rw [hE.rdN 2 20 (by omega), oe_20, h.len, Nat.zero_add]
theorem Dirs.e {bs : Bs} {q : List (It × Nat)} {L : Nat} (h : Dirs bs q L) (h0 : ¬ endI bs < 0) : endI bs = ((L + (dirG q).length : Nat) : Int) := by
  rcases endI_of h.isE with h1 | h1
  · rw [h1] at h0; exact absurd (by decide) h0
  · exact h1
theorem Dirs.nums {bs : Bs} {q : List (It × Nat)} {L : Nat} (h : Dirs bs q L) (h0 : ¬ endI bs < 0) (hq : q.length ≤ 64) (hb : bs.length ≤ 65536) : (endI bs).toNat = L + (dirG q).length ∧ dN bs = q.length ∧ dF bs = L ∧ ¬ dBad bs := by
  have he := h.e h0
  have h1 : (endI bs).toNat = L + (dirG q).length := by rw [he]; rfl
  have hE := h.at_.right
  have hl := endB_len q.length (dirG q).length L
  have hln := h.len
  have h2 : dN bs = q.length := by unfold dN; rw [h1, hE.rdN 2 8 (by omega), oe_8, rdN_leB 2 _ (by decide) (by omega)]
  have h3 : dF bs = L := by unfold dF; rw [h1, hE.rdN 4 16 (by omega), oe_16, rdN_leB 4 _ (by decide) (by omega)]
  refine ⟨h1, h2, h3, ?_⟩
  unfold dBad
  rw [h2, h3, h1, hE.rdN 4 4 (by omega), hE.rdN 2 10 (by omega), hE.rdN 4 12 (by omega), oe_4, oe_10, oe_12, rdN_leB 2 _ (by decide) (by omega), rdN_leB 4 _ (by decide) (by omega)]
  omega
theorem Dirs.dX {bs : Bs} {q : List (It × Nat)} {L : Nat} (h : Dirs bs q L) (h0 : ¬ endI bs < 0) (hq : q.length ≤ 64) (hb : bs.length ≤ 65536) (hx : ∀ y ∈ q, XOk y.1 y.2) (hnd : (q.map fun y => y.1.name).Nodup) : dX bs = (0, recsG q L, L + (dirG q).length) := by
  obtain ⟨h1, h2, h3, _⟩ := h.nums h0 hq hb
  unfold Go.Proofs.YtiapgmfooclpcaaDoor.dX
  rw [h1, h2, h3]
  exact recs_ok q L noS h.at_.left hx hnd (fun _ _ => rfl) (Nat.le_refl _)
/-- what Directory says -/
theorem Dirs.dirE {bs : Bs} {q : List (It × Nat)} {L : Nat} (h : Dirs bs q L) (hq : q.length ≤ 64) (hb : bs.length ≤ 65536) (hx : ∀ y ∈ q, XOk y.1 y.2) (hnd : (q.map fun y => y.1.name).Nodup) :
    (endI bs < 0 → dirE bs = 9) ∧ (¬ endI bs < 0 → (lBad bs (recsG q L) L → dirE bs = 15) ∧ (¬ lBad bs (recsG q L) L → dirE bs = 0 ∧ dirL bs = (recsG q L).map (setAt bs))) := by
  refine ⟨fun h0 => ?_, fun h0 => ?_⟩
  · unfold Go.Proofs.YtiapgmfooclpcaaDoor.dirE
    rw [if_neg (by omega), if_pos h0]
  · obtain ⟨h1, h2, h3, h4⟩ := h.nums h0 hq hb
    have h5 := h.dX h0 hq hb hx hnd
    have hE : Go.Proofs.YtiapgmfooclpcaaDoor.dirE bs = @ite _ (lBad bs (recsG q L) L) (Classical.propDecidable _) 15 0 := by
      unfold Go.Proofs.YtiapgmfooclpcaaDoor.dirE
      rw [if_neg (by omega), if_neg h0, if_neg h4, h5, h1, h3, if_neg (fun hh => hh rfl), if_neg (fun hh => hh rfl)]
    refine ⟨fun hl => by rw [hE, if_pos hl], fun hl => ⟨by rw [hE, if_neg hl], ?_⟩⟩
    unfold dirL
    rw [h5]
/-! ### local headers -/
section
variable (x : It)
theorem ol_q4 : q4 (oneLoc x) 0 = mL := rfl
theorem ol_hd : sub (oneLoc x) 4 24 = (headB x).take 24 := rfl
theorem ol_28 : rdN (oneLoc x) 28 2 = 0 := rfl
theorem ol_nm : (oneLoc x).drop 30 = x.name ++ packB x := rfl
end
theorem loc_nm (x : It) : sub (oneLoc x) 30 x.name.length = x.name := by
  show ((oneLoc x).drop 30).take _ = _
  rw [ol_nm, List.take_left]
theorem loc_good {bs : Bs} {x : It} {h p L : Nat} (hA : At bs h (oneLoc x)) (hd : sub bs (p + 6) 24 = (headB x).take 24) (hL : h + (oneLoc x).length ≤ L) :
    ¬ locB1 bs (rcOf x h p) L ∧ ¬ locB2 bs (rcOf x h p) L ∧ atOf bs (rcOf x h p) = h + 30 + x.name.length := by
  have hl := oneLoc_len x
  have hat : atOf bs (rcOf x h p) = h + 30 + x.name.length := by
    show h + 30 + (bsStr x.name).size + rdN bs (h + 28) 2 = _
    rw [bsStr_size, hA.rdN 2 28 (by omega), ol_28, Nat.add_zero]
  refine ⟨?_, ?_, hat⟩
  · rintro (h1 | h1)
    · refine h1 ⟨by show h + 30 ≤ L; omega, ?_⟩
      show kd (q4 bs h) = 3#8
      rw [hA.q4 (by omega), ol_q4]
      decide
    · apply h1
      show sub bs (h + 4) 24 = sub bs (p + 6) 24
      rw [hd, hA.sub 4 24 (by omega), ol_hd]
  · rintro (h1 | h1 | h1)
    · rw [hat] at h1; omega
    · rw [hat] at h1
      have : (L : Int) - ((h + 30 + x.name.length : Nat) : Int) < ((packB x).length : Int) := h1
      omega
    · apply h1
      show bsStr (sub bs (h + 30) (bsStr x.name).size) = bsStr x.name
      rw [bsStr_size, hA.sub 30 _ (by omega), loc_nm]
theorem kd_loc {q : K4} (h : kd q = 3#8) : q = mL := by
  unfold kd at h
  by_cases h1 : q = mE
  · rw [if_pos h1] at h; exact absurd h (by decide)
  · rw [if_neg h1] at h
    by_cases h2 : q = mC
    · rw [if_pos h2] at h; exact absurd h (by decide)
    · rw [if_neg h2] at h
      by_cases h3 : q = mL
      · exact h3
      · rw [if_neg h3] at h; exact absurd h (by decide)
/-! ### one byte is another -/
theorem set_getD (bs : Bs) (j i : Nat) (v : BitVec 8) (hi : i < bs.length) : (bs.set j v).getD i 0#8 = if i = j then v else bs.getD i 0#8 := by
  rw [List.getD_eq_getElem?_getD, List.getD_eq_getElem?_getD, List.getElem?_set]
  by_cases h : i = j
  · subst h; rw [if_pos rfl, if_pos rfl, if_pos hi]; rfl
  · rw [if_neg (fun hh => h hh.symm), if_neg h]
theorem At.set {bs xs : Bs} {p j : Nat} {v : BitVec 8} (h : At bs p xs) (hj : j < p) : At (bs.set j v) p xs := by
  obtain ⟨pre, post, rfl, rfl⟩ := h
  exact ⟨pre.set j v, post, by rw [List.set_append, if_pos hj], by simp⟩
theorem sub_getD (bs : Bs) (p n i : Nat) (hi : i < n) : (sub bs p n).getD i 0#8 = bs.getD (p + i) 0#8 := by
  unfold sub
  rw [List.getD_eq_getElem?_getD, List.getD_eq_getElem?_getD, List.getElem?_take, if_pos hi, List.getElem?_drop]
theorem sub_set_ne {bs : Bs} {p n j : Nat} {v : BitVec 8} (h1 : p ≤ j) (h2 : j < p + n) (hl : p + n ≤ bs.length) (hv : v ≠ bs.getD j 0#8) : sub (bs.set j v) p n ≠ sub bs p n := fun h => by
  have h3 := congrArg (fun l : Bs => l.getD (j - p) 0#8) h
  rw [sub_getD _ p n _ (by omega), sub_getD _ p n _ (by omega), show p + (j - p) = j by omega, set_getD bs j j v (by omega), if_pos rfl] at h3
  exact hv h3
theorem loc_bad {bs : Bs} {x : It} {h p L k : Nat} {v : BitVec 8} (hA : At bs h (oneLoc x)) (hd : sub (bs.set (h + k) v) (p + 6) 24 = (headB x).take 24) (hk : k < 28 ∨ (30 ≤ k ∧ k < 30 + x.name.length)) (hv : v ≠ bs.getD (h + k) 0#8) :
    locB1 (bs.set (h + k) v) (rcOf x h p) L ∨ locB2 (bs.set (h + k) v) (rcOf x h p) L := by
  have hl := oneLoc_len x
  have hln := hA.len
  by_cases h4 : k < 4
  · refine .inl (.inl fun hh => ?_)
    have h1 : q4 (bs.set (h + k) v) h = mL := kd_loc hh.2
    have h2 : q4 bs h = mL := by rw [hA.q4 (by omega), ol_q4]
    rw [← h2] at h1
    have e := fun i (hi : i < 4) => set_getD bs (h + k) (h + i) v (by omega)
    unfold q4 at h1
    simp only [Prod.mk.injEq] at h1
    obtain ⟨a0, a1, a2, a3⟩ := h1
    have e0 := e 0 (by omega)
    rw [Nat.add_zero] at e0
    rw [e0] at a0
    rw [e 1 (by omega)] at a1
    rw [e 2 (by omega)] at a2
    rw [e 3 (by omega)] at a3
    match k, h4 with
    | 0, _ => rw [if_pos (by omega)] at a0; exact hv a0
    | 1, _ => rw [if_pos rfl] at a1; exact hv a1
    | 2, _ => rw [if_pos rfl] at a2; exact hv a2
    | 3, _ => rw [if_pos rfl] at a3; exact hv a3
  · by_cases h28 : k < 28
    · refine .inl (.inr fun hh => ?_)
      have hh' : sub (bs.set (h + k) v) (h + 4) 24 = sub (bs.set (h + k) v) (p + 6) 24 := hh
      rw [hd, ← ol_hd x, ← hA.sub 4 24 (by omega)] at hh'
      exact sub_set_ne (by omega) (by omega) (by omega) hv hh'
    · refine .inr (.inr (.inr fun hh => ?_))
      have hh' : bsStr (sub (bs.set (h + k) v) (h + 30) (bsStr x.name).size) = bsStr x.name := hh
      rw [bsStr_size] at hh'
      have h5 := bsStr_inj hh'
      have h6 : sub bs (h + 30) x.name.length = x.name := by rw [hA.sub 30 _ (by omega), loc_nm]
      exact sub_set_ne (by omega) (by omega) (by omega) hv (h5.trans h6.symm)
end Go.Proofs.YtiapgmfooclpcaaDoor

/- Archives read back, in plain Lean: what was bundled. No condition beyond what each contract names. -/
namespace Go.Proofs.YtiapgmfooclpcaaDoor
open Go.RowKit E
set_option linter.unusedVariables false
set_option linter.unusedSimpArgs false
set_option maxRecDepth 100000
attribute [local irreducible] ow qw kw kq cw opW Ret
def posF : List It → Nat → List (It × Nat)
  | [], _ => []
  | x :: l, p => (x, p) :: posF l (p + (oneLoc x).length)
theorem dirsF_pos : ∀ l p, dirsF l p = dirG (posF l p)
  | [], _ => rfl
  | x :: l, p => by
    show oneDir x p ++ dirsF l _ = oneDir x p ++ dirG (posF l _)
    rw [dirsF_pos l]
theorem posF_len : ∀ l p, (posF l p).length = l.length
  | [], _ => rfl
  | x :: l, p => by show (posF l _).length + 1 = l.length + 1; rw [posF_len l]
theorem posF_names : ∀ l p, ((posF l p).map fun y => y.1.name) = l.map (·.name)
  | [], _ => rfl
  | x :: l, p => by
    show x.name :: ((posF l _).map fun y => y.1.name) = x.name :: l.map (·.name)
    rw [posF_names l]
theorem posF_mem : ∀ l p y, y ∈ posF l p → y.1 ∈ l ∧ p ≤ y.2 ∧ y.2 + (oneLoc y.1).length ≤ p + (locsB l).length
  | x :: l, p, y, h => by
    have e : (locsB (x :: l)).length = (oneLoc x).length + (locsB l).length := by
      show (oneLoc x ++ locsB l).length = _
      rw [List.length_append]
    rcases List.mem_cons.1 h with rfl | h
    · exact ⟨List.mem_cons_self, Nat.le_refl _, by simp only; omega⟩
    · obtain ⟨h1, h2, h3⟩ := posF_mem l _ y h
      exact ⟨List.mem_cons_of_mem _ h1, by omega, by omega⟩
theorem posF_at {bs : Bs} : ∀ l p, At bs p (locsB l) → ∀ y ∈ posF l p, At bs y.2 (oneLoc y.1)
  | x :: l, p, hA, y, h => by
    have hA1 : At bs p (oneLoc x) := At.left (ys := locsB l) hA
    have hA2 : At bs (p + (oneLoc x).length) (locsB l) := At.right (xs := oneLoc x) hA
    rcases List.mem_cons.1 h with rfl | h
    · exact hA1
    · exact posF_at l _ hA2 y h
theorem recs_get {bs : Bs} : ∀ (q : List (It × Nat)) (p i : Nat) (y : It × Nat), q[i]? = some y → ∃ P, (recsG q p)[i]? = some (rcOf y.1 y.2 P) ∧ p ≤ P ∧ (At bs p (dirG q) → At bs P (oneDir y.1 y.2))
  | z :: q, p, 0, y, h => by
    simp at h
    subst h
    exact ⟨p, rfl, Nat.le_refl _, fun hA => At.left (ys := dirG q) hA⟩
  | z :: q, p, i + 1, y, h => by
    obtain ⟨P, h1, h0, h2⟩ := recs_get (bs := bs) q (p + 46 + z.1.name.length) i y (by simpa using h)
    refine ⟨P, by simpa [recsG] using h1, by omega, fun hA => h2 ?_⟩
    have hA2 : At bs (p + (oneDir z.1 z.2).length) (dirG q) := At.right (xs := oneDir z.1 z.2) hA
    rw [oneDir_len] at hA2
    rw [show p + 46 + z.1.name.length = p + (46 + z.1.name.length) by omega]
    exact hA2
theorem recsG_len : ∀ q p, (recsG q p).length = q.length
  | [], _ => rfl
  | z :: q, p => by show (recsG q _).length + 1 = q.length + 1; rw [recsG_len q]
theorem arch_dirs (l : List It) : Dirs (archB l) (posF l 0) (locsB l).length := by
  have hd : dirsB l = dirG (posF l 0) := dirsF_pos l 0
  refine ⟨⟨locsB l, [], ?_, rfl⟩, ?_⟩
  · unfold archB
    rw [hd, posF_len, List.append_nil, List.append_assoc]
  · unfold archB
    rw [List.length_append, List.length_append, endB_len, hd]
theorem arch_at (l : List It) : At (archB l) 0 (locsB l) := ⟨[], dirsB l ++ endB l.length (dirsB l).length (locsB l).length, by unfold archB; rw [List.nil_append, List.append_assoc], rfl⟩
theorem arch_x {l : List It} (h : MkOk l) : ∀ y ∈ posF l 0, XOk y.1 y.2 := fun y hy => by
  obtain ⟨h1, h2, h3, h4, h5, h6⟩ := h
  obtain ⟨hm, _, hp⟩ := posF_mem l 0 y hy
  have hd := (arch_dirs l).len
  have := packB_len y.1 (h4 _ hm)
  have := h4 _ hm
  exact ⟨h2 _ hm, by omega, by omega, by omega⟩
/-- records whose local headers stand as they should, one behind the other -/
theorem good_pos {bs : Bs} : ∀ (l : List It) (p P : Nat), (∀ y ∈ posF l p, ∀ Q, atOf bs (rcOf y.1 y.2 Q) = y.2 + 30 + y.1.name.length) →
    ((recsG (posF l p) P).map (setAt bs)).Pairwise (fun x y => x.head < y.head) ∧ (∀ r ∈ (recsG (posF l p) P).map (setAt bs), p ≤ r.head) ∧ (∀ i x y, ((recsG (posF l p) P).map (setAt bs))[i]? = some x → ((recsG (posF l p) P).map (setAt bs))[i + 1]? = some y → x.at_ + x.packed ≤ y.head) ∧ (∀ x, ((recsG (posF l p) P).map (setAt bs))[0]? = some x → x.head = p)
  | [], p, P, _ => by refine ⟨List.Pairwise.nil, ?_, ?_, ?_⟩ <;> simp [posF, recsG]
  | x :: l, p, P, hat => by
    obtain ⟨i1, i2, i3, i4⟩ := good_pos l (p + (oneLoc x).length) (P + 46 + x.name.length) (fun y hy Q => hat y (List.mem_cons_of_mem _ hy) Q)
    have hl := oneLoc_len x
    have h0 := hat (x, p) List.mem_cons_self P
    simp only at h0
    have hc : (recsG (posF (x :: l) p) P).map (setAt bs) = setAt bs (rcOf x p P) :: (recsG (posF l (p + (oneLoc x).length)) (P + 46 + x.name.length)).map (setAt bs) := rfl
    rw [hc]
    refine ⟨List.Pairwise.cons (fun r hr => ?_) i1, fun r hr => ?_, fun i a b ha hb => ?_, fun a ha => ?_⟩
    · have := i2 r hr
      show p < r.head
      omega
    · rcases List.mem_cons.1 hr with rfl | hr
      · exact Nat.le_refl p
      · have := i2 r hr; omega
    · match i, ha, hb with
      | 0, ha, hb =>
        simp only [List.getElem?_cons_zero, Option.some.injEq] at ha
        subst ha
        have hb' := i4 b (by simpa using hb)
        show atOf bs (rcOf x p P) + (packB x).length ≤ b.head
        rw [h0, hb']; omega
      | i + 1, ha, hb => exact i3 i a b (by simpa using ha) (by simpa using hb)
    · simp only [List.getElem?_cons_zero, Option.some.injEq] at ha
      subst ha
      rfl
/-- what stands behind the local headers is the directory; the local headers are these -/
theorem rec_of {bs : Bs} {l : List It} {L : Nat} (hD : Dirs bs (posF l 0) L) (r : Rc) (hr : r ∈ recsG (posF l 0) L) : ∃ y P, y ∈ posF l 0 ∧ r = rcOf y.1 y.2 P ∧ L ≤ P ∧ At bs P (oneDir y.1 y.2) := by
  obtain ⟨i, hi, hg⟩ := List.mem_iff_getElem.1 hr
  have hi' : i < (posF l 0).length := by rw [recsG_len] at hi; exact hi
  obtain ⟨P, h1, h2, h3⟩ := recs_get (bs := bs) (posF l 0) L i (posF l 0)[i] (List.getElem?_eq_getElem hi')
  refine ⟨(posF l 0)[i], P, List.getElem_mem hi', ?_, h2, h3 hD.at_.left⟩
  rw [List.getElem?_eq_getElem hi, Option.some.injEq] at h1
  rw [← hg, h1]
theorem arch_law {l : List It} (hM : MkOk l) (hne : l ≠ []) : (endI (archB l) < 0 → dirE (archB l) = 9) ∧ (¬ endI (archB l) < 0 → dirE (archB l) = 0 ∧ Good (dirL (archB l)) ∧ dirL (archB l) = (recsG (posF l 0) (locsB l).length).map (setAt (archB l))) := by
  have hD := arch_dirs l
  have hx := arch_x hM
  obtain ⟨h1, h2, h3, h4, h5, h6⟩ := hM
  obtain ⟨d1, d2⟩ := hD.dirE (by rw [posF_len]; exact h1) h6 hx (by rw [posF_names]; exact h3)
  refine ⟨d1, fun h0 => ?_⟩
  have hlocs : ∀ r ∈ recsG (posF l 0) (locsB l).length, ∃ y P, y ∈ posF l 0 ∧ r = rcOf y.1 y.2 P ∧ ¬ locB1 (archB l) r (locsB l).length ∧ ¬ locB2 (archB l) r (locsB l).length := fun r hr => by
    obtain ⟨y, P, hy, rfl, _, hA⟩ := rec_of hD r hr
    obtain ⟨_, _, h7, _⟩ := rec_at hA (hx y hy)
    have hp := posF_mem l 0 y hy
    obtain ⟨g1, g2, g3⟩ := loc_good (L := (locsB l).length) (posF_at l 0 (arch_at l) y hy) h7 (by omega)
    exact ⟨y, P, hy, rfl, g1, g2⟩
  have hnl : ¬ lBad (archB l) (recsG (posF l 0) (locsB l).length) (locsB l).length := fun ⟨r, hr, hb⟩ => by
    obtain ⟨y, P, _, _, g1, g2⟩ := hlocs r hr
    exact hb.elim g1 g2
  obtain ⟨e1, e2⟩ := (d2 h0).2 hnl
  refine ⟨e1, ?_, e2⟩
  rw [e2]
  obtain ⟨q1, _, q3, _⟩ := good_pos (bs := archB l) l 0 (locsB l).length (fun y hy Q => by
    have hA := posF_at l 0 (arch_at l) y hy
    have hl := oneLoc_len y.1
    show y.2 + 30 + (bsStr y.1.name).size + rdN (archB l) (y.2 + 28) 2 = _
    rw [bsStr_size, hA.rdN 2 28 (by omega), ol_28, Nat.add_zero])
  refine ⟨fun hh => hne ?_, q1, q3⟩
  have := congrArg List.length hh
  rw [List.length_map, recsG_len, posF_len] at this
  exact List.eq_nil_of_length_eq_zero this
/-- a byte of a local header that the directory tells too is another one -/
theorem dis_law {l : List It} (hM : MkOk l) (i : Nat) (y : It × Nat) (hi : (posF l 0)[i]? = some y) (k : Nat) (v : BitVec 8) (hk : k < 28 ∨ (30 ≤ k ∧ k < 30 + y.1.name.length)) (hv : v ≠ (archB l).getD (y.2 + k) 0#8) :
    (endI ((archB l).set (y.2 + k) v) < 0 → dirE ((archB l).set (y.2 + k) v) = 9) ∧ (¬ endI ((archB l).set (y.2 + k) v) < 0 → dirE ((archB l).set (y.2 + k) v) = 15) := by
  have hD := arch_dirs l
  have hx := arch_x hM
  obtain ⟨h1, h2, h3, h4, h5, h6⟩ := hM
  have hy : y ∈ posF l 0 := List.mem_of_getElem? hi
  have hp := posF_mem l 0 y hy
  have hl := oneLoc_len y.1
  have hj : y.2 + k < (locsB l).length := by omega
  have hD' : Dirs ((archB l).set (y.2 + k) v) (posF l 0) (locsB l).length := ⟨hD.at_.set hj, by rw [List.length_set]; exact hD.len⟩
  obtain ⟨d1, d2⟩ := hD'.dirE (by rw [posF_len]; exact h1) (by rw [List.length_set]; exact h6) hx (by rw [posF_names]; exact h3)
  refine ⟨d1, fun h0 => (d2 h0).1 ?_⟩
  obtain ⟨P, g1, g2, g3⟩ := recs_get (bs := (archB l).set (y.2 + k) v) (posF l 0) (locsB l).length i y hi
  obtain ⟨_, _, h7, _⟩ := rec_at (g3 hD'.at_.left) (hx y hy)
  exact ⟨rcOf y.1 y.2 P, List.mem_of_getElem? g1, loc_bad (posF_at l 0 (arch_at l) y hy) h7 hk hv⟩
end Go.Proofs.YtiapgmfooclpcaaDoor

/- The law's packs. No condition beyond what its contract names. -/
namespace Go.Proofs.YtiapgmfooclpcaaDoor
open Go.RowKit E
set_option linter.unusedVariables false
set_option linter.unusedSimpArgs false
set_option maxRecDepth 100000
attribute [local irreducible] ow qw kw kq cw opW Ret
def iA (a : Option Addr) (c : Nat) : It := ⟨[97#8], a, c, A16, true⟩
def AR : Bs := archB [iA none 0]
theorem ar_eq (a : Option Addr) (c : Nat) : archB [iA a c] = AR := rfl
theorem parts_a : partsOf (bsStr [97#8]) = [bsStr [97#8]] := by decide +kernel
theorem name_a : nameP (bsStr [97#8]) := by
  refine ⟨by decide, by decide, by decide, by decide, fun i p h => ?_⟩
  rw [parts_a] at h ⊢
  match i, h with
  | 0, h =>
    simp at h
    subst h
    rintro (h | h | ⟨h, _⟩)
    · exact absurd h (by decide)
    · exact absurd h (by decide)
    · exact absurd h (by decide)
  | i + 1, h => simp at h
theorem ar_len : AR.length = 104 := by decide +kernel
theorem ar_end : ¬ endI AR < 0 := by decide +kernel
theorem pa_len : (packB (iA none 0)).length = 4 := by decide +kernel
theorem ar_sub : sub AR 31 4 = PA := by decide +kernel
theorem ar_at : rdN AR 28 2 = 0 := by decide +kernel
theorem mk_a (a : Option Addr) (c : Nat) : MkOk [iA a c] := by
  refine ⟨by simp, fun x hx => ?_, by simp, fun x hx => ?_, fun i hi => ?_, ?_⟩
  · simp at hx; subst hx; exact name_a
  · simp at hx; subst hx; show 16 ≤ 32768; decide
  · simp at hi; subst hi; simp [locsB]
  · rw [ar_eq, ar_len]; decide
theorem ar_rec (L : Nat) : (rcC (setAt AR (rcOf (iA none 0) 0 L))).take 7 = recV (bsStr [97#8]) 31 0 := by
  have h1 : atOf AR (rcOf (iA none 0) 0 L) = 31 := by
    show 0 + 30 + 1 + rdN AR (0 + 28) 2 = 31
    rw [Nat.zero_add 28, ar_at]
  show [Value.string (bsStr [97#8]), nv 8, nv (packB (iA none 0)).length, nv 16, nv (crcN A16), nv (atOf AR (rcOf (iA none 0) 0 L)), nv 0] = _
  rw [pa_len, h1]
  rfl
theorem packs_ok (w : World) : Ret Tryd.prog 5 [] w (fun v w' => v = .bool true ∧ Keep [] w w') := by
  refine fn_enter (n := 35) Tryd.func5 rfl rfl (Nat.le_of_ble_eq_true rfl) (fun e => ?_)
  refine k_seq ?_
  refine k_region ?_
  refine m_bool rfl rfl ?_
  refine o_nil ?_
  refine k_seq ?_
  refine k_region ?_
  refine o_bsl (E := 5) (cs := (A16.map u8v).toArray) rfl (fun _ => by kernel_rfl) (fun g w2 hB2 hK2 hb2 hZ2 => ?_)
  refine o_cbytes Tryd.underlying25 Tryd.underlying5 rfl hB2 (fun w3 hR3 hK3 hZ3 => ?_)
  have hk3 : Keep [] w w3 := hK2.tr1 hK3 (by omega)
  refine o_build (v := .agg (itC (iA (some ⟨g, 0, none⟩) 16)).toArray) rfl (fun _ => by kernel_rfl) ?_
  refine o_bsl (E := 37) (cs := (itC (iA (some ⟨g, 0, none⟩) 16)).toArray) rfl (fun _ => by kernel_rfl) (fun g4 w4 hB4 hK4 hb4 hZ4 => ?_)
  have hI : Items w4 (some ⟨g4, 0, none⟩) [iA (some ⟨g, 0, none⟩) 16] := ⟨(hB4.sl (len := 1) (sz := 3) rfl (by decide)).rd, fun x hx => by simp at hx; subst hx; exact ⟨hR3.new hK4, show 16 ≤ 16 by decide⟩⟩
  refine o_call rfl rfl (make_ok w4 (some ⟨g4, 0, none⟩) 1 [iA (some ⟨g, 0, none⟩) 16] hI (fun x hx => by simp at hx; subst hx; exact ⟨show 1 ≤ _ by decide, show 16 ≤ _ by decide⟩) (by simp)) (fun v w5 hv => ?_)
  obtain ⟨hK5, hv⟩ := hv
  have hv' := hv.resolve_left (fun ⟨er, _, hn, _⟩ => hn (mk_a _ _))
  obtain ⟨_, u, rfl, a6, c6, rfl, hS6, hf6⟩ := hv'
  rw [ar_eq, List.length_map] at *
  refine m_any rfl rfl ?_
  refine o_extr (vs := [.slice a6 AR.length c6, nv 0]) rfl rfl ?_
  refine o_extr (vs := [.slice a6 AR.length c6, nv 0]) rfl rfl ?_
  have hlaw := (arch_law (mk_a none 0) (by simp)).2 ar_end
  have hL : dirL AR = [setAt AR (rcOf (iA none 0) 0 (locsB [iA none 0]).length)] := hlaw.2.2
  refine m_sl rfl rfl ?_
  refine m_int rfl rfl ?_
  refine o_nil ?_
  refine k_seq ?_
  refine k_region ?_
  refine m_sl rfl rfl ?_
  refine o_call rfl rfl (find_ok w5 a6 c6 AR (bsStr [97#8]) 31 0 _ hS6.rd hS6.le (by rw [ar_len]; decide) hlaw.1 hlaw.2.1 hL (ar_rec _) (by rw [ar_len]; decide) ar_sub) (fun v w7 hv => ?_)
  obtain ⟨u, rfl, ⟨a8, c8, rfl, hS8, hf8⟩, hK7⟩ := hv
  refine m_any rfl rfl ?_
  refine o_extr (vs := [.slice a8 16 c8, .int .i64 0]) rfl rfl ?_
  refine o_extr (vs := [.slice a8 16 c8, .int .i64 0]) rfl rfl ?_
  refine m_sl rfl rfl ?_
  refine m_int rfl rfl ?_
  refine o_nil ?_
  refine k_seq ?_
  refine k_region ?_
  refine m_int rfl rfl ?_
  refine b_eql rfl rfl ?_
  refine m_bool rfl rfl ?_
  refine o_true (t := 20) rfl (rfl) ?_
  refine g_yes rfl rfl ?_
  refine m_int rfl rfl ?_
  refine g_yes rfl rfl ?_
  refine b_eql rfl rfl ?_
  refine pick_t rfl rfl ?_
  refine m_bool rfl rfl ?_
  refine o_true (t := 24) rfl (rfl) ?_
  refine g_yes rfl rfl ?_
  refine m_sl rfl rfl ?_
  refine g_yes rfl rfl ?_
  refine o_lens Tryd.underlying25 rfl ?_
  refine g_yes rfl rfl ?_
  refine b_eql rfl rfl ?_
  refine pick_t rfl rfl ?_
  refine m_bool rfl rfl ?_
  refine o_true (t := 29) rfl (rfl) ?_
  refine g_yes rfl rfl ?_
  refine m_sl rfl rfl ?_
  refine g_yes rfl rfl ?_
  obtain ⟨g8, cur8, hg8, hB8, _⟩ := hS8.blk (show 0 < 16 by decide)
  subst hg8
  refine o_ixs1 (m := 15) Tryd.underlying25 rfl rfl rfl (by decide) ?_
  refine g_yes rfl rfl ?_
  refine o_ld (v := u8v 97#8) rfl rfl (hS8.rd.cellK (Keep.refl _ _) (i := 15) rfl) ?_
  refine g_yes rfl rfl ?_
  refine v8_eql (b := 97#8) rfl rfl ?_
  refine pick_t rfl rfl ?_
  refine m_bool rfl rfl ?_
  refine o_nil ?_
  refine k_ret (ret_tmps (ts := [0]) (v := .bool _) rfl rfl ?_)
  exact ⟨rfl, (hk3.tr hK4).tr (hK5.tr hK7)⟩
end Go.Proofs.YtiapgmfooclpcaaDoor

/- The law's small. No condition beyond what its contract names. -/
namespace Go.Proofs.YtiapgmfooclpcaaDoor
open Go.RowKit E
set_option linter.unusedVariables false
set_option linter.unusedSimpArgs false
set_option maxRecDepth 100000
attribute [local irreducible] ow qw kw kq cw opW Ret
theorem small_ok (w : World) (a : Option Addr) (c : Nat) (l : List It) (hRd : Rd w a (l.flatMap itC)) (hn : ∀ x ∈ l, x.name.length ≤ 1000000000000000 ∧ x.data.length ≤ 1000000000000000) (hl : l.length ≤ 1000000000000000) :
    Ret Tryd.prog 6 [.slice a l.length c] w (fun v w' => ∃ b : Bool, v = .bool b ∧ (b = true → l.length ≤ 65 ∧ ∀ x ∈ l, x.name.length ≤ 8000 ∧ x.data.length ≤ 8000) ∧ Keep [] w w') := by
  refine fn_enter (n := 29) Tryd.func6 rfl rfl (Nat.le_of_ble_eq_true rfl) (fun e => ?_)
  refine k_seq ?_
  refine k_region ?_
  refine m_bool rfl rfl ?_
  refine o_nil ?_
  refine k_seq ?_
  refine k_region ?_
  refine m_int rfl rfl ?_
  refine o_nil ?_
  refine k_seq ?_
  refine k_seq ?_
  refine k_region ?_
  refine m_sl rfl rfl ?_
  refine o_lens Tryd.underlying22 rfl ?_
  refine m_int rfl rfl ?_
  refine o_nil ?_
  refine k_block ?_
  refine k_loop (σ := Nat × Nat) (fun s => [(3, .int .i64 (s.2 : Int)), (6, .slice a l.length c), (7, .int .i64 (l.length : Int)), (8, .int .i64 (s.1 : Int))]) (fun s w' => s.1 ≤ l.length ∧ s.2 ≤ 8000 ∧ s.1 ≤ 65 ∧ (∀ x ∈ l.take s.1, x.name.length ≤ 8000 ∧ x.data.length ≤ 8000) ∧ Keep [] w w') (fun s => l.length - s.1) (0, 0) ⟨rfl, rfl, rfl, rfl, trivial⟩ ⟨by simp, by simp, by simp, by simp, Keep.refl _ _⟩ (fun s e w2 hJ => ?_)
  obtain ⟨i, n⟩ := s
  obtain ⟨hi, hn8, hi65, htk, hk2⟩ := hJ
  simp only at hi hn8 hi65 htk ⊢
  refine k_seq ?_
  refine k_region ?_
  refine b_lss rfl rfl ?_
  refine o_nil ?_
  refine k_seq ?_
  refine k_cond rfl (fun h => ?_) (fun h => ?_)
  rotate_left
  ·
    obtain rfl : i = l.length := by omega
    rw [List.take_length] at htk
    refine k_exit rfl ?_
    refine k_seq ?_
    refine k_region ?_
    refine m_bool rfl rfl ?_
    refine o_nil ?_
    refine k_ret (ret_tmps (ts := [2]) (v := .bool _) rfl rfl ?_)
    exact ⟨true, rfl, fun _ => ⟨hi65, htk⟩, hk2⟩
  have hil : i < l.length := by omega
  obtain ⟨b0, o0, rfl, _⟩ := hRd.at (i * 3) (by rw [flat3_len]; omega)
  obtain ⟨x, hx⟩ : ∃ x, l[i] = x := ⟨_, rfl⟩
  have hxm : x ∈ l := hx ▸ List.getElem_mem hil
  have hnx := hn x hxm
  refine k_skip ?_
  refine k_seq ?_
  refine k_block ?_
  refine k_seq ?_
  refine k_region ?_
  refine m_int rfl rfl ?_
  refine o_ixs (sz := 3) (m := i) Tryd.underlying22 rfl rfl rfl hil ?_
  refine o_lda (xs := itC x) rfl rfl rfl (by rw [← hx]; exact item_cells hRd hk2 i hil) ?_
  refine o_alloc (cs := #[.string emp, .slice none 0 0, .bool false]) inf37 rfl (fun b w4 hB4 hK4 hb4 hZ4 => ?_)
  refine m_int rfl rfl ?_
  refine o_sta (xs := itC x) rfl rfl rfl (itC_one x) hB4 (Nat.le_refl 3) (fun w5 hB5 hK5 hZ5 => ?_)
  have hB5 := sta_all hB5 rfl
  have hk5 : Keep [] w w5 := hk2.tr (hK4.tr1 hK5 (by omega))
  refine o_nil ?_
  refine k_seq ?_
  refine k_region ?_
  refine m_int rfl rfl ?_
  refine o_fld (off := 1) rfl rfl ?_
  refine o_ld rfl rfl (blk_l (i := 1) hB5 rfl) ?_
  refine o_lens Tryd.underlying25 rfl ?_
  refine o_fld0 rfl rfl ?_
  refine o_ld rfl rfl (blk_l (i := 0) hB5 rfl) ?_
  refine o_lenstr Tryd.underlying9 rfl ?_
  rw [bsStr_size]
  refine n_add rfl rfl (by omega) ?_
  refine n_add rfl rfl (by omega) ?_
  refine m_int rfl rfl ?_
  refine o_nil ?_
  refine k_seq ?_
  refine k_region ?_
  refine m_int rfl rfl ?_
  refine b_gtr rfl rfl ?_
  refine m_bool rfl rfl ?_
  refine o_split (t := 24) rfl (fun h => ?_) (fun h => ?_)
  ·
    refine g_no rfl rfl rfl ?_
    refine g_no rfl rfl rfl ?_
    refine pick_t rfl rfl ?_
    refine o_nil ?_
    refine k_condt rfl ?_
    refine k_seq ?_
    refine k_region ?_
    refine m_bool rfl rfl ?_
    refine o_nil ?_
    refine k_ret (ret_tmps (ts := [2]) (v := .bool _) rfl rfl ?_)
    exact ⟨false, rfl, fun hh => (by cases hh), hk5⟩
  ·
    refine g_yes rfl rfl ?_
    refine m_int rfl rfl ?_
    refine g_yes rfl rfl ?_
    refine b_gtr rfl rfl ?_
    refine pick_f rfl rfl ?_
    refine o_nil ?_
    refine k_cond rfl (fun h => ?_) (fun h => ?_)
    ·
      refine k_seq ?_
      refine k_region ?_
      refine m_bool rfl rfl ?_
      refine o_nil ?_
      refine k_ret (ret_tmps (ts := [2]) (v := .bool _) rfl rfl ?_)
      exact ⟨false, rfl, fun hh => (by cases hh), hk5⟩
    refine k_skip ?_
    refine k_blk ?_
    refine k_region ?_
    refine n_add rfl rfl (by omega) ?_
    refine m_int rfl rfl ?_
    refine o_nil ?_
    refine k_goal ⟨(i + 1, n + (x.data.length + x.name.length)), ⟨rfl, rfl, rfl, rfl, trivial⟩, ⟨by show i + 1 ≤ _; omega, by show n + _ ≤ _; omega, by show i + 1 ≤ 65; omega, fun z hz => ?_, hk5⟩, by show l.length - (i + 1) < l.length - i; omega⟩
    rw [List.take_succ_eq_append_getElem hil, List.mem_append, List.mem_singleton, hx] at hz
    rcases hz with hz | rfl
    · exact htk z hz
    · omega
end Go.Proofs.YtiapgmfooclpcaaDoor

/- The walk of TopDisagree. No condition beyond what its contract names. -/
namespace Go.Proofs.YtiapgmfooclpcaaDoor
open Go.RowKit E
set_option linter.unusedVariables false
set_option linter.unusedSimpArgs false
set_option maxRecDepth 100000
attribute [local irreducible] ow qw kw kq cw opW Ret
theorem outC_at : ∀ (l : List Rc) (i j : Nat) (r : Rc), l[i]? = some r → j < 7 → (outC l)[i * 7 + j]? = ((rcC r).take 7)[j]?
  | [], i, j, r, h, _ => by simp at h
  | q :: l, 0, j, r, h, hj => by
    simp at h; subst h
    show ((rcC q).take 7 ++ outC l)[0 * 7 + j]? = _
    rw [Nat.zero_mul, Nat.zero_add, List.getElem?_append_left (by simp [rcC]; exact hj)]
  | q :: l, i + 1, j, r, h, hj => by
    show ((rcC q).take 7 ++ outC l)[(i + 1) * 7 + j]? = _
    rw [List.getElem?_append_right (by simp [rcC]; omega), show (i + 1) * 7 + j - ((rcC q).take 7).length = i * 7 + j by simp [rcC]; omega]
    exact outC_at l i j r (by simpa using h) hj
theorem rc7_len (r : Rc) : ((rcC r).take 7).length = 7 := rfl
theorem rc7_one (r : Rc) : ∀ u ∈ (rcC r).take 7, u.oneCell' = true := by
  intro u hu
  simp [rcC] at hu
  rcases hu with rfl | rfl | rfl | rfl | rfl | rfl | rfl <;> rfl
theorem dirE_nil : dirE [] = 9 := by
  unfold dirE
  rw [if_neg (by decide), if_pos (by decide)]
theorem tm2 (q k : Nat) : (q : Int).tmod (k : Int) = ((q % k : Nat) : Int) := by
  rw [Int.tmod_eq_emod_of_nonneg (by omega)]; rfl
set_option maxHeartbeats 4000000 in
theorem dis_ok (w : World) (a : Option Addr) (c : Nat) (l : List It) (x y z : BitVec 8) (hI : Items w a l) (hn : ∀ x ∈ l, x.name.length ≤ 1000000000000000 ∧ x.data.length ≤ 1000000000000000) (hl : l.length ≤ 1000000000000000) :
    Ret Tryd.prog 3 [.slice a l.length c, .int .u8 (x.toNat : Int), .int .u8 (y.toNat : Int), .int .u8 (z.toNat : Int)] w (fun v w' => v = .bool true ∧ Keep [] w w') := by
  refine fn_enter (n := 98) Tryd.func3 rfl rfl (Nat.le_of_ble_eq_true rfl) (fun e => ?_)
  refine k_seq ?_
  refine k_region ?_
  refine m_bool rfl rfl ?_
  refine o_nil ?_
  refine k_seq ?_
  refine k_seq ?_
  refine k_region ?_
  refine o_call rfl rfl (packs_ok w) (fun v w2 hv => ?_)
  obtain ⟨rfl, hK2⟩ := hv
  refine u_notb rfl ?_
  refine o_nil ?_
  refine k_condb rfl (fun h19 => ?_) (fun h19 => ?_)
  ·
    refine k_seq ?_
    refine k_region ?_
    refine m_bool rfl rfl ?_
    refine o_nil ?_
    refine k_ret (ret_tmps (ts := [8]) (v := .bool _) rfl rfl ?_)
    exact absurd h19 (by decide)
  refine k_skip ?_
  refine k_seq ?_
  refine k_seq ?_
  refine k_region ?_
  refine m_sl rfl rfl ?_
  refine o_call rfl rfl (small_ok w2 a c l (hI.1.new hK2) (fun x hx => hn x hx) hl) (fun v w3 hv => ?_)
  obtain ⟨bb, rfl, hsm, hK3⟩ := hv
  have hk3 : Keep [] w w3 := hK2.tr hK3
  refine u_notb rfl ?_
  refine m_bool rfl rfl ?_
  refine o_split (t := 23) (p := bb = false) (by cases bb <;> rfl) (fun h23 => ?_) (fun h23 => ?_)
  ·
    refine g_no rfl rfl rfl ?_
    refine g_no rfl rfl rfl ?_
    refine g_no rfl rfl rfl ?_
    refine pick_t rfl rfl ?_
    refine m_bool rfl rfl ?_
    refine g_no rfl rfl rfl ?_
    refine g_no rfl rfl rfl ?_
    refine pick_t rfl rfl ?_
    refine o_nil ?_
    refine k_condt rfl ?_
    refine k_seq ?_
    refine k_region ?_
    refine m_bool rfl rfl ?_
    refine o_nil ?_
    refine k_ret (ret_tmps (ts := [8]) (v := .bool _) rfl rfl ?_)
    exact ⟨rfl, hk3⟩
  ·
    obtain ⟨h65, h80⟩ := hsm (by cases bb <;> simp at h23 ⊢)
    refine g_yes rfl rfl ?_
    refine m_sl rfl rfl ?_
    refine g_yes rfl rfl ?_
    refine o_lens Tryd.underlying22 rfl ?_
    refine g_yes rfl rfl ?_
    refine b_eql rfl rfl ?_
    refine pick_f rfl rfl ?_
    refine m_bool rfl rfl ?_
    refine o_split (t := 28) rfl (fun h => ?_) (fun h => ?_)
    ·
      refine g_no rfl rfl rfl ?_
      refine g_no rfl rfl rfl ?_
      refine pick_t rfl rfl ?_
      refine o_nil ?_
      refine k_condt rfl ?_
      refine k_seq ?_
      refine k_region ?_
      refine m_bool rfl rfl ?_
      refine o_nil ?_
      refine k_ret (ret_tmps (ts := [8]) (v := .bool _) rfl rfl ?_)
      exact ⟨rfl, hk3⟩
    ·
      refine g_yes rfl rfl ?_
      refine m_int rfl rfl ?_
      refine g_yes rfl rfl ?_
      refine v8_eql (b := 0#8) rfl rfl ?_
      refine pick_f rfl rfl ?_
      refine o_nil ?_
      refine k_cond rfl (fun h => ?_) (fun h => ?_)
      ·
        refine k_seq ?_
        refine k_region ?_
        refine m_bool rfl rfl ?_
        refine o_nil ?_
        refine k_ret (ret_tmps (ts := [8]) (v := .bool _) rfl rfl ?_)
        exact ⟨rfl, hk3⟩
      have hne : l ≠ [] := fun hh => by subst hh; simp at *
      have hz : z ≠ 0#8 := by assumption
      have hI3 : Items w3 a l := ⟨hI.1.new hk3, fun x hx => ⟨(hI.2 x hx).1.new hk3, (hI.2 x hx).2⟩⟩
      have hs3 := hk3.size
      refine k_skip ?_
      refine k_seq ?_
      refine k_region ?_
      refine m_sl rfl rfl ?_
      refine o_call rfl rfl (make_ok w3 a c l hI3 (fun x hx => ⟨by have := (h80 x hx).1; omega, by have := (h80 x hx).2; omega⟩) (by omega)) (fun v w4 hv => ?_)
      obtain ⟨hK4, hv⟩ := hv
      obtain ⟨er, a4, c4, bs, rfl, hS4, hcase⟩ : ∃ (er : Nat) (a4 : Option Addr) (c4 : Nat) (bs : Bs), v = .tuple #[.slice a4 bs.length c4, nv er] ∧ Sl w4 5 1 a4 bs.length c4 (bs.map u8v) ∧ ((er ≠ 0 ∧ bs = []) ∨ (er = 0 ∧ MkOk l ∧ bs = archB l)) := by
       rcases hv with ⟨er, h1, _, rfl⟩ | ⟨hM, u, rfl, a2, c2, rfl, hS, _⟩
       · exact ⟨er, none, 0, [], rfl, Sl.nil _ _ _, .inl ⟨h1, rfl⟩⟩
       · rw [List.length_map] at hS ⊢
         exact ⟨0, a2, c2, archB l, rfl, hS, .inr ⟨rfl, hM, rfl⟩⟩
      have hk4 : Keep [] w w4 := hk3.tr hK4
      have hbl : bs.length ≤ 65536 := by
       rcases hcase with ⟨_, rfl⟩ | ⟨_, hM, rfl⟩
       · simp
       · exact hM.2.2.2.2.2
      refine m_any rfl rfl ?_
      refine o_extr (vs := [.slice a4 bs.length c4, nv er]) rfl rfl ?_
      refine o_extr (vs := [.slice a4 bs.length c4, nv er]) rfl rfl ?_
      refine m_sl rfl rfl ?_
      refine m_int rfl rfl ?_
      refine o_nil ?_
      refine k_seq ?_
      refine k_region ?_
      refine m_sl rfl rfl ?_
      refine o_call rfl rfl (dir_ok w4 a4 c4 bs hS4.rd hS4.le (by omega) (fun h0 => by
        rcases hcase with ⟨_, rfl⟩ | ⟨_, hM, rfl⟩
        · rw [dirE_nil] at h0; exact absurd h0 (by decide)
        · by_cases hE : endI (archB l) < 0
          · rw [(arch_law hM hne).1 hE] at h0; exact absurd h0 (by decide)
          · exact ((arch_law hM hne).2 hE).2.1)) (fun v w5 hv => ?_)
      obtain ⟨al, m, cl, rfl, hK5, _, hv5⟩ := hv
      have hk5 : Keep [] w w5 := hk4.tr hK5
      refine m_any rfl rfl ?_
      refine o_extr (vs := [.slice al m cl, .int .i64 (dirE bs)]) rfl rfl ?_
      refine o_extr (vs := [.slice al m cl, .int .i64 (dirE bs)]) rfl rfl ?_
      refine m_sl rfl rfl ?_
      refine m_int rfl rfl ?_
      refine o_nil ?_
      refine k_seq ?_
      refine k_seq ?_
      refine k_region ?_
      refine m_int rfl rfl ?_
      refine b_neq rfl rfl ?_
      refine m_bool rfl rfl ?_
      refine o_split (t := 44) rfl (fun h44 => ?_) (fun h44 => ?_)
      ·
        refine g_no rfl rfl rfl ?_
        refine g_no rfl rfl rfl ?_
        refine pick_t rfl rfl ?_
        refine o_nil ?_
        refine k_condt rfl ?_
        refine k_seq ?_
        refine k_region ?_
        refine m_int rfl rfl ?_
        refine b_neq rfl rfl ?_
        refine m_bool rfl rfl ?_
        refine o_split (t := 50) rfl (fun h => ?_) (fun h => ?_)
        ·
          refine g_no rfl rfl rfl ?_
          refine g_no rfl rfl rfl ?_
          refine pick_t rfl rfl ?_
          refine m_bool rfl rfl ?_
          refine o_nil ?_
          refine k_ret (ret_tmps (ts := [8]) (v := .bool _) rfl rfl ?_)
          exact ⟨rfl, hk5⟩
        ·
          refine g_yes rfl rfl ?_
          refine m_int rfl rfl ?_
          refine g_yes rfl rfl ?_
          refine b_eql rfl rfl ?_
          refine pick_f rfl rfl ?_
          refine m_bool rfl rfl ?_
          refine o_nil ?_
          refine k_ret (ret_tmps (ts := [8]) (v := .bool _) rfl rfl ?_)
          exact absurd h44 h
      ·
        refine g_yes rfl rfl ?_
        refine m_int rfl rfl ?_
        refine g_yes rfl rfl ?_
        refine b_neq rfl rfl ?_
        refine pick_f rfl rfl ?_
        refine o_nil ?_
        refine k_cond rfl (fun h47 => ?_) (fun h47 => ?_)
        ·
          refine k_seq ?_
          refine k_region ?_
          refine m_int rfl rfl ?_
          refine b_neq rfl rfl ?_
          refine m_bool rfl rfl ?_
          refine o_split (t := 50) rfl (fun h => ?_) (fun h => ?_)
          ·
            refine g_no rfl rfl rfl ?_
            refine g_no rfl rfl rfl ?_
            refine pick_t rfl rfl ?_
            refine m_bool rfl rfl ?_
            refine o_nil ?_
            refine k_ret (ret_tmps (ts := [8]) (v := .bool _) rfl rfl ?_)
            exact ⟨rfl, hk5⟩
          ·
            refine g_yes rfl rfl ?_
            refine m_int rfl rfl ?_
            refine g_yes rfl rfl ?_
            refine b_eql rfl rfl ?_
            refine pick_f rfl rfl ?_
            refine m_bool rfl rfl ?_
            refine o_nil ?_
            refine k_ret (ret_tmps (ts := [8]) (v := .bool _) rfl rfl ?_)
            obtain ⟨_, hM, rfl⟩ := hcase.resolve_left (fun hh => hh.1 (by omega))
            have h9 : dirE (archB l) = 9 := by
             by_cases hE : endI (archB l) < 0
             · exact (arch_law hM hne).1 hE
             · exact absurd ((arch_law hM hne).2 hE).1 h47
            exact ⟨congrArg Value.bool (decide_eq_true h9), hk5⟩
        obtain ⟨_, hM, hbs⟩ := hcase.resolve_left (fun hh => hh.1 (by omega))
        subst hbs
        have h0 : dirE (archB l) = 0 := Decidable.not_not.1 h47
        obtain ⟨hm, hS5, hf5⟩ := hv5 h0
        have hE : ¬ endI (archB l) < 0 := fun hE => by rw [(arch_law hM hne).1 hE] at h0; exact absurd h0 (by decide)
        obtain ⟨_, hG, hL⟩ := (arch_law hM hne).2 hE
        have hmN : m = l.length := by rw [hm, hL, List.length_map, recsG_len, posF_len]
        have hN0 : 0 < l.length := List.length_pos_iff.2 hne
        obtain ⟨gl, cur, hgl, hBl, _⟩ := hS5.blk (by omega)
        subst hgl
        obtain ⟨i, hi⟩ : ∃ i, x.toNat % m = i := ⟨_, rfl⟩
        have him : i < m := by rw [← hi]; exact Nat.mod_lt _ (by omega)
        have hip : i < (posF l 0).length := by rw [posF_len]; omega
        obtain ⟨yy, hyy⟩ : ∃ yy, (posF l 0)[i] = yy := ⟨_, rfl⟩
        have hyi : (posF l 0)[i]? = some yy := by rw [List.getElem?_eq_getElem hip, hyy]
        obtain ⟨P, g1, _, _⟩ := recs_get (bs := archB l) (posF l 0) (locsB l).length i yy hyi
        have hri : (dirL (archB l))[i]? = some (setAt (archB l) (rcOf yy.1 yy.2 P)) := by rw [hL, List.getElem?_map, g1]; rfl
        have hmem := posF_mem l 0 yy (List.mem_of_getElem? hyi)
        have hyl := oneLoc_len yy.1
        have hdl := (arch_dirs l).len
        refine k_skip ?_
        refine k_seq ?_
        refine k_region ?_
        refine m_sl rfl rfl ?_
        refine m_int rfl rfl ?_
        refine cv8_i rfl Tryd.underlying3 rfl ?_
        refine m_sl rfl rfl ?_
        refine o_lens Tryd.underlying29 rfl ?_
        refine b_rem rfl rfl (by omega) ?_
        rw [tm2, hi]
        refine o_ixs (sz := 7) (m := i) Tryd.underlying29 rfl rfl rfl him ?_
        refine o_lda (xs := (rcC (setAt (archB l) (rcOf yy.1 yy.2 P))).take 7) rfl rfl rfl (fun j v hj => by
         have h7 : j < 7 := by have := (List.getElem?_eq_some_iff.1 hj).1; rw [rc7_len] at this; exact this
         have := hS5.rd.cellK (Keep.refl _ _) ((outC_at _ i j _ hri h7).trans hj)
         rw [Nat.add_assoc]
         exact this) ?_
        refine o_alloc (cs := (r0C.take 7).toArray) inf33 rfl (fun b9 w6 hB6 hK6 hb6 hZ6 => ?_)
        refine o_sta (xs := (rcC (setAt (archB l) (rcOf yy.1 yy.2 P))).take 7) rfl rfl rfl (rc7_one _) hB6 (show 7 ≤ 7 by decide) (fun w7 hB7 hK7 hZ7 => ?_)
        have hB7 := sta_all hB7 rfl
        have hk57 : Keep [] w5 w7 := hK6.tr1 hK7 (by omega)
        have hk7 : Keep [] w w7 := hk5.tr hk57
        refine o_nil ?_
        refine k_seq ?_
        refine k_region ?_
        refine m_int rfl rfl ?_
        refine cv8_i rfl Tryd.underlying3 rfl ?_
        refine o_fld0 rfl rfl ?_
        refine o_ld (v := .string (bsStr yy.1.name)) rfl rfl (blk_l (i := 0) hB7 rfl) ?_
        refine o_lenstr Tryd.underlying9 rfl ?_
        rw [bsStr_size]
        refine n_add rfl rfl (by omega) ?_
        refine b_rem rfl rfl (by omega) ?_
        rw [show (28 : Int) + (yy.1.name.length : Int) = ((28 + yy.1.name.length : Nat) : Int) by omega, tm2]
        obtain ⟨k0, hk0⟩ : ∃ k0, y.toNat % (28 + yy.1.name.length) = k0 := ⟨_, rfl⟩
        have hk0l : k0 < 28 + yy.1.name.length := by rw [← hk0]; exact Nat.mod_lt _ (by omega)
        rw [hk0]
        obtain ⟨kk, hkk⟩ : ∃ kk, (if 28 ≤ k0 then k0 + 2 else k0) = kk := ⟨_, rfl⟩
        have hkr : kk < 28 ∨ (30 ≤ kk ∧ kk < 30 + yy.1.name.length) := by
         by_cases h28 : 28 ≤ k0
         · rw [if_pos h28] at hkk; omega
         · rw [if_neg h28] at hkk; omega
        refine m_int rfl rfl ?_
        refine o_nil ?_
        refine k_seq ?_
        refine k_seq ?_
        refine k_region ?_
        refine m_int rfl rfl ?_
        refine b_geq rfl rfl ?_
        refine o_nil ?_
        refine k_cut (σ := Unit) (fun _ => [(3, .int .u8 (z.toNat : Int)), (9, .slice a4 (archB l).length c4), (13, .pointer (some ⟨b9, 0, none⟩)), (14, .int .i64 (kk : Int))]) (fun _ w' => w' = w7) ?_ (fun _ e w8 hJ => ?_)
        ·
          refine k_cond rfl (fun h => ?_) (fun h => ?_)
          ·
            refine k_region ?_
            refine m_int rfl rfl ?_
            refine n_add rfl rfl (by omega) ?_
            refine m_int rfl rfl ?_
            refine o_nil ?_
            rw [if_pos (by omega)] at hkk
            exact k_goal ⟨(), ⟨rfl, rfl, rfl, congrArg (Value.int .i64) (by omega), trivial⟩, rfl⟩
          refine k_skip ?_
          rw [if_neg (by omega)] at hkk
          exact k_goal ⟨(), ⟨rfl, rfl, rfl, congrArg (Value.int .i64) (by omega), trivial⟩, rfl⟩
        subst hJ
        have hkb : yy.2 + kk < (archB l).length := by omega
        have hk48 : Keep [] w4 w8 := hK5.tr hk57
        refine k_seq ?_
        refine k_region ?_
        refine o_bsl (E := 5) (cs := #[]) rfl (fun _ => by kernel_rfl) (fun g9 w9 hB9 hK9 hb9 hZ9 => ?_)
        refine m_sl rfl rfl ?_
        refine o_app Tryd.underlying25 inf5 rfl (by decide) rfl rfl (hB9.sl (len := 0) (sz := 1) rfl (by decide)) (hS4.rd.new (hk48.tr hK9)) (by simp) (u8_one _) (by simp [maxLen]; omega) (by omega) (fun a10 c10 w10 hS10 hK10 hv10 => ?_)
        have hS10 : Sl w10 5 1 a10 (archB l).length c10 ((archB l).map u8v) := by
         have := hS10
         simpa using this
        have hfr10 : ∀ q, a10 = some q → w8.heap.size ≤ q.block := fun q hq => by
         rcases hv10 with ⟨rfl, _⟩ | ⟨g, rfl, h7, _⟩
         · cases hq; simp only; omega
         · cases hq; have := hK9.size; simp only; omega
        have hk810 : Keep [] w8 w10 := Keep.trb hK9 hK10 (by intro q hq; cases hq; simp only; omega)
        rw [show (0 + (archB l).length) = (archB l).length by omega]
        refine m_sl rfl rfl ?_
        refine o_nil ?_
        refine k_seq ?_
        refine k_region ?_
        refine m_sl rfl rfl ?_
        refine o_fld (off := 6) rfl rfl ?_
        refine o_ld (v := nv yy.2) rfl rfl (blk_l (i := 6) (hB7.keep hk810 (by simp)) rfl) ?_
        obtain ⟨g10, cur10, hg10, hB10, hsz10⟩ := hS10.blk (by omega)
        subst hg10
        refine m_int rfl rfl ?_
        refine n_add rfl rfl (by omega) ?_
        refine o_ixs1 (m := yy.2 + kk) Tryd.underlying25 rfl rfl rfl hkb ?_
        refine o_ld rfl rfl (hS10.rd.cellK (Keep.refl _ _) (u8_at (archB l) (yy.2 + kk) hkb)) ?_
        refine m_int rfl rfl ?_
        refine v8_xor rfl rfl ?_
        refine o_ixs1 (m := yy.2 + kk) Tryd.underlying25 rfl rfl rfl hkb ?_
        refine o_st (v := .int _ _) rfl rfl rfl rfl hB10 (by omega) (fun w11 hB11 hK11 hZ11 => ?_)
        have hS11 := hS10.set hkb hB10 hB11
        obtain ⟨v8, hv8⟩ : ∃ v8, (archB l)[yy.2 + kk] ^^^ z = v8 := ⟨_, rfl⟩
        rw [hv8] at hS11
        have hS11 : Sl w11 5 1 (some ⟨g10, 0, none⟩) (archB l).length c10 (((archB l).set (yy.2 + kk) v8).map u8v) := by
         rw [List.map_set]; exact hS11
        have hvne : v8 ≠ (archB l).getD (yy.2 + kk) 0#8 := by
         rw [getD_lt _ _ hkb, ← hv8]
         intro hh
         apply hz
         have h1 : (archB l)[yy.2 + kk] ^^^ ((archB l)[yy.2 + kk] ^^^ z) = (archB l)[yy.2 + kk] ^^^ (archB l)[yy.2 + kk] := by rw [hh]
         rw [← BitVec.xor_assoc, BitVec.xor_self, BitVec.zero_xor] at h1
         exact h1
        obtain ⟨d1, d2⟩ := dis_law hM i yy hyi kk v8 hkr hvne
        have hCl : ((archB l).set (yy.2 + kk) v8).length = (archB l).length := List.length_set
        generalize hC : (archB l).set (yy.2 + kk) v8 = C at *
        rw [← hCl] at hS11 ⊢
        have hk11 : Keep [] w w11 := (hk7.tr hk810).tr1 hK11 (by have := hfr10 _ rfl; have := hk7.size; simp only at *; omega)
        have hCne : dirE C ≠ 0 := by
         by_cases hE2 : endI C < 0
         · rw [d1 hE2]; decide
         · rw [d2 hE2]; decide
        refine o_nil ?_
        refine k_seq ?_
        refine k_region ?_
        refine m_sl rfl rfl ?_
        refine o_call rfl rfl (dir_ok w11 _ c10 C hS11.rd hS11.le (by omega) (fun hh => absurd hh hCne)) (fun v w12 hv => ?_)
        obtain ⟨a12, m12, c12, rfl, hK12, _, _⟩ := hv
        refine m_any rfl rfl ?_
        refine o_extr (vs := [.slice a12 m12 c12, .int .i64 (dirE C)]) rfl rfl ?_
        refine o_extr (vs := [.slice a12 m12 c12, .int .i64 (dirE C)]) rfl rfl ?_
        refine m_sl rfl rfl ?_
        refine m_int rfl rfl ?_
        refine o_nil ?_
        refine k_seq ?_
        refine k_seq ?_
        refine k_region ?_
        refine m_sl rfl rfl ?_
        refine o_call rfl rfl (rend_ok w12 _ c10 C (hS11.rd.new hK12) (by omega) hS11.le) (fun v w13 hv => ?_)
        obtain ⟨rfl, hK13⟩ := hv
        refine b_lss rfl rfl ?_
        refine o_nil ?_
        refine k_cond rfl (fun h => ?_) (fun h => ?_)
        ·
          refine k_seq ?_
          refine k_region ?_
          refine m_int rfl rfl ?_
          refine b_eql rfl rfl ?_
          refine m_bool rfl rfl ?_
          refine o_nil ?_
          refine k_ret (ret_tmps (ts := [8]) (v := .bool _) rfl rfl ?_)
          exact ⟨congrArg Value.bool (decide_eq_true (d1 h)), (hk11.tr hK12).tr hK13⟩
        refine k_skip ?_
        refine k_seq ?_
        refine k_region ?_
        refine m_int rfl rfl ?_
        refine b_eql rfl rfl ?_
        refine m_bool rfl rfl ?_
        refine o_nil ?_
        refine k_ret (ret_tmps (ts := [8]) (v := .bool _) rfl rfl ?_)
        exact ⟨congrArg Value.bool (decide_eq_true (d2 h)), (hk11.tr hK12).tr hK13⟩
end Go.Proofs.YtiapgmfooclpcaaDoor

/- Items as an argument: their reading, with the bound of the reading. No condition beyond what each lemma names. -/
namespace Go.Proofs.YtiapgmfooclpcaaDoor
open Go.RowKit E
set_option linter.unusedVariables false
set_option linter.unusedSimpArgs false
set_option maxRecDepth 100000
attribute [local irreducible] ow qw kw kq cw opW Ret
open Go.ChangeShapes Go.WideShapes Go.ChangeAt E
section
variable {H : Type} {enc : TypeId × Value → H} {W : World} {base : Nat} {P : Program}
theorem wAll_mem {e : TypeId} : ∀ {l : List (DataW H)} {d : DataW H}, d ∈ l → ∀ n ∈ d.weights P e, n ∈ DataW.weightsAll P e l
  | d0 :: l, d, hd, n, hn => by
    simp only [DataW.weightsAll, List.mem_append]
    rcases List.mem_cons.1 hd with rfl | hd
    · exact .inl hn
    · exact .inr (wAll_mem hd n hn)
theorem op_elemsW {t e : TypeId} {sz B : Nat} {v : Value} {d : DataW H} {p : List MemPlace} (ht : P.underlying t = some (.slice e)) (hc : P.cellsOf e = sz) (hsz : 0 < sz) (hok : Value.okWide P W .any base t v) (h : DataW.Trod enc P W 0 (fun _ => true) true t v d p) (hB : ∀ n ∈ d.weights P t, n ≤ B) :
    ∃ (a : Option Addr) (len cap : Nat) (css : List (List Value)), v = .slice a len cap ∧ css.length = len ∧ len ≤ cap ∧ cap ≤ 9223372036854775807 ∧ (∀ cs ∈ css, cs.length = sz) ∧ Rd W a css.flatten ∧ len * P.bytesOf e ≤ B ∧ ∀ cs ∈ css, ∃ m y, DataW.trod enc P W 0 (fun _ => true) true m e cs = some y ∧ ∀ n ∈ y.1.weights P e, n ≤ B := by
  subst hc
  obtain ⟨a, len, cap, rfl⟩ := WideShapes.okWide_slice ht hok
  obtain ⟨fuel, hf⟩ := h
  rcases DataW.trod_slice ht hf with ⟨h1, h2⟩ | ⟨x, len', cap', elems, rest, m, h1, h2, h3, h4, h5, h6, h7, h8, _⟩
  · simp [Value.cells] at h1
    obtain ⟨rfl, rfl, rfl⟩ := h1
    exact ⟨none, 0, 0, [], rfl, rfl, by omega, by omega, by simp, Rd.nil _ _, by omega, by simp⟩
  · simp [Value.cells] at h2
    obtain ⟨rfl, rfl, rfl⟩ := h2
    obtain ⟨rfl, _⟩ := Prod.mk.injEq _ _ _ _ ▸ h3
    have hw : ∀ i (hi : i < elems.length), ∀ n ∈ elems[i].1.weights P e, n ≤ B := fun i hi n hn => hB n (by
      simp only [DataW.weights, ht]
      refine List.mem_cons_of_mem _ (List.mem_append.2 (.inl (wAll_mem (List.mem_map_of_mem (List.getElem_mem hi)) n hn)))) 
    have hlen : len * P.bytesOf e ≤ B := by
      have := hB ((elems.length + rest.length) * P.bytesOf e) (by simp [DataW.weights, ht])
      exact Nat.le_trans (Nat.mul_le_mul_right _ (by omega)) this
    have each : ∀ i, i < len → ∃ cs y, W.cells? 0 (x.add (i * P.cellsOf e)) (P.cellsOf e) = some cs ∧ DataW.trod enc P W 0 (fun _ => true) true m e cs = some y ∧ ∀ n ∈ y.1.weights P e, n ≤ B := by
      intro i hi
      have := h8 i hi
      rw [List.getElem?_eq_getElem (by omega)] at this
      obtain ⟨cs, hcs, hy⟩ := Option.bind_eq_some_iff.1 this
      exact ⟨cs, _, hcs, hy, hw i (by omega)⟩
    have hcell : ∀ i (hi : i < len), (Classical.choose (each i hi)).length = P.cellsOf e ∧ ∀ j v, (Classical.choose (each i hi))[j]? = some v → W.cell? ((x.add (i * P.cellsOf e)).add j) = some v := by
      intro i hi
      obtain ⟨y, hy, _⟩ := Classical.choose_spec (each i hi)
      exact cells_spec hy
    let css : List (List Value) := List.ofFn (n := len) fun i => Classical.choose (each i.val i.isLt)
    have hcss : ∀ i (hi : i < len), css[i]? = some (Classical.choose (each i hi)) := by
      intro i hi
      simp [css, hi]
    have hl : ∀ cs ∈ css, cs.length = P.cellsOf e := by
      intro cs hcs
      obtain ⟨i, rfl⟩ := List.mem_ofFn.1 hcs
      exact (hcell i.val i.isLt).1
    refine ⟨some x, len, cap, css, rfl, by simp [css], h5, by simpa [maxLen] using h6, hl, ?_, hlen, ?_⟩
    · intro i v hv
      obtain ⟨cs, h9, h10⟩ := flatten_at hsz css hl i v hv
      have hi : i / P.cellsOf e < len := by
        have := (List.getElem?_eq_some_iff.1 h9).1
        simpa [css] using this
      rw [hcss _ hi] at h9
      obtain rfl := Option.some.inj h9
      have := (hcell _ hi).2 _ v h10
      have hsp : x.spot = none := by
        have h0 := hcell 0 (Nat.lt_of_le_of_lt (Nat.zero_le _) hi)
        have h1 : ∃ v, W.cell? ((x.add (0 * P.cellsOf e)).add 0) = some v := ⟨_, h0.2 0 _ (List.getElem?_eq_getElem (by rw [h0.1]; exact hsz))⟩
        obtain ⟨v1, h1⟩ := h1
        rw [Nat.zero_mul, show (x.add 0).add 0 = x from by simp [Addr.add]] at h1
        exact spot_none h1
      obtain ⟨b, o, sp⟩ := x
      simp at hsp
      subst hsp
      refine ⟨b, o, rfl, ?_⟩
      rw [Addr.add_lit, Addr.add_lit, Nat.add_assoc, Nat.mul_comm, Nat.div_add_mod] at this
      exact this
    · intro cs hcs
      obtain ⟨i, rfl⟩ := List.mem_ofFn.1 hcs
      obtain ⟨y, _, hy⟩ := Classical.choose_spec (each i.val i.isLt)
      exact ⟨m, y, hy⟩
theorem fldW {e : TypeId} {fs : Array Field} {f : Field} {i B : Nat} {cs : List Value} (h : ∃ m y, DataW.trod enc P W 0 (fun _ => true) true m e cs = some y ∧ ∀ n ∈ y.1.weights P e, n ≤ B) (hu : P.underlying e = some (.struct fs)) (hf : fs[i]? = some f) (hc : P.cellsOf f.type = 1) :
    ∃ m y, DataW.trod enc P W 0 (fun _ => true) true m f.type ((cs.drop f.offset).take 1) = some y ∧ ∀ n ∈ y.1.weights P f.type, n ≤ B := by
  obtain ⟨m, y, hy, hB⟩ := h
  obtain ⟨xs, n, _, rfl, _, hl, hfl⟩ := DataW.trod_struct hu hy
  have := hfl i f hf
  have hi : i < xs.length := by rw [hl]; exact (Array.getElem?_eq_some_iff.1 hf).1
  rw [hc, List.getElem?_eq_getElem hi] at this
  refine ⟨n, _, this, fun k hk => hB k ?_⟩
  simp only [DataW.weights, hu]
  refine DataW.weights_mem_each (j := i) (t := f.type) (d := xs[i].1) ?_ ?_ k hk
  · rw [List.getElem?_map, Array.getElem?_toList, hf]; rfl
  · rw [List.getElem?_map, List.getElem?_eq_getElem hi]; rfl
theorem strW {B : Nat} {t : TypeId} {cs : List Value} (ht : P.underlying t = some .string) (h : ∃ m y, DataW.trod enc P W 0 (fun _ => true) true m t cs = some y ∧ ∀ n ∈ y.1.weights P t, n ≤ B) : ∃ s : ByteArray, cs = [.string s] ∧ s.size ≤ B := by
  obtain ⟨m, y, hy, hB⟩ := h
  obtain ⟨s, h1, rfl, _⟩ := DataW.trod_string ht hy
  refine ⟨s, h1, ?_⟩
  have := hB s.data.toList.length (by simp [DataW.weights])
  simpa using this
theorem rowW {B : Nat} {t e : TypeId} {cs : List Value} (ht : P.underlying t = some (.slice e)) (he : P.underlying e = some (.int .u8)) (hc : P.cellsOf e = 1) (hb : P.bytesOf e = 1) (h : ∃ m y, DataW.trod enc P W 0 (fun _ => true) true m t cs = some y ∧ ∀ n ∈ y.1.weights P t, n ≤ B) :
    ∃ (a : Option Addr) (cap : Nat) (l : List (BitVec 8)), cs = [.slice a l.length cap] ∧ l.length ≤ cap ∧ Rd W a (l.map u8v) ∧ l.length ≤ B := by
  obtain ⟨m, y, hy, hB⟩ := h
  obtain ⟨a, len, cap, zs, h1, hrow⟩ := trod_row ⟨m, y, hy⟩ ht he hc
  obtain ⟨l, hl, hl2, hl3, hR⟩ := row_u8 hrow
  subst hl
  refine ⟨a, cap, l, h1, hl2, hR, ?_⟩
  rcases DataW.trod_slice ht hy with ⟨h2, _⟩ | ⟨x, len', cap', elems, rest, m', _, h2, rfl, _, _, _, h7, _⟩
  · rw [h1] at h2
    simp at h2
    omega
  · rw [h1] at h2
    simp at h2
    have := hB ((elems.length + rest.length) * P.bytesOf e) (by simp [DataW.weights, ht])
    rw [hb, Nat.mul_one] at this
    omega
end
end Go.Proofs.YtiapgmfooclpcaaDoor

/- Items as an argument. No condition beyond what each lemma names. -/
namespace Go.Proofs.YtiapgmfooclpcaaDoor
open Go.RowKit E
set_option linter.unusedVariables false
set_option linter.unusedSimpArgs false
set_option maxRecDepth 100000
attribute [local irreducible] ow qw kw kq cw opW Ret
def strBs (s : ByteArray) : Bs := s.data.toList.map UInt8.toBitVec
theorem bsStr_str (s : ByteArray) : bsStr (strBs s) = s := by
  show (⟨((s.data.toList.map UInt8.toBitVec).map fun b => UInt8.ofBitVec b).toArray⟩ : ByteArray) = s
  rw [List.map_map, show ((fun b => UInt8.ofBitVec b) ∘ UInt8.toBitVec) = id from rfl, List.map_id]
theorem strBs_len (s : ByteArray) : (strBs s).length = s.size := by
  show (s.data.toList.map UInt8.toBitVec).length = _
  rw [List.length_map, Array.length_toList]
  rfl
theorem list_of {α β : Type} {f : β → α} {Q : β → Prop} : ∀ (l : List α), (∀ x ∈ l, ∃ y, x = f y ∧ Q y) → ∃ m : List β, l = m.map f ∧ ∀ y ∈ m, Q y
  | [], _ => ⟨[], rfl, by simp⟩
  | x :: l, h => by
    obtain ⟨y, rfl, hy⟩ := h x List.mem_cons_self
    obtain ⟨m, rfl, hm⟩ := list_of l (fun z hz => h z (List.mem_cons_of_mem _ hz))
    refine ⟨y :: m, rfl, fun z hz => ?_⟩
    rcases List.mem_cons.1 hz with rfl | hz
    · exact hy
    · exact hm z hz
open E in
theorem items_of {H : Type} {enc : TypeId × Value → H} {W : World} {base : Nat} {v : Value} {d : DataW H} {p : List MemPlace} (hok : Value.okWide Tryd.prog W .any base 22 v) (h : DataW.Trod enc Tryd.prog W 0 (fun _ => true) true 22 v d p) (hB : ∀ n ∈ d.weights Tryd.prog 22, n ≤ reachBytes) :
    ∃ (a : Option Addr) (c : Nat) (l : List It), v = .slice a l.length c ∧ Items W a l ∧ (∀ x ∈ l, x.name.length ≤ 1000000000000000 ∧ x.data.length ≤ 1000000000000000) ∧ l.length ≤ 1000000000000000 := by
  obtain ⟨a, len, cap, css, rfl, h1, h2, h3, h4, h5, h6, h7⟩ := op_elemsW (P := Tryd.prog) (sz := 3) Tryd.underlying22 (by kernel_rfl) (by decide) hok h hB
  rw [show Tryd.prog.bytesOf 37 = 48 by kernel_rfl] at h6
  obtain ⟨l, rfl, hl⟩ := list_of (f := itC) (Q := fun x : It => (Rd W x.a (x.data.map u8v) ∧ x.data.length ≤ x.c) ∧ x.name.length ≤ reachBytes ∧ x.data.length ≤ reachBytes) css (fun cs hcs => by
    have ht := h7 cs hcs
    have hl3 := h4 cs hcs
    obtain ⟨s, e0, hs⟩ := strW (P := Tryd.prog) Tryd.underlying9 (fldW (i := 0) ht Tryd.underlying37 rfl (by kernel_rfl))
    obtain ⟨a', cap', dl, e1, g1, g2, g3⟩ := rowW (P := Tryd.prog) Tryd.underlying25 Tryd.underlying5 (by kernel_rfl) (by kernel_rfl) (fldW (i := 1) ht Tryd.underlying37 rfl (by kernel_rfl))
    obtain ⟨b, e2⟩ := fld_bool (P := Tryd.prog) (i := 2) (by obtain ⟨m, y, hy, _⟩ := ht; exact ⟨m, y, hy⟩) Tryd.underlying37 rfl (by kernel_rfl) Tryd.underlying4
    have e0 := take1 e0
    have e1 := take1 e1
    match cs, hl3, e0, e1, e2 with
    | [v0, v1, v2], _, e0, e1, e2 =>
      obtain rfl := Option.some.inj e0
      obtain rfl := Option.some.inj e1
      obtain rfl := Option.some.inj e2
      exact ⟨⟨strBs s, a', cap', dl, b⟩, by unfold itC; rw [bsStr_str], ⟨g2, g1⟩, by rw [strBs_len]; exact hs, g3⟩)
  rw [List.length_map] at h1
  subst h1
  refine ⟨a, cap, l, rfl, ⟨by rw [List.flatMap_def]; exact h5, fun x hx => (hl x hx).1⟩, fun x hx => ?_, ?_⟩
  · have := (hl x hx).2
    simp only [reachBytes] at this
    omega
  · simp only [reachBytes] at h6
    omega
end Go.Proofs.YtiapgmfooclpcaaDoor

/- The listed tables, laid by hand for the witness. No condition beyond what each lemma names. -/
namespace Go.Proofs.YtiapgmfooclpcaaDoor
open Go.RowKit E
set_option linter.unusedVariables false
set_option linter.unusedSimpArgs false
set_option maxRecDepth 100000
attribute [local irreducible] ow qw kw kq cw opW Ret
def lst2 : List (String × DataW Unit) := [("unicode/utf8.acceptRanges", Rows.laid_unicode_utf8_acceptRanges), ("unicode/utf8.first", Rows.laid_unicode_utf8_first)]
def leafV : DataW Unit → Value
  | .lit (.int k n) => .int k n
  | _ => .int .u8 0
def flatV : DataW Unit → List Value
  | .agg l => l.flatMap fun d => match d with
    | .agg m => m.map leafV
    | d => [leafV d]
  | d => [leafV d]
/-- a world in which the two tables lie -/
noncomputable def laidWorld (os : Os) : World :=
  let w0 := World.holding Tryd.prog os ⟨#[], #[], []⟩
  { w0 with heap := (w0.heap.modify 2 fun
      | .cells _ t frozen => .cells (flatV Rows.laid_unicode_utf8_acceptRanges).toArray t frozen
      | o => o).modify 1 fun
      | .cells _ t frozen => .cells (flatV Rows.laid_unicode_utf8_first).toArray t frozen
      | o => o }
theorem door_met2 (os : Os) (args : Array Value) : laidMetH Tryd.prog lst2 ((laidWorld os).forCall (fun _ _ => 0) ⟨#[], args, []⟩).memory :=
  laidMetH_of_parts3 (fuel := 8) (laidMet_of_run' 8 (by kernel_rfl) (by kernel_rfl)) (by kernel_rfl) (by kernel_rfl)
end Go.Proofs.YtiapgmfooclpcaaDoor
